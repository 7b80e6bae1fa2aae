/- The anchor: the chapter's example plays as it says. -/
import Derived.Test.YtmioglkibjmmfaaCalls
import Derived.Test.YtmioglkibjmmfaaRefs
namespace Go.Proofs.Ytmioglkibjmmfaa
open Go.RowKit

set_option maxHeartbeats 400000 in
theorem awake_any (w : World) : Calls Try.prog 10 #[] w fun e w' => e = .returned (.bool true) ∧ Still w w' := by
  have kc := fun (w : World) (C : Array Value) (n c : Nat) => Lib.run_convert_bytes_const (P := Try.prog) w 33 5 C n c Try.underlying33 Try.underlying5
  go_enter Try.func10, Try.ntmps10
  go_wp2_with fail
  refine (new_yes _ 4 (by omega) (by omega)).mono ?_
  rintro e w1 ⟨p, bb, rfl, hr, hk, h1, h2⟩
  go_wp2_with fail
  have q1 := hr.lt
  refine (put_any _ p bb 4 [] [97, 98, 99] _ 3 3 (hr.keeps (S := fun _ => False) ((Keeps.refl _ _).alloc _) id id) (slice_new w1 _ _ _ _ _ rfl rfl) (by omega) ?_).mono ?_
  · intro ad h; cases h; simp; omega
  rintro e w2 ⟨rfl, hr2, hk2⟩
  replace hr2 : RingAt w2 p bb 4 [97, 98, 99] := hr2
  have q2 := hr2.lt
  replace hk2 : Keeps (fun k => k = p ∨ k = bb) w1 w2 := ((Keeps.refl _ w1).alloc _).trans hk2
  go_wp2_with fail
  refine (take_any _ p bb 4 _ 2 hr2).mono ?_
  rintro e w3 ⟨rfl, hs3, hr3, hk3⟩
  replace hr3 : RingAt w3 p bb 4 [99] := hr3
  replace hs3 : SliceOf w3 (some ⟨w2.heap.size, 0, none⟩) 2 [97, 98] := hs3
  go_wp2_with fail
  have q3 := hr3.lt
  refine (put_any _ p bb 4 _ [100, 101, 102, 103] _ 4 4 (hr3.keeps (S := fun _ => False) ((Keeps.refl _ _).alloc _) id id) (slice_new w3 _ _ _ _ _ rfl rfl) (by omega) ?_).mono ?_
  · intro ad h; cases h; simp; omega
  rintro e w4 ⟨rfl, hr4, hk4⟩
  replace hr4 : RingAt w4 p bb 4 [99, 100, 101, 102] := hr4
  replace hk4 : Keeps (fun k => k = p ∨ k = bb) w3 w4 := ((Keeps.refl _ w3).alloc _).trans hk4
  have hs4 := hs3.keeps hk4 (fun ad h => by cases h; show ¬ (w2.heap.size = p ∨ w2.heap.size = bb); omega)
  have cv := run_string_of (P := Try.prog) (cap := 2) Try.underlying33 Try.underlying5 Try.underlying9 hs4
  go_wp2_with fail
  refine (peek_any w4 p bb 4 _ 9 hr4).mono ?_
  rintro e w5 ⟨rfl, ho⟩
  replace ho : Out w4 w5 [99, 100, 101, 102] 4 := ho
  have hr5 := hr4.keeps ho.2.2 id id
  have cv5 := run_string_of (P := Try.prog) (cap := 4) Try.underlying33 Try.underlying5 Try.underlying9 ho.slice
  go_wp2_with fail
  refine (len_any _ p bb 4 _ hr5).mono ?_
  rintro e w6 ⟨rfl, rfl⟩
  go_wp2_with fail
  refine (room_any _ p bb 4 _ hr5).mono ?_
  rintro e w6 ⟨rfl, nq, rfl⟩
  go_wp2_with fail
  go_ret
  have hS : ∀ k, k < w.heap.size → ¬ (k = p ∨ k = bb) := by intro k hk; omega
  exact ⟨rfl, ((((hk.on hk2 hS).on hk3 (fun k h e => hS k h (.inl e))).on hk4 hS).trans ho.2.2).drewN _⟩
end Go.Proofs.Ytmioglkibjmmfaa
