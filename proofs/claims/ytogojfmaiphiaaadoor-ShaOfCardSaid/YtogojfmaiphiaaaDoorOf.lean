/- The contracts of Of, text and fill. -/
import Derived.Test.YtogojfmaiphiaaaDoorTold
namespace Go.Proofs.YtogojfmaiphiaaaDoor
open Go.RowKit

theorem length_sumOf (l : List UInt8) : (sumOf l).length = 20 := by simp [sumOf, Sum.told, S5.out]
theorem length_told (s : Sum) : s.told.length = 20 := by simp [Sum.told, S5.out]
theorem info5 : (Tryd.prog.info? 5).map (fun i => (i.zero, i.size, i.bytes)) = some (some (.int .u8 0), 1, 1) := by kernel_rfl
theorem al27 : Tryd.prog.arrayLen 27 = 20 := by kernel_rfl
theorem el27 : Tryd.prog.elem 27 = 5 := by kernel_rfl
theorem un27 : Tryd.prog.underlying 27 = some (.array (Tryd.prog.arrayLen 27) (Tryd.prog.elem 27)) := by kernel_rfl
theorem slice27 (w : World) (e : Nat) : (Instr.sliceAt 27 (.pointer (some ⟨e, 0, none⟩)) none none none).run Tryd.prog w = .ok (.slice (some ⟨e, 0, none⟩) 20 20) w := by
  rw [run_sliceAt_array_all w 27 ⟨e, 0, none⟩ un27, al27, el27, size5]
  simp only [Result.andThen_ok, slicedAt, Nat.zero_mul, Nat.sub_zero]
  rw [if_neg (by omega)]
  rfl

set_option maxRecDepth 100000 in
set_option maxHeartbeats 4000000 in
theorem text_any (w : World) (l : List UInt8) (q : ByteArray) (hl : l.length = 20) (hq : q.data.toList = l) :
    Calls Tryd.prog 16 #[.agg (bts l).toArray] w fun e w' => e = .returned (.string q) ∧ Still w w' := by
  have hb : BytesAt (w.alloc (.cells (bts l).toArray 27 (0, 0))) w.heap.size 27 l := heap_alloc_new _ _
  have hk : Still w (w.alloc (.cells (bts l).toArray 27 (0, 0))) := (Keeps.refl _ _).alloc _
  have hsl := slice27 (w.alloc (.cells (bts l).toArray 27 (0, 0))) w.heap.size
  have cv := run_string_as (P := Tryd.prog) (cap := 20) Tryd.underlying25 Tryd.underlying5 Tryd.underlying9 q (hb.slice hl) hq
  have HK := Lib.hid hk
  clear hb hk hq hl
  go_enter Tryd.func16, Tryd.ntmps16
  go_wp2
  go_ret
  exact ⟨rfl, HK.out⟩

set_option maxRecDepth 100000 in
set_option maxHeartbeats 4000000 in
theorem of_any (w : World) (l : List UInt8) (A : Option Addr) (n cap : Nat) (h0 : Start w) (hs : SliceOf w A n l) (hcap : n ≤ cap) (hA : ∀ ad, A = some ad → ad.block < w.heap.size) (hb : n ≤ 400000000) :
    Calls Tryd.prog 13 #[.slice A n cap] w fun e w' => e = .returned (.agg (bts (sumOf l)).toArray) ∧ Still w w' := by
  have hR : BytesAt (w.alloc (.cells (bts (zeroB 20)).toArray 27 (0, 0))) w.heap.size 27 (zeroB 20) := heap_alloc_new _ _
  have hk1 : Still w (w.alloc (.cells (bts (zeroB 20)).toArray 27 (0, 0))) := (Keeps.refl _ _).alloc _
  have hz : (w.alloc (.cells (bts (zeroB 20)).toArray 27 (0, 0))).heap.size = w.heap.size + 1 := by simp
  have hl := hs.1
  have h1 := h0.keeps hk1 id
  have hs1 := hs.keeps hk1 (fun _ _ => id)
  have HLO := Lib.hid (length_told (Sum.init.add l))
  have HLZ := Lib.hid (show (zeroB 20).length = 20 from rfl)
  have z1 := zero27
  show Calls Tryd.prog 13 #[.slice A n cap] w fun e w' => e = .returned (.agg (bts (Sum.init.add l).told).toArray) ∧ Still w w'
  go_enter Tryd.func13, Tryd.ntmps13
  go_wp2_with fail
  generalize w.alloc (.cells (bts (zeroB 20)).toArray 27 (0, 0)) = w1 at hR hk1 hz h1 hs1 ⊢
  have HZ := Lib.hid hz
  clear hz
  have hq := new_any w1 h1
  refine hq.mono ?_
  clear hq
  rintro e w2 ⟨rfl, hn2, hk2⟩
  go_wp2_with fail
  have hq := add_any w2 w1.heap.size Sum.init l A n cap hn2 (hs1.keeps hk2 (fun _ _ => id)) hcap (by intro ad h; have := hA ad h; have := HZ.out; omega) (by show 0 + n ≤ _; omega)
  refine hq.mono ?_
  clear hq
  rintro e w3 ⟨rfl, hn3, hk3⟩
  go_wp2_with fail
  have hq := told_any w3 w1.heap.size _ hn3 (by rw [Sum.n_add]; show 0 + _ ≤ _; omega)
  refine hq.mono ?_
  clear hq
  rintro e w4 ⟨rfl, hk4⟩
  have HR := Lib.hid (((hR.keeps hk2 id).keeps hk3 (by have := HZ.out; omega)).keeps hk4 id)
  have HK := Lib.hid ((((hk1.trans hk2).on hk3 (T := fun _ => False) (fun i hi e => by have := HZ.out; omega)).trans hk4))
  clear hR hk1 hk2 hk3 hk4 hn2 hn3 hs hs1 h0 h1
  go_wp2_with (with_reducible refine store27 (o := ⟨none, _, _, _, _, _⟩) rfl (.tmp 2) (.tmp 9) rfl w.heap.size rfl (Sum.init.add l).told (zeroB 20) rfl HLO HLZ HR ?_; intro w5 HB5 hk5)
  (try simp only [Exit.inBlock, Exit.then])
  refine bodyPost_ret (results27 rfl _ w.heap.size rfl (Sum.init.add l).told HLO HB5) rfl ?_
  exact ⟨rfl, HK.out.on hk5.out (fun i hi h => by omega)⟩
end Go.Proofs.YtogojfmaiphiaaaDoor
