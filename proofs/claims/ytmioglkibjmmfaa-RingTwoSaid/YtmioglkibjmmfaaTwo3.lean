/- The walk of RingTwo. -/
import Derived.Test.YtmioglkibjmmfaaTwo2
import Derived.LoopTactic
import Derived.RegionTactic
import Derived.Deep.CutRange
namespace Go.Proofs.Ytmioglkibjmmfaa
open Go.RowKit

/-- Two rings, all blocks apart, behind a world that keeps the old memory. -/
def Pair (w wr : World) (p bb q cc : Nat) (sa sb : List UInt8) : Prop :=
  RingAt wr p bb 20 sa ∧ RingAt wr q cc 30 sb ∧ Still w wr ∧ w.heap.size ≤ p ∧ w.heap.size ≤ bb ∧ w.heap.size ≤ q ∧ w.heap.size ≤ cc ∧ p ≠ q ∧ p ≠ cc ∧ bb ≠ q ∧ bb ≠ cc
theorem Pair.still {w wr w' : World} {p bb q cc : Nat} {sa sb : List UInt8} (h : Pair w wr p bb q cc sa sb) (hk : Still wr w') : Pair w w' p bb q cc sa sb := by
  obtain ⟨h1, h2, h3, h4⟩ := h
  exact ⟨h1.keeps hk id id, h2.keeps hk id id, h3.trans hk, h4⟩

set_option maxRecDepth 100000 in
set_option maxHeartbeats 8000000 in
theorem ringTwo_near (A : Option Addr) (len cap n : Nat) (w : World) (hn : n ≤ 255) (h : len ≤ 60) (hT : Texts w A len) :
    Calls Try.prog 6 #[.slice A len cap, .int .u8 n] w fun e w' => e = .returned (.bool true) ∧ Below w.heap.size w w' := by
  go_enter Try.func6, Try.ntmps6
  go_wp2_with fail
  refine (new_at _ _ 20 (by omega) (by omega) (by omega)).mono ?_
  rintro e w1 ⟨p, bb, rfl, hr, hk1, h1, h2⟩
  go_wp2_with fail
  refine (new_at _ _ 30 (by omega) (by omega) (by omega)).mono ?_
  rintro e w2 ⟨q, cc, rfl, hq, hk2, h3, h4⟩
  go_wp2_with fail
  refine (awake_any _).mono ?_
  rintro e w3 ⟨rfl, hk3⟩
  have l1 := hr.lt
  have s1 := hk1.size
  have HP := Lib.hid (show Pair w w3 p bb q cc [] [] from ⟨(hr.keeps hk2 id id).keeps hk3 id id, hq.keeps hk3 id id, (hk1.trans hk2).trans hk3, h1, h2, by omega, by omega, by omega, by omega, by omega, by omega⟩)
  clear hr hq hk1 hk2 hk3 l1 s1 h1 h2 h3 h4
  go_wp2_with fail
  go_loopw [9] (fun i wr => ∃ (k : Nat) (sa sb : List UInt8), i = .int .i64 k ∧ k ≤ len ∧ Hid (Pair w wr p bb q cc sa sb)) (fun i _ => len - (intOf i).toNat)
  case atStart => exact ⟨0, [], [], rfl, by omega, HP⟩
  case round =>
    obtain ⟨k, sa, sb, rfl, hkl, hp⟩ := hrel
    by_cases hlt : k < len
    · obtain ⟨g, off, rfl, hg, hcell⟩ := hT (by omega)
      obtain ⟨s, hs⟩ := hcell k hlt
      have c0 : wr.cell? ⟨g, off + k, none⟩ = some (.string s) := hp.out.2.2.1.cell hs id
      clear hcell hs
      by_cases hbig : 100 < s.size
      · go_wp2_with fail
        go_ret
        exact ⟨rfl, hp.out.2.2.1.below'⟩
      · have hbig' : s.size ≤ 100 := by omega
        go_wp2_with fail
        have hra : RingAt wr.drew p bb 20 sa ∧ sa.length ≤ 20 := ⟨hp.out.1, hp.out.1.le.1⟩
        have hrb : RingAt wr.drew q cc 30 sb ∧ sb.length ≤ 30 := ⟨hp.out.2.1, hp.out.2.1.le.1⟩
        obtain ⟨tx, htx⟩ : ∃ t : ByteArray, t = ⟨sa.toArray⟩ := ⟨_, rfl⟩
        obtain ⟨ty, hty⟩ : ∃ t : ByteArray, t = ⟨sb.toArray⟩ := ⟨_, rfl⟩
        have DX := Lib.hid (show tx.data.toList = sa.take sa.length by rw [htx]; simp)
        have DY := Lib.hid (show ty.data.toList = sb.take sb.length by rw [hty]; simp)
        clear htx hty
        go_cut [10, 11] from 44 to 126 (fun x y w' => x = .string tx ∧ y = .string ty ∧ Hid (Pair w w' p bb q cc sa sb) ∧ Still wr w')
        case first =>
          refine wp_region_any (by kernel_rfl) ?_
          change wpAny _ _ _ _ _ _ _ (World.drew _)
          refine wpAny_take (i := 0) (oi := { dst := some 56, op := Go.Op.move (Go.Operand.tmp 5), type := 23, pos := "law.go:108", after := #[], guard := none }) (v := ?vCA_1) rfl (by kernel_rfl) (by kernel_rfl) (by kernel_rfl) (fun _ _ _ h => h) (Or.inl ⟨by rfl, ?hCA_1⟩) ?rCA_1
          case hCA_1 => (intro wz; go_simp; try with_reducible rfl)
          simp only [Act.put, List.setIfInBounds_toArray, List.set_cons_zero, List.set_cons_succ]
          refine wpAny_take (i := 3) (oi := { dst := some 59, op := Go.Op.move (Go.Operand.tmp 7), type := 23, pos := "law.go:108", after := #[], guard := none }) (v := ?vCA_2) rfl (by kernel_rfl) (by kernel_rfl) (by kernel_rfl) (fun _ _ _ h => h) (Or.inl ⟨by rfl, ?hCA_2⟩) ?rCA_2
          case hCA_2 => (intro wz; go_simp; try with_reducible rfl)
          simp only [Act.put, List.setIfInBounds_toArray, List.set_cons_zero, List.set_cons_succ]
          refine wpAny_ready (rs := [1]) (by kernel_rfl) (by simp) ?_
          refine AllReady.cons (o := { dst := some 57, op := Go.Op.call { callee := Go.Callee.value (Go.Operand.func 13), args := #[Go.Operand.tmp 56, Go.Operand.const (Go.Value.int Go.IntKind.i64 100)], argTypes := #[23, 3] }, type := 33, pos := "law.go:108", after := #[{ on := 0, ground := Go.Ground.data }], guard := none }) rfl (fun K hK => ?_) AllReady.nil
          go_simp
          have hq := peek_at wr.drew p bb 20 sa.length sa 100 hra.1 (by have := hra.2; omega)
          refine hq.mono ?_
          clear hq
          rintro e w4 ⟨rfl, ho1⟩
          refine hK _ _ ?_
          clear hK K
          try simp only [Act.put, List.setIfInBounds_toArray, List.set_cons_zero, List.set_cons_succ]
          refine wpAny_ready (rs := [2, 4]) (by kernel_rfl) (by simp) ?_
          refine AllReady.cons (o := { dst := some 58, op := Go.Op.convert 33 9 (Go.Operand.tmp 57), type := 9, pos := "law.go:108", after := #[{ on := 1, ground := Go.Ground.data }], guard := none }) rfl (fun K hK => ?_) (AllReady.cons (o := { dst := some 60, op := Go.Op.call { callee := Go.Callee.value (Go.Operand.func 13), args := #[Go.Operand.tmp 59, Go.Operand.const (Go.Value.int Go.IntKind.i64 100)], argTypes := #[23, 3] }, type := 33, pos := "law.go:108", after := #[{ on := 3, ground := Go.Ground.data }, { on := 1, ground := Go.Ground.chain }], guard := none }) rfl (fun K hK => ?_) (AllReady.nil))
          · skip
            refine step_string (by rfl) (.tmp 57) 33 9 rfl 5 Try.underlying33 Try.underlying5 Try.underlying9 _ _ _ _ tx rfl (show SliceOf _ _ sa.length (sa.take sa.length) from by first | exact ho1.slice | exact ho1.slice.keeps (by first | exact ho2.2.2 | exact ho2.2.2.drew) (fun _ _ h => h)) DX.out ?_
            refine hK _ _ ?_
            clear hK K
            try simp only [Act.put, List.setIfInBounds_toArray, List.set_cons_zero, List.set_cons_succ]
            refine wpAny_ready (rs := [4]) (by kernel_rfl) (by simp) ?_
            refine AllReady.cons (o := { dst := some 60, op := Go.Op.call { callee := Go.Callee.value (Go.Operand.func 13), args := #[Go.Operand.tmp 59, Go.Operand.const (Go.Value.int Go.IntKind.i64 100)], argTypes := #[23, 3] }, type := 33, pos := "law.go:108", after := #[{ on := 3, ground := Go.Ground.data }, { on := 1, ground := Go.Ground.chain }], guard := none }) rfl (fun K hK => ?_) AllReady.nil
            go_simp
            have hq := peek_at w4 q cc 30 sb.length sb 100 (hrb.1.keeps ho1.2.2 id id) (by have := hrb.2; omega)
            refine hq.mono ?_
            clear hq
            rintro e w5 ⟨rfl, ho2⟩
            refine hK _ _ ?_
            clear hK K
            try simp only [Act.put, List.setIfInBounds_toArray, List.set_cons_zero, List.set_cons_succ]
            refine wpAny_take (i := 6) (oi := { dst := some 10, op := Go.Op.assign (Go.Operand.tmp 58), type := 9, pos := "law.go:108", after := #[{ on := 2, ground := Go.Ground.data }, { on := 4, ground := Go.Ground.chain }, { on := 0, ground := Go.Ground.phase }, { on := 1, ground := Go.Ground.phase }, { on := 2, ground := Go.Ground.phase }, { on := 3, ground := Go.Ground.textOnly Go.Departure.lateStores }, { on := 4, ground := Go.Ground.textOnly Go.Departure.lateStoresUnsure }, { on := 5, ground := Go.Ground.textOnly Go.Departure.lateStores }], guard := none }) (v := ?vCA_3) rfl (by kernel_rfl) (by kernel_rfl) (by kernel_rfl) (fun _ _ _ h => h) (Or.inl ⟨by rfl, ?hCA_3⟩) ?rCA_3
            case hCA_3 => (intro wz; go_simp; try with_reducible rfl)
            simp only [Act.put, List.setIfInBounds_toArray, List.set_cons_zero, List.set_cons_succ]
            refine wpAny_ready (rs := [5]) (by kernel_rfl) (by simp) ?_
            refine AllReady.cons (o := { dst := some 61, op := Go.Op.convert 33 9 (Go.Operand.tmp 60), type := 9, pos := "law.go:108", after := #[{ on := 4, ground := Go.Ground.data }, { on := 6, ground := Go.Ground.gcOnly Go.Departure.lateStores }], guard := none }) rfl (fun K hK => ?_) AllReady.nil
            refine step_string (by rfl) (.tmp 60) 33 9 rfl 5 Try.underlying33 Try.underlying5 Try.underlying9 _ _ _ _ ty rfl ho2.slice DY.out ?_
            refine hK _ _ ?_
            clear hK K
            try simp only [Act.put, List.setIfInBounds_toArray, List.set_cons_zero, List.set_cons_succ]
            refine wpAny_take (i := 7) (oi := { dst := some 11, op := Go.Op.assign (Go.Operand.tmp 61), type := 9, pos := "law.go:108", after := #[{ on := 5, ground := Go.Ground.data }, { on := 6, ground := Go.Ground.chain }, { on := 0, ground := Go.Ground.phase }, { on := 1, ground := Go.Ground.phase }, { on := 2, ground := Go.Ground.phase }, { on := 3, ground := Go.Ground.phase }, { on := 4, ground := Go.Ground.phase }, { on := 5, ground := Go.Ground.phase }, { on := 6, ground := Go.Ground.phase }], guard := none }) (v := ?vCA_4) rfl (by kernel_rfl) (by kernel_rfl) (by kernel_rfl) (fun _ _ _ h => h) (Or.inl ⟨by rfl, ?hCA_4⟩) ?rCA_4
            case hCA_4 => (intro wz; go_simp; try with_reducible rfl)
            simp only [Act.put, List.setIfInBounds_toArray, List.set_cons_zero, List.set_cons_succ]
            refine wpAny_done (by kernel_rfl) ?_ _
            go_wp2_with fail
            go_meet
            case rel => (have hst : Still wr w5 := ho1.2.2.drew_of.trans ho2.2.2; exact ⟨rfl, rfl, hp.out.still hst, hst⟩)
          · skip
            go_simp
            have hq := peek_at w4 q cc 30 sb.length sb 100 (hrb.1.keeps ho1.2.2 id id) (by have := hrb.2; omega)
            refine hq.mono ?_
            clear hq
            rintro e w5 ⟨rfl, ho2⟩
            refine hK _ _ ?_
            clear hK K
            try simp only [Act.put, List.setIfInBounds_toArray, List.set_cons_zero, List.set_cons_succ]
            refine wpAny_ready (rs := [2, 5]) (by kernel_rfl) (by simp) ?_
            refine AllReady.cons (o := { dst := some 58, op := Go.Op.convert 33 9 (Go.Operand.tmp 57), type := 9, pos := "law.go:108", after := #[{ on := 1, ground := Go.Ground.data }], guard := none }) rfl (fun K hK => ?_) (AllReady.cons (o := { dst := some 61, op := Go.Op.convert 33 9 (Go.Operand.tmp 60), type := 9, pos := "law.go:108", after := #[{ on := 4, ground := Go.Ground.data }, { on := 6, ground := Go.Ground.gcOnly Go.Departure.lateStores }], guard := none }) rfl (fun K hK => ?_) (AllReady.nil))
            · skip
              refine step_string (by rfl) (.tmp 57) 33 9 rfl 5 Try.underlying33 Try.underlying5 Try.underlying9 _ _ _ _ tx rfl (show SliceOf _ _ sa.length (sa.take sa.length) from by first | exact ho1.slice | exact ho1.slice.keeps (by first | exact ho2.2.2 | exact ho2.2.2.drew) (fun _ _ h => h)) DX.out ?_
              refine hK _ _ ?_
              clear hK K
              try simp only [Act.put, List.setIfInBounds_toArray, List.set_cons_zero, List.set_cons_succ]
              refine wpAny_take (i := 6) (oi := { dst := some 10, op := Go.Op.assign (Go.Operand.tmp 58), type := 9, pos := "law.go:108", after := #[{ on := 2, ground := Go.Ground.data }, { on := 4, ground := Go.Ground.chain }, { on := 0, ground := Go.Ground.phase }, { on := 1, ground := Go.Ground.phase }, { on := 2, ground := Go.Ground.phase }, { on := 3, ground := Go.Ground.textOnly Go.Departure.lateStores }, { on := 4, ground := Go.Ground.textOnly Go.Departure.lateStoresUnsure }, { on := 5, ground := Go.Ground.textOnly Go.Departure.lateStores }], guard := none }) (v := ?vCA_5) rfl (by kernel_rfl) (by kernel_rfl) (by kernel_rfl) (fun _ _ _ h => h) (Or.inl ⟨by rfl, ?hCA_5⟩) ?rCA_5
              case hCA_5 => (intro wz; go_simp; try with_reducible rfl)
              simp only [Act.put, List.setIfInBounds_toArray, List.set_cons_zero, List.set_cons_succ]
              refine wpAny_ready (rs := [5]) (by kernel_rfl) (by simp) ?_
              refine AllReady.cons (o := { dst := some 61, op := Go.Op.convert 33 9 (Go.Operand.tmp 60), type := 9, pos := "law.go:108", after := #[{ on := 4, ground := Go.Ground.data }, { on := 6, ground := Go.Ground.gcOnly Go.Departure.lateStores }], guard := none }) rfl (fun K hK => ?_) AllReady.nil
              refine step_string (by rfl) (.tmp 60) 33 9 rfl 5 Try.underlying33 Try.underlying5 Try.underlying9 _ _ _ _ ty rfl ho2.slice DY.out ?_
              refine hK _ _ ?_
              clear hK K
              try simp only [Act.put, List.setIfInBounds_toArray, List.set_cons_zero, List.set_cons_succ]
              refine wpAny_take (i := 7) (oi := { dst := some 11, op := Go.Op.assign (Go.Operand.tmp 61), type := 9, pos := "law.go:108", after := #[{ on := 5, ground := Go.Ground.data }, { on := 6, ground := Go.Ground.chain }, { on := 0, ground := Go.Ground.phase }, { on := 1, ground := Go.Ground.phase }, { on := 2, ground := Go.Ground.phase }, { on := 3, ground := Go.Ground.phase }, { on := 4, ground := Go.Ground.phase }, { on := 5, ground := Go.Ground.phase }, { on := 6, ground := Go.Ground.phase }], guard := none }) (v := ?vCA_6) rfl (by kernel_rfl) (by kernel_rfl) (by kernel_rfl) (fun _ _ _ h => h) (Or.inl ⟨by rfl, ?hCA_6⟩) ?rCA_6
              case hCA_6 => (intro wz; go_simp; try with_reducible rfl)
              simp only [Act.put, List.setIfInBounds_toArray, List.set_cons_zero, List.set_cons_succ]
              refine wpAny_done (by kernel_rfl) ?_ _
              go_wp2_with fail
              go_meet
              case rel => (have hst : Still wr w5 := ho1.2.2.drew_of.trans ho2.2.2; exact ⟨rfl, rfl, hp.out.still hst, hst⟩)
            · skip
              refine step_string (by rfl) (.tmp 60) 33 9 rfl 5 Try.underlying33 Try.underlying5 Try.underlying9 _ _ _ _ ty rfl ho2.slice DY.out ?_
              refine hK _ _ ?_
              clear hK K
              try simp only [Act.put, List.setIfInBounds_toArray, List.set_cons_zero, List.set_cons_succ]
              refine wpAny_ready (rs := [2]) (by kernel_rfl) (by simp) ?_
              refine AllReady.cons (o := { dst := some 58, op := Go.Op.convert 33 9 (Go.Operand.tmp 57), type := 9, pos := "law.go:108", after := #[{ on := 1, ground := Go.Ground.data }], guard := none }) rfl (fun K hK => ?_) AllReady.nil
              refine step_string (by rfl) (.tmp 57) 33 9 rfl 5 Try.underlying33 Try.underlying5 Try.underlying9 _ _ _ _ tx rfl (show SliceOf _ _ sa.length (sa.take sa.length) from by first | exact ho1.slice | exact ho1.slice.keeps (by first | exact ho2.2.2 | exact ho2.2.2.drew) (fun _ _ h => h)) DX.out ?_
              refine hK _ _ ?_
              clear hK K
              try simp only [Act.put, List.setIfInBounds_toArray, List.set_cons_zero, List.set_cons_succ]
              refine wpAny_take (i := 6) (oi := { dst := some 10, op := Go.Op.assign (Go.Operand.tmp 58), type := 9, pos := "law.go:108", after := #[{ on := 2, ground := Go.Ground.data }, { on := 4, ground := Go.Ground.chain }, { on := 0, ground := Go.Ground.phase }, { on := 1, ground := Go.Ground.phase }, { on := 2, ground := Go.Ground.phase }, { on := 3, ground := Go.Ground.textOnly Go.Departure.lateStores }, { on := 4, ground := Go.Ground.textOnly Go.Departure.lateStoresUnsure }, { on := 5, ground := Go.Ground.textOnly Go.Departure.lateStores }], guard := none }) (v := ?vCA_7) rfl (by kernel_rfl) (by kernel_rfl) (by kernel_rfl) (fun _ _ _ h => h) (Or.inl ⟨by rfl, ?hCA_7⟩) ?rCA_7
              case hCA_7 => (intro wz; go_simp; try with_reducible rfl)
              simp only [Act.put, List.setIfInBounds_toArray, List.set_cons_zero, List.set_cons_succ]
              refine wpAny_take (i := 7) (oi := { dst := some 11, op := Go.Op.assign (Go.Operand.tmp 61), type := 9, pos := "law.go:108", after := #[{ on := 5, ground := Go.Ground.data }, { on := 6, ground := Go.Ground.chain }, { on := 0, ground := Go.Ground.phase }, { on := 1, ground := Go.Ground.phase }, { on := 2, ground := Go.Ground.phase }, { on := 3, ground := Go.Ground.phase }, { on := 4, ground := Go.Ground.phase }, { on := 5, ground := Go.Ground.phase }, { on := 6, ground := Go.Ground.phase }], guard := none }) (v := ?vCA_8) rfl (by kernel_rfl) (by kernel_rfl) (by kernel_rfl) (fun _ _ _ h => h) (Or.inl ⟨by rfl, ?hCA_8⟩) ?rCA_8
              case hCA_8 => (intro wz; go_simp; try with_reducible rfl)
              simp only [Act.put, List.setIfInBounds_toArray, List.set_cons_zero, List.set_cons_succ]
              refine wpAny_done (by kernel_rfl) ?_ _
              go_wp2_with fail
              go_meet
              case rel => (have hst : Still wr w5 := ho1.2.2.drew_of.trans ho2.2.2; exact ⟨rfl, rfl, hp.out.still hst, hst⟩)
        case rest =>
          obtain ⟨rfl, rfl, hpc, hkc⟩ := hcut
          have c1 := hkc.cell c0 id
          clear hra hrb c0 hp
          go_upto_if 64 with fail
          go_cut [9] from 44 to 126 (fun i w' => i = .int .i64 k ∧ ∃ sa' sb', Hid (Pair w w' p bb q cc sa' sb'))
          case first =>
            by_cases hpar : (k : Int) % 2 = 0
            · have hpe : ((k : Int) % 2 == 0) = true := by simpa using hpar
              go_wp2_with (with_reducible refine wpList_bytes (o := ⟨some 70, _, _, _, _, _⟩) rfl _ _ _ rfl 5 Try.underlying9 Try.underlying33 Try.underlying5 s rfl ?_; intro w4 c hk4 hz4 hc4 hs4 hf4)
              have hall := hpc.out.2.2.2
              have hlt1 := hpc.out.1.lt
              have hlt2 := hpc.out.2.1.lt
              have hq := put_at w4 p bb 20 sa s.data.toList (sa ++ s.data.toList.take (20 - sa.length)) _ s.size c (min s.size (20 - sa.length)) (hpc.out.1.keeps hk4 id id) hs4 hc4 (by intro ad h; cases h; simp; omega) rfl rfl
              refine hq.mono ?_
              clear hq
              rintro e w5 ⟨rfl, hr5, hk5⟩
              have ho5 : RingAt w5 q cc 30 sb := (hpc.out.2.1.keeps hk4 id id).keeps hk5 (by omega) (by omega)
              have hS : ∀ i, i < w.heap.size → ¬ (i = p ∨ i = bb) := by intro i hi; omega
              have hle5 := ho5.le
              go_wp2_with fail
              have hq := peek_at w5 q cc 30 sb.length sb 100 ho5 (by omega)
              refine hq.mono ?_
              clear hq
              rintro e w6 ⟨rfl, ho⟩
              have cv := fun c => run_string_as (P := Try.prog) (cap := c) Try.underlying33 Try.underlying5 Try.underlying9 ty ho.slice DY.out
              have HF := Lib.hid (show Pair w w6 p bb q cc (sa ++ s.data.toList.take (20 - sa.length)) sb from ⟨hr5.keeps ho.2.2 id id, ho5.keeps ho.2.2 id id, ((hpc.out.2.2.1.trans hk4).on hk5 hS).trans ho.2.2, hpc.out.2.2.2⟩)
              clear hall hlt1 hlt2 hle5
              go_wp2_with fail
              go_meet
              case rel => exact ⟨rfl, _, _, HF⟩
            · have hpe : ((k : Int) % 2 == 0) = false := by simpa using hpar
              go_wp2_with (with_reducible refine wpList_bytes (o := ⟨some 82, _, _, _, _, _⟩) rfl _ _ _ rfl 5 Try.underlying9 Try.underlying33 Try.underlying5 s rfl ?_; intro w4 c hk4 hz4 hc4 hs4 hf4)
              have hall := hpc.out.2.2.2
              have hlt1 := hpc.out.1.lt
              have hlt2 := hpc.out.2.1.lt
              have hq := put_at w4 q cc 30 sb s.data.toList (sb ++ s.data.toList.take (30 - sb.length)) _ s.size c (min s.size (30 - sb.length)) (hpc.out.2.1.keeps hk4 id id) hs4 hc4 (by intro ad h; cases h; simp; omega) rfl rfl
              refine hq.mono ?_
              clear hq
              rintro e w5 ⟨rfl, hr5, hk5⟩
              have ho5 : RingAt w5 p bb 20 sa := (hpc.out.1.keeps hk4 id id).keeps hk5 (by omega) (by omega)
              have hS : ∀ i, i < w.heap.size → ¬ (i = q ∨ i = cc) := by intro i hi; omega
              have hle5 := ho5.le
              go_wp2_with fail
              have hq := peek_at w5 p bb 20 sa.length sa 100 ho5 (by omega)
              refine hq.mono ?_
              clear hq
              rintro e w6 ⟨rfl, ho⟩
              have cv := fun c => run_string_as (P := Try.prog) (cap := c) Try.underlying33 Try.underlying5 Try.underlying9 tx ho.slice DX.out
              have HF := Lib.hid (show Pair w w6 p bb q cc sa (sb ++ s.data.toList.take (30 - sb.length)) from ⟨ho5.keeps ho.2.2 id id, hr5.keeps ho.2.2 id id, ((hpc.out.2.2.1.trans hk4).on hk5 hS).trans ho.2.2, hpc.out.2.2.2⟩)
              clear hall hlt1 hlt2 hle5
              go_wp2_with fail
              go_meet
              case rel => exact ⟨rfl, _, _, HF⟩
          case rest =>
            obtain ⟨rfl, sa1, sb1, hp2⟩ := hcut
            go_upto_if 91 with fail
            go_cut [9] from 44 to 126 (fun i w' => i = .int .i64 k ∧ ∃ sa' sb', Hid (Pair w w' p bb q cc sa' sb'))
            case first =>
              have hall := hp2.out.2.2.2
              have hS1 : ∀ i, i < w.heap.size → ¬ i = p := by intro i hi; omega
              have hS2 : ∀ i, i < w.heap.size → ¬ i = q := by intro i hi; omega
              by_cases hfive : (k : Int) % 5 = 4
              · have hfe : ((k : Int) % 5 == 4) = true := by simpa using hfive
                go_wp2_with fail
                have hq := take_at wc p bb 20 (min n sa1.length) sa1 _ _ n hp2.out.1 (by omega) rfl rfl
                refine hq.mono ?_
                clear hq
                rintro e w4 ⟨rfl, _, hr4, hk4⟩
                go_wp2_with fail
                have hq := take_at w4 q cc 30 (min n sb1.length) sb1 _ _ n (hp2.out.2.1.keeps hk4 (by omega) (by omega)) (by omega) rfl rfl
                refine hq.mono ?_
                clear hq
                rintro e w5 ⟨rfl, _, hr5, hk5⟩
                have HF := Lib.hid (show Pair w w5 p bb q cc _ _ from ⟨hr4.keeps hk5 (by omega) (by omega), hr5, (hp2.out.2.2.1.on hk4 hS1).on hk5 hS2, hp2.out.2.2.2⟩)
                clear hall
                go_wp2_with fail
                go_meet
                case rel => exact ⟨rfl, _, _, HF⟩
              · have hfe : ((k : Int) % 5 == 4) = false := by simpa using hfive
                clear hall
                go_wp2_with fail
                go_meet
                case rel => exact ⟨rfl, _, _, hp2⟩
            case rest =>
              obtain ⟨rfl, sa2, sb2, hp3⟩ := hcut
              have rga : RingAt wc.drew p bb 20 sa2 := hp3.out.1
              have rgb : RingAt wc.drew q cc 30 sb2 := hp3.out.2.1
              have rla := rga.le.1
              have rlb := rgb.le.1
              obtain ⟨na, hna⟩ : ∃ na, na = min n sa2.length := ⟨_, rfl⟩
              obtain ⟨tn, htn⟩ : ∃ t : ByteArray, t = ⟨(sa2.take na).toArray⟩ := ⟨_, rfl⟩
              have DN := Lib.hid (show tn.data.toList = sa2.take na by rw [htn])
              have HNA := Lib.hid hna
              clear htn hna
              have e0 : IntKind.i64.wrap (n : Int) = n := IntWalk.i64_in _ (by omega)
              go_wp2_with fail
              refine wp_region_any (by kernel_rfl) ?_
              change wpAny _ _ _ _ _ _ _ (World.drew _)
              refine wpAny_take (i := 0) (oi := { dst := some 100, op := Go.Op.move (Go.Operand.tmp 5), type := 23, pos := "law.go:124", after := #[], guard := none }) (v := ?vCB_1) rfl (by kernel_rfl) (by kernel_rfl) (by kernel_rfl) (fun _ _ _ h => h) (Or.inl ⟨by rfl, ?hCB_1⟩) ?rCB_1
              case hCB_1 => (intro wz; go_simp; try with_reducible rfl)
              simp only [Act.put, List.setIfInBounds_toArray, List.set_cons_zero, List.set_cons_succ]
              refine wpAny_take (i := 1) (oi := { dst := some 101, op := Go.Op.move (Go.Operand.tmp 1), type := 5, pos := "law.go:124", after := #[], guard := none }) (v := ?vCB_2) rfl (by kernel_rfl) (by kernel_rfl) (by kernel_rfl) (fun _ _ _ h => h) (Or.inl ⟨by rfl, ?hCB_2⟩) ?rCB_2
              case hCB_2 => (intro wz; go_simp; try with_reducible rfl)
              simp only [Act.put, List.setIfInBounds_toArray, List.set_cons_zero, List.set_cons_succ]
              refine wpAny_take (i := 2) (oi := { dst := some 102, op := Go.Op.convert 5 3 (Go.Operand.tmp 101), type := 3, pos := "law.go:124", after := #[{ on := 1, ground := Go.Ground.data }], guard := none }) (v := ?vCB_3) rfl (by kernel_rfl) (by kernel_rfl) (by kernel_rfl) (fun _ _ _ h => h) (Or.inl ⟨by rfl, ?hCB_3⟩) ?rCB_3
              case hCB_3 => (intro wz; go_simp; try with_reducible rfl)
              simp only [Act.put, List.setIfInBounds_toArray, List.set_cons_zero, List.set_cons_succ]
              refine wpAny_take (i := 5) (oi := { dst := some 105, op := Go.Op.move (Go.Operand.tmp 5), type := 23, pos := "law.go:124", after := #[], guard := none }) (v := ?vCB_4) rfl (by kernel_rfl) (by kernel_rfl) (by kernel_rfl) (fun _ _ _ h => h) (Or.inl ⟨by rfl, ?hCB_4⟩) ?rCB_4
              case hCB_4 => (intro wz; go_simp; try with_reducible rfl)
              simp only [Act.put, List.setIfInBounds_toArray, List.set_cons_zero, List.set_cons_succ]
              refine wpAny_take (i := 6) (oi := { dst := some 106, op := Go.Op.move (Go.Operand.tmp 1), type := 5, pos := "law.go:124", after := #[], guard := none }) (v := ?vCB_5) rfl (by kernel_rfl) (by kernel_rfl) (by kernel_rfl) (fun _ _ _ h => h) (Or.inl ⟨by rfl, ?hCB_5⟩) ?rCB_5
              case hCB_5 => (intro wz; go_simp; try with_reducible rfl)
              simp only [Act.put, List.setIfInBounds_toArray, List.set_cons_zero, List.set_cons_succ]
              refine wpAny_take (i := 7) (oi := { dst := some 107, op := Go.Op.convert 5 3 (Go.Operand.tmp 106), type := 3, pos := "law.go:124", after := #[{ on := 6, ground := Go.Ground.data }], guard := none }) (v := ?vCB_6) rfl (by kernel_rfl) (by kernel_rfl) (by kernel_rfl) (fun _ _ _ h => h) (Or.inl ⟨by rfl, ?hCB_6⟩) ?rCB_6
              case hCB_6 => (intro wz; go_simp; try with_reducible rfl)
              simp only [Act.put, List.setIfInBounds_toArray, List.set_cons_zero, List.set_cons_succ]
              refine wpAny_ready (rs := [3]) (by kernel_rfl) (by simp) ?_
              refine AllReady.cons (o := { dst := some 103, op := Go.Op.call { callee := Go.Callee.value (Go.Operand.func 13), args := #[Go.Operand.tmp 100, Go.Operand.tmp 102], argTypes := #[23, 3] }, type := 33, pos := "law.go:124", after := #[{ on := 0, ground := Go.Ground.data }, { on := 2, ground := Go.Ground.data }], guard := none }) rfl (fun K hK => ?_) AllReady.nil
              go_simp
              have hq := peek_at wc.drew p bb 20 na sa2 n rga (by have := HNA.out; omega)
              refine hq.mono ?_
              clear hq
              rintro e w4 ⟨rfl, ho1⟩
              refine hK _ _ ?_
              clear hK K
              try simp only [Act.put, List.setIfInBounds_toArray, List.set_cons_zero, List.set_cons_succ]
              refine wpAny_ready (rs := [4, 8]) (by kernel_rfl) (by simp) ?_
              refine AllReady.cons (o := { dst := some 104, op := Go.Op.convert 33 9 (Go.Operand.tmp 103), type := 9, pos := "law.go:124", after := #[{ on := 3, ground := Go.Ground.data }], guard := none }) rfl (fun K hK => ?_) (AllReady.cons (o := { dst := some 108, op := Go.Op.call { callee := Go.Callee.value (Go.Operand.func 13), args := #[Go.Operand.tmp 105, Go.Operand.tmp 107], argTypes := #[23, 3] }, type := 33, pos := "law.go:124", after := #[{ on := 5, ground := Go.Ground.data }, { on := 7, ground := Go.Ground.data }, { on := 3, ground := Go.Ground.chain }], guard := none }) rfl (fun K hK => ?_) (AllReady.nil))
              · skip
                refine step_string (by rfl) (.tmp 103) 33 9 rfl 5 Try.underlying33 Try.underlying5 Try.underlying9 _ _ _ _ tn rfl (show SliceOf _ _ na (sa2.take na) from by first | exact ho1.slice | exact ho1.slice.keeps ho2.2.2 (fun _ _ h => h)) DN.out ?_
                refine hK _ _ ?_
                clear hK K
                try simp only [Act.put, List.setIfInBounds_toArray, List.set_cons_zero, List.set_cons_succ]
                refine wpAny_ready (rs := [8]) (by kernel_rfl) (by simp) ?_
                refine AllReady.cons (o := { dst := some 108, op := Go.Op.call { callee := Go.Callee.value (Go.Operand.func 13), args := #[Go.Operand.tmp 105, Go.Operand.tmp 107], argTypes := #[23, 3] }, type := 33, pos := "law.go:124", after := #[{ on := 5, ground := Go.Ground.data }, { on := 7, ground := Go.Ground.data }, { on := 3, ground := Go.Ground.chain }], guard := none }) rfl (fun K hK => ?_) AllReady.nil
                go_simp
                have hq := peek_at w4 p bb 20 na sa2 n (rga.keeps ho1.2.2 id id) (by have := HNA.out; omega)
                refine hq.mono ?_
                clear hq
                rintro e w5 ⟨rfl, ho2⟩
                refine hK _ _ ?_
                clear hK K
                try simp only [Act.put, List.setIfInBounds_toArray, List.set_cons_zero, List.set_cons_succ]
                refine wpAny_ready (rs := [9]) (by kernel_rfl) (by simp) ?_
                refine AllReady.cons (o := { dst := some 109, op := Go.Op.convert 33 9 (Go.Operand.tmp 108), type := 9, pos := "law.go:124", after := #[{ on := 8, ground := Go.Ground.data }], guard := none }) rfl (fun K hK => ?_) AllReady.nil
                refine step_string (by rfl) (.tmp 108) 33 9 rfl 5 Try.underlying33 Try.underlying5 Try.underlying9 _ _ _ _ tn rfl ho2.slice DN.out ?_
                refine hK _ _ ?_
                clear hK K
                try simp only [Act.put, List.setIfInBounds_toArray, List.set_cons_zero, List.set_cons_succ]
                refine wpAny_take (i := 10) (oi := { dst := some 110, op := Go.Op.binOp Go.BinOp.neq 9 (Go.Operand.tmp 104) (Go.Operand.tmp 109) 9, type := 4, pos := "law.go:124", after := #[{ on := 4, ground := Go.Ground.data }, { on := 9, ground := Go.Ground.data }], guard := none }) (v := ?vCB_7) rfl (by kernel_rfl) (by kernel_rfl) (by kernel_rfl) (fun _ _ _ h => h) (Or.inl ⟨by rfl, ?hCB_7⟩) ?rCB_7
                case hCB_7 => (intro wz; go_simp; try with_reducible rfl)
                simp only [Act.put, List.setIfInBounds_toArray, List.set_cons_zero, List.set_cons_succ]
                refine wpAny_take (i := 11) (oi := { dst := some 111, op := Go.Op.move (Go.Operand.tmp 110), type := 4, pos := "law.go:124", after := #[{ on := 10, ground := Go.Ground.data }, { on := 8, ground := Go.Ground.chain }], guard := none }) (v := ?vCB_8) rfl (by kernel_rfl) (by kernel_rfl) (by kernel_rfl) (fun _ _ _ h => h) (Or.inl ⟨by rfl, ?hCB_8⟩) ?rCB_8
                case hCB_8 => (intro wz; go_simp; try with_reducible rfl)
                simp only [Act.put, List.setIfInBounds_toArray, List.set_cons_zero, List.set_cons_succ]
                refine wpAny_take (i := 12) (oi := { dst := some 112, op := Go.Op.move (Go.Operand.tmp 5), type := 23, pos := "law.go:124", after := #[{ on := 11, ground := Go.Ground.guard }], guard := some (11, false) }) (v := ?vCB_9) rfl (by kernel_rfl) (by kernel_rfl) (by kernel_rfl) (fun _ _ _ h => h) (Or.inl ⟨by rfl, ?hCB_9⟩) ?rCB_9
                case hCB_9 => (intro wz; go_simp; try with_reducible rfl)
                simp only [Act.put, List.setIfInBounds_toArray, List.set_cons_zero, List.set_cons_succ]
                refine wpAny_take (i := 15) (oi := { dst := some 115, op := Go.Op.move (Go.Operand.tmp 5), type := 23, pos := "law.go:124", after := #[{ on := 11, ground := Go.Ground.guard }], guard := some (11, false) }) (v := ?vCB_10) rfl (by kernel_rfl) (by kernel_rfl) (by kernel_rfl) (fun _ _ _ h => h) (Or.inl ⟨by rfl, ?hCB_10⟩) ?rCB_10
                case hCB_10 => (intro wz; go_simp; try with_reducible rfl)
                simp only [Act.put, List.setIfInBounds_toArray, List.set_cons_zero, List.set_cons_succ]
                refine wpAny_ready (rs := [13]) (by kernel_rfl) (by simp) ?_
                refine AllReady.cons (o := { dst := some 113, op := Go.Op.call { callee := Go.Callee.value (Go.Operand.func 13), args := #[Go.Operand.tmp 112, Go.Operand.const (Go.Value.int Go.IntKind.i64 100)], argTypes := #[23, 3] }, type := 33, pos := "law.go:124", after := #[{ on := 12, ground := Go.Ground.data }, { on := 11, ground := Go.Ground.chain }, { on := 11, ground := Go.Ground.guard }], guard := some (11, false) }) rfl (fun K hK => ?_) AllReady.nil
                go_simp
                have hq := peek_at w5 p bb 20 sa2.length sa2 100 ((rga.keeps ho1.2.2 id id).keeps ho2.2.2 id id) (by omega)
                refine hq.mono ?_
                clear hq
                rintro e w6 ⟨rfl, ho3⟩
                refine hK _ _ ?_
                clear hK K
                try simp only [Act.put, List.setIfInBounds_toArray, List.set_cons_zero, List.set_cons_succ]
                refine wpAny_take (i := 14) (oi := { dst := some 114, op := Go.Op.call { callee := Go.Callee.builtin Go.Builtin.len, args := #[Go.Operand.tmp 113], argTypes := #[33] }, type := 3, pos := "law.go:124", after := #[{ on := 13, ground := Go.Ground.data }, { on := 11, ground := Go.Ground.guard }], guard := some (11, false) }) (v := ?vCB_11) rfl (by kernel_rfl) (by kernel_rfl) (by kernel_rfl) (fun _ _ _ h => h) (Or.inl ⟨by rfl, ?hCB_11⟩) ?rCB_11
                case hCB_11 => (intro wz; go_simp; try with_reducible rfl)
                simp only [Act.put, List.setIfInBounds_toArray, List.set_cons_zero, List.set_cons_succ]
                refine wpAny_ready (rs := [16]) (by kernel_rfl) (by simp) ?_
                refine AllReady.cons (o := { dst := some 116, op := Go.Op.call { callee := Go.Callee.value (Go.Operand.func 17), args := #[Go.Operand.tmp 115], argTypes := #[23] }, type := 3, pos := "law.go:124", after := #[{ on := 15, ground := Go.Ground.data }, { on := 13, ground := Go.Ground.chain }, { on := 11, ground := Go.Ground.guard }], guard := some (11, false) }) rfl (fun K hK => ?_) AllReady.nil
                go_simp
                have hq := len_at w6 p bb 20 sa2 sa2.length (((rga.keeps ho1.2.2 id id).keeps ho2.2.2 id id).keeps ho3.2.2 id id) rfl
                refine hq.mono ?_
                clear hq
                rintro e w7 ⟨rfl, rfl⟩
                refine hK _ _ ?_
                clear hK K
                try simp only [Act.put, List.setIfInBounds_toArray, List.set_cons_zero, List.set_cons_succ]
                refine wpAny_take (i := 17) (oi := { dst := some 117, op := Go.Op.binOp Go.BinOp.neq 3 (Go.Operand.tmp 114) (Go.Operand.tmp 116) 3, type := 4, pos := "law.go:124", after := #[{ on := 14, ground := Go.Ground.data }, { on := 16, ground := Go.Ground.data }, { on := 11, ground := Go.Ground.guard }], guard := some (11, false) }) (v := ?vCB_12) rfl (by kernel_rfl) (by kernel_rfl) (by kernel_rfl) (fun _ _ _ h => h) (Or.inl ⟨by rfl, ?hCB_12⟩) ?rCB_12
                case hCB_12 => (intro wz; go_simp; try with_reducible rfl)
                simp only [Act.put, List.setIfInBounds_toArray, List.set_cons_zero, List.set_cons_succ]
                refine wpAny_take (i := 18) (oi := { dst := some 118, op := Go.Op.pick (Go.Operand.tmp 111) (Go.Operand.const (Go.Value.bool true)) (Go.Operand.tmp 117), type := 4, pos := "law.go:124", after := #[{ on := 11, ground := Go.Ground.data }, { on := 17, ground := Go.Ground.data }], guard := none }) (v := ?vCB_13) rfl (by kernel_rfl) (by kernel_rfl) (by kernel_rfl) (fun _ _ _ h => h) (Or.inl ⟨by rfl, ?hCB_13⟩) ?rCB_13
                case hCB_13 => (intro wz; go_simp; try with_reducible rfl)
                simp only [Act.put, List.setIfInBounds_toArray, List.set_cons_zero, List.set_cons_succ]
                refine wpAny_take (i := 19) (oi := { dst := some 119, op := Go.Op.move (Go.Operand.tmp 118), type := 4, pos := "law.go:124", after := #[{ on := 18, ground := Go.Ground.data }, { on := 16, ground := Go.Ground.chain }], guard := none }) (v := ?vCB_14) rfl (by kernel_rfl) (by kernel_rfl) (by kernel_rfl) (fun _ _ _ h => h) (Or.inl ⟨by rfl, ?hCB_14⟩) ?rCB_14
                case hCB_14 => (intro wz; go_simp; try with_reducible rfl)
                simp only [Act.put, List.setIfInBounds_toArray, List.set_cons_zero, List.set_cons_succ]
                refine wpAny_take (i := 20) (oi := { dst := some 120, op := Go.Op.move (Go.Operand.tmp 7), type := 23, pos := "law.go:124", after := #[{ on := 19, ground := Go.Ground.guard }], guard := some (19, false) }) (v := ?vCB_15) rfl (by kernel_rfl) (by kernel_rfl) (by kernel_rfl) (fun _ _ _ h => h) (Or.inl ⟨by rfl, ?hCB_15⟩) ?rCB_15
                case hCB_15 => (intro wz; go_simp; try with_reducible rfl)
                simp only [Act.put, List.setIfInBounds_toArray, List.set_cons_zero, List.set_cons_succ]
                refine wpAny_take (i := 23) (oi := { dst := some 123, op := Go.Op.move (Go.Operand.tmp 7), type := 23, pos := "law.go:124", after := #[{ on := 19, ground := Go.Ground.guard }], guard := some (19, false) }) (v := ?vCB_16) rfl (by kernel_rfl) (by kernel_rfl) (by kernel_rfl) (fun _ _ _ h => h) (Or.inl ⟨by rfl, ?hCB_16⟩) ?rCB_16
                case hCB_16 => (intro wz; go_simp; try with_reducible rfl)
                simp only [Act.put, List.setIfInBounds_toArray, List.set_cons_zero, List.set_cons_succ]
                refine wpAny_ready (rs := [21]) (by kernel_rfl) (by simp) ?_
                refine AllReady.cons (o := { dst := some 121, op := Go.Op.call { callee := Go.Callee.value (Go.Operand.func 13), args := #[Go.Operand.tmp 120, Go.Operand.const (Go.Value.int Go.IntKind.i64 100)], argTypes := #[23, 3] }, type := 33, pos := "law.go:124", after := #[{ on := 20, ground := Go.Ground.data }, { on := 19, ground := Go.Ground.chain }, { on := 19, ground := Go.Ground.guard }], guard := some (19, false) }) rfl (fun K hK => ?_) AllReady.nil
                go_simp
                have hq := peek_at w6 q cc 30 sb2.length sb2 100 (((rgb.keeps ho1.2.2 id id).keeps ho2.2.2 id id).keeps ho3.2.2 id id) (by omega)
                refine hq.mono ?_
                clear hq
                rintro e w8 ⟨rfl, ho4⟩
                refine hK _ _ ?_
                clear hK K
                try simp only [Act.put, List.setIfInBounds_toArray, List.set_cons_zero, List.set_cons_succ]
                refine wpAny_take (i := 22) (oi := { dst := some 122, op := Go.Op.call { callee := Go.Callee.builtin Go.Builtin.len, args := #[Go.Operand.tmp 121], argTypes := #[33] }, type := 3, pos := "law.go:124", after := #[{ on := 21, ground := Go.Ground.data }, { on := 19, ground := Go.Ground.guard }], guard := some (19, false) }) (v := ?vCB_17) rfl (by kernel_rfl) (by kernel_rfl) (by kernel_rfl) (fun _ _ _ h => h) (Or.inl ⟨by rfl, ?hCB_17⟩) ?rCB_17
                case hCB_17 => (intro wz; go_simp; try with_reducible rfl)
                simp only [Act.put, List.setIfInBounds_toArray, List.set_cons_zero, List.set_cons_succ]
                refine wpAny_ready (rs := [24]) (by kernel_rfl) (by simp) ?_
                refine AllReady.cons (o := { dst := some 124, op := Go.Op.call { callee := Go.Callee.value (Go.Operand.func 17), args := #[Go.Operand.tmp 123], argTypes := #[23] }, type := 3, pos := "law.go:124", after := #[{ on := 23, ground := Go.Ground.data }, { on := 21, ground := Go.Ground.chain }, { on := 19, ground := Go.Ground.guard }], guard := some (19, false) }) rfl (fun K hK => ?_) AllReady.nil
                go_simp
                have hq := len_at w8 q cc 30 sb2 sb2.length ((((rgb.keeps ho1.2.2 id id).keeps ho2.2.2 id id).keeps ho3.2.2 id id).keeps ho4.2.2 id id) rfl
                refine hq.mono ?_
                clear hq
                rintro e w9 ⟨rfl, rfl⟩
                refine hK _ _ ?_
                clear hK K
                try simp only [Act.put, List.setIfInBounds_toArray, List.set_cons_zero, List.set_cons_succ]
                refine wpAny_take (i := 25) (oi := { dst := some 125, op := Go.Op.binOp Go.BinOp.neq 3 (Go.Operand.tmp 122) (Go.Operand.tmp 124) 3, type := 4, pos := "law.go:124", after := #[{ on := 22, ground := Go.Ground.data }, { on := 24, ground := Go.Ground.data }, { on := 19, ground := Go.Ground.guard }], guard := some (19, false) }) (v := ?vCB_18) rfl (by kernel_rfl) (by kernel_rfl) (by kernel_rfl) (fun _ _ _ h => h) (Or.inl ⟨by rfl, ?hCB_18⟩) ?rCB_18
                case hCB_18 => (intro wz; go_simp; try with_reducible rfl)
                simp only [Act.put, List.setIfInBounds_toArray, List.set_cons_zero, List.set_cons_succ]
                refine wpAny_take (i := 26) (oi := { dst := some 126, op := Go.Op.pick (Go.Operand.tmp 119) (Go.Operand.const (Go.Value.bool true)) (Go.Operand.tmp 125), type := 4, pos := "law.go:124", after := #[{ on := 19, ground := Go.Ground.data }, { on := 25, ground := Go.Ground.data }], guard := none }) (v := ?vCB_19) rfl (by kernel_rfl) (by kernel_rfl) (by kernel_rfl) (fun _ _ _ h => h) (Or.inl ⟨by rfl, ?hCB_19⟩) ?rCB_19
                case hCB_19 => (intro wz; go_simp; try with_reducible rfl)
                simp only [Act.put, List.setIfInBounds_toArray, List.set_cons_zero, List.set_cons_succ]
                refine wpAny_done (by kernel_rfl) ?_ _
                have HF := Lib.hid (hp3.out.still (((ho1.2.2.drew_of.trans ho2.2.2).trans ho3.2.2).trans ho4.2.2))
                go_wp2_with fail
                go_roundw
                case rel => first | exact ⟨k + 1, sa2, sb2, rfl, by omega, HF⟩ | ((repeat apply Exists.intro); exact ⟨⟨k + 1, sa2, sb2, rfl, by omega, HF⟩, by and_intros <;> first | rfl | simp⟩)
                case measure => simp [intOf]; omega
              · skip
                go_simp
                have hq := peek_at w4 p bb 20 na sa2 n (rga.keeps ho1.2.2 id id) (by have := HNA.out; omega)
                refine hq.mono ?_
                clear hq
                rintro e w5 ⟨rfl, ho2⟩
                refine hK _ _ ?_
                clear hK K
                try simp only [Act.put, List.setIfInBounds_toArray, List.set_cons_zero, List.set_cons_succ]
                refine wpAny_ready (rs := [4, 9]) (by kernel_rfl) (by simp) ?_
                refine AllReady.cons (o := { dst := some 104, op := Go.Op.convert 33 9 (Go.Operand.tmp 103), type := 9, pos := "law.go:124", after := #[{ on := 3, ground := Go.Ground.data }], guard := none }) rfl (fun K hK => ?_) (AllReady.cons (o := { dst := some 109, op := Go.Op.convert 33 9 (Go.Operand.tmp 108), type := 9, pos := "law.go:124", after := #[{ on := 8, ground := Go.Ground.data }], guard := none }) rfl (fun K hK => ?_) (AllReady.nil))
                · skip
                  refine step_string (by rfl) (.tmp 103) 33 9 rfl 5 Try.underlying33 Try.underlying5 Try.underlying9 _ _ _ _ tn rfl (show SliceOf _ _ na (sa2.take na) from by first | exact ho1.slice | exact ho1.slice.keeps ho2.2.2 (fun _ _ h => h)) DN.out ?_
                  refine hK _ _ ?_
                  clear hK K
                  try simp only [Act.put, List.setIfInBounds_toArray, List.set_cons_zero, List.set_cons_succ]
                  refine wpAny_ready (rs := [9]) (by kernel_rfl) (by simp) ?_
                  refine AllReady.cons (o := { dst := some 109, op := Go.Op.convert 33 9 (Go.Operand.tmp 108), type := 9, pos := "law.go:124", after := #[{ on := 8, ground := Go.Ground.data }], guard := none }) rfl (fun K hK => ?_) AllReady.nil
                  refine step_string (by rfl) (.tmp 108) 33 9 rfl 5 Try.underlying33 Try.underlying5 Try.underlying9 _ _ _ _ tn rfl ho2.slice DN.out ?_
                  refine hK _ _ ?_
                  clear hK K
                  try simp only [Act.put, List.setIfInBounds_toArray, List.set_cons_zero, List.set_cons_succ]
                  refine wpAny_take (i := 10) (oi := { dst := some 110, op := Go.Op.binOp Go.BinOp.neq 9 (Go.Operand.tmp 104) (Go.Operand.tmp 109) 9, type := 4, pos := "law.go:124", after := #[{ on := 4, ground := Go.Ground.data }, { on := 9, ground := Go.Ground.data }], guard := none }) (v := ?vCB_20) rfl (by kernel_rfl) (by kernel_rfl) (by kernel_rfl) (fun _ _ _ h => h) (Or.inl ⟨by rfl, ?hCB_20⟩) ?rCB_20
                  case hCB_20 => (intro wz; go_simp; try with_reducible rfl)
                  simp only [Act.put, List.setIfInBounds_toArray, List.set_cons_zero, List.set_cons_succ]
                  refine wpAny_take (i := 11) (oi := { dst := some 111, op := Go.Op.move (Go.Operand.tmp 110), type := 4, pos := "law.go:124", after := #[{ on := 10, ground := Go.Ground.data }, { on := 8, ground := Go.Ground.chain }], guard := none }) (v := ?vCB_21) rfl (by kernel_rfl) (by kernel_rfl) (by kernel_rfl) (fun _ _ _ h => h) (Or.inl ⟨by rfl, ?hCB_21⟩) ?rCB_21
                  case hCB_21 => (intro wz; go_simp; try with_reducible rfl)
                  simp only [Act.put, List.setIfInBounds_toArray, List.set_cons_zero, List.set_cons_succ]
                  refine wpAny_take (i := 12) (oi := { dst := some 112, op := Go.Op.move (Go.Operand.tmp 5), type := 23, pos := "law.go:124", after := #[{ on := 11, ground := Go.Ground.guard }], guard := some (11, false) }) (v := ?vCB_22) rfl (by kernel_rfl) (by kernel_rfl) (by kernel_rfl) (fun _ _ _ h => h) (Or.inl ⟨by rfl, ?hCB_22⟩) ?rCB_22
                  case hCB_22 => (intro wz; go_simp; try with_reducible rfl)
                  simp only [Act.put, List.setIfInBounds_toArray, List.set_cons_zero, List.set_cons_succ]
                  refine wpAny_take (i := 15) (oi := { dst := some 115, op := Go.Op.move (Go.Operand.tmp 5), type := 23, pos := "law.go:124", after := #[{ on := 11, ground := Go.Ground.guard }], guard := some (11, false) }) (v := ?vCB_23) rfl (by kernel_rfl) (by kernel_rfl) (by kernel_rfl) (fun _ _ _ h => h) (Or.inl ⟨by rfl, ?hCB_23⟩) ?rCB_23
                  case hCB_23 => (intro wz; go_simp; try with_reducible rfl)
                  simp only [Act.put, List.setIfInBounds_toArray, List.set_cons_zero, List.set_cons_succ]
                  refine wpAny_ready (rs := [13]) (by kernel_rfl) (by simp) ?_
                  refine AllReady.cons (o := { dst := some 113, op := Go.Op.call { callee := Go.Callee.value (Go.Operand.func 13), args := #[Go.Operand.tmp 112, Go.Operand.const (Go.Value.int Go.IntKind.i64 100)], argTypes := #[23, 3] }, type := 33, pos := "law.go:124", after := #[{ on := 12, ground := Go.Ground.data }, { on := 11, ground := Go.Ground.chain }, { on := 11, ground := Go.Ground.guard }], guard := some (11, false) }) rfl (fun K hK => ?_) AllReady.nil
                  go_simp
                  have hq := peek_at w5 p bb 20 sa2.length sa2 100 ((rga.keeps ho1.2.2 id id).keeps ho2.2.2 id id) (by omega)
                  refine hq.mono ?_
                  clear hq
                  rintro e w6 ⟨rfl, ho3⟩
                  refine hK _ _ ?_
                  clear hK K
                  try simp only [Act.put, List.setIfInBounds_toArray, List.set_cons_zero, List.set_cons_succ]
                  refine wpAny_take (i := 14) (oi := { dst := some 114, op := Go.Op.call { callee := Go.Callee.builtin Go.Builtin.len, args := #[Go.Operand.tmp 113], argTypes := #[33] }, type := 3, pos := "law.go:124", after := #[{ on := 13, ground := Go.Ground.data }, { on := 11, ground := Go.Ground.guard }], guard := some (11, false) }) (v := ?vCB_24) rfl (by kernel_rfl) (by kernel_rfl) (by kernel_rfl) (fun _ _ _ h => h) (Or.inl ⟨by rfl, ?hCB_24⟩) ?rCB_24
                  case hCB_24 => (intro wz; go_simp; try with_reducible rfl)
                  simp only [Act.put, List.setIfInBounds_toArray, List.set_cons_zero, List.set_cons_succ]
                  refine wpAny_ready (rs := [16]) (by kernel_rfl) (by simp) ?_
                  refine AllReady.cons (o := { dst := some 116, op := Go.Op.call { callee := Go.Callee.value (Go.Operand.func 17), args := #[Go.Operand.tmp 115], argTypes := #[23] }, type := 3, pos := "law.go:124", after := #[{ on := 15, ground := Go.Ground.data }, { on := 13, ground := Go.Ground.chain }, { on := 11, ground := Go.Ground.guard }], guard := some (11, false) }) rfl (fun K hK => ?_) AllReady.nil
                  go_simp
                  have hq := len_at w6 p bb 20 sa2 sa2.length (((rga.keeps ho1.2.2 id id).keeps ho2.2.2 id id).keeps ho3.2.2 id id) rfl
                  refine hq.mono ?_
                  clear hq
                  rintro e w7 ⟨rfl, rfl⟩
                  refine hK _ _ ?_
                  clear hK K
                  try simp only [Act.put, List.setIfInBounds_toArray, List.set_cons_zero, List.set_cons_succ]
                  refine wpAny_take (i := 17) (oi := { dst := some 117, op := Go.Op.binOp Go.BinOp.neq 3 (Go.Operand.tmp 114) (Go.Operand.tmp 116) 3, type := 4, pos := "law.go:124", after := #[{ on := 14, ground := Go.Ground.data }, { on := 16, ground := Go.Ground.data }, { on := 11, ground := Go.Ground.guard }], guard := some (11, false) }) (v := ?vCB_25) rfl (by kernel_rfl) (by kernel_rfl) (by kernel_rfl) (fun _ _ _ h => h) (Or.inl ⟨by rfl, ?hCB_25⟩) ?rCB_25
                  case hCB_25 => (intro wz; go_simp; try with_reducible rfl)
                  simp only [Act.put, List.setIfInBounds_toArray, List.set_cons_zero, List.set_cons_succ]
                  refine wpAny_take (i := 18) (oi := { dst := some 118, op := Go.Op.pick (Go.Operand.tmp 111) (Go.Operand.const (Go.Value.bool true)) (Go.Operand.tmp 117), type := 4, pos := "law.go:124", after := #[{ on := 11, ground := Go.Ground.data }, { on := 17, ground := Go.Ground.data }], guard := none }) (v := ?vCB_26) rfl (by kernel_rfl) (by kernel_rfl) (by kernel_rfl) (fun _ _ _ h => h) (Or.inl ⟨by rfl, ?hCB_26⟩) ?rCB_26
                  case hCB_26 => (intro wz; go_simp; try with_reducible rfl)
                  simp only [Act.put, List.setIfInBounds_toArray, List.set_cons_zero, List.set_cons_succ]
                  refine wpAny_take (i := 19) (oi := { dst := some 119, op := Go.Op.move (Go.Operand.tmp 118), type := 4, pos := "law.go:124", after := #[{ on := 18, ground := Go.Ground.data }, { on := 16, ground := Go.Ground.chain }], guard := none }) (v := ?vCB_27) rfl (by kernel_rfl) (by kernel_rfl) (by kernel_rfl) (fun _ _ _ h => h) (Or.inl ⟨by rfl, ?hCB_27⟩) ?rCB_27
                  case hCB_27 => (intro wz; go_simp; try with_reducible rfl)
                  simp only [Act.put, List.setIfInBounds_toArray, List.set_cons_zero, List.set_cons_succ]
                  refine wpAny_take (i := 20) (oi := { dst := some 120, op := Go.Op.move (Go.Operand.tmp 7), type := 23, pos := "law.go:124", after := #[{ on := 19, ground := Go.Ground.guard }], guard := some (19, false) }) (v := ?vCB_28) rfl (by kernel_rfl) (by kernel_rfl) (by kernel_rfl) (fun _ _ _ h => h) (Or.inl ⟨by rfl, ?hCB_28⟩) ?rCB_28
                  case hCB_28 => (intro wz; go_simp; try with_reducible rfl)
                  simp only [Act.put, List.setIfInBounds_toArray, List.set_cons_zero, List.set_cons_succ]
                  refine wpAny_take (i := 23) (oi := { dst := some 123, op := Go.Op.move (Go.Operand.tmp 7), type := 23, pos := "law.go:124", after := #[{ on := 19, ground := Go.Ground.guard }], guard := some (19, false) }) (v := ?vCB_29) rfl (by kernel_rfl) (by kernel_rfl) (by kernel_rfl) (fun _ _ _ h => h) (Or.inl ⟨by rfl, ?hCB_29⟩) ?rCB_29
                  case hCB_29 => (intro wz; go_simp; try with_reducible rfl)
                  simp only [Act.put, List.setIfInBounds_toArray, List.set_cons_zero, List.set_cons_succ]
                  refine wpAny_ready (rs := [21]) (by kernel_rfl) (by simp) ?_
                  refine AllReady.cons (o := { dst := some 121, op := Go.Op.call { callee := Go.Callee.value (Go.Operand.func 13), args := #[Go.Operand.tmp 120, Go.Operand.const (Go.Value.int Go.IntKind.i64 100)], argTypes := #[23, 3] }, type := 33, pos := "law.go:124", after := #[{ on := 20, ground := Go.Ground.data }, { on := 19, ground := Go.Ground.chain }, { on := 19, ground := Go.Ground.guard }], guard := some (19, false) }) rfl (fun K hK => ?_) AllReady.nil
                  go_simp
                  have hq := peek_at w6 q cc 30 sb2.length sb2 100 (((rgb.keeps ho1.2.2 id id).keeps ho2.2.2 id id).keeps ho3.2.2 id id) (by omega)
                  refine hq.mono ?_
                  clear hq
                  rintro e w8 ⟨rfl, ho4⟩
                  refine hK _ _ ?_
                  clear hK K
                  try simp only [Act.put, List.setIfInBounds_toArray, List.set_cons_zero, List.set_cons_succ]
                  refine wpAny_take (i := 22) (oi := { dst := some 122, op := Go.Op.call { callee := Go.Callee.builtin Go.Builtin.len, args := #[Go.Operand.tmp 121], argTypes := #[33] }, type := 3, pos := "law.go:124", after := #[{ on := 21, ground := Go.Ground.data }, { on := 19, ground := Go.Ground.guard }], guard := some (19, false) }) (v := ?vCB_30) rfl (by kernel_rfl) (by kernel_rfl) (by kernel_rfl) (fun _ _ _ h => h) (Or.inl ⟨by rfl, ?hCB_30⟩) ?rCB_30
                  case hCB_30 => (intro wz; go_simp; try with_reducible rfl)
                  simp only [Act.put, List.setIfInBounds_toArray, List.set_cons_zero, List.set_cons_succ]
                  refine wpAny_ready (rs := [24]) (by kernel_rfl) (by simp) ?_
                  refine AllReady.cons (o := { dst := some 124, op := Go.Op.call { callee := Go.Callee.value (Go.Operand.func 17), args := #[Go.Operand.tmp 123], argTypes := #[23] }, type := 3, pos := "law.go:124", after := #[{ on := 23, ground := Go.Ground.data }, { on := 21, ground := Go.Ground.chain }, { on := 19, ground := Go.Ground.guard }], guard := some (19, false) }) rfl (fun K hK => ?_) AllReady.nil
                  go_simp
                  have hq := len_at w8 q cc 30 sb2 sb2.length ((((rgb.keeps ho1.2.2 id id).keeps ho2.2.2 id id).keeps ho3.2.2 id id).keeps ho4.2.2 id id) rfl
                  refine hq.mono ?_
                  clear hq
                  rintro e w9 ⟨rfl, rfl⟩
                  refine hK _ _ ?_
                  clear hK K
                  try simp only [Act.put, List.setIfInBounds_toArray, List.set_cons_zero, List.set_cons_succ]
                  refine wpAny_take (i := 25) (oi := { dst := some 125, op := Go.Op.binOp Go.BinOp.neq 3 (Go.Operand.tmp 122) (Go.Operand.tmp 124) 3, type := 4, pos := "law.go:124", after := #[{ on := 22, ground := Go.Ground.data }, { on := 24, ground := Go.Ground.data }, { on := 19, ground := Go.Ground.guard }], guard := some (19, false) }) (v := ?vCB_31) rfl (by kernel_rfl) (by kernel_rfl) (by kernel_rfl) (fun _ _ _ h => h) (Or.inl ⟨by rfl, ?hCB_31⟩) ?rCB_31
                  case hCB_31 => (intro wz; go_simp; try with_reducible rfl)
                  simp only [Act.put, List.setIfInBounds_toArray, List.set_cons_zero, List.set_cons_succ]
                  refine wpAny_take (i := 26) (oi := { dst := some 126, op := Go.Op.pick (Go.Operand.tmp 119) (Go.Operand.const (Go.Value.bool true)) (Go.Operand.tmp 125), type := 4, pos := "law.go:124", after := #[{ on := 19, ground := Go.Ground.data }, { on := 25, ground := Go.Ground.data }], guard := none }) (v := ?vCB_32) rfl (by kernel_rfl) (by kernel_rfl) (by kernel_rfl) (fun _ _ _ h => h) (Or.inl ⟨by rfl, ?hCB_32⟩) ?rCB_32
                  case hCB_32 => (intro wz; go_simp; try with_reducible rfl)
                  simp only [Act.put, List.setIfInBounds_toArray, List.set_cons_zero, List.set_cons_succ]
                  refine wpAny_done (by kernel_rfl) ?_ _
                  have HF := Lib.hid (hp3.out.still (((ho1.2.2.drew_of.trans ho2.2.2).trans ho3.2.2).trans ho4.2.2))
                  go_wp2_with fail
                  go_roundw
                  case rel => first | exact ⟨k + 1, sa2, sb2, rfl, by omega, HF⟩ | ((repeat apply Exists.intro); exact ⟨⟨k + 1, sa2, sb2, rfl, by omega, HF⟩, by and_intros <;> first | rfl | simp⟩)
                  case measure => simp [intOf]; omega
                · skip
                  refine step_string (by rfl) (.tmp 108) 33 9 rfl 5 Try.underlying33 Try.underlying5 Try.underlying9 _ _ _ _ tn rfl ho2.slice DN.out ?_
                  refine hK _ _ ?_
                  clear hK K
                  try simp only [Act.put, List.setIfInBounds_toArray, List.set_cons_zero, List.set_cons_succ]
                  refine wpAny_ready (rs := [4]) (by kernel_rfl) (by simp) ?_
                  refine AllReady.cons (o := { dst := some 104, op := Go.Op.convert 33 9 (Go.Operand.tmp 103), type := 9, pos := "law.go:124", after := #[{ on := 3, ground := Go.Ground.data }], guard := none }) rfl (fun K hK => ?_) AllReady.nil
                  refine step_string (by rfl) (.tmp 103) 33 9 rfl 5 Try.underlying33 Try.underlying5 Try.underlying9 _ _ _ _ tn rfl (show SliceOf _ _ na (sa2.take na) from by first | exact ho1.slice | exact ho1.slice.keeps ho2.2.2 (fun _ _ h => h)) DN.out ?_
                  refine hK _ _ ?_
                  clear hK K
                  try simp only [Act.put, List.setIfInBounds_toArray, List.set_cons_zero, List.set_cons_succ]
                  refine wpAny_take (i := 10) (oi := { dst := some 110, op := Go.Op.binOp Go.BinOp.neq 9 (Go.Operand.tmp 104) (Go.Operand.tmp 109) 9, type := 4, pos := "law.go:124", after := #[{ on := 4, ground := Go.Ground.data }, { on := 9, ground := Go.Ground.data }], guard := none }) (v := ?vCB_33) rfl (by kernel_rfl) (by kernel_rfl) (by kernel_rfl) (fun _ _ _ h => h) (Or.inl ⟨by rfl, ?hCB_33⟩) ?rCB_33
                  case hCB_33 => (intro wz; go_simp; try with_reducible rfl)
                  simp only [Act.put, List.setIfInBounds_toArray, List.set_cons_zero, List.set_cons_succ]
                  refine wpAny_take (i := 11) (oi := { dst := some 111, op := Go.Op.move (Go.Operand.tmp 110), type := 4, pos := "law.go:124", after := #[{ on := 10, ground := Go.Ground.data }, { on := 8, ground := Go.Ground.chain }], guard := none }) (v := ?vCB_34) rfl (by kernel_rfl) (by kernel_rfl) (by kernel_rfl) (fun _ _ _ h => h) (Or.inl ⟨by rfl, ?hCB_34⟩) ?rCB_34
                  case hCB_34 => (intro wz; go_simp; try with_reducible rfl)
                  simp only [Act.put, List.setIfInBounds_toArray, List.set_cons_zero, List.set_cons_succ]
                  refine wpAny_take (i := 12) (oi := { dst := some 112, op := Go.Op.move (Go.Operand.tmp 5), type := 23, pos := "law.go:124", after := #[{ on := 11, ground := Go.Ground.guard }], guard := some (11, false) }) (v := ?vCB_35) rfl (by kernel_rfl) (by kernel_rfl) (by kernel_rfl) (fun _ _ _ h => h) (Or.inl ⟨by rfl, ?hCB_35⟩) ?rCB_35
                  case hCB_35 => (intro wz; go_simp; try with_reducible rfl)
                  simp only [Act.put, List.setIfInBounds_toArray, List.set_cons_zero, List.set_cons_succ]
                  refine wpAny_take (i := 15) (oi := { dst := some 115, op := Go.Op.move (Go.Operand.tmp 5), type := 23, pos := "law.go:124", after := #[{ on := 11, ground := Go.Ground.guard }], guard := some (11, false) }) (v := ?vCB_36) rfl (by kernel_rfl) (by kernel_rfl) (by kernel_rfl) (fun _ _ _ h => h) (Or.inl ⟨by rfl, ?hCB_36⟩) ?rCB_36
                  case hCB_36 => (intro wz; go_simp; try with_reducible rfl)
                  simp only [Act.put, List.setIfInBounds_toArray, List.set_cons_zero, List.set_cons_succ]
                  refine wpAny_ready (rs := [13]) (by kernel_rfl) (by simp) ?_
                  refine AllReady.cons (o := { dst := some 113, op := Go.Op.call { callee := Go.Callee.value (Go.Operand.func 13), args := #[Go.Operand.tmp 112, Go.Operand.const (Go.Value.int Go.IntKind.i64 100)], argTypes := #[23, 3] }, type := 33, pos := "law.go:124", after := #[{ on := 12, ground := Go.Ground.data }, { on := 11, ground := Go.Ground.chain }, { on := 11, ground := Go.Ground.guard }], guard := some (11, false) }) rfl (fun K hK => ?_) AllReady.nil
                  go_simp
                  have hq := peek_at w5 p bb 20 sa2.length sa2 100 ((rga.keeps ho1.2.2 id id).keeps ho2.2.2 id id) (by omega)
                  refine hq.mono ?_
                  clear hq
                  rintro e w6 ⟨rfl, ho3⟩
                  refine hK _ _ ?_
                  clear hK K
                  try simp only [Act.put, List.setIfInBounds_toArray, List.set_cons_zero, List.set_cons_succ]
                  refine wpAny_take (i := 14) (oi := { dst := some 114, op := Go.Op.call { callee := Go.Callee.builtin Go.Builtin.len, args := #[Go.Operand.tmp 113], argTypes := #[33] }, type := 3, pos := "law.go:124", after := #[{ on := 13, ground := Go.Ground.data }, { on := 11, ground := Go.Ground.guard }], guard := some (11, false) }) (v := ?vCB_37) rfl (by kernel_rfl) (by kernel_rfl) (by kernel_rfl) (fun _ _ _ h => h) (Or.inl ⟨by rfl, ?hCB_37⟩) ?rCB_37
                  case hCB_37 => (intro wz; go_simp; try with_reducible rfl)
                  simp only [Act.put, List.setIfInBounds_toArray, List.set_cons_zero, List.set_cons_succ]
                  refine wpAny_ready (rs := [16]) (by kernel_rfl) (by simp) ?_
                  refine AllReady.cons (o := { dst := some 116, op := Go.Op.call { callee := Go.Callee.value (Go.Operand.func 17), args := #[Go.Operand.tmp 115], argTypes := #[23] }, type := 3, pos := "law.go:124", after := #[{ on := 15, ground := Go.Ground.data }, { on := 13, ground := Go.Ground.chain }, { on := 11, ground := Go.Ground.guard }], guard := some (11, false) }) rfl (fun K hK => ?_) AllReady.nil
                  go_simp
                  have hq := len_at w6 p bb 20 sa2 sa2.length (((rga.keeps ho1.2.2 id id).keeps ho2.2.2 id id).keeps ho3.2.2 id id) rfl
                  refine hq.mono ?_
                  clear hq
                  rintro e w7 ⟨rfl, rfl⟩
                  refine hK _ _ ?_
                  clear hK K
                  try simp only [Act.put, List.setIfInBounds_toArray, List.set_cons_zero, List.set_cons_succ]
                  refine wpAny_take (i := 17) (oi := { dst := some 117, op := Go.Op.binOp Go.BinOp.neq 3 (Go.Operand.tmp 114) (Go.Operand.tmp 116) 3, type := 4, pos := "law.go:124", after := #[{ on := 14, ground := Go.Ground.data }, { on := 16, ground := Go.Ground.data }, { on := 11, ground := Go.Ground.guard }], guard := some (11, false) }) (v := ?vCB_38) rfl (by kernel_rfl) (by kernel_rfl) (by kernel_rfl) (fun _ _ _ h => h) (Or.inl ⟨by rfl, ?hCB_38⟩) ?rCB_38
                  case hCB_38 => (intro wz; go_simp; try with_reducible rfl)
                  simp only [Act.put, List.setIfInBounds_toArray, List.set_cons_zero, List.set_cons_succ]
                  refine wpAny_take (i := 18) (oi := { dst := some 118, op := Go.Op.pick (Go.Operand.tmp 111) (Go.Operand.const (Go.Value.bool true)) (Go.Operand.tmp 117), type := 4, pos := "law.go:124", after := #[{ on := 11, ground := Go.Ground.data }, { on := 17, ground := Go.Ground.data }], guard := none }) (v := ?vCB_39) rfl (by kernel_rfl) (by kernel_rfl) (by kernel_rfl) (fun _ _ _ h => h) (Or.inl ⟨by rfl, ?hCB_39⟩) ?rCB_39
                  case hCB_39 => (intro wz; go_simp; try with_reducible rfl)
                  simp only [Act.put, List.setIfInBounds_toArray, List.set_cons_zero, List.set_cons_succ]
                  refine wpAny_take (i := 19) (oi := { dst := some 119, op := Go.Op.move (Go.Operand.tmp 118), type := 4, pos := "law.go:124", after := #[{ on := 18, ground := Go.Ground.data }, { on := 16, ground := Go.Ground.chain }], guard := none }) (v := ?vCB_40) rfl (by kernel_rfl) (by kernel_rfl) (by kernel_rfl) (fun _ _ _ h => h) (Or.inl ⟨by rfl, ?hCB_40⟩) ?rCB_40
                  case hCB_40 => (intro wz; go_simp; try with_reducible rfl)
                  simp only [Act.put, List.setIfInBounds_toArray, List.set_cons_zero, List.set_cons_succ]
                  refine wpAny_take (i := 20) (oi := { dst := some 120, op := Go.Op.move (Go.Operand.tmp 7), type := 23, pos := "law.go:124", after := #[{ on := 19, ground := Go.Ground.guard }], guard := some (19, false) }) (v := ?vCB_41) rfl (by kernel_rfl) (by kernel_rfl) (by kernel_rfl) (fun _ _ _ h => h) (Or.inl ⟨by rfl, ?hCB_41⟩) ?rCB_41
                  case hCB_41 => (intro wz; go_simp; try with_reducible rfl)
                  simp only [Act.put, List.setIfInBounds_toArray, List.set_cons_zero, List.set_cons_succ]
                  refine wpAny_take (i := 23) (oi := { dst := some 123, op := Go.Op.move (Go.Operand.tmp 7), type := 23, pos := "law.go:124", after := #[{ on := 19, ground := Go.Ground.guard }], guard := some (19, false) }) (v := ?vCB_42) rfl (by kernel_rfl) (by kernel_rfl) (by kernel_rfl) (fun _ _ _ h => h) (Or.inl ⟨by rfl, ?hCB_42⟩) ?rCB_42
                  case hCB_42 => (intro wz; go_simp; try with_reducible rfl)
                  simp only [Act.put, List.setIfInBounds_toArray, List.set_cons_zero, List.set_cons_succ]
                  refine wpAny_ready (rs := [21]) (by kernel_rfl) (by simp) ?_
                  refine AllReady.cons (o := { dst := some 121, op := Go.Op.call { callee := Go.Callee.value (Go.Operand.func 13), args := #[Go.Operand.tmp 120, Go.Operand.const (Go.Value.int Go.IntKind.i64 100)], argTypes := #[23, 3] }, type := 33, pos := "law.go:124", after := #[{ on := 20, ground := Go.Ground.data }, { on := 19, ground := Go.Ground.chain }, { on := 19, ground := Go.Ground.guard }], guard := some (19, false) }) rfl (fun K hK => ?_) AllReady.nil
                  go_simp
                  have hq := peek_at w6 q cc 30 sb2.length sb2 100 (((rgb.keeps ho1.2.2 id id).keeps ho2.2.2 id id).keeps ho3.2.2 id id) (by omega)
                  refine hq.mono ?_
                  clear hq
                  rintro e w8 ⟨rfl, ho4⟩
                  refine hK _ _ ?_
                  clear hK K
                  try simp only [Act.put, List.setIfInBounds_toArray, List.set_cons_zero, List.set_cons_succ]
                  refine wpAny_take (i := 22) (oi := { dst := some 122, op := Go.Op.call { callee := Go.Callee.builtin Go.Builtin.len, args := #[Go.Operand.tmp 121], argTypes := #[33] }, type := 3, pos := "law.go:124", after := #[{ on := 21, ground := Go.Ground.data }, { on := 19, ground := Go.Ground.guard }], guard := some (19, false) }) (v := ?vCB_43) rfl (by kernel_rfl) (by kernel_rfl) (by kernel_rfl) (fun _ _ _ h => h) (Or.inl ⟨by rfl, ?hCB_43⟩) ?rCB_43
                  case hCB_43 => (intro wz; go_simp; try with_reducible rfl)
                  simp only [Act.put, List.setIfInBounds_toArray, List.set_cons_zero, List.set_cons_succ]
                  refine wpAny_ready (rs := [24]) (by kernel_rfl) (by simp) ?_
                  refine AllReady.cons (o := { dst := some 124, op := Go.Op.call { callee := Go.Callee.value (Go.Operand.func 17), args := #[Go.Operand.tmp 123], argTypes := #[23] }, type := 3, pos := "law.go:124", after := #[{ on := 23, ground := Go.Ground.data }, { on := 21, ground := Go.Ground.chain }, { on := 19, ground := Go.Ground.guard }], guard := some (19, false) }) rfl (fun K hK => ?_) AllReady.nil
                  go_simp
                  have hq := len_at w8 q cc 30 sb2 sb2.length ((((rgb.keeps ho1.2.2 id id).keeps ho2.2.2 id id).keeps ho3.2.2 id id).keeps ho4.2.2 id id) rfl
                  refine hq.mono ?_
                  clear hq
                  rintro e w9 ⟨rfl, rfl⟩
                  refine hK _ _ ?_
                  clear hK K
                  try simp only [Act.put, List.setIfInBounds_toArray, List.set_cons_zero, List.set_cons_succ]
                  refine wpAny_take (i := 25) (oi := { dst := some 125, op := Go.Op.binOp Go.BinOp.neq 3 (Go.Operand.tmp 122) (Go.Operand.tmp 124) 3, type := 4, pos := "law.go:124", after := #[{ on := 22, ground := Go.Ground.data }, { on := 24, ground := Go.Ground.data }, { on := 19, ground := Go.Ground.guard }], guard := some (19, false) }) (v := ?vCB_44) rfl (by kernel_rfl) (by kernel_rfl) (by kernel_rfl) (fun _ _ _ h => h) (Or.inl ⟨by rfl, ?hCB_44⟩) ?rCB_44
                  case hCB_44 => (intro wz; go_simp; try with_reducible rfl)
                  simp only [Act.put, List.setIfInBounds_toArray, List.set_cons_zero, List.set_cons_succ]
                  refine wpAny_take (i := 26) (oi := { dst := some 126, op := Go.Op.pick (Go.Operand.tmp 119) (Go.Operand.const (Go.Value.bool true)) (Go.Operand.tmp 125), type := 4, pos := "law.go:124", after := #[{ on := 19, ground := Go.Ground.data }, { on := 25, ground := Go.Ground.data }], guard := none }) (v := ?vCB_45) rfl (by kernel_rfl) (by kernel_rfl) (by kernel_rfl) (fun _ _ _ h => h) (Or.inl ⟨by rfl, ?hCB_45⟩) ?rCB_45
                  case hCB_45 => (intro wz; go_simp; try with_reducible rfl)
                  simp only [Act.put, List.setIfInBounds_toArray, List.set_cons_zero, List.set_cons_succ]
                  refine wpAny_done (by kernel_rfl) ?_ _
                  have HF := Lib.hid (hp3.out.still (((ho1.2.2.drew_of.trans ho2.2.2).trans ho3.2.2).trans ho4.2.2))
                  go_wp2_with fail
                  go_roundw
                  case rel => first | exact ⟨k + 1, sa2, sb2, rfl, by omega, HF⟩ | ((repeat apply Exists.intro); exact ⟨⟨k + 1, sa2, sb2, rfl, by omega, HF⟩, by and_intros <;> first | rfl | simp⟩)
                  case measure => simp [intOf]; omega
    · go_wp2_with fail
      go_ret
      exact ⟨rfl, hp.out.2.2.1.below'⟩
end Go.Proofs.Ytmioglkibjmmfaa
