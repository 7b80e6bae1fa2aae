/- The walk of RingPlays. -/
import Derived.Test.YtmioglkibjmmfaaPlays0
import Derived.LoopTactic
import Derived.RegionTactic
import Derived.Deep.CutBlock
namespace Go.Proofs.Ytmioglkibjmmfaa
open Go.RowKit

/-- A slice of acts that came in: its elements. -/
def Acts (w : World) (A : Option Addr) (len : Nat) : Prop :=
  0 < len → ∃ g off, A = some ⟨g, off, none⟩ ∧ g < w.heap.size ∧ ∀ j, j < len → ∃ (kd N : Int) (s : ByteArray), (Lit.int .i64 N).wf = true ∧
    w.cell? ⟨g, off + j * 3, none⟩ = some (.int .i64 kd) ∧ w.cell? ⟨g, off + j * 3 + 1, none⟩ = some (.int .i64 N) ∧ w.cell? ⟨g, off + j * 3 + 2, none⟩ = some (.string s)

theorem heap_new (w : World) (o : Obj) : (w.alloc o).heap[w.heap.size]? = some o := by show (w.heap.push o)[w.heap.size]? = some o; simp

/-- The loop's relation. -/
def Play (w wr : World) (p bb m : Nat) (x i : Value) : Prop := ∃ (k : Nat) (s : ByteArray), i = .int .i64 k ∧ k ≤ 60 ∧ x = .string s ∧ Hid (RingAt wr p bb m s.data.toList) ∧ Hid (Still w wr)
theorem play {w wr : World} {p bb m : Nat} {x i : Value} (k : Nat) (s : ByteArray) (h1 : i = .int .i64 k) (h2 : k ≤ 60) (h3 : x = .string s) (h4 : Hid (RingAt wr p bb m s.data.toList)) (h5 : Hid (Still w wr)) : Play w wr p bb m x i := ⟨k, s, h1, h2, h3, h4, h5⟩

set_option maxRecDepth 100000 in
set_option maxHeartbeats 8000000 in
theorem ringPlays_good (m : Nat) (A : Option Addr) (len cap : Nat) (w : World) (h1 : 1 ≤ m) (h2 : m ≤ 65536) (hT : Acts w A len) :
    Calls Try.prog 3 #[.int .i64 m, .slice A len cap] w fun e w' => e = .returned (.bool true) ∧ Below w.heap.size w w' := by
  go_enter Try.func3, Try.ntmps3
  go_wp2_with fail
  have hq := new_at w m m rfl h1 h2
  refine hq.mono ?_
  clear hq
  rintro e w1 ⟨p, bb, rfl, hr, hk1, g1, g2⟩
  go_wp2_with fail
  refine (awake_any _).mono ?_
  rintro e w2 ⟨rfl, hk2⟩
  have HR := Lib.hid (hr.keeps hk2 id id)
  have HK := Lib.hid (hk1.trans hk2)
  clear hr hk1 hk2
  go_wp2_with fail
  go_loopw [7, 8] (fun x i wr => Play w wr p bb m x i) (fun _ i _ => 60 - (intOf i).toNat)
  case atStart => exact play 0 ⟨#[]⟩ rfl (by omega) rfl HR HK
  case round =>
    obtain ⟨k, s, rfl, hk60, rfl, hra, hst⟩ := hrel
    by_cases hgo : k < len ∧ k < 60
    · obtain ⟨hlt, hlt2⟩ := hgo
      obtain ⟨g, off, rfl, hg, hcell⟩ := hT (by omega)
      obtain ⟨kd, N, t, hN, c0, c1, c2⟩ := hcell k hlt
      replace c0 := hst.out.cell c0 id
      replace c1 := hst.out.cell c1 id
      replace c2 := hst.out.cell c2 id
      clear hcell
      go_upto_block 2 with fail
      have hb : ∀ S, Keeps S wr (wr.alloc (.cells #[.int .i64 kd, .int .i64 N, .string t] 29 (0, 0))) := fun S => (Keeps.refl S wr).alloc _
      go_cut [7, 8] from 43 to 129 (fun x i w' => i = .int .i64 k ∧ ∃ s' : ByteArray, x = .string s' ∧ Hid (RingAt w' p bb m s'.data.toList) ∧ Hid (Still w w'))
      case first =>
        have hbx : (wr.alloc (.cells #[.int .i64 kd, .int .i64 N, .string t] 29 (0, 0))).heap[wr.heap.size]? = some (.cells #[.int .i64 kd, .int .i64 N, .string t] 29 (0, 0)) := heap_new _ _
        obtain ⟨b0, b1, b2, f0, f1, f2⟩ := cells3 hbx
        have hk3 := hb (fun _ => False)
        clear hbx hb
        generalize wr.alloc (.cells #[.int .i64 kd, .int .i64 N, .string t] 29 (0, 0)) = w3 at b0 b1 b2 f0 f1 f2 hk3 ⊢
        have hr3 := Lib.hid (hra.out.keeps hk3 id id)
        have hst3 := Lib.hid (hst.out.trans hk3)
        clear hk3 c0 c1 c2 hra hst HR HK hT
        have hle2 : s.size ≤ m := by rw [← len_data]; exact hr3.out.le.1
        have HL := Lib.hid (len_data s)
        by_cases hA : kd = 0 ∧ t.size ≤ 100
        · obtain ⟨rfl, ht⟩ := hA
          go_wp2_with fail
          have hq := ref_put w3 s t m hle2 h2 ht
          refine hq.mono ?_
          clear hq
          rintro e w4 ⟨sn, rfl, hsn, rfl⟩
          have HSN := Lib.hid hsn
          clear hsn
          go_wp2_with (with_reducible refine wpList_bytes (o := ⟨some 79, _, _, _, _, _⟩) rfl _ _ _ rfl 5 Try.underlying9 Try.underlying33 Try.underlying5 t rfl ?_; intro w4 c hk4 hz4 hc4 hs4 hf4)
          have hlt1 := hr3.out.lt
          have hq := put_at w4 p bb m s.data.toList t.data.toList sn.data.toList _ t.size c (min t.size (m - s.size)) (hr3.out.keeps hk4 id id) hs4 hc4 (by intro ad h; cases h; simp; omega) (by rw [HL.out]) (by rw [HSN.out, HL.out])
          refine hq.mono ?_
          clear hq
          rintro e w5 ⟨rfl, hr5, hk5⟩
          have hS1 : ∀ i, i < w.heap.size → ¬ (i = p ∨ i = bb) := by intro i hi; omega
          have H1 := Lib.hid hr5
          have H2 := Lib.hid ((hst3.out.trans hk4).on hk5 hS1)
          clear hr5 hS1 hlt1
          go_wp2_with fail
          go_meet
          case rel => exact ⟨rfl, sn, rfl, H1, H2⟩
        · by_cases hB : kd = 1
          · subst hB
            obtain ⟨nn, hnn⟩ : ∃ nn, nn = min N.toNat s.size := ⟨_, rfl⟩
            obtain ⟨tn, htn⟩ : ∃ q : ByteArray, q = ⟨(s.data.toList.take nn).toArray⟩ := ⟨_, rfl⟩
            have DN := Lib.hid (show tn.data.toList = s.data.toList.take nn by rw [htn])
            have HN := Lib.hid hnn
            clear htn hnn
            go_wp2_with fail
            refine wp_region_any (by kernel_rfl) ?_
            change wpAny _ _ _ _ _ _ _ (World.drew _)
            refine wpAny_take (i := 0) (oi := { dst := some 87, op := Go.Op.move (Go.Operand.tmp 5), type := 23, pos := "law.go:42", after := #[], guard := none }) (v := ?vCA_1) rfl (by kernel_rfl) (by kernel_rfl) (by kernel_rfl) (fun _ _ _ h => h) (Or.inl ⟨by rfl, ?hCA_1⟩) ?rCA_1
            case hCA_1 => (intro wz; go_simp; try with_reducible rfl)
            simp only [Act.put, List.setIfInBounds_toArray, List.set_cons_zero, List.set_cons_succ]
            refine wpAny_take (i := 1) (oi := { dst := some 88, op := Go.Op.fieldAddr 29 (Go.Operand.tmp 9) 1, type := 0, pos := "law.go:42", after := #[], guard := none }) (v := ?vCA_2) rfl (by kernel_rfl) (by kernel_rfl) (by kernel_rfl) (fun _ _ _ h => h) (Or.inl ⟨by rfl, ?hCA_2⟩) ?rCA_2
            case hCA_2 => (intro wz; go_simp; try with_reducible rfl)
            simp only [Act.put, List.setIfInBounds_toArray, List.set_cons_zero, List.set_cons_succ]
            refine wpAny_take (i := 5) (oi := { dst := some 92, op := Go.Op.move (Go.Operand.tmp 7), type := 9, pos := "law.go:42", after := #[], guard := none }) (v := ?vCA_3) rfl (by kernel_rfl) (by kernel_rfl) (by kernel_rfl) (fun _ _ _ h => h) (Or.inl ⟨by rfl, ?hCA_3⟩) ?rCA_3
            case hCA_3 => (intro wz; go_simp; try with_reducible rfl)
            simp only [Act.put, List.setIfInBounds_toArray, List.set_cons_zero, List.set_cons_succ]
            refine wpAny_take (i := 6) (oi := { dst := some 93, op := Go.Op.fieldAddr 29 (Go.Operand.tmp 9) 1, type := 0, pos := "law.go:42", after := #[], guard := none }) (v := ?vCA_4) rfl (by kernel_rfl) (by kernel_rfl) (by kernel_rfl) (fun _ _ _ h => h) (Or.inl ⟨by rfl, ?hCA_4⟩) ?rCA_4
            case hCA_4 => (intro wz; go_simp; try with_reducible rfl)
            simp only [Act.put, List.setIfInBounds_toArray, List.set_cons_zero, List.set_cons_succ]
            refine wpAny_ready (rs := [2, 7]) (by kernel_rfl) (by simp) ?_
            refine AllReady.cons (o := { dst := some 89, op := Go.Op.load 3 (Go.Operand.tmp 88), type := 3, pos := "law.go:42", after := #[{ on := 1, ground := Go.Ground.data }], guard := none }) rfl (fun K hK => ?_) (AllReady.cons (o := { dst := some 94, op := Go.Op.load 3 (Go.Operand.tmp 93), type := 3, pos := "law.go:42", after := #[{ on := 6, ground := Go.Ground.data }], guard := none }) rfl (fun K hK => ?_) (AllReady.nil))
            · skip
              go_simp
              refine hK _ _ ?_
              clear hK K
              try simp only [Act.put, List.setIfInBounds_toArray, List.set_cons_zero, List.set_cons_succ]
              refine wpAny_ready (rs := [3, 7]) (by kernel_rfl) (by simp) ?_
              refine AllReady.cons (o := { dst := some 90, op := Go.Op.call { callee := Go.Callee.value (Go.Operand.func 13), args := #[Go.Operand.tmp 87, Go.Operand.tmp 89], argTypes := #[23, 3] }, type := 33, pos := "law.go:42", after := #[{ on := 0, ground := Go.Ground.data }, { on := 2, ground := Go.Ground.data }], guard := none }) rfl (fun K hK => ?_) (AllReady.cons (o := { dst := some 94, op := Go.Op.load 3 (Go.Operand.tmp 93), type := 3, pos := "law.go:42", after := #[{ on := 6, ground := Go.Ground.data }], guard := none }) rfl (fun K hK => ?_) (AllReady.nil))
              · skip
                go_simp
                have hq := peek_at w3.drew p bb m nn s.data.toList N hr3.out (by rw [HN.out, HL.out])
                refine hq.mono ?_
                clear hq
                rintro e w4 ⟨rfl, ho1⟩
                have b1' := ho1.2.2.cell (p := ⟨wr.heap.size, 1, none⟩) b1 id
                refine hK _ _ ?_
                clear hK K
                try simp only [Act.put, List.setIfInBounds_toArray, List.set_cons_zero, List.set_cons_succ]
                refine wpAny_ready (rs := [4, 7]) (by kernel_rfl) (by simp) ?_
                refine AllReady.cons (o := { dst := some 91, op := Go.Op.convert 33 9 (Go.Operand.tmp 90), type := 9, pos := "law.go:42", after := #[{ on := 3, ground := Go.Ground.data }], guard := none }) rfl (fun K hK => ?_) (AllReady.cons (o := { dst := some 94, op := Go.Op.load 3 (Go.Operand.tmp 93), type := 3, pos := "law.go:42", after := #[{ on := 6, ground := Go.Ground.data }], guard := none }) rfl (fun K hK => ?_) (AllReady.nil))
                · skip
                  refine step_string (by rfl) (.tmp 90) 33 9 rfl 5 Try.underlying33 Try.underlying5 Try.underlying9 _ _ _ _ tn rfl ho1.slice DN.out ?_
                  refine hK _ _ ?_
                  clear hK K
                  try simp only [Act.put, List.setIfInBounds_toArray, List.set_cons_zero, List.set_cons_succ]
                  refine wpAny_ready (rs := [7]) (by kernel_rfl) (by simp) ?_
                  refine AllReady.cons (o := { dst := some 94, op := Go.Op.load 3 (Go.Operand.tmp 93), type := 3, pos := "law.go:42", after := #[{ on := 6, ground := Go.Ground.data }], guard := none }) rfl (fun K hK => ?_) AllReady.nil
                  go_simp
                  refine hK _ _ ?_
                  clear hK K
                  try simp only [Act.put, List.setIfInBounds_toArray, List.set_cons_zero, List.set_cons_succ]
                  refine wpAny_ready (rs := [8]) (by kernel_rfl) (by simp) ?_
                  refine AllReady.cons (o := { dst := some 95, op := Go.Op.call { callee := Go.Callee.value (Go.Operand.func 14), args := #[Go.Operand.tmp 92, Go.Operand.tmp 94], argTypes := #[9, 3] }, type := 9, pos := "law.go:42", after := #[{ on := 5, ground := Go.Ground.data }, { on := 7, ground := Go.Ground.data }, { on := 3, ground := Go.Ground.chain }], guard := none }) rfl (fun K hK => ?_) AllReady.nil
                  go_simp
                  first
                  | have hq := ref_peek w4 s N
                  | have hq := ref_peek w3.drew s N
                  refine hq.mono ?_
                  clear hq
                  rintro e w5 ⟨tq, rfl, hq, rfl⟩
                  obtain rfl : tn = tq := (data_ext (by rw [hq, DN.out, HN.out])).symm
                  clear hq
                  refine hK _ _ ?_
                  clear hK K
                  try simp only [Act.put, List.setIfInBounds_toArray, List.set_cons_zero, List.set_cons_succ]
                  refine wpAny_take (i := 9) (oi := { dst := some 96, op := Go.Op.binOp Go.BinOp.neq 9 (Go.Operand.tmp 91) (Go.Operand.tmp 95) 9, type := 4, pos := "law.go:42", after := #[{ on := 4, ground := Go.Ground.data }, { on := 8, ground := Go.Ground.data }], guard := none }) (v := ?vCA_5) rfl (by kernel_rfl) (by kernel_rfl) (by kernel_rfl) (fun _ _ _ h => h) (Or.inl ⟨by rfl, ?hCA_5⟩) ?rCA_5
                  case hCA_5 => (intro wz; go_simp; try with_reducible rfl)
                  simp only [Act.put, List.setIfInBounds_toArray, List.set_cons_zero, List.set_cons_succ]
                  refine wpAny_done (by kernel_rfl) ?_ _
                  have H1 := Lib.hid (hr3.out.keeps (show Still w3 w4 from ho1.2.2.drew_of) id id)
                  have H2 := Lib.hid (hst3.out.trans (show Still w3 w4 from ho1.2.2.drew_of))
                  go_wp2_with fail
                  go_meet
                  case rel => exact ⟨rfl, s, rfl, H1, H2⟩
                · skip
                  go_simp
                  refine hK _ _ ?_
                  clear hK K
                  try simp only [Act.put, List.setIfInBounds_toArray, List.set_cons_zero, List.set_cons_succ]
                  refine wpAny_ready (rs := [4, 8]) (by kernel_rfl) (by simp) ?_
                  refine AllReady.cons (o := { dst := some 91, op := Go.Op.convert 33 9 (Go.Operand.tmp 90), type := 9, pos := "law.go:42", after := #[{ on := 3, ground := Go.Ground.data }], guard := none }) rfl (fun K hK => ?_) (AllReady.cons (o := { dst := some 95, op := Go.Op.call { callee := Go.Callee.value (Go.Operand.func 14), args := #[Go.Operand.tmp 92, Go.Operand.tmp 94], argTypes := #[9, 3] }, type := 9, pos := "law.go:42", after := #[{ on := 5, ground := Go.Ground.data }, { on := 7, ground := Go.Ground.data }, { on := 3, ground := Go.Ground.chain }], guard := none }) rfl (fun K hK => ?_) (AllReady.nil))
                  · skip
                    refine step_string (by rfl) (.tmp 90) 33 9 rfl 5 Try.underlying33 Try.underlying5 Try.underlying9 _ _ _ _ tn rfl ho1.slice DN.out ?_
                    refine hK _ _ ?_
                    clear hK K
                    try simp only [Act.put, List.setIfInBounds_toArray, List.set_cons_zero, List.set_cons_succ]
                    refine wpAny_ready (rs := [8]) (by kernel_rfl) (by simp) ?_
                    refine AllReady.cons (o := { dst := some 95, op := Go.Op.call { callee := Go.Callee.value (Go.Operand.func 14), args := #[Go.Operand.tmp 92, Go.Operand.tmp 94], argTypes := #[9, 3] }, type := 9, pos := "law.go:42", after := #[{ on := 5, ground := Go.Ground.data }, { on := 7, ground := Go.Ground.data }, { on := 3, ground := Go.Ground.chain }], guard := none }) rfl (fun K hK => ?_) AllReady.nil
                    go_simp
                    first
                    | have hq := ref_peek w4 s N
                    | have hq := ref_peek w3.drew s N
                    refine hq.mono ?_
                    clear hq
                    rintro e w5 ⟨tq, rfl, hq, rfl⟩
                    obtain rfl : tn = tq := (data_ext (by rw [hq, DN.out, HN.out])).symm
                    clear hq
                    refine hK _ _ ?_
                    clear hK K
                    try simp only [Act.put, List.setIfInBounds_toArray, List.set_cons_zero, List.set_cons_succ]
                    refine wpAny_take (i := 9) (oi := { dst := some 96, op := Go.Op.binOp Go.BinOp.neq 9 (Go.Operand.tmp 91) (Go.Operand.tmp 95) 9, type := 4, pos := "law.go:42", after := #[{ on := 4, ground := Go.Ground.data }, { on := 8, ground := Go.Ground.data }], guard := none }) (v := ?vCA_6) rfl (by kernel_rfl) (by kernel_rfl) (by kernel_rfl) (fun _ _ _ h => h) (Or.inl ⟨by rfl, ?hCA_6⟩) ?rCA_6
                    case hCA_6 => (intro wz; go_simp; try with_reducible rfl)
                    simp only [Act.put, List.setIfInBounds_toArray, List.set_cons_zero, List.set_cons_succ]
                    refine wpAny_done (by kernel_rfl) ?_ _
                    have H1 := Lib.hid (hr3.out.keeps (show Still w3 w4 from ho1.2.2.drew_of) id id)
                    have H2 := Lib.hid (hst3.out.trans (show Still w3 w4 from ho1.2.2.drew_of))
                    go_wp2_with fail
                    go_meet
                    case rel => exact ⟨rfl, s, rfl, H1, H2⟩
                  · skip
                    go_simp
                    first
                    | have hq := ref_peek w4 s N
                    | have hq := ref_peek w3.drew s N
                    refine hq.mono ?_
                    clear hq
                    rintro e w5 ⟨tq, rfl, hq, rfl⟩
                    obtain rfl : tn = tq := (data_ext (by rw [hq, DN.out, HN.out])).symm
                    clear hq
                    refine hK _ _ ?_
                    clear hK K
                    try simp only [Act.put, List.setIfInBounds_toArray, List.set_cons_zero, List.set_cons_succ]
                    refine wpAny_ready (rs := [4]) (by kernel_rfl) (by simp) ?_
                    refine AllReady.cons (o := { dst := some 91, op := Go.Op.convert 33 9 (Go.Operand.tmp 90), type := 9, pos := "law.go:42", after := #[{ on := 3, ground := Go.Ground.data }], guard := none }) rfl (fun K hK => ?_) AllReady.nil
                    refine step_string (by rfl) (.tmp 90) 33 9 rfl 5 Try.underlying33 Try.underlying5 Try.underlying9 _ _ _ _ tn rfl ho1.slice DN.out ?_
                    refine hK _ _ ?_
                    clear hK K
                    try simp only [Act.put, List.setIfInBounds_toArray, List.set_cons_zero, List.set_cons_succ]
                    refine wpAny_take (i := 9) (oi := { dst := some 96, op := Go.Op.binOp Go.BinOp.neq 9 (Go.Operand.tmp 91) (Go.Operand.tmp 95) 9, type := 4, pos := "law.go:42", after := #[{ on := 4, ground := Go.Ground.data }, { on := 8, ground := Go.Ground.data }], guard := none }) (v := ?vCA_7) rfl (by kernel_rfl) (by kernel_rfl) (by kernel_rfl) (fun _ _ _ h => h) (Or.inl ⟨by rfl, ?hCA_7⟩) ?rCA_7
                    case hCA_7 => (intro wz; go_simp; try with_reducible rfl)
                    simp only [Act.put, List.setIfInBounds_toArray, List.set_cons_zero, List.set_cons_succ]
                    refine wpAny_done (by kernel_rfl) ?_ _
                    have H1 := Lib.hid (hr3.out.keeps (show Still w3 w4 from ho1.2.2.drew_of) id id)
                    have H2 := Lib.hid (hst3.out.trans (show Still w3 w4 from ho1.2.2.drew_of))
                    go_wp2_with fail
                    go_meet
                    case rel => exact ⟨rfl, s, rfl, H1, H2⟩
              · skip
                go_simp
                refine hK _ _ ?_
                clear hK K
                try simp only [Act.put, List.setIfInBounds_toArray, List.set_cons_zero, List.set_cons_succ]
                refine wpAny_ready (rs := [3]) (by kernel_rfl) (by simp) ?_
                refine AllReady.cons (o := { dst := some 90, op := Go.Op.call { callee := Go.Callee.value (Go.Operand.func 13), args := #[Go.Operand.tmp 87, Go.Operand.tmp 89], argTypes := #[23, 3] }, type := 33, pos := "law.go:42", after := #[{ on := 0, ground := Go.Ground.data }, { on := 2, ground := Go.Ground.data }], guard := none }) rfl (fun K hK => ?_) AllReady.nil
                go_simp
                have hq := peek_at w3.drew p bb m nn s.data.toList N hr3.out (by rw [HN.out, HL.out])
                refine hq.mono ?_
                clear hq
                rintro e w4 ⟨rfl, ho1⟩
                have b1' := ho1.2.2.cell (p := ⟨wr.heap.size, 1, none⟩) b1 id
                refine hK _ _ ?_
                clear hK K
                try simp only [Act.put, List.setIfInBounds_toArray, List.set_cons_zero, List.set_cons_succ]
                refine wpAny_ready (rs := [4, 8]) (by kernel_rfl) (by simp) ?_
                refine AllReady.cons (o := { dst := some 91, op := Go.Op.convert 33 9 (Go.Operand.tmp 90), type := 9, pos := "law.go:42", after := #[{ on := 3, ground := Go.Ground.data }], guard := none }) rfl (fun K hK => ?_) (AllReady.cons (o := { dst := some 95, op := Go.Op.call { callee := Go.Callee.value (Go.Operand.func 14), args := #[Go.Operand.tmp 92, Go.Operand.tmp 94], argTypes := #[9, 3] }, type := 9, pos := "law.go:42", after := #[{ on := 5, ground := Go.Ground.data }, { on := 7, ground := Go.Ground.data }, { on := 3, ground := Go.Ground.chain }], guard := none }) rfl (fun K hK => ?_) (AllReady.nil))
                · skip
                  refine step_string (by rfl) (.tmp 90) 33 9 rfl 5 Try.underlying33 Try.underlying5 Try.underlying9 _ _ _ _ tn rfl ho1.slice DN.out ?_
                  refine hK _ _ ?_
                  clear hK K
                  try simp only [Act.put, List.setIfInBounds_toArray, List.set_cons_zero, List.set_cons_succ]
                  refine wpAny_ready (rs := [8]) (by kernel_rfl) (by simp) ?_
                  refine AllReady.cons (o := { dst := some 95, op := Go.Op.call { callee := Go.Callee.value (Go.Operand.func 14), args := #[Go.Operand.tmp 92, Go.Operand.tmp 94], argTypes := #[9, 3] }, type := 9, pos := "law.go:42", after := #[{ on := 5, ground := Go.Ground.data }, { on := 7, ground := Go.Ground.data }, { on := 3, ground := Go.Ground.chain }], guard := none }) rfl (fun K hK => ?_) AllReady.nil
                  go_simp
                  first
                  | have hq := ref_peek w4 s N
                  | have hq := ref_peek w3.drew s N
                  refine hq.mono ?_
                  clear hq
                  rintro e w5 ⟨tq, rfl, hq, rfl⟩
                  obtain rfl : tn = tq := (data_ext (by rw [hq, DN.out, HN.out])).symm
                  clear hq
                  refine hK _ _ ?_
                  clear hK K
                  try simp only [Act.put, List.setIfInBounds_toArray, List.set_cons_zero, List.set_cons_succ]
                  refine wpAny_take (i := 9) (oi := { dst := some 96, op := Go.Op.binOp Go.BinOp.neq 9 (Go.Operand.tmp 91) (Go.Operand.tmp 95) 9, type := 4, pos := "law.go:42", after := #[{ on := 4, ground := Go.Ground.data }, { on := 8, ground := Go.Ground.data }], guard := none }) (v := ?vCA_8) rfl (by kernel_rfl) (by kernel_rfl) (by kernel_rfl) (fun _ _ _ h => h) (Or.inl ⟨by rfl, ?hCA_8⟩) ?rCA_8
                  case hCA_8 => (intro wz; go_simp; try with_reducible rfl)
                  simp only [Act.put, List.setIfInBounds_toArray, List.set_cons_zero, List.set_cons_succ]
                  refine wpAny_done (by kernel_rfl) ?_ _
                  have H1 := Lib.hid (hr3.out.keeps (show Still w3 w4 from ho1.2.2.drew_of) id id)
                  have H2 := Lib.hid (hst3.out.trans (show Still w3 w4 from ho1.2.2.drew_of))
                  go_wp2_with fail
                  go_meet
                  case rel => exact ⟨rfl, s, rfl, H1, H2⟩
                · skip
                  go_simp
                  first
                  | have hq := ref_peek w4 s N
                  | have hq := ref_peek w3.drew s N
                  refine hq.mono ?_
                  clear hq
                  rintro e w5 ⟨tq, rfl, hq, rfl⟩
                  obtain rfl : tn = tq := (data_ext (by rw [hq, DN.out, HN.out])).symm
                  clear hq
                  refine hK _ _ ?_
                  clear hK K
                  try simp only [Act.put, List.setIfInBounds_toArray, List.set_cons_zero, List.set_cons_succ]
                  refine wpAny_ready (rs := [4]) (by kernel_rfl) (by simp) ?_
                  refine AllReady.cons (o := { dst := some 91, op := Go.Op.convert 33 9 (Go.Operand.tmp 90), type := 9, pos := "law.go:42", after := #[{ on := 3, ground := Go.Ground.data }], guard := none }) rfl (fun K hK => ?_) AllReady.nil
                  refine step_string (by rfl) (.tmp 90) 33 9 rfl 5 Try.underlying33 Try.underlying5 Try.underlying9 _ _ _ _ tn rfl ho1.slice DN.out ?_
                  refine hK _ _ ?_
                  clear hK K
                  try simp only [Act.put, List.setIfInBounds_toArray, List.set_cons_zero, List.set_cons_succ]
                  refine wpAny_take (i := 9) (oi := { dst := some 96, op := Go.Op.binOp Go.BinOp.neq 9 (Go.Operand.tmp 91) (Go.Operand.tmp 95) 9, type := 4, pos := "law.go:42", after := #[{ on := 4, ground := Go.Ground.data }, { on := 8, ground := Go.Ground.data }], guard := none }) (v := ?vCA_9) rfl (by kernel_rfl) (by kernel_rfl) (by kernel_rfl) (fun _ _ _ h => h) (Or.inl ⟨by rfl, ?hCA_9⟩) ?rCA_9
                  case hCA_9 => (intro wz; go_simp; try with_reducible rfl)
                  simp only [Act.put, List.setIfInBounds_toArray, List.set_cons_zero, List.set_cons_succ]
                  refine wpAny_done (by kernel_rfl) ?_ _
                  have H1 := Lib.hid (hr3.out.keeps (show Still w3 w4 from ho1.2.2.drew_of) id id)
                  have H2 := Lib.hid (hst3.out.trans (show Still w3 w4 from ho1.2.2.drew_of))
                  go_wp2_with fail
                  go_meet
                  case rel => exact ⟨rfl, s, rfl, H1, H2⟩
            · skip
              go_simp
              refine hK _ _ ?_
              clear hK K
              try simp only [Act.put, List.setIfInBounds_toArray, List.set_cons_zero, List.set_cons_succ]
              refine wpAny_ready (rs := [2]) (by kernel_rfl) (by simp) ?_
              refine AllReady.cons (o := { dst := some 89, op := Go.Op.load 3 (Go.Operand.tmp 88), type := 3, pos := "law.go:42", after := #[{ on := 1, ground := Go.Ground.data }], guard := none }) rfl (fun K hK => ?_) AllReady.nil
              go_simp
              refine hK _ _ ?_
              clear hK K
              try simp only [Act.put, List.setIfInBounds_toArray, List.set_cons_zero, List.set_cons_succ]
              refine wpAny_ready (rs := [3]) (by kernel_rfl) (by simp) ?_
              refine AllReady.cons (o := { dst := some 90, op := Go.Op.call { callee := Go.Callee.value (Go.Operand.func 13), args := #[Go.Operand.tmp 87, Go.Operand.tmp 89], argTypes := #[23, 3] }, type := 33, pos := "law.go:42", after := #[{ on := 0, ground := Go.Ground.data }, { on := 2, ground := Go.Ground.data }], guard := none }) rfl (fun K hK => ?_) AllReady.nil
              go_simp
              have hq := peek_at w3.drew p bb m nn s.data.toList N hr3.out (by rw [HN.out, HL.out])
              refine hq.mono ?_
              clear hq
              rintro e w4 ⟨rfl, ho1⟩
              have b1' := ho1.2.2.cell (p := ⟨wr.heap.size, 1, none⟩) b1 id
              refine hK _ _ ?_
              clear hK K
              try simp only [Act.put, List.setIfInBounds_toArray, List.set_cons_zero, List.set_cons_succ]
              refine wpAny_ready (rs := [4, 8]) (by kernel_rfl) (by simp) ?_
              refine AllReady.cons (o := { dst := some 91, op := Go.Op.convert 33 9 (Go.Operand.tmp 90), type := 9, pos := "law.go:42", after := #[{ on := 3, ground := Go.Ground.data }], guard := none }) rfl (fun K hK => ?_) (AllReady.cons (o := { dst := some 95, op := Go.Op.call { callee := Go.Callee.value (Go.Operand.func 14), args := #[Go.Operand.tmp 92, Go.Operand.tmp 94], argTypes := #[9, 3] }, type := 9, pos := "law.go:42", after := #[{ on := 5, ground := Go.Ground.data }, { on := 7, ground := Go.Ground.data }, { on := 3, ground := Go.Ground.chain }], guard := none }) rfl (fun K hK => ?_) (AllReady.nil))
              · skip
                refine step_string (by rfl) (.tmp 90) 33 9 rfl 5 Try.underlying33 Try.underlying5 Try.underlying9 _ _ _ _ tn rfl ho1.slice DN.out ?_
                refine hK _ _ ?_
                clear hK K
                try simp only [Act.put, List.setIfInBounds_toArray, List.set_cons_zero, List.set_cons_succ]
                refine wpAny_ready (rs := [8]) (by kernel_rfl) (by simp) ?_
                refine AllReady.cons (o := { dst := some 95, op := Go.Op.call { callee := Go.Callee.value (Go.Operand.func 14), args := #[Go.Operand.tmp 92, Go.Operand.tmp 94], argTypes := #[9, 3] }, type := 9, pos := "law.go:42", after := #[{ on := 5, ground := Go.Ground.data }, { on := 7, ground := Go.Ground.data }, { on := 3, ground := Go.Ground.chain }], guard := none }) rfl (fun K hK => ?_) AllReady.nil
                go_simp
                first
                | have hq := ref_peek w4 s N
                | have hq := ref_peek w3.drew s N
                refine hq.mono ?_
                clear hq
                rintro e w5 ⟨tq, rfl, hq, rfl⟩
                obtain rfl : tn = tq := (data_ext (by rw [hq, DN.out, HN.out])).symm
                clear hq
                refine hK _ _ ?_
                clear hK K
                try simp only [Act.put, List.setIfInBounds_toArray, List.set_cons_zero, List.set_cons_succ]
                refine wpAny_take (i := 9) (oi := { dst := some 96, op := Go.Op.binOp Go.BinOp.neq 9 (Go.Operand.tmp 91) (Go.Operand.tmp 95) 9, type := 4, pos := "law.go:42", after := #[{ on := 4, ground := Go.Ground.data }, { on := 8, ground := Go.Ground.data }], guard := none }) (v := ?vCA_10) rfl (by kernel_rfl) (by kernel_rfl) (by kernel_rfl) (fun _ _ _ h => h) (Or.inl ⟨by rfl, ?hCA_10⟩) ?rCA_10
                case hCA_10 => (intro wz; go_simp; try with_reducible rfl)
                simp only [Act.put, List.setIfInBounds_toArray, List.set_cons_zero, List.set_cons_succ]
                refine wpAny_done (by kernel_rfl) ?_ _
                have H1 := Lib.hid (hr3.out.keeps (show Still w3 w4 from ho1.2.2.drew_of) id id)
                have H2 := Lib.hid (hst3.out.trans (show Still w3 w4 from ho1.2.2.drew_of))
                go_wp2_with fail
                go_meet
                case rel => exact ⟨rfl, s, rfl, H1, H2⟩
              · skip
                go_simp
                first
                | have hq := ref_peek w4 s N
                | have hq := ref_peek w3.drew s N
                refine hq.mono ?_
                clear hq
                rintro e w5 ⟨tq, rfl, hq, rfl⟩
                obtain rfl : tn = tq := (data_ext (by rw [hq, DN.out, HN.out])).symm
                clear hq
                refine hK _ _ ?_
                clear hK K
                try simp only [Act.put, List.setIfInBounds_toArray, List.set_cons_zero, List.set_cons_succ]
                refine wpAny_ready (rs := [4]) (by kernel_rfl) (by simp) ?_
                refine AllReady.cons (o := { dst := some 91, op := Go.Op.convert 33 9 (Go.Operand.tmp 90), type := 9, pos := "law.go:42", after := #[{ on := 3, ground := Go.Ground.data }], guard := none }) rfl (fun K hK => ?_) AllReady.nil
                refine step_string (by rfl) (.tmp 90) 33 9 rfl 5 Try.underlying33 Try.underlying5 Try.underlying9 _ _ _ _ tn rfl ho1.slice DN.out ?_
                refine hK _ _ ?_
                clear hK K
                try simp only [Act.put, List.setIfInBounds_toArray, List.set_cons_zero, List.set_cons_succ]
                refine wpAny_take (i := 9) (oi := { dst := some 96, op := Go.Op.binOp Go.BinOp.neq 9 (Go.Operand.tmp 91) (Go.Operand.tmp 95) 9, type := 4, pos := "law.go:42", after := #[{ on := 4, ground := Go.Ground.data }, { on := 8, ground := Go.Ground.data }], guard := none }) (v := ?vCA_11) rfl (by kernel_rfl) (by kernel_rfl) (by kernel_rfl) (fun _ _ _ h => h) (Or.inl ⟨by rfl, ?hCA_11⟩) ?rCA_11
                case hCA_11 => (intro wz; go_simp; try with_reducible rfl)
                simp only [Act.put, List.setIfInBounds_toArray, List.set_cons_zero, List.set_cons_succ]
                refine wpAny_done (by kernel_rfl) ?_ _
                have H1 := Lib.hid (hr3.out.keeps (show Still w3 w4 from ho1.2.2.drew_of) id id)
                have H2 := Lib.hid (hst3.out.trans (show Still w3 w4 from ho1.2.2.drew_of))
                go_wp2_with fail
                go_meet
                case rel => exact ⟨rfl, s, rfl, H1, H2⟩
          · by_cases hC : kd = 2
            · subst hC
              obtain ⟨nn, hnn⟩ : ∃ nn, nn = min N.toNat s.size := ⟨_, rfl⟩
              have HN := Lib.hid hnn
              clear hnn
              go_wp2_with fail
              have hq := ref_peek w3 s N
              refine hq.mono ?_
              clear hq
              rintro e w4 ⟨t1, rfl, hq1, rfl⟩
              have H3 := Lib.hid hq1
              clear hq1
              go_wp2_with fail
              have hq := ref_rest w3 s N hN
              refine hq.mono ?_
              clear hq
              rintro e w4 ⟨t2, rfl, hq2, rfl⟩
              have H4 := Lib.hid hq2
              clear hq2
              go_wp2_with fail
              have hq := take_at w3 p bb m nn s.data.toList t1.data.toList t2.data.toList N hr3.out (by rw [HN.out, HL.out]) (by rw [H3.out, HN.out]) (by rw [H4.out, HN.out])
              refine hq.mono ?_
              clear hq
              rintro e w4 ⟨rfl, ho, hr4, hk4⟩
              have cv := fun c => run_string_as (P := Try.prog) (cap := c) Try.underlying33 Try.underlying5 Try.underlying9 t1 ho rfl
              have hS1 : ∀ i, i < w.heap.size → ¬ i = p := by intro i hi; omega
              have H1 := Lib.hid hr4
              have H2 := Lib.hid (hst3.out.on hk4 hS1)
              clear hr4 hS1
              go_wp2_with fail
              go_meet
              case rel => exact ⟨rfl, t2, rfl, H1, H2⟩
            · have e1 : (kd == 1) = false := by simpa using hB
              have e2 : (kd == 2) = false := by simpa using hC
              rcases (show (kd = 0 ∧ 100 < t.size) ∨ ¬ kd = 0 by omega) with ⟨rfl, hbig⟩ | h0
              · clear hA hB hC
                go_wp2_with fail
                go_meet
                case rel => exact ⟨rfl, s, rfl, hr3, hst3⟩
              · have e0 : (kd == 0) = false := by simpa using h0
                clear hA hB hC
                go_wp2_with fail
                go_meet
                case rel => exact ⟨rfl, s, rfl, hr3, hst3⟩
      case rest =>
        obtain ⟨rfl, s', rfl, hra', hst'⟩ := hcut
        have hle := hra'.out.le.1
        have hle2 : s'.size ≤ m := by rw [← len_data]; exact hle
        have hlen := len_data s'
        have HL := Lib.hid hlen
        clear hle hlen
        go_wp2_with fail
        have hq := len_at wc p bb m s'.data.toList s'.size hra'.out (by rw [HL.out])
        refine hq.mono ?_
        clear hq
        rintro e w4 ⟨rfl, rfl⟩
        go_wp2_with fail
        have hq := room_at wc p bb m s'.data.toList ((m : Int) - s'.size) hra'.out (by rw [HL.out])
        refine hq.mono ?_
        clear hq
        rintro e w4 ⟨rfl, nq, rfl⟩
        have H1 := Lib.hid (show RingAt (wc.drewN nq) p bb m s'.data.toList from hra'.out)
        have H2 := Lib.hid (show Still w (wc.drewN nq) from hst'.out.drewN nq)
        clear hra' hst' hra hst hT c0 c1 c2
        go_wp2_with fail
        go_roundw
        case rel => first | exact play (k + 1) s' rfl (by omega) rfl H1 H2 | (refine ⟨k + 1, by simp, by omega, ?_⟩; exact play (k + 1) s' rfl (by omega) rfl H1 H2) | ((repeat apply Exists.intro); exact ⟨rfl, by omega, play (k + 1) s' rfl (by omega) rfl H1 H2⟩)
        case measure => simp [intOf]; omega
    · have HL := Lib.hid (len_data s)
      have hfin : ∀ w4, Out wr w4 s.data.toList s.size → ∀ c, (convert 33 9 (.slice (some ⟨wr.heap.size, 0, none⟩) s.size c)).run Try.prog w4 = .ok (.string s) w4 := fun w4 ho c =>
        run_string_as (P := Try.prog) (cap := c) Try.underlying33 Try.underlying5 Try.underlying9 s ho.slice (by rw [← HL.out, List.take_length])
      rcases (show ¬ k < len ∨ (k < len ∧ ¬ k < 60) by omega) with hx | ⟨hx, hy⟩
      all_goals
        clear hgo
        go_wp2_with fail
        have hq := peek_at wr p bb m s.size s.data.toList s.size hra.out (by rw [HL.out]; omega)
        refine hq.mono ?_
        clear hq
        rintro e w4 ⟨rfl, ho⟩
        have cv := hfin w4 ho
        have H2 := Lib.hid (hst.out.trans ho.2.2)
        clear hfin ho hra hst HR HK hT
        go_wp2_with fail
        go_ret
        exact ⟨by simp, H2.out.below'⟩
end Go.Proofs.Ytmioglkibjmmfaa
