/- The sum is told: the contract of Told. -/
import Derived.Test.YtogojfmaiphiaaaDoorAdd
namespace Go.Proofs.YtogojfmaiphiaaaDoor
open Go.RowKit

def BytesAt (w : World) (b t : Nat) (l : List UInt8) : Prop := w.heap[b]? = some (.cells (bts l).toArray t (0, 0))
theorem BytesAt.keeps {S : Nat → Prop} {w w' : World} {b t : Nat} {l : List UInt8} (h : BytesAt w b t l) (hk : Keeps S w w') (h0 : ¬ S b) : BytesAt w' b t l := hk.at_ h h0
theorem BytesAt.cell {w : World} {b t : Nat} {l : List UInt8} (h : BytesAt w b t l) (j : Nat) (hj : j < l.length) : w.cell? ⟨b, j, none⟩ = some (.int .u8 ((l.getD j 0).toNat : Int)) := by
  rw [cell_of_row w b j _ _ _ h, List.getElem?_toArray, bts_at l j hj]
  simp [List.getD, List.getElem?_eq_getElem hj]
theorem BytesAt.free {w : World} {b t : Nat} {l : List UInt8} (h : BytesAt w b t l) (j : Nat) : w.frozen? ⟨b, j, none⟩ = false := frozen_of_row w b j _ _ h
theorem BytesAt.set {w : World} {b t : Nat} {l : List UInt8} (h : BytesAt w b t l) (j : Nat) (x : UInt8) : BytesAt (w.setCell ⟨b, j, none⟩ (.int .u8 (x.toNat : Int))) b t (l.set j x) := by
  unfold BytesAt
  rw [heap_setCell_same w b j _ _ _ h]
  simp [bts, List.map_set]
theorem BytesAt.slice {w : World} {b t n : Nat} {l : List UInt8} (h : BytesAt w b t l) (hl : l.length = n) : SliceOf w (some ⟨b, 0, none⟩) n l :=
  ⟨hl, fun _ => ⟨b, 0, rfl, lt_of_block h, fun j hj => by rw [Nat.zero_add, h.cell j hj]; simp [List.getD, List.getElem?_eq_getElem hj]⟩⟩
theorem set_nextb (a : List UInt8) (k n : Nat) (hk : a.length = k) (hn : k < n) (x : UInt8) : (a ++ List.replicate (n - k) 0).set k x = (a ++ [x]) ++ List.replicate (n - (k + 1)) 0 := by
  subst hk
  obtain ⟨m, hm⟩ : ∃ m, n - a.length = m + 1 := ⟨n - a.length - 1, by omega⟩
  rw [List.set_append_right _ _ (by omega), Nat.sub_self, hm, List.replicate_succ, List.set_cons_zero, show n - (a.length + 1) = m by omega]
  simp

def zeroB (n : Nat) : List UInt8 := List.replicate n 0
def zeroSum : Sum := ⟨⟨0, 0, 0, 0, 0⟩, zeroB 64, 0⟩
theorem zero27 (w : World) : (zeroValue 27).run Tryd.prog w = .ok (.agg (bts (zeroB 20)).toArray) w := by kernel_rfl
theorem zero47 (w : World) : (zeroValue 47).run Tryd.prog w = .ok (.agg (bts (zeroB 8)).toArray) w := by kernel_rfl
theorem zero46 (w : World) : (zeroValue 46).run Tryd.prog w = .ok (.agg (cellsSum zeroSum).toArray) w := by kernel_rfl
theorem sz46 : (Tryd.prog.info? 46).map (·.size) = some 70 := by kernel_rfl
theorem sz27 : (Tryd.prog.info? 27).map (·.size) = some 20 := by kernel_rfl
theorem size_cellsSum (s : Sum) (h : s.part.length = 64) : (cellsSum s).toArray.size = 70 := by simp [cellsSum, S5.list, h]
theorem one_ws (l : List UInt32) : ∀ v ∈ ws l, v.oneCell' = true := by
  intro v hv
  obtain ⟨_, _, rfl⟩ := List.mem_map.1 hv
  rfl
theorem one_cellsSum (s : Sum) : (cellsSum s).toArray.all (·.oneCell') = true := by
  simp only [List.all_toArray, List.all_eq_true, cellsSum, List.mem_append]
  rintro v (h | h | h)
  · exact one_ws _ v h
  · exact bts_one _ v h
  · simp at h; subst h; rfl
theorem one_bts (l : List UInt8) : (bts l).toArray.all (·.oneCell') = true := by
  simp only [List.all_toArray, List.all_eq_true]
  exact bts_one l

section
variable {w : World} {ops : Array Oper} {rest : List Oper} {o : Oper} {a : Act} {Q : Exit → Act → World → Prop}
theorem load46 (hgd : o.guard = none) (x : Operand) (ho : o.op = .load 46 x) (g : Nat) (hx : a.eval x = .pointer (some ⟨g, 0, none⟩)) (s : Sum) (hs : Hid (SumAt w g s)) (h : wpList Tryd.prog ops Q rest (a.put o.dst (.agg (cellsSum s).toArray)) w) :
    wpList Tryd.prog ops Q (o :: rest) a w := wpList_load_row hgd 46 x ho g hx 46 _ (0, 0) _ hs.out.2 Tryd.underlying46 rfl (by rw [size_cellsSum s hs.out.1]; exact sz46) h
theorem store46 (hgd : o.guard = none) (x y : Operand) (ho : o.op = .store 46 x y) (g : Nat) (hx : a.eval x = .pointer (some ⟨g, 0, none⟩)) (s s0 : Sum) (hy : a.eval y = .agg (cellsSum s).toArray) (hs : Hid (s.part.length = 64)) (hs0 : Hid (SumAt w g s0))
    (h : ∀ w', Hid (SumAt w' g s) → Hid (Keeps (fun k => k = g) w w') → wpList Tryd.prog ops Q rest (a.put o.dst undef) w') : wpList Tryd.prog ops Q (o :: rest) a w :=
  wpList_store_row hgd 46 x y ho g _ hx hy 46 _ hs0.out.2 (by rw [size_cellsSum s hs.out]; exact sz46) (by rw [size_cellsSum s hs.out, size_cellsSum s0 hs0.out.1]) (one_cellsSum s)
    (h _ ⟨hs.out, setRow_heap w g _ _ 46 (0, 0) hs0.out.2⟩ ((Keeps.refl (fun k => k = g) w).setRow rfl _))
theorem load27 (hgd : o.guard = none) (x : Operand) (ho : o.op = .load 27 x) (g : Nat) (hx : a.eval x = .pointer (some ⟨g, 0, none⟩)) (l : List UInt8) (hl : Hid (l.length = 20)) (hs : Hid (BytesAt w g 27 l)) (h : wpList Tryd.prog ops Q rest (a.put o.dst (.agg (bts l).toArray)) w) :
    wpList Tryd.prog ops Q (o :: rest) a w := wpList_load_row hgd 27 x ho g hx 27 _ (0, 0) _ hs.out Tryd.underlying27 rfl (by simp only [List.size_toArray, length_bts, hl.out]; exact sz27) h
theorem store27 (hgd : o.guard = none) (x y : Operand) (ho : o.op = .store 27 x y) (g : Nat) (hx : a.eval x = .pointer (some ⟨g, 0, none⟩)) (l l0 : List UInt8) (hy : a.eval y = .agg (bts l).toArray) (hl : Hid (l.length = 20)) (hl0 : Hid (l0.length = 20)) (hs0 : Hid (BytesAt w g 27 l0))
    (h : ∀ w', Hid (BytesAt w' g 27 l) → Hid (Keeps (fun k => k = g) w w') → wpList Tryd.prog ops Q rest (a.put o.dst undef) w') : wpList Tryd.prog ops Q (o :: rest) a w :=
  wpList_store_row hgd 27 x y ho g _ hx hy 27 _ hs0.out (by simp only [List.size_toArray, length_bts, hl.out]; exact sz27) (by simp only [List.size_toArray, length_bts, hl.out, hl0.out]) (one_bts l)
    (h _ (setRow_heap w g _ _ 27 (0, 0) hs0.out) ((Keeps.refl (fun k => k = g) w).setRow rfl _))
theorem results27 {fn : Func} {p : Tmp} (h : fn.results = #[.cell p 27]) (tmps : Array Value) (g : Nat) (hp : tmps.getD p undef = .pointer (some ⟨g, 0, none⟩)) (l : List UInt8) (hl : Hid (l.length = 20)) (hs : Hid (BytesAt w g 27 l)) :
    (results fn tmps).run Tryd.prog w = .ok (.agg (bts l).toArray) w := results_cell_row h tmps w g 27 _ (0, 0) _ hp hs.out Tryd.underlying27 rfl (by simp only [List.size_toArray, length_bts, hl.out]; exact sz27)
end

/-- While a sum is told: the result's box, the copy of the sum, the old memory. -/
def Tell (w wr : World) (y : Sum) : Prop := BytesAt wr w.heap.size 27 (zeroB 20) ∧ SumAt wr (w.heap.size + 1) y ∧ Still w wr
theorem Tell.on {S : Nat → Prop} {w wr w' : World} {y : Sum} (h : Tell w wr y) (hk : Keeps S wr w') (hS : ∀ i, i ≤ w.heap.size + 1 → ¬ S i) : Tell w w' y :=
  ⟨h.1.keeps hk (hS _ (by omega)), h.2.1.keeps hk (hS _ (Nat.le_refl _)), h.2.2.on hk fun i hi hs => hS i (by omega) hs⟩
theorem Tell.next {w wr w' : World} {y y' : Sum} (h : Tell w wr y) (hy : SumAt w' (w.heap.size + 1) y') (hk : Keeps (fun k => k = w.heap.size + 1) wr w') : Tell w w' y' :=
  ⟨h.1.keeps hk (by omega), hy, h.2.2.on hk fun i hi hs => by omega⟩
def far (n : Nat) : Nat := (120 - n % 64) % 64
theorem pad_stop (k : Nat) (y : Sum) (h : y.n % 64 = 56) : Sum.pad k y = y := by cases k <;> simp [Sum.pad, h]
theorem pad_step (k : Nat) (y : Sum) (h : ¬ y.n % 64 = 56) : Sum.pad (k + 1) y = Sum.pad k (y.add1 0) := by simp [Sum.pad, h]
def nAt (wr : World) (q : Nat) : Nat := match wr.cell? ⟨q, 69, none⟩ with | some (.int _ n) => n.toNat | _ => 0
theorem SumAt.nAt {wr : World} {q : Nat} {y : Sum} (h : SumAt wr q y) : nAt wr q = y.n := by unfold Go.Proofs.YtogojfmaiphiaaaDoor.nAt; rw [h.n_cell]; simp
theorem val8 (n j : Nat) : ((n : Int) * 8 / 2 ^ j % 256) = ((UInt8.ofNat (n * 8 / 2 ^ j)).toNat : Int) := by
  rw [UInt8.toNat_ofNat', Int.natCast_emod, Int.natCast_ediv, Int.natCast_mul, Int.natCast_pow]
  rfl
theorem al47 : Tryd.prog.arrayLen 47 = 8 := by kernel_rfl
theorem el47 : Tryd.prog.elem 47 = 5 := by kernel_rfl
theorem un47 : Tryd.prog.underlying 47 = some (.array (Tryd.prog.arrayLen 47) (Tryd.prog.elem 47)) := by kernel_rfl
theorem slice47 (w : World) (e : Nat) : (Instr.sliceAt 47 (.pointer (some ⟨e, 0, none⟩)) none none none).run Tryd.prog w = .ok (.slice (some ⟨e, 0, none⟩) 8 8) w := by
  rw [run_sliceAt_array_all w 47 ⟨e, 0, none⟩ un47, al47, el47, size5]
  simp only [Result.andThen_ok, slicedAt, Nat.zero_mul, Nat.sub_zero]
  rw [if_neg (by omega)]
  rfl
theorem val1 (n j : Nat) : ((n : Int) / 2 ^ j % 256) = ((UInt8.ofNat (n / 2 ^ j)).toNat : Int) := by
  rw [UInt8.toNat_ofNat', Int.natCast_emod, Int.natCast_ediv, Int.natCast_pow]
  rfl
def RelP (w wr : World) (s : Sum) : Prop := ∃ (y : Sum) (k : Nat), far y.n < k ∧ y.n + far y.n ≤ 500000100 ∧ Hid (Sum.pad 64 (s.add1 128) = Sum.pad k y) ∧ Hid (Tell w wr y)
theorem relP {w wr : World} {s : Sum} (y : Sum) (k : Nat) (h2 : far y.n < k) (h3 : y.n + far y.n ≤ 500000100) (h4 : Hid (Sum.pad 64 (s.add1 128) = Sum.pad k y)) (h5 : Hid (Tell w wr y)) : RelP w wr s := ⟨y, k, h2, h3, h4, h5⟩
def endB (n k : Nat) : List UInt8 := (List.range k).map fun i => UInt8.ofNat (n / 2 ^ (56 - 8 * i))
theorem length_endB (n k : Nat) : (endB n k).length = k := by simp [endB]
theorem endB_next (n k : Nat) : endB n (k + 1) = endB n k ++ [UInt8.ofNat (n / 2 ^ (56 - 8 * k))] := by simp [endB, List.range_succ]
theorem endB_be8 (n : Nat) : endB n 8 = be8 n := rfl
def outB (h : S5) (k : Nat) : List UInt8 := (List.range k).map fun i => UInt8.ofNat ((h.list.getD (i / 4) 0).toNat / 2 ^ (24 - 8 * (i % 4)))
theorem length_outB (h : S5) (k : Nat) : (outB h k).length = k := by simp [outB]
theorem outB_next (h : S5) (k : Nat) : outB h (k + 1) = outB h k ++ [UInt8.ofNat ((h.list.getD (k / 4) 0).toNat / 2 ^ (24 - 8 * (k % 4)))] := by simp [outB, List.range_succ]
def RelE (w wr : World) (e n : Nat) (y : Sum) (i : Value) : Prop := ∃ k : Nat, i = .int .i64 k ∧ k ≤ 8 ∧ Hid (BytesAt wr e 47 (endB n k ++ List.replicate (8 - k) 0)) ∧ Hid (Tell w wr y)
theorem relE {w wr : World} {e n : Nat} {y : Sum} {i : Value} (k : Nat) (h1 : i = .int .i64 k) (h2 : k ≤ 8) (h3 : Hid (BytesAt wr e 47 (endB n k ++ List.replicate (8 - k) 0))) (h4 : Hid (Tell w wr y)) : RelE w wr e n y i := ⟨k, h1, h2, h3, h4⟩
def RelO (w wr : World) (o : Nat) (z : Sum) (i : Value) : Prop := ∃ k : Nat, i = .int .i64 k ∧ k ≤ 20 ∧ Hid (BytesAt wr o 27 (outB z.h k ++ List.replicate (20 - k) 0)) ∧ Hid (Tell w wr z)
theorem relO {w wr : World} {o : Nat} {z : Sum} {i : Value} (k : Nat) (h1 : i = .int .i64 k) (h2 : k ≤ 20) (h3 : Hid (BytesAt wr o 27 (outB z.h k ++ List.replicate (20 - k) 0))) (h4 : Hid (Tell w wr z)) : RelO w wr o z i := ⟨k, h1, h2, h3, h4⟩

set_option maxRecDepth 100000 in
set_option maxHeartbeats 8000000 in
theorem told_any (w : World) (p : Nat) (s : Sum) (h : SumAt w p s) (hb : s.n ≤ 500000000) :
    Calls Tryd.prog 12 #[.pointer (some ⟨p, 0, none⟩)] w fun e w' => e = .returned (.agg (bts s.told).toArray) ∧ Still w w' := by
  have HL := Lib.hid h.1
  have hR : BytesAt (w.alloc (.cells (bts (zeroB 20)).toArray 27 (0, 0))) w.heap.size 27 (zeroB 20) := heap_alloc_new _ _
  have hk1 : Still w (w.alloc (.cells (bts (zeroB 20)).toArray 27 (0, 0))) := (Keeps.refl _ _).alloc _
  have HS := Lib.hid (h.keeps hk1 id)
  have hz : (w.alloc (.cells (bts (zeroB 20)).toArray 27 (0, 0))).heap.size = w.heap.size + 1 := by simp
  have hk2 := hk1.alloc (.cells (cellsSum zeroSum).toArray 46 (0, 0))
  have HR := Lib.hid (hR.keeps ((Keeps.refl (fun _ => False) _).alloc (.cells (cellsSum zeroSum).toArray 46 (0, 0))) id)
  have HQ := Lib.hid (show SumAt ((w.alloc (.cells (bts (zeroB 20)).toArray 27 (0, 0))).alloc (.cells (cellsSum zeroSum).toArray 46 (0, 0))) (w.heap.size + 1) zeroSum from ⟨rfl, heap_alloc2_new _ _ _⟩)
  have HK := Lib.hid hk2
  have z1 := zero27
  have z2 := zero47
  have z3 := zero46
  have HN := Lib.hid (show s.n = s.n from rfl)
  clear h hR hk1 hk2
  go_enter Tryd.func12, Tryd.ntmps12
  go_wp2_with (first
    | (with_reducible refine load46 (o := ⟨some 11, _, _, _, _, _⟩) rfl (.tmp 10) rfl p rfl s HS ?_)
    | (with_reducible refine store46 (o := ⟨none, _, _, _, _, _⟩) rfl (.tmp 3) (.tmp 11) rfl (w.heap.size + 1) rfl s zeroSum rfl HL HQ ?_; intro w3 HS3 hk3; have cn := HS3.out.n_cell))
  have HT := Lib.hid (show Tell w w3 s from ⟨HR.out.keeps hk3.out (by omega), HS3.out, HK.out.on hk3.out (fun i hi e => by omega)⟩)
  have hsz := HS3.out.lt
  clear HR HQ HK HS hk3 cn
  have hkA : Still w3 (w3.alloc (.cells #[.int .u8 128] 5 (0, 0))) := (Keeps.refl _ _).alloc _
  have hTA := HT.out.on hkA (fun _ _ => id)
  have hq := add_any (w3.alloc (.cells #[.int .u8 128] 5 (0, 0))) (w.heap.size + 1) s [128] (some ⟨w3.heap.size, 0, none⟩) 1 1 hTA.2.1 (slice_new w3 #[.int .u8 128] 5 (0, 0) [128] 1 rfl rfl) (Nat.le_refl _) (by intro ad h; cases h; show w3.heap.size ≠ _; omega) (by omega)
  refine hq.mono ?_
  clear hq
  rintro e w4 ⟨rfl, hs4, hk4⟩
  have HT4 := Lib.hid (show Tell w w4 (s.add1 128) from hTA.next hs4 hk4)
  clear hTA hkA hs4 hk4 HT HS3 hsz
  have hfar : far (s.n + 1) < 64 := Nat.mod_lt _ (by omega)
  go_wp2_with fail
  go_loopw [] (fun wr => RelP w wr s) (fun wr => far (nAt wr (w.heap.size + 1)))
  case atStart => exact relP (s.add1 128) 64 hfar (by show s.n + 1 + far (s.n + 1) ≤ _; omega) rfl HT4
  case round =>
    clear HT4
    obtain ⟨y, k, hfk, hyb, hpad, hT⟩ := hrel
    have cn := hT.out.2.1.n_cell
    obtain ⟨a, ha⟩ : ∃ a, a = y.n % 64 := ⟨_, rfl⟩
    have e1 : (y.n : Int) % 64 = (a : Int) := by omega
    by_cases h56 : a = 56
    · have HY := Lib.hid (show Sum.pad 64 (s.add1 128) = y by rw [hpad.out, pad_stop k y (by omega)])
      have h56' : (a : Int) = 56 := by omega
      clear hpad ha h56 hfk
      have hwl := hT.out.2.1.lt
      have hkE : Still wr (wr.alloc (.cells (bts (zeroB 8)).toArray 47 (0, 0))) := (Keeps.refl _ _).alloc _
      have HTE := Lib.hid (hT.out.on hkE (fun _ _ => id))
      have HBE := Lib.hid (show BytesAt (wr.alloc (.cells (bts (zeroB 8)).toArray 47 (0, 0))) wr.heap.size 47 (endB (s.n * 8) 0 ++ List.replicate (8 - 0) 0) from heap_alloc_new _ _)
      clear hkE
      go_wp2_with fail
      obtain ⟨e, he⟩ : ∃ e, e = wr.heap.size := ⟨_, rfl⟩
      rw [← he] at HBE ⊢
      have hew : w.heap.size + 1 < e := by omega
      clear hwl he hT cn
      generalize wr.alloc (.cells (bts (zeroB 8)).toArray 47 (0, 0)) = w5 at HTE HBE ⊢
      go_loopw [23] (fun i wr => RelE w wr e (s.n * 8) y i) (fun i _ => 8 - (intOf i).toNat)
      case atStart => exact relE 0 rfl (by omega) HBE HTE
      case round =>
        clear HTE HBE
        obtain ⟨k, rfl, hk8, hB, hT⟩ := hrel
        by_cases hlt : k < 8
        · have cw := hB.out.cell k (by simp [length_endB]; omega)
          have fw := hB.out.free k
          go_wp2_with fail
          rw [val8]
          have hn := hB.out.set k (UInt8.ofNat (s.n * 8 / 2 ^ (56 - 8 * k)))
          rw [set_nextb _ k 8 (length_endB _ _) hlt, ← endB_next] at hn
          refine ⟨relE (k + 1) rfl (by omega) hn (hT.out.on (S := fun i => i = e) ((Keeps.refl (fun i => i = e) wr).setCell (p := ⟨e, k, none⟩) rfl _) (fun i hi h => by omega)), by simp [intOf]; omega⟩
        · obtain rfl : k = 8 := by omega
          have hB8 : BytesAt wr e 47 (be8 (s.n * 8)) := by have := hB.out; rwa [Nat.sub_self, List.replicate_zero, List.append_nil, endB_be8] at this
          have hsl := slice47 wr e
          have hq0 := add_any wr (w.heap.size + 1) y (be8 (s.n * 8)) (some ⟨e, 0, none⟩) 8 8 hT.out.2.1 (hB8.slice rfl) (Nat.le_refl _) (by intro ad h; cases h; show e ≠ _; omega) (by omega)
          have HQ0 := Lib.hid hq0
          clear hq0 hB hB8
          go_wp2_with fail
          refine HQ0.out.mono ?_
          clear HQ0
          rintro e' w6 ⟨rfl, hs6, hk6⟩
          obtain ⟨z, hz1⟩ : ∃ z, z = y.add (be8 (s.n * 8)) := ⟨_, rfl⟩
          rw [← hz1] at hs6
          have HZ := Lib.hid (show z.h.out = s.told by rw [hz1, ← HY.out]; rfl)
          have hT6 := hT.out.next hs6 hk6
          have hwl := hs6.lt
          have hkE : Still w6 (w6.alloc (.cells (bts (zeroB 20)).toArray 27 (0, 0))) := (Keeps.refl _ _).alloc _
          have HTE := Lib.hid (hT6.on hkE (fun _ _ => id))
          have HBE := Lib.hid (show BytesAt (w6.alloc (.cells (bts (zeroB 20)).toArray 27 (0, 0))) w6.heap.size 27 (outB z.h 0 ++ List.replicate (20 - 0) 0) from heap_alloc_new _ _)
          clear hkE hs6 hk6 hT6 hT hz1 HY hyb hew
          go_wp2_with fail
          obtain ⟨o, ho⟩ : ∃ o, o = w6.heap.size := ⟨_, rfl⟩
          rw [← ho] at HBE ⊢
          have how : w.heap.size + 1 < o := by omega
          clear hwl ho
          generalize w6.alloc (.cells (bts (zeroB 20)).toArray 27 (0, 0)) = w7 at HTE HBE ⊢
          go_loopw [38] (fun i wr => RelO w wr o z i) (fun i _ => 20 - (intOf i).toNat)
          case atStart => exact relO 0 rfl (by omega) HBE HTE
          case round =>
            clear HTE HBE
            obtain ⟨k, rfl, hk20, hB, hT⟩ := hrel
            by_cases hlt : k < 20
            · have cw := hB.out.cell k (by simp [length_outB]; omega)
              have fw := hB.out.free k
              obtain ⟨x, hx⟩ : ∃ x, x = z.h.list.getD (k / 4) 0 := ⟨_, rfl⟩
              have ch := hT.out.2.1.h_cell (k / 4) (by omega)
              rw [← hx] at ch
              have HXX := Lib.hid hx
              clear hx
              go_wp2_with fail
              rw [val1]
              have hn := hB.out.set k (UInt8.ofNat (x.toNat / 2 ^ (24 - 8 * (k % 4))))
              rw [set_nextb _ k 20 (length_outB _ _) hlt] at hn
              rw [show outB z.h k ++ [UInt8.ofNat (x.toNat / 2 ^ (24 - 8 * (k % 4)))] = outB z.h (k + 1) by rw [outB_next, HXX.out]] at hn
              refine ⟨relO (k + 1) rfl (by omega) hn (hT.out.on (S := fun i => i = o) ((Keeps.refl (fun i => i = o) wr).setCell (p := ⟨o, k, none⟩) rfl _) (fun i hi h => by omega)), by simp [intOf]; omega⟩
            · obtain rfl : k = 20 := by omega
              have HB20 := Lib.hid (show BytesAt wr o 27 z.h.out by have := hB.out; rwa [Nat.sub_self, List.replicate_zero, List.append_nil] at this)
              have HLO := Lib.hid (show z.h.out.length = 20 from length_outB z.h 20)
              have HLZ := Lib.hid (show (zeroB 20).length = 20 from rfl)
              have HR := Lib.hid hT.out.1
              have HK := Lib.hid hT.out.2.2
              clear hB hT
              go_wp2_with (first
                | (with_reducible refine load27 (o := ⟨some 56, _, _, _, _, _⟩) rfl (.tmp 7) rfl o rfl z.h.out HLO HB20 ?_)
                | (with_reducible refine store27 (o := ⟨none, _, _, _, _, _⟩) rfl (.tmp 2) (.tmp 56) rfl w.heap.size rfl z.h.out (zeroB 20) rfl HLO HLZ HR ?_; intro w8 HB8 hk8))
              (try simp only [Exit.inBlock, Exit.then])
              refine bodyPost_ret (results27 rfl _ w.heap.size rfl z.h.out HLO HB8) rfl ?_
              exact ⟨by rw [HZ.out], HK.out.on hk8.out (fun i hi h => by omega)⟩
    · have hne : ¬ (a : Int) = 56 := by omega
      have HF := Lib.hid (show far (y.n + 1) + 1 = far y.n by unfold far; omega)
      have HNA := Lib.hid hT.out.2.1.nAt
      have HP2 := Lib.hid (show Sum.pad 64 (s.add1 128) = Sum.pad (k - 1) (y.add1 0) by
        have := pad_step (k - 1) y (by omega)
        rw [show k - 1 + 1 = k by omega] at this
        rw [hpad.out, this])
      have HA := Lib.hid ha
      clear ha
      go_wp2_with fail
      have hsz := hT.out.2.1.lt
      have hkA : Still wr (wr.alloc (.cells #[.int .u8 0] 5 (0, 0))) := (Keeps.refl _ _).alloc _
      have hTA := hT.out.on hkA (fun _ _ => id)
      have hq := add_any (wr.alloc (.cells #[.int .u8 0] 5 (0, 0))) (w.heap.size + 1) y [0] (some ⟨wr.heap.size, 0, none⟩) 1 1 hTA.2.1 (slice_new wr #[.int .u8 0] 5 (0, 0) [0] 1 rfl rfl) (Nat.le_refl _) (by intro ad h; cases h; show wr.heap.size ≠ _; omega) (by omega)
      refine hq.mono ?_
      clear hq
      rintro e w5 ⟨rfl, hs5, hk5⟩
      have HT5 := Lib.hid (show Tell w w5 (y.add1 0) from hTA.next hs5 hk5)
      have HN5 := Lib.hid (show nAt w5 (w.heap.size + 1) = y.n + 1 from (show SumAt w5 (w.heap.size + 1) (y.add1 0) from hs5).nAt)
      clear hTA hkA hs5 hk5 hsz
      go_wp2_with fail
      go_roundw
      case rel => exact relP (y.add1 0) (k - 1) (by show far (y.n + 1) < _; have := HF.out; omega) (by show y.n + 1 + far (y.n + 1) ≤ _; have := HF.out; omega) HP2 HT5
      case measure => (rw [HN5.out, HNA.out]; have := HF.out; omega)
end Go.Proofs.YtogojfmaiphiaaaDoor
