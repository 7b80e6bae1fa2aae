/- Rows that the document's answer appends to: bytes, and slices of words. -/
import Derived.Test.YtogojfmaiphiaaaDoorRefF
import Derived.Test.YtogojfmaiphiaaaDoorTold
namespace Go.Proofs.YtogojfmaiphiaaaDoor
open Go.RowKit

/-- A slice that reads as xs and may be appended to. -/
def Row (w : World) (base e : Nat) (v : Value) (xs : List Value) : Prop :=
  ∃ g cap cur fr, v = .slice (some ⟨g, 0, none⟩) xs.length cap ∧ base ≤ g ∧ w.heap[g]? = some (.cells cur e fr) ∧ (∀ j, j < cur.size → ¬ (fr.1 ≤ j ∧ j < fr.2)) ∧ xs.length ≤ cap ∧ cap ≤ maxLen ∧ cur.size = cap ∧ cur.toList.take xs.length = xs
theorem Row.keeps {S : Nat → Prop} {w w' : World} {base e : Nat} {v : Value} {xs : List Value} (h : Row w base e v xs) (hk : Keeps S w w') (hS : ∀ g, v.ownBlock = some g → ¬ S g) : Row w' base e v xs := by
  obtain ⟨g, cap, cur, fr, rfl, h2, h3, h4⟩ := h
  exact ⟨g, cap, cur, fr, rfl, h2, hk.at_ h3 (hS g rfl), h4⟩
theorem Row.open_ {w : World} {base e : Nat} {v : Value} {xs : List Value} (h : Row w base e v xs) : ∃ g cap, v = .slice (some ⟨g, 0, none⟩) xs.length cap ∧ base ≤ g ∧ g < w.heap.size ∧ xs.length ≤ cap ∧ (∃ c fr, w.heap[g]? = some (.cells c e fr)) ∧
    (∀ j, j < xs.length → w.cell? ⟨g, j, none⟩ = xs[j]?) ∧ (∀ j, j < xs.length → w.frozen? ⟨g, j, none⟩ = false) := by
  obtain ⟨g, cap, cur, fr, rfl, h2, h3, h4, h5, h6, h7, h8⟩ := h
  refine ⟨g, cap, rfl, h2, lt_of_block h3, h5, ⟨cur, fr, h3⟩, fun j hj => ?_, fun j hj => ?_⟩
  · rw [cell_of_row w g j _ _ _ h3]
    have := congrArg (·[j]?) h8
    simp only [List.getElem?_take, if_pos hj] at this
    simpa using this
  · have := h4 j (by omega)
    simp only [World.frozen?, h3]
    by_cases q : fr.1 ≤ j
    · have q2 : ¬ j < fr.2 := fun q2 => this ⟨q, q2⟩
      simp [q2]
    · simp [q]
theorem row_new (w : World) (base e : Nat) (xs : List Value) (hb : base ≤ w.heap.size) (hl : xs.length ≤ 1000) : Row (w.alloc (.cells xs.toArray e (0, 0))) base e (.slice (some ⟨w.heap.size, 0, none⟩) xs.length xs.length) xs :=
  ⟨w.heap.size, xs.length, xs.toArray, (0, 0), rfl, hb, heap_alloc_new _ _, fun j _ h => by have := h.2; omega, Nat.le_refl _, by unfold maxLen; omega, by simp, by simp⟩

theorem run_push {P : Program} (w : World) (base e t ty nb : Nat) (zero : Value) (ht : P.underlying t = some (.slice e)) (hi : (P.info? e).map (fun i => (i.zero, i.size, i.bytes)) = some (some zero, 1, nb)) (hz : zero.cells.size = 1) (hnb : nb ≤ 100)
    (v : Value) (xs : List Value) (h : Row w base e v xs) (ad : Addr) (c : Nat) (x : Value) (hx : w.cell? (ad.add 0) = some x) (h1 : x.oneCell' = true) (hn : xs.length ≤ 1000) (hbase : base ≤ w.heap.size) :
    ∃ v' w', (Builtin.append_ #[t, t] ty #[v, .slice (some ad) 1 c]).run P w = .ok v' w' ∧ Row w' base e v' (xs ++ [x]) ∧ Keeps (fun k => v.ownBlock = some k) w w' ∧
      (∀ j, j < xs.length → ∀ g, v.ownBlock = some g → w'.cell? ⟨g, j, none⟩ = w.cell? ⟨g, j, none⟩) := by
  obtain ⟨i, hi1, hi2, hi3, hi4⟩ := info_partsN hi
  have hxs := h.open_
  obtain ⟨g, cap, cur, fr, rfl, h2, h3, h4, h5, h6, h7, h8⟩ := h
  have hnews : ∀ j u, [x][j]? = some u → w.cell? (ad.add j) = some u := by
    intro j u hj
    match j, hj with
    | 0, hj => cases hj; exact hx
  by_cases hroom : xs.length + 1 ≤ cap
  · have hlt : xs.length < cur.size := by omega
    have hcell : w.cell? ⟨g, xs.length, none⟩ = some cur[xs.length] := by simp [World.cell?, h3, hlt]
    have hfro : w.frozen? ⟨g, xs.length, none⟩ = false := by
      have := h4 xs.length hlt
      simp only [World.frozen?, h3]
      by_cases q : fr.1 ≤ xs.length
      · have q2 : ¬ xs.length < fr.2 := fun q2 => this ⟨q, q2⟩
        simp [q2]
      · simp [q]
    have hst : (storeCells ⟨g, xs.length, none⟩ [x] 0).run P w = .ok () (w.setRow g (cur.setIfInBounds xs.length x)) := by
      have hadd : (⟨g, xs.length, none⟩ : Addr).add 0 = ⟨g, xs.length, none⟩ := by simp [Addr.add]
      simp only [storeCells, Sem.run_bind, hadd, run_store P w _ x _ h1, hcell, hfro, setCell_eq_setRow w g xs.length cur e fr x h3]
      rfl
    have hf := run_firstCells_some (P := P) w i.size 1 ad 1 c [x] (by simp [hi3]) hnews
    refine ⟨_, w.setRow g (cur.setIfInBounds xs.length x), ?_, ⟨g, cap, _, fr, rfl, h2, setRow_heap w g cur _ e fr h3, by simpa using h4, by simpa using hroom, h6, by simpa using h7, ?_⟩, (Keeps.refl (fun k => (Value.slice (some ⟨g, 0, none⟩) xs.length cap).ownBlock = some k) w).setRow rfl _, ?_⟩
    · simp [Builtin.append_, run_underlying ht, sizeOf, typeInfo, hi1, hi3, Builtin.lenOf, hroom, Addr.add_lit] at hf ⊢
      simp [hf, hst]
    · rw [Array.toList_setIfInBounds, List.length_append, List.length_singleton, List.take_succ_eq_append_getElem (by simpa using hlt), List.take_set_of_le (by omega), h8]
      simp
    · intro j hj g' hg'
      cases hg'
      rw [cell_of_row _ g j _ _ _ (setRow_heap w g cur _ e fr h3), cell_of_row w g j _ _ _ h3]
      rw [Array.getElem?_setIfInBounds_ne (by omega)]
  · have hr := run_append_grow (P := P) w t ty e i zero ht hi1 hi2 ⟨g, 0, none⟩ xs.length cap xs (by rw [hi3, Nat.mul_one]) (fun j u hj => by
      have hjl : j < xs.length := by
        rcases Nat.lt_or_ge j xs.length with q | q
        · exact q
        · rw [List.getElem?_eq_none q] at hj; cases hj
      obtain ⟨g', cap', e1, _, _, _, _, hc, _⟩ := hxs
      cases e1
      rw [Addr.add_lit, Nat.zero_add, hc j hjl, hj]) ad 1 c [x] (by simp [hi3]) hnews (by omega) (by omega) (growslice_fits (by omega) (by rw [hi4]; calc (xs.length + 1) * nb ≤ 1001 * 100 := Nat.mul_le_mul (by omega) hnb
                                                                                                                               _ ≤ _ := by decide))
    have hge := grownCap_ge w (xs.length + 1) cap e
    refine ⟨_, _, hr, ⟨w.heap.size, _, _, (0, 0), by rw [List.length_append, List.length_singleton], hbase, heap_alloc_new w.drew _, fun j _ hh => by have := hh.2; omega, by simpa using hge, grownCap_le_maxLen w (xs.length + 1) cap e (by unfold maxLen; omega), ?_, ?_⟩, ((Keeps.refl _ w).drew.alloc _), fun j hj g' hg' => ?_⟩
    · simp only [Array.size_append, List.size_toArray, size_zeroCells, hz, List.length_singleton]
      omega
    · simp only [Array.toList_append, List.append_assoc, List.length_append, List.length_singleton]
      rw [← List.append_assoc, show xs.length + 1 = (xs ++ [x]).length by simp]
      exact List.take_left
    · cases hg'
      have hlt := lt_of_block h3
      exact World.cell?_of_block (w := w) (((Keeps.refl (fun _ => False) w).drew.alloc _).block g hlt id)

section
variable {P : Program} {ops : Array Oper} {o : Oper} {a : Act} {Q : Exit → Act → World → Prop} {wr : World} {x0 : Value}
theorem wp_push2 {K : Act → World → Prop} (e t nb : Nat) (zero : Value) (ht : P.underlying t = some (.slice e)) (hi : (P.info? e).map (fun i => (i.zero, i.size, i.bytes)) = some (some zero, 1, nb)) (hz : zero.cells.size = 1) (hnb : nb ≤ 100) (h1 : x0.oneCell' = true)
    (s x : Operand) (ho : o.op = .call { callee := .builtin .append, args := #[s, x], argTypes := #[t, t] }) (base : Nat) (v : Value) (xs : List Value) (hs : a.eval s = v) (hrow : Hid (Row wr base e v xs))
    (c : Nat) (hx : a.eval x = .slice (some ⟨wr.heap.size, 0, none⟩) 1 c) (hn : xs.length ≤ 1000) (hbase : base ≤ wr.heap.size)
    (h : ∀ v' w', Hid (Row w' base e v' (xs ++ [x0])) → Hid (Keeps (fun k => v.ownBlock = some k) wr w') → Hid (∀ j, j < xs.length → ∀ g, v.ownBlock = some g → w'.cell? ⟨g, j, none⟩ = wr.cell? ⟨g, j, none⟩) → K (a.put o.dst v') w') :
    Oper.wp P o a (wr.alloc (.cells #[x0] e (0, 0))) K Q := by
  have hk : Still wr (wr.alloc (.cells #[x0] e (0, 0))) := (Keeps.refl _ _).alloc _
  obtain ⟨v', w', hr, h2, h3, h4⟩ := run_push (P := P) (wr.alloc (.cells #[x0] e (0, 0))) base e t o.type nb zero ht hi hz hnb v xs (hrow.out.keeps hk (fun _ _ => id)) ⟨wr.heap.size, 0, none⟩ c x0 (cell_one_new wr x0 e 0 x0 rfl) h1 hn (Nat.le_trans hbase hk.size)
  unfold Oper.wp execOp
  simp only [ho, resolve, invoke, builtin, Sem.run_bind, Sem.run_pure, Result.andThen_ok, List.map_toArray, List.map_cons, List.map_nil, hs, hx, hr]
  refine h v' w' h2 (hk.still.trans h3) (fun j hj g hg => ?_)
  rw [h4 j hj g hg]
  obtain ⟨g', cap, rfl, _, hlt, _⟩ := hrow.out.open_
  cases hg
  exact World.cell?_of_block (w := wr) (hk.block g' hlt id)
theorem wpList_push2 {rest : List Oper} (hgd : o.guard = none) (e t nb : Nat) (zero : Value) (ht : P.underlying t = some (.slice e)) (hi : (P.info? e).map (fun i => (i.zero, i.size, i.bytes)) = some (some zero, 1, nb)) (hz : zero.cells.size = 1) (hnb : nb ≤ 100) (h1 : x0.oneCell' = true)
    (s x : Operand) (ho : o.op = .call { callee := .builtin .append, args := #[s, x], argTypes := #[t, t] }) (base : Nat) (v : Value) (xs : List Value) (hs : a.eval s = v) (hrow : Hid (Row wr base e v xs))
    (c : Nat) (hx : a.eval x = .slice (some ⟨wr.heap.size, 0, none⟩) 1 c) (hn : xs.length ≤ 1000) (hbase : base ≤ wr.heap.size)
    (h : ∀ v' w', Hid (Row w' base e v' (xs ++ [x0])) → Hid (Keeps (fun k => v.ownBlock = some k) wr w') → wpList P ops Q rest (a.put o.dst v') w') :
    wpList P ops Q (o :: rest) a (wr.alloc (.cells #[x0] e (0, 0))) :=
  wpList_plain hgd fun _ hK => wp_push2 e t nb zero ht hi hz hnb h1 s x ho base v xs hs hrow c hx hn hbase fun v' w' h2 h3 _ => hK _ _ (h v' w' h2 h3)
theorem step_push2 {K : Act → World → Prop} {E : Prop} (hw : Region.wanted o (yielded ops a.tmps) = true) (e t nb : Nat) (zero : Value) (ht : P.underlying t = some (.slice e)) (hi : (P.info? e).map (fun i => (i.zero, i.size, i.bytes)) = some (some zero, 1, nb)) (hz : zero.cells.size = 1) (hnb : nb ≤ 100) (h1 : x0.oneCell' = true)
    (s x : Operand) (ho : o.op = .call { callee := .builtin .append, args := #[s, x], argTypes := #[t, t] }) (base : Nat) (v : Value) (xs : List Value) (hs : a.eval s = v) (hrow : Hid (Row wr base e v xs))
    (c : Nat) (hx : a.eval x = .slice (some ⟨wr.heap.size, 0, none⟩) 1 c) (hn : xs.length ≤ 1000) (hbase : base ≤ wr.heap.size)
    (h : ∀ v' w', Hid (Row w' base e v' (xs ++ [x0])) → Hid (Keeps (fun k => v.ownBlock = some k) wr w') → Hid (∀ j, j < xs.length → ∀ g, v.ownBlock = some g → w'.cell? ⟨g, j, none⟩ = wr.cell? ⟨g, j, none⟩) → K (a.put o.dst v') w') :
    if Region.wanted o (yielded ops a.tmps) = true then Oper.wp P o a (wr.alloc (.cells #[x0] e (0, 0))) K Q else E := by
  rw [if_pos hw]
  exact wp_push2 e t nb zero ht hi hz hnb h1 s x ho base v xs hs hrow c hx hn hbase h
end

theorem info49 : (Tryd.prog.info? 49).map (fun i => (i.zero, i.size, i.bytes)) = some (some (.slice none 0 0), 1, 24) := by kernel_rfl
theorem info5b : (Tryd.prog.info? 5).map (fun i => (i.zero, i.size, i.bytes)) = some (some (.int .u8 0), 1, 1) := by kernel_rfl

/-- A slice of words. -/
def WordsAt (w : World) (base : Nat) (v : Value) (l : List UInt32) : Prop := ∃ xs, Row w base 49 v xs ∧ xs.length = l.length ∧ ∀ j, j < l.length → ∃ u, xs[j]? = some u ∧ WordAt w u (l.getD j 0)
theorem WordAt.keeps49 {S : Nat → Prop} {w w' : World} {v : Value} {x : UInt32} (h : WordAt w v x) (hk : Keeps S w w') (hS : ∀ g, S g → ∃ c fr, w.heap[g]? = some (.cells c 49 fr)) : WordAt w' v x := by
  refine owns_keeps h hk (fun g hg hs => ?_)
  obtain ⟨c, fr, h49⟩ := hS g hs
  obtain ⟨_, ⟨_, h2⟩ | ⟨g', cap, cur, rfl, _, h3, _⟩⟩ := h
  · omega
  · cases hg
    rw [h3] at h49
    cases h49
theorem Row.is49 {w : World} {base : Nat} {v : Value} {xs : List Value} (h : Row w base 49 v xs) (g : Nat) (hg : v.ownBlock = some g) : ∃ c fr, w.heap[g]? = some (.cells c 49 fr) := by
  obtain ⟨g', cap, cur, fr, rfl, _, h3, _⟩ := h
  cases hg
  exact ⟨cur, fr, h3⟩
theorem WordsAt.keeps {w w' : World} {base : Nat} {v : Value} {l : List UInt32} (h : WordsAt w base v l) (hk : Still w w') : WordsAt w' base v l := by
  obtain ⟨xs, h1, h2, h3⟩ := h
  exact ⟨xs, h1.keeps hk (fun _ _ => id), h2, fun j hj => by obtain ⟨u, hu, hw⟩ := h3 j hj; exact ⟨u, hu, hw.keeps hk⟩⟩
/-- .. where another row of slices has been written. -/
theorem WordsAt.keeps49 {S : Nat → Prop} {w w' : World} {base : Nat} {v : Value} {l : List UInt32} (h : WordsAt w base v l) (hk : Keeps S w w') (hS : ∀ g, S g → ∃ c fr, w.heap[g]? = some (.cells c 49 fr)) (hv : ∀ g, v.ownBlock = some g → ¬ S g) : WordsAt w' base v l := by
  obtain ⟨xs, h1, h2, h3⟩ := h
  exact ⟨xs, h1.keeps hk hv, h2, fun j hj => by obtain ⟨u, hu, hw⟩ := h3 j hj; exact ⟨u, hu, hw.keeps49 hk hS⟩⟩
theorem WordsAt.push {w w' : World} {base : Nat} {v v' u : Value} {l : List UInt32} {xs : List Value} {x : UInt32} (h : WordsAt w base v l) (hr : Row w base 49 v xs) (h2 : xs.length = l.length) (h3 : ∀ j, j < l.length → ∃ u, xs[j]? = some u ∧ WordAt w u (l.getD j 0))
    (hr' : Row w' base 49 v' (xs ++ [u])) (hk : Keeps (fun k => v.ownBlock = some k) w w') (hu : WordAt w u x) : WordsAt w' base v' (l ++ [x]) := by
  refine ⟨xs ++ [u], hr', by simp [h2], fun j hj => ?_⟩
  have hS := fun g (hg : v.ownBlock = some g) => hr.is49 g hg
  by_cases q : j < l.length
  · obtain ⟨y, hy, hw⟩ := h3 j q
    refine ⟨y, by rw [List.getElem?_append_left (by omega)]; exact hy, ?_⟩
    rw [List.getD_eq_getElem?_getD, List.getElem?_append_left q, ← List.getD_eq_getElem?_getD]
    exact hw.keeps49 hk hS
  · obtain rfl : j = l.length := by simp at hj; omega
    refine ⟨u, by rw [List.getElem?_append_right (by omega), h2, Nat.sub_self]; rfl, ?_⟩
    rw [List.getD_eq_getElem?_getD, List.getElem?_append_right (by omega), Nat.sub_self]
    exact hu.keeps49 hk hS
end Go.Proofs.YtogojfmaiphiaaaDoor
