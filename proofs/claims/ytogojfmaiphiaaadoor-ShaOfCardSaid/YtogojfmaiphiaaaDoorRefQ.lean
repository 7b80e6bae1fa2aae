/- The document's answer for the sum, its beginning: the message and its end. -/
import Derived.Test.YtogojfmaiphiaaaDoorRefP
import Derived.Test.YtogojfmaiphiaaaDoorHeld
namespace Go.Proofs.YtogojfmaiphiaaaDoor
open Go.RowKit

theorem bytes_row (w : World) (s : ByteArray) (hs : s.size ≤ 1000) : ∃ (w' : World) (c : Nat), (convert 9 25 (.string s)).run Tryd.prog w = .ok (.slice (some ⟨w.heap.size, 0, none⟩) s.size c) w' ∧ Still w w' ∧
    Row w' w.heap.size 5 (.slice (some ⟨w.heap.size, 0, none⟩) s.size c) (bts s.data.toList) := by
  have hl : (bts s.data.toList).length = s.size := by rw [length_bts, len_data]
  have hge := grownCap_ge w s.size 0 5
  have hsz : (bytesRow s (grownCap w s.size 0 5)).size = grownCap w s.size 0 5 := by
    rw [bytesRow, Array.size_append, Array.size_map, Array.size_replicate]
    have : s.data.size = s.size := rfl
    omega
  refine ⟨_, _, run_bytes_of_string (P := Tryd.prog) w 9 25 5 s Tryd.underlying9 Tryd.underlying25 Tryd.underlying5, ((Keeps.refl _ _).drew).alloc _, ⟨w.heap.size, _, _, _, by rw [hl], Nat.le_refl _, heap_alloc_new w.drew _, fun j hj h => by have := h.1; omega, by rw [hl]; exact hge, grownCap_le_maxLen w s.size 0 5 (by unfold maxLen; omega), hsz, ?_⟩⟩
  rw [hl, bytesRow, Array.toList_append, List.take_append_of_le_length (by simp), List.take_of_length_le (by simp)]
  simp [bts]
theorem Row.shape {w : World} {base e n : Nat} {v : Value} {xs : List Value} (h : Row w base e v xs) (hn : xs.length = n) : ∃ g cap, v = .slice (some ⟨g, 0, none⟩) n cap ∧ n ≤ cap := by
  obtain ⟨g, cap, rfl, _, _, hc, _⟩ := h.open_
  exact ⟨g, cap, by rw [hn], by omega⟩
theorem Row.ge {w : World} {base e : Nat} {v : Value} {xs : List Value} (h : Row w base e v xs) (g : Nat) (hg : v.ownBlock = some g) : base ≤ g ∧ g < w.heap.size := by
  obtain ⟨g', cap, rfl, h1, h2, _⟩ := h.open_
  cases hg
  exact ⟨h1, h2⟩

def RelZ (w wr : World) (L : List UInt8) (v : Value) : Prop := ∃ z : Nat, z ≤ far (L.length + 1) ∧ Hid (Row wr w.heap.size 5 v (bts ((L ++ [128]) ++ List.replicate z 0))) ∧ Hid (Still w wr)
theorem relZ {w wr : World} {L : List UInt8} {v : Value} (z : Nat) (h1 : z ≤ far (L.length + 1)) (h2 : Hid (Row wr w.heap.size 5 v (bts ((L ++ [128]) ++ List.replicate z 0)))) (h3 : Hid (Still w wr)) : RelZ w wr L v := ⟨z, h1, h2, h3⟩
theorem take_be8 (n j : Nat) (hj : j < 8) : (be8 n).take (j + 1) = (be8 n).take j ++ [UInt8.ofNat (n / 2 ^ (56 - 8 * j))] := by
  rw [List.take_succ_eq_append_getElem (by rw [length_be8]; exact hj)]
  simp [be8]
def RelE8 (w wr : World) (M : List UInt8) (n : Nat) (v i : Value) : Prop := ∃ j : Nat, i = .int .i64 (7 - (j : Int)) ∧ j ≤ 8 ∧ Hid (Row wr w.heap.size 5 v (bts (M ++ (be8 n).take j))) ∧ Hid (Still w wr)
theorem relE8 {w wr : World} {M : List UInt8} {n : Nat} {v i : Value} (j : Nat) (h1 : i = .int .i64 (7 - (j : Int))) (h2 : j ≤ 8) (h3 : Hid (Row wr w.heap.size 5 v (bts (M ++ (be8 n).take j)))) (h4 : Hid (Still w wr)) : RelE8 w wr M n v i := ⟨j, h1, h2, h3, h4⟩
def RelQ (wr w0 : World) (n i : Nat) (nv kv : Value) : Prop := ∃ k m : Nat, kv = .int .i64 (k : Int) ∧ k ≤ i ∧ nv = .int .i64 (m : Int) ∧ m ≤ n ∧ Hid (m = n / 256 ^ k) ∧ Hid (wr = w0)
theorem relQ {wr w0 : World} {n i : Nat} {nv kv : Value} (k m : Nat) (h1 : kv = .int .i64 (k : Int)) (h2 : k ≤ i) (h3 : nv = .int .i64 (m : Int)) (h4 : m ≤ n) (h5 : Hid (m = n / 256 ^ k)) (h6 : Hid (wr = w0)) : RelQ wr w0 n i nv kv := ⟨k, m, h1, h2, h3, h4, h5, h6⟩

/-! Rows of words, and what stays as it was while a block is taken. -/
def K4 : List UInt32 := [1518500249, 1859775393, 2400959708, 3395469782]
theorem words_new (w : World) (base : Nat) (xs : List Value) (l : List UInt32) (hb : base ≤ w.heap.size) (hl : xs.length ≤ 1000) (h2 : xs.length = l.length) (h3 : ∀ j, j < l.length → ∃ u, xs[j]? = some u ∧ WordAt w u (l.getD j 0)) :
    WordsAt (w.alloc (.cells xs.toArray 49 (0, 0))) base (.slice (some ⟨w.heap.size, 0, none⟩) xs.length xs.length) l :=
  ⟨xs, row_new w base 49 xs hb hl, h2, fun j hj => by obtain ⟨u, hu, hw⟩ := h3 j hj; exact ⟨u, hu, hw.keeps ((Keeps.refl _ _).alloc _)⟩⟩
theorem WordsAt.shape {w : World} {base n : Nat} {v : Value} {l : List UInt32} (h : WordsAt w base v l) (hn : l.length = n) : ∃ g cap, v = .slice (some ⟨g, 0, none⟩) n cap ∧ n ≤ cap ∧ base ≤ g ∧ g < w.heap.size := by
  obtain ⟨xs, h1, h2, _⟩ := h
  obtain ⟨g, cap, rfl, hc⟩ := h1.shape (n := n) (by omega)
  obtain ⟨a, b⟩ := h1.ge g rfl
  exact ⟨g, cap, rfl, hc, a, b⟩
theorem WordsAt.cell {w : World} {base g n cap : Nat} {l : List UInt32} (h : WordsAt w base (.slice (some ⟨g, 0, none⟩) n cap) l) (j : Nat) (hj : j < l.length) : ∃ u, w.cell? ⟨g, j, none⟩ = some u ∧ WordAt w u (l.getD j 0) := by
  obtain ⟨xs, h1, h2, h3⟩ := h
  obtain ⟨u, hu, hw⟩ := h3 j hj
  obtain ⟨g', cap', e, _, _, _, _, hc, _⟩ := h1.open_
  cases e
  exact ⟨u, by rw [hc j (by omega), hu], hw⟩
def Env (w wr : World) (B : Nat) (vb vh vk : Value) (P : List UInt8) (hs : List UInt32) : Prop :=
  Row wr w.heap.size 5 vb (bts P) ∧ WordsAt wr w.heap.size vh hs ∧ WordsAt wr w.heap.size vk K4 ∧ Still w wr ∧ w.heap.size ≤ B ∧ B ≤ wr.heap.size ∧ (∀ g, vb.ownBlock = some g → g < B) ∧ (∀ g, vh.ownBlock = some g → g < B) ∧ (∀ g, vk.ownBlock = some g → g < B) ∧ (∀ g, vh.ownBlock = some g → vk.ownBlock ≠ some g)
theorem Env.still {w wr w' : World} {B : Nat} {vb vh vk : Value} {P : List UInt8} {hs : List UInt32} (h : Env w wr B vb vh vk P hs) (hk : Still wr w') : Env w w' B vb vh vk P hs := by
  obtain ⟨h1, h2, h3, h4, h5, h6, h7⟩ := h
  exact ⟨h1.keeps hk (fun _ _ => id), h2.keeps hk, h3.keeps hk, h4.trans hk, h5, Nat.le_trans h6 hk.size, h7⟩
theorem Env.own {S : Nat → Prop} {w wr w' : World} {B : Nat} {vb vh vk : Value} {P : List UInt8} {hs : List UInt32} (h : Env w wr B vb vh vk P hs) (hk : Keeps S wr w') (hS : ∀ g, S g → B ≤ g) (h49 : ∀ g, S g → ∃ c fr, wr.heap[g]? = some (.cells c 49 fr)) : Env w w' B vb vh vk P hs := by
  obtain ⟨h1, h2, h3, h4, h5, h6, h7, h8, h9, h10⟩ := h
  exact ⟨h1.keeps hk (fun g hg hs => by have := hS g hs; have := h7 g hg; omega), h2.keeps49 hk h49 (fun g hg hs => by have := hS g hs; have := h8 g hg; omega), h3.keeps49 hk h49 (fun g hg hs => by have := hS g hs; have := h9 g hg; omega),
    h4.on hk (fun i hi hs => by have := hS i hs; omega), h5, Nat.le_trans h6 hk.size, h7, h8, h9, h10⟩
theorem Env.to {w wr : World} {B B' : Nat} {vb vh vk : Value} {P : List UInt8} {hs : List UInt32} (h : Env w wr B vb vh vk P hs) (h1 : B ≤ B') (h2 : B' ≤ wr.heap.size) : Env w wr B' vb vh vk P hs := by
  obtain ⟨a1, a2, a3, a4, a5, a6, a7, a8, a9, a10⟩ := h
  exact ⟨a1, a2, a3, a4, by omega, h2, fun g hg => by have := a7 g hg; omega, fun g hg => by have := a8 g hg; omega, fun g hg => by have := a9 g hg; omega, a10⟩
theorem slice25b (w : World) (g n cap lo hi : Nat) (zl zh : Int) (hzl : zl = lo) (hzh : zh = hi) (h1 : lo ≤ hi) (h2 : hi ≤ cap) (h3 : lo < cap) :
    (Instr.slice 25 (.slice (some ⟨g, 0, none⟩) n cap) (some (.int .i64 zl)) (some (.int .i64 zh)) none).run Tryd.prog w = .ok (.slice (some ⟨g, lo, none⟩) (hi - lo) (cap - lo)) w := by
  subst hzl hzh
  rw [run_slice_lh w 25 _ n cap un25 .i64 .i64 lo hi (by omega) (by omega) (by omega), el25, size5]
  simp only [Result.andThen_ok, Int.toNat_natCast, sliced, Nat.mul_one, Option.map_some]
  rw [if_neg (by omega), Addr.add_lit, Nat.zero_add]
theorem Row.byte {w : World} {base g n cap : Nat} {P : List UInt8} (h : Row w base 5 (.slice (some ⟨g, 0, none⟩) n cap) (bts P)) (i : Nat) (hi : i < P.length) : w.cell? ⟨g, i, none⟩ = some (.int .u8 ((P.getD i 0).toNat : Int)) := by
  obtain ⟨g', cap', e, _, _, _, _, hc, _⟩ := h.open_
  cases e
  rw [hc i (by rw [length_bts]; exact hi), bts_at P i hi]
  simp [List.getD, List.getElem?_eq_getElem hi]
/-- The row of words is as it was, so far as it goes; no other old memory is written. -/
def S2 (wr : World) (g n cap : Nat) (w' : World) : Prop := Keeps (fun k => (Value.slice (some ⟨g, 0, none⟩) n cap).ownBlock = some k) wr w' ∧ ∀ i, i < n → w'.cell? ⟨g, i, none⟩ = wr.cell? ⟨g, i, none⟩
theorem S2.next {wr wz w' : World} {g n cap : Nat} (h : S2 wr g n cap wz) (hlt : g < wr.heap.size) (hk : Still wz w') : S2 wr g n cap w' :=
  ⟨h.1.trans hk.still, fun i hi => (World.cell?_of_block (w := wz) (hk.block g (Nat.lt_of_lt_of_le hlt h.1.size) id)).trans (h.2 i hi)⟩
theorem row_of_owns {w : World} {b e n : Nat} {v : Value} {xs : List Value} (h : w.ownsRow b e 1 v n xs) (hn : 0 < n) : Row w b e v xs := by
  obtain ⟨h1, ⟨_, h2⟩ | ⟨g, cap, cur, rfl, h3, h4, h5, h6, h7, h8⟩⟩ := h
  · omega
  · rw [Nat.mul_one] at h1 h7 h8
    exact ⟨g, cap, cur, (0, 0), by rw [h1], h3, h4, fun j _ hh => by have := hh.2; omega, by omega, h6, h7, by rw [h1]; exact h8⟩
theorem WordsAt.base {w : World} {b b' : Nat} {v : Value} {l : List UInt32} (h : WordsAt w b v l) (hb : b' ≤ b) : WordsAt w b' v l := by
  obtain ⟨xs, ⟨g, cap, cur, fr, rfl, h3, h4⟩, h5⟩ := h
  exact ⟨xs, ⟨g, cap, cur, fr, rfl, by omega, h4⟩, h5⟩
theorem one_word {w : World} {u : Value} {x : UInt32} (h : WordAt w u x) : u.oneCell' = true := by
  obtain ⟨g, cap, rfl, _⟩ := h.open_
  rfl
/-- append([][]int{}, h...) -/
theorem wpList_copyH {ops : Array Oper} {rest : List Oper} {o : Oper} {a : Act} {Q : Exit → Act → World → Prop} {wr : World} (hgd : o.guard = none) (s x : Operand) (ho : o.op = .call { callee := .builtin .append, args := #[s, x], argTypes := #[51, 51] })
    (b0 gh n cap : Nat) (hs : List UInt32) (hW : Hid (WordsAt wr b0 (.slice (some ⟨gh, 0, none⟩) n cap) hs)) (hl : hs.length = n) (hn : 0 < n) (hn1 : n ≤ 100) (h1 : a.eval s = .slice (some ⟨wr.heap.size, 0, none⟩) 0 0) (hx : a.eval x = .slice (some ⟨gh, 0, none⟩) n cap)
    (h : ∀ v' w', Hid (WordsAt w' wr.heap.size v' hs) → Hid (Still wr w') → wpList Tryd.prog ops Q rest (a.put o.dst v') w') :
    wpList Tryd.prog ops Q (o :: rest) a (wr.alloc (.cells #[] 49 (0, 0))) := by
  obtain ⟨i, hi1, hi2, hi3, hi4⟩ := info_partsN info49
  obtain ⟨xs, r1, r2, r3⟩ := hW.out
  have hk : Still wr (wr.alloc (.cells #[] 49 (0, 0))) := (Keeps.refl _ _).alloc _
  obtain ⟨g', cap', e, _, _, _, _, hc, _⟩ := r1.open_
  cases e
  refine wpList_append_own _ hgd s x 51 ho wr.heap.size 49 i (.slice none 0 0) 1 24 Tryd.underlying51 hi1 hi2 hi3 hi4 rfl (by decide) _ 0 [] h1 (own_new wr wr.heap.size 49 (Nat.le_refl _)) ⟨gh, 0, none⟩ _ _ xs hx (by omega) (fun j u hj => ?_) (fun u hu => ?_) (by unfold maxLen; omega) (by omega) (by simp) ?_
  · have hjl : j < xs.length := by
      rcases Nat.lt_or_ge j xs.length with q | q
      · exact q
      · rw [List.getElem?_eq_none q] at hj; cases hj
    rw [Addr.add_lit, Nat.zero_add]
    exact hk.cell ((hc j hjl).trans hj) id
  · obtain ⟨j, hj⟩ := List.getElem?_of_mem hu
    have hjl : j < xs.length := by
      rcases Nat.lt_or_ge j xs.length with q | q
      · exact q
      · rw [List.getElem?_eq_none q] at hj; cases hj
    obtain ⟨u', hu', hw⟩ := r3 j (by omega)
    rw [hj] at hu'
    cases hu'
    exact one_word hw
  · intro v' w' hown hgr _
    have hk2 : Still wr w' := hk.on (T := fun _ => False) (grown_keeps hgr) (fun i hi e => by cases e; exact Nat.lt_irrefl _ hi)
    exact h v' w' ⟨xs, row_of_owns hown (by omega), r2, fun j hj => by obtain ⟨u, hu, hw⟩ := r3 j hj; exact ⟨u, hu, hw.keeps hk2⟩⟩ hk2
theorem k4_at (t : Nat) (h : t < 80) : K4.getD (t / 20) 0 = mixk t := by
  unfold mixk
  rcases (show t / 20 = 0 ∨ t / 20 = 1 ∨ t / 20 = 2 ∨ t / 20 = 3 by omega) with e | e | e | e
  · rw [e, if_pos (by omega)]; rfl
  · rw [e, if_neg (by omega), if_pos (by omega)]; rfl
  · rw [e, if_neg (by omega), if_neg (by omega), if_pos (by omega)]; rfl
  · rw [e, if_neg (by omega), if_neg (by omega), if_neg (by omega)]; rfl
def RelR (w wr : World) (B : Nat) (vb vh vk vw : Value) (P : List UInt8) (h : S5) (W : List UInt32) (v i : Value) : Prop := ∃ t : Nat, i = .int .i64 (t : Int) ∧ t ≤ 80 ∧ Hid (WordsAt wr B v (st W h t).list) ∧ Hid (WordsAt wr 0 vw W) ∧ Hid (Env w wr B vb vh vk P h.list)
theorem relR {w wr : World} {B : Nat} {vb vh vk vw : Value} {P : List UInt8} {h : S5} {W : List UInt32} {v i : Value} (t : Nat) (h1 : i = .int .i64 (t : Int)) (h2 : t ≤ 80) (h3 : Hid (WordsAt wr B v (st W h t).list)) (h4 : Hid (WordsAt wr 0 vw W)) (h5 : Hid (Env w wr B vb vh vk P h.list)) : RelR w wr B vb vh vk vw P h W v i := ⟨t, h1, h2, h3, h4, h5⟩
theorem WordsAt.set {w : World} {b g n cap : Nat} {l : List UInt32} (h : WordsAt w b (.slice (some ⟨g, 0, none⟩) n cap) l) (i : Nat) (hi : i < l.length) (v : Value) (x : UInt32) (hv : WordAt w v x) :
    WordsAt (w.setCell ⟨g, i, none⟩ v) b (.slice (some ⟨g, 0, none⟩) n cap) (l.set i x) := by
  obtain ⟨xs, ⟨g', cap', cur, fr, e, h2, h3, h4, h5, h6, h7, h8⟩, r2, r3⟩ := h
  cases e
  have h49 : ∀ q, q = g → ∃ c fr, w.heap[q]? = some (.cells c 49 fr) := fun q hq => by subst hq; exact ⟨_, _, h3⟩
  have hk : Keeps (fun q => q = g) w (w.setCell ⟨g, i, none⟩ v) := (Keeps.refl (fun q => q = g) w).setCell (p := ⟨g, i, none⟩) rfl v
  refine ⟨xs.set i v, ⟨g, cap, cur.setIfInBounds i v, fr, by rw [List.length_set], h2, ?_, by simpa using h4, by simpa using h5, h6, by simpa using h7, ?_⟩, by simpa using r2, fun j hj => ?_⟩
  · rw [setCell_eq_setRow w g i cur 49 fr v h3]
    exact setRow_heap w g cur _ 49 fr h3
  · rw [List.length_set, Array.toList_setIfInBounds, List.take_set, h8]
  · have hj' : j < l.length := by simpa using hj
    by_cases q : i = j
    · subst q
      refine ⟨v, by rw [List.getElem?_set_self (by omega)], ?_⟩
      rw [List.getD_eq_getElem?_getD, List.getElem?_set_self hi]
      exact hv.keeps49 hk h49
    · obtain ⟨u, hu, hw⟩ := r3 j hj'
      refine ⟨u, by rw [List.getElem?_set_ne q]; exact hu, ?_⟩
      rw [List.getD_eq_getElem?_getD, List.getElem?_set_ne q, ← List.getD_eq_getElem?_getD]
      exact hw.keeps49 hk h49
theorem WordsAt.free {w : World} {b g n cap : Nat} {l : List UInt32} (h : WordsAt w b (.slice (some ⟨g, 0, none⟩) n cap) l) (i : Nat) (hi : i < l.length) : w.frozen? ⟨g, i, none⟩ = false := by
  obtain ⟨xs, r1, r2, _⟩ := h
  obtain ⟨g', cap', e, _, _, _, _, _, hf⟩ := r1.open_
  cases e
  exact hf i (by omega)
theorem plusK_next (h t : S5) (i : Nat) (hi : i < 5) : (plusK (i + 1) h t).list = (plusK i h t).list.set i ((plusK i h t).list.getD i 0 + t.list.getD i 0) := by
  rcases (show i = 0 ∨ i = 1 ∨ i = 2 ∨ i = 3 ∨ i = 4 by omega) with rfl | rfl | rfl | rfl | rfl <;> rfl
theorem plusK_all (h t : S5) : plusK 5 h t = h.plus t := rfl
theorem plusK_none (h t : S5) : plusK 0 h t = h := rfl
theorem Env.setH {w wr w' : World} {B gb gh N cb nh ch : Nat} {vk : Value} {P : List UInt8} {hs hs' : List UInt32} (h : Env w wr B (.slice (some ⟨gb, 0, none⟩) N cb) (.slice (some ⟨gh, 0, none⟩) nh ch) vk P hs) (hk : Keeps (fun q => q = gh) wr w') (hW : WordsAt w' w.heap.size (.slice (some ⟨gh, 0, none⟩) nh ch) hs') :
    Env w w' B (.slice (some ⟨gb, 0, none⟩) N cb) (.slice (some ⟨gh, 0, none⟩) nh ch) vk P hs' := by
  obtain ⟨h1, h2, h3, h4, h5, h6, h7, h8, h9, h10⟩ := h
  obtain ⟨xs, r1, _, _⟩ := h2
  obtain ⟨g0, _, e0, _, _, _, ⟨ch', fr', hh⟩, _⟩ := r1.open_
  cases e0
  have hge := (r1.ge gh rfl).1
  refine ⟨h1.keeps hk (fun g hg hq => ?_), hW, h3.keeps49 hk (fun g hg => by subst hg; exact ⟨_, _, hh⟩) (fun g hg hq => by subst hq; exact h10 g rfl hg), h4.on hk (fun i hi e => by omega), h5, Nat.le_trans h6 hk.size, h7, h8, h9, h10⟩
  cases hg
  subst hq
  obtain ⟨g1, _, e1, _, _, _, ⟨c1, f1, hc1⟩, _⟩ := h1.open_
  cases e1
  rw [hh] at hc1
  cases hc1
theorem Env.back {w wr : World} {B B0 gb gh gk N cb nh ch nk ck : Nat} {P : List UInt8} {hs : List UInt32} (h : Env w wr B (.slice (some ⟨gb, 0, none⟩) N cb) (.slice (some ⟨gh, 0, none⟩) nh ch) (.slice (some ⟨gk, 0, none⟩) nk ck) P hs) (h1 : w.heap.size ≤ B0) (h2 : B0 ≤ B) (hb : gb < B0) (hh : gh < B0) (hk : gk < B0) :
    Env w wr B0 (.slice (some ⟨gb, 0, none⟩) N cb) (.slice (some ⟨gh, 0, none⟩) nh ch) (.slice (some ⟨gk, 0, none⟩) nk ck) P hs := by
  obtain ⟨a1, a2, a3, a4, a5, a6, a7, a8, a9, a10⟩ := h
  exact ⟨a1, a2, a3, a4, h1, Nat.le_trans h2 a6, fun g hg => by cases hg; exact hb, fun g hg => by cases hg; exact hh, fun g hg => by cases hg; exact hk, a10⟩
def RelH (w wr : World) (B : Nat) (vb vh vk vx : Value) (P : List UInt8) (h t : S5) (i : Value) : Prop := ∃ k : Nat, i = .int .i64 (k : Int) ∧ k ≤ 5 ∧ Hid (WordsAt wr 0 vx t.list) ∧ Hid (Env w wr B vb vh vk P (plusK k h t).list)
theorem relH {w wr : World} {B : Nat} {vb vh vk vx : Value} {P : List UInt8} {h t : S5} {i : Value} (k : Nat) (h1 : i = .int .i64 (k : Int)) (h2 : k ≤ 5) (h3 : Hid (WordsAt wr 0 vx t.list)) (h4 : Hid (Env w wr B vb vh vk P (plusK k h t).list)) : RelH w wr B vb vh vk vx P h t i := ⟨k, h1, h2, h3, h4⟩
def RelD (w wr : World) (B : Nat) (vb vh vk : Value) (P : List UInt8) (h : S5) (ov i : Value) : Prop := ∃ (k : Nat) (o : ByteArray), i = .int .i64 (k : Int) ∧ k ≤ 5 ∧ ov = .string o ∧ Hid (o.data.toList = outB h (4 * k)) ∧ Hid (Env w wr B vb vh vk P h.list)
theorem relD {w wr : World} {B : Nat} {vb vh vk : Value} {P : List UInt8} {h : S5} {ov i : Value} (k : Nat) (o : ByteArray) (h1 : i = .int .i64 (k : Int)) (h2 : k ≤ 5) (h3 : ov = .string o) (h4 : Hid (o.data.toList = outB h (4 * k))) (h5 : Hid (Env w wr B vb vh vk P h.list)) : RelD w wr B vb vh vk P h ov i := ⟨k, o, h1, h2, h3, h4, h5⟩
theorem out_four (h : S5) (k : Nat) (x : UInt32) (hx : x = h.list.getD k 0) : outB h (4 * (k + 1)) = outB h (4 * k) ++ [UInt8.ofNat (x.toNat / 2 ^ 24), UInt8.ofNat (x.toNat / 2 ^ 16), UInt8.ofNat (x.toNat / 2 ^ 8), UInt8.ofNat x.toNat] := by
  rw [show 4 * (k + 1) = 4 * k + 1 + 1 + 1 + 1 by omega, outB_next, outB_next, outB_next, outB_next]
  simp only [List.append_assoc, List.singleton_append, List.cons_append, List.nil_append]
  rw [show 4 * k / 4 = k by omega, show (4 * k + 1) / 4 = k by omega, show (4 * k + 1 + 1) / 4 = k by omega, show (4 * k + 1 + 1 + 1) / 4 = k by omega, ← hx,
    show 24 - 8 * (4 * k % 4) = 24 by omega, show 24 - 8 * ((4 * k + 1) % 4) = 16 by omega, show 24 - 8 * ((4 * k + 1 + 1) % 4) = 8 by omega, show 24 - 8 * ((4 * k + 1 + 1 + 1) % 4) = 0 by omega, Nat.pow_zero, Nat.div_one]
def RelC (w wr : World) (B J : Nat) (vb vh vk : Value) (P : List UInt8) (i : Value) : Prop := ∃ j : Nat, i = .int .i64 ((64 * j : Nat) : Int) ∧ j ≤ J ∧ Hid (Env w wr B vb vh vk P (stB P j).list)
theorem relC {w wr : World} {B J : Nat} {vb vh vk : Value} {P : List UInt8} {i : Value} (j : Nat) (h1 : i = .int .i64 ((64 * j : Nat) : Int)) (h2 : j ≤ J) (h3 : Hid (Env w wr B vb vh vk P (stB P j).list)) : RelC w wr B J vb vh vk P i := ⟨j, h1, h2, h3⟩
def RelS1 (w wr : World) (B : Nat) (vb vh vk : Value) (P : List UInt8) (hs : List UInt32) (p : List UInt8) (v i : Value) : Prop := ∃ t : Nat, i = .int .i64 (t : Int) ∧ t ≤ 80 ∧ Hid (WordsAt wr B v (wl p t)) ∧ Hid (Env w wr B vb vh vk P hs)
theorem relS1 {w wr : World} {B : Nat} {vb vh vk : Value} {P : List UInt8} {hs : List UInt32} {p : List UInt8} {v i : Value} (t : Nat) (h1 : i = .int .i64 (t : Int)) (h2 : t ≤ 80) (h3 : Hid (WordsAt wr B v (wl p t))) (h4 : Hid (Env w wr B vb vh vk P hs)) : RelS1 w wr B vb vh vk P hs p v i := ⟨t, h1, h2, h3, h4⟩

set_option maxRecDepth 100000 in
set_option maxHeartbeats 32000000 in
theorem ref_of (w : World) (s q : ByteArray) (hs : s.size ≤ 300) (hq : q.data.toList = sumOf s.data.toList) :
    Calls Tryd.prog 17 #[.string s] w fun e w' => e = .returned (.string q) ∧ Still w w' := by
  obtain ⟨w1, c1, hrun, hk1, hr1⟩ := bytes_row w s (by omega)
  obtain ⟨L, hL⟩ : ∃ L, L = s.data.toList := ⟨_, rfl⟩
  rw [← hL] at hr1 hq
  have hLs : L.length = s.size := by rw [hL, len_data]
  have HR1 := Lib.hid hr1
  have HK1 := Lib.hid hk1
  have HQ := Lib.hid hq
  have HLS := Lib.hid hLs
  have hbase1 := hk1.size
  have hl1 : (bts L).length ≤ 1000 := by rw [length_bts]; omega
  clear hr1 hk1 hq hL hLs
  go_enter Tryd.func17, Tryd.ntmps17
  go_wp2_with (with_reducible refine wpList_push2 (o := ⟨some 25, _, _, _, _, _⟩) rfl 5 25 1 (.int .u8 0) Tryd.underlying25 info5b rfl (by omega) rfl (.tmp 23) (.tmp 24) rfl w.heap.size (.slice (some ⟨w.heap.size, 0, none⟩) s.size c1) (bts L) rfl HR1 1 rfl hl1 hbase1 ?_; intro v2 w2 hr2 hk2)
  have HR2 := Lib.hid (show Row w2 w.heap.size 5 v2 (bts ((L ++ [128]) ++ List.replicate 0 0)) by rw [List.replicate_zero, List.append_nil, bts_append]; exact hr2.out)
  have HK2 := Lib.hid (HK1.out.on (T := fun _ => False) hk2.out (fun i hi e => by have := (HR1.out.ge i e).1; omega))
  clear hr2 hk2 hrun HR1 HK1 hbase1 hl1
  go_loopw [3] (fun v wr => RelZ w wr L v) (fun v _ => match v with | .slice _ n _ => 1000 - n | _ => 0)
  case atStart => exact relZ 0 (Nat.zero_le _) HR2 HK2
  case round =>
    clear HR2 HK2
    obtain ⟨z, hz, hrow, hst⟩ := hrel
    obtain ⟨n, hn⟩ : ∃ n, n = L.length + 1 + z := ⟨_, rfl⟩
    have hfar64 : far (L.length + 1) < 64 := Nat.mod_lt _ (by omega)
    have hL300 : L.length ≤ 300 := by rw [HLS.out]; exact hs
    obtain ⟨g, cap, rfl, hcap⟩ := hrow.out.shape (n := n) (by rw [length_bts]; simp; omega)
    obtain ⟨a, ha⟩ : ∃ a, a = n % 64 := ⟨_, rfl⟩
    have e1 : (n : Int) % 64 = (a : Int) := by omega
    have e2 : (n : Int).tmod 64 = (a : Int) := by rw [Int.tmod_eq_emod_of_nonneg (by omega)]; exact e1
    by_cases h56 : a = 56
    · have hzf : z = far (L.length + 1) := by unfold far at hz hfar64 ⊢; omega
      subst hzf
      have h56' : (a : Int) = 56 := by omega
      obtain ⟨M, hM⟩ : ∃ M, M = (L ++ [128]) ++ List.replicate (far (L.length + 1)) 0 := ⟨_, rfl⟩
      rw [← hM] at hrow
      obtain ⟨B, hB⟩ : ∃ B, B = s.size * 8 := ⟨_, rfl⟩
      have HP := Lib.hid (show M ++ be8 B = padMsg L by rw [hM, hB, ← HLS.out]; rfl)
      have HML := Lib.hid (show M.length = n by rw [hM, hn]; simp; omega)
      have eB : 8 * (s.size : Int) = (B : Int) := by omega
      have hB1 : B ≤ 2400 := by omega
      have hn500 : n ≤ 500 := by omega
      have HR8 := Lib.hid (show Row wr w.heap.size 5 (.slice (some ⟨g, 0, none⟩) n cap) (bts (M ++ (be8 B).take 0)) by rw [List.take_zero, List.append_nil]; exact hrow.out)
      clear hM hB hn ha hz hfar64 hrow h56
      go_wp2_with fail
      go_loopw [3, 5] (fun v i wr => RelE8 w wr M B v i) (fun _ i _ => match i with | .int _ z => (z + 1).toNat | _ => 0)
      case atStart => exact relE8 0 rfl (by omega) HR8 hst
      case round =>
        clear HR8 hst
        obtain ⟨j, rfl, hj, hrow, hst⟩ := hrel
        by_cases hlt : j < 8
        · have e5 : (0 : Int) ≤ 7 - (j : Int) := by omega
          obtain ⟨i, hi⟩ : ∃ i, i = 7 - j := ⟨_, rfl⟩
          have ei : 7 - (j : Int) = (i : Int) := by omega
          rw [ei] at e5 ⊢
          obtain ⟨g, cap, rfl, hcap⟩ := hrow.out.shape (n := n + j) (by rw [length_bts, List.length_append, HML.out, List.length_take, length_be8, Nat.min_eq_left (by omega)])
          have hi7 : i ≤ 7 := by omega
          have HI := Lib.hid hi
          clear hi ei
          go_wp2_with fail
          go_loopw [6, 7] (fun nv kv w' => RelQ w' wr B i nv kv) (fun _ k _ => i - (intOf k).toNat)
          case atStart => exact relQ 0 B rfl (Nat.zero_le _) rfl (Nat.le_refl _) (show B = B / 256 ^ 0 by simp) rfl
          case round =>
            obtain ⟨k, m, rfl, hk, rfl, hm, hmk, hw⟩ := hrel
            obtain rfl := hw.out
            by_cases hki : k < i
            · obtain ⟨m2, hm2⟩ : ∃ m2, m2 = m / 256 := ⟨_, rfl⟩
              have e6 : (m : Int).tdiv 256 = (m2 : Int) := by rw [Int.tdiv_eq_ediv_of_nonneg (by omega)]; omega
              have e7 : (m : Int) / 256 = (m2 : Int) := by omega
              have HM2 := Lib.hid (show m2 = B / 256 ^ (k + 1) by rw [hm2, hmk.out, Nat.div_div_eq_div_mul, ← Nat.pow_succ])
              have hm2B : m2 ≤ B := by omega
              clear hm2
              go_wp2_with fail
              first
              | exact ⟨relQ (k + 1) m2 (by simp) (by omega) rfl hm2B HM2 rfl, by simp [intOf]; omega⟩
              | (go_roundw
                 case rel => first | exact relQ (k + 1) m2 (by simp) (by omega) rfl hm2B HM2 rfl | ((repeat apply Exists.intro); exact ⟨relQ (k + 1) m2 (by simp) (by omega) rfl hm2B HM2 rfl, by and_intros <;> first | rfl | simp⟩)
                 case measure => simp [intOf]; omega)
            · obtain rfl : k = i := by omega
              obtain ⟨r, hr⟩ : ∃ r, r = m % 256 := ⟨_, rfl⟩
              have e6 : (m : Int).tmod 256 = (r : Int) := by rw [Int.tmod_eq_emod_of_nonneg (by omega)]; omega
              have e7 : (m : Int) % 256 = (r : Int) := by omega
              have hr256 : r < 256 := by omega
              have e8 : IntKind.u8.wrap (r : Int) = (r : Int) := IntWalk.u8_in _ (by omega)
              have hl1 : (bts (M ++ (be8 B).take j)).length ≤ 1000 := by rw [length_bts, List.length_append, HML.out, List.length_take, length_be8]; omega
              have hbase := hst.out.size
              have HX := Lib.hid (show (r : Int) = ((UInt8.ofNat (B / 2 ^ (56 - 8 * j))).toNat : Int) by
                rw [UInt8.toNat_ofNat', hr, hmk.out, HI.out, show (256 : Nat) = 2 ^ 8 from rfl, ← Nat.pow_mul, show 8 * (7 - j) = 56 - 8 * j by omega])
              clear hr
              go_wp2_with (with_reducible refine wpList_push2 (o := ⟨some 53, _, _, _, _, _⟩) rfl 5 25 1 (.int .u8 0) Tryd.underlying25 info5b rfl (by omega) rfl (.tmp 48) (.tmp 52) rfl w.heap.size (.slice (some ⟨g, 0, none⟩) (n + j) cap) _ rfl hrow 1 rfl hl1 hbase ?_; intro v3 w3 hr3 hk3)
              have HR3 := Lib.hid (show Row w3 w.heap.size 5 v3 (bts (M ++ (be8 B).take (j + 1))) by rw [take_be8 B j hlt, ← List.append_assoc, bts_append (_ ++ _)]; have := hr3.out; rw [HX.out] at this; exact this)
              have HK3 := Lib.hid (hst.out.on (T := fun _ => False) hk3.out (fun i hi e => by have := (hrow.out.ge i e).1; omega))
              have eI : (k : Int) - 1 = 7 - ((j + 1 : Nat) : Int) := by have := HI.out; omega
              clear hr3 hk3 hrow hst
              go_wp2_with fail
              rw [eI]
              refine ⟨relE8 (j + 1) rfl (by omega) HR3 HK3, ?_⟩
              show ((7 - ((j + 1 : Nat) : Int)) + 1).toNat < ((k : Int) + 1).toNat
              have := HI.out
              omega
        · obtain rfl : j = 8 := by omega
          obtain ⟨P, hP⟩ : ∃ P, P = padMsg L := ⟨_, rfl⟩
          obtain ⟨N, hN⟩ : ∃ N, N = n + 8 := ⟨_, rfl⟩
          have HRM := Lib.hid (show Row wr w.heap.size 5 u3 (bts P) by have := hrow.out; rwa [List.take_of_length_le (by rw [length_be8]; omega), HP.out, ← hP] at this)
          have HPL := Lib.hid (show P.length = N by rw [hP, ← HP.out, List.length_append, HML.out, length_be8, hN])
          have HPM := Lib.hid hP
          have hN64 : N % 64 = 0 := by rw [← HPL.out, hP]; exact length_padMsg L
          have hN500 : N ≤ 508 := by omega
          obtain ⟨gb, cb, rfl, hcb⟩ := HRM.out.shape (n := N) (by rw [length_bts]; exact HPL.out)
          clear hrow hP hN
          go_wp2_with fail
          have hq := word_any wr 1732584193 1732584193 rfl
          refine hq.mono ?_
          clear hq
          rintro e wh0 ⟨v, rfl, hv, hk⟩
          obtain ⟨gh0, ch0, rfl, _⟩ := hv.open_
          have HKh0 := Lib.hid (hst.out.trans hk)
          have HVh0 := Lib.hid hv
          have HRM := Lib.hid (HRM.out.keeps hk (fun _ _ => id))
          clear hk hv
          go_wp2_with fail
          have hq := word_any wh0 4023233417 4023233417 rfl
          refine hq.mono ?_
          clear hq
          rintro e wh1 ⟨v, rfl, hv, hk⟩
          obtain ⟨gh1, ch1, rfl, _⟩ := hv.open_
          have HKh1 := Lib.hid (HKh0.out.trans hk)
          have HVh1 := Lib.hid hv
          have HVh0 := Lib.hid (HVh0.out.keeps hk)
          have HRM := Lib.hid (HRM.out.keeps hk (fun _ _ => id))
          clear hk hv
          go_wp2_with fail
          have hq := word_any wh1 2562383102 2562383102 rfl
          refine hq.mono ?_
          clear hq
          rintro e wh2 ⟨v, rfl, hv, hk⟩
          obtain ⟨gh2, ch2, rfl, _⟩ := hv.open_
          have HKh2 := Lib.hid (HKh1.out.trans hk)
          have HVh2 := Lib.hid hv
          have HVh0 := Lib.hid (HVh0.out.keeps hk)
          have HVh1 := Lib.hid (HVh1.out.keeps hk)
          have HRM := Lib.hid (HRM.out.keeps hk (fun _ _ => id))
          clear hk hv
          go_wp2_with fail
          have hq := word_any wh2 271733878 271733878 rfl
          refine hq.mono ?_
          clear hq
          rintro e wh3 ⟨v, rfl, hv, hk⟩
          obtain ⟨gh3, ch3, rfl, _⟩ := hv.open_
          have HKh3 := Lib.hid (HKh2.out.trans hk)
          have HVh3 := Lib.hid hv
          have HVh0 := Lib.hid (HVh0.out.keeps hk)
          have HVh1 := Lib.hid (HVh1.out.keeps hk)
          have HVh2 := Lib.hid (HVh2.out.keeps hk)
          have HRM := Lib.hid (HRM.out.keeps hk (fun _ _ => id))
          clear hk hv
          go_wp2_with fail
          have hq := word_any wh3 3285377520 3285377520 rfl
          refine hq.mono ?_
          clear hq
          rintro e wh4 ⟨v, rfl, hv, hk⟩
          obtain ⟨gh4, ch4, rfl, _⟩ := hv.open_
          have HKh4 := Lib.hid (HKh3.out.trans hk)
          have HVh4 := Lib.hid hv
          have HVh0 := Lib.hid (HVh0.out.keeps hk)
          have HVh1 := Lib.hid (HVh1.out.keeps hk)
          have HVh2 := Lib.hid (HVh2.out.keeps hk)
          have HVh3 := Lib.hid (HVh3.out.keeps hk)
          have HRM := Lib.hid (HRM.out.keeps hk (fun _ _ => id))
          clear hk hv
          -- FROM HERE
          have hWH := words_new wh4 w.heap.size [.slice (some ⟨gh0, 0, none⟩) 32 ch0, .slice (some ⟨gh1, 0, none⟩) 32 ch1, .slice (some ⟨gh2, 0, none⟩) 32 ch2, .slice (some ⟨gh3, 0, none⟩) 32 ch3, .slice (some ⟨gh4, 0, none⟩) 32 ch4] start.list HKh4.out.size (by simp) rfl (by
              intro j hj
              match j, hj with
              | 0, _ => exact ⟨_, rfl, HVh0.out⟩
              | 1, _ => exact ⟨_, rfl, HVh1.out⟩
              | 2, _ => exact ⟨_, rfl, HVh2.out⟩
              | 3, _ => exact ⟨_, rfl, HVh3.out⟩
              | 4, _ => exact ⟨_, rfl, HVh4.out⟩
              | j + 5, hj => exact absurd hj (by simp [S5.list, start, K4]))
          have hkA : Still wh4 (wh4.alloc (.cells ([.slice (some ⟨gh0, 0, none⟩) 32 ch0, .slice (some ⟨gh1, 0, none⟩) 32 ch1, .slice (some ⟨gh2, 0, none⟩) 32 ch2, .slice (some ⟨gh3, 0, none⟩) 32 ch3, .slice (some ⟨gh4, 0, none⟩) 32 ch4] : List Value).toArray 49 (0, 0))) := (Keeps.refl _ _).alloc _
          go_wp2_with fail
          obtain ⟨gh, hgh⟩ : ∃ g, g = wh4.heap.size := ⟨_, rfl⟩
          have hA1 : gh < (wh4.alloc (.cells ([.slice (some ⟨gh0, 0, none⟩) 32 ch0, .slice (some ⟨gh1, 0, none⟩) 32 ch1, .slice (some ⟨gh2, 0, none⟩) 32 ch2, .slice (some ⟨gh3, 0, none⟩) 32 ch3, .slice (some ⟨gh4, 0, none⟩) 32 ch4] : List Value).toArray 49 (0, 0))).heap.size := by rw [hgh]; simp
          rw [← hgh] at hWH ⊢
          change WordsAt (wh4.alloc (.cells #[.slice (some ⟨gh0, 0, none⟩) 32 ch0, .slice (some ⟨gh1, 0, none⟩) 32 ch1, .slice (some ⟨gh2, 0, none⟩) 32 ch2, .slice (some ⟨gh3, 0, none⟩) 32 ch3, .slice (some ⟨gh4, 0, none⟩) 32 ch4] 49 (0, 0))) w.heap.size (.slice (some ⟨gh, 0, none⟩) 5 5) start.list at hWH
          change Still wh4 (wh4.alloc (.cells #[.slice (some ⟨gh0, 0, none⟩) 32 ch0, .slice (some ⟨gh1, 0, none⟩) 32 ch1, .slice (some ⟨gh2, 0, none⟩) 32 ch2, .slice (some ⟨gh3, 0, none⟩) 32 ch3, .slice (some ⟨gh4, 0, none⟩) 32 ch4] 49 (0, 0))) at hkA
          change gh < (wh4.alloc (.cells #[.slice (some ⟨gh0, 0, none⟩) 32 ch0, .slice (some ⟨gh1, 0, none⟩) 32 ch1, .slice (some ⟨gh2, 0, none⟩) 32 ch2, .slice (some ⟨gh3, 0, none⟩) 32 ch3, .slice (some ⟨gh4, 0, none⟩) 32 ch4] 49 (0, 0))).heap.size at hA1
          generalize wh4.alloc (.cells #[.slice (some ⟨gh0, 0, none⟩) 32 ch0, .slice (some ⟨gh1, 0, none⟩) 32 ch1, .slice (some ⟨gh2, 0, none⟩) 32 ch2, .slice (some ⟨gh3, 0, none⟩) 32 ch3, .slice (some ⟨gh4, 0, none⟩) 32 ch4] 49 (0, 0)) = wA at hWH hkA hA1 ⊢
          have HWH := Lib.hid hWH
          have HKA := Lib.hid (HKh4.out.trans hkA)
          have HRM := Lib.hid (HRM.out.keeps hkA (fun _ _ => id))
          clear hWH hkA hgh
          have hq := word_any wA 1518500249 1518500249 rfl
          refine hq.mono ?_
          clear hq
          rintro e wk0 ⟨v, rfl, hv, hk⟩
          obtain ⟨gk0, ck0, rfl, _⟩ := hv.open_
          have HKk0 := Lib.hid (HKA.out.trans hk)
          have HVk0 := Lib.hid hv
          have HWH := Lib.hid (HWH.out.keeps hk)
          have hA1 := Nat.lt_of_lt_of_le hA1 hk.size
          have HRM := Lib.hid (HRM.out.keeps hk (fun _ _ => id))
          clear hk hv
          go_wp2_with fail
          have hq := word_any wk0 1859775393 1859775393 rfl
          refine hq.mono ?_
          clear hq
          rintro e wk1 ⟨v, rfl, hv, hk⟩
          obtain ⟨gk1, ck1, rfl, _⟩ := hv.open_
          have HKk1 := Lib.hid (HKk0.out.trans hk)
          have HVk1 := Lib.hid hv
          have HWH := Lib.hid (HWH.out.keeps hk)
          have hA1 := Nat.lt_of_lt_of_le hA1 hk.size
          have HVk0 := Lib.hid (HVk0.out.keeps hk)
          have HRM := Lib.hid (HRM.out.keeps hk (fun _ _ => id))
          clear hk hv
          go_wp2_with fail
          have hq := word_any wk1 2400959708 2400959708 rfl
          refine hq.mono ?_
          clear hq
          rintro e wk2 ⟨v, rfl, hv, hk⟩
          obtain ⟨gk2, ck2, rfl, _⟩ := hv.open_
          have HKk2 := Lib.hid (HKk1.out.trans hk)
          have HVk2 := Lib.hid hv
          have HWH := Lib.hid (HWH.out.keeps hk)
          have hA1 := Nat.lt_of_lt_of_le hA1 hk.size
          have HVk0 := Lib.hid (HVk0.out.keeps hk)
          have HVk1 := Lib.hid (HVk1.out.keeps hk)
          have HRM := Lib.hid (HRM.out.keeps hk (fun _ _ => id))
          clear hk hv
          go_wp2_with fail
          have hq := word_any wk2 3395469782 3395469782 rfl
          refine hq.mono ?_
          clear hq
          rintro e wk3 ⟨v, rfl, hv, hk⟩
          obtain ⟨gk3, ck3, rfl, _⟩ := hv.open_
          have HKk3 := Lib.hid (HKk2.out.trans hk)
          have HVk3 := Lib.hid hv
          have HWH := Lib.hid (HWH.out.keeps hk)
          have hA1 := Nat.lt_of_lt_of_le hA1 hk.size
          have HVk0 := Lib.hid (HVk0.out.keeps hk)
          have HVk1 := Lib.hid (HVk1.out.keeps hk)
          have HVk2 := Lib.hid (HVk2.out.keeps hk)
          have HRM := Lib.hid (HRM.out.keeps hk (fun _ _ => id))
          clear hk hv
          have hWK := words_new wk3 w.heap.size [.slice (some ⟨gk0, 0, none⟩) 32 ck0, .slice (some ⟨gk1, 0, none⟩) 32 ck1, .slice (some ⟨gk2, 0, none⟩) 32 ck2, .slice (some ⟨gk3, 0, none⟩) 32 ck3] K4 HKk3.out.size (by simp) rfl (by
              intro j hj
              match j, hj with
              | 0, _ => exact ⟨_, rfl, HVk0.out⟩
              | 1, _ => exact ⟨_, rfl, HVk1.out⟩
              | 2, _ => exact ⟨_, rfl, HVk2.out⟩
              | 3, _ => exact ⟨_, rfl, HVk3.out⟩
              | j + 4, hj => exact absurd hj (by simp [S5.list, start, K4]))
          have hkB : Still wk3 (wk3.alloc (.cells ([.slice (some ⟨gk0, 0, none⟩) 32 ck0, .slice (some ⟨gk1, 0, none⟩) 32 ck1, .slice (some ⟨gk2, 0, none⟩) 32 ck2, .slice (some ⟨gk3, 0, none⟩) 32 ck3] : List Value).toArray 49 (0, 0))) := (Keeps.refl _ _).alloc _
          go_wp2_with fail
          obtain ⟨gk, hgk⟩ : ∃ g, g = wk3.heap.size := ⟨_, rfl⟩
          have hB1 : gk < (wk3.alloc (.cells ([.slice (some ⟨gk0, 0, none⟩) 32 ck0, .slice (some ⟨gk1, 0, none⟩) 32 ck1, .slice (some ⟨gk2, 0, none⟩) 32 ck2, .slice (some ⟨gk3, 0, none⟩) 32 ck3] : List Value).toArray 49 (0, 0))).heap.size := by rw [hgk]; simp
          have hB2 : gh < gk := by rw [hgk]; exact hA1
          have hB3 : gb < gk := by rw [hgk]; exact (HRM.out.ge gb rfl).2
          rw [← hgk] at hWK ⊢
          change WordsAt (wk3.alloc (.cells #[.slice (some ⟨gk0, 0, none⟩) 32 ck0, .slice (some ⟨gk1, 0, none⟩) 32 ck1, .slice (some ⟨gk2, 0, none⟩) 32 ck2, .slice (some ⟨gk3, 0, none⟩) 32 ck3] 49 (0, 0))) w.heap.size (.slice (some ⟨gk, 0, none⟩) 4 4) K4 at hWK
          change Still wk3 (wk3.alloc (.cells #[.slice (some ⟨gk0, 0, none⟩) 32 ck0, .slice (some ⟨gk1, 0, none⟩) 32 ck1, .slice (some ⟨gk2, 0, none⟩) 32 ck2, .slice (some ⟨gk3, 0, none⟩) 32 ck3] 49 (0, 0))) at hkB
          change gk < (wk3.alloc (.cells #[.slice (some ⟨gk0, 0, none⟩) 32 ck0, .slice (some ⟨gk1, 0, none⟩) 32 ck1, .slice (some ⟨gk2, 0, none⟩) 32 ck2, .slice (some ⟨gk3, 0, none⟩) 32 ck3] 49 (0, 0))).heap.size at hB1
          generalize wk3.alloc (.cells #[.slice (some ⟨gk0, 0, none⟩) 32 ck0, .slice (some ⟨gk1, 0, none⟩) 32 ck1, .slice (some ⟨gk2, 0, none⟩) 32 ck2, .slice (some ⟨gk3, 0, none⟩) 32 ck3] 49 (0, 0)) = wB at hWK hkB hB1 ⊢
          obtain ⟨B0, hB0⟩ : ∃ B0, B0 = wB.heap.size := ⟨_, rfl⟩
          have hb0 : w.heap.size ≤ B0 := by rw [hB0]; exact (HKk3.out.trans hkB).size
          have HE := Lib.hid (show Env w wB B0 (.slice (some ⟨gb, 0, none⟩) N cb) (.slice (some ⟨gh, 0, none⟩) 5 5) (.slice (some ⟨gk, 0, none⟩) 4 4) P (stB P 0).list from
            ⟨HRM.out.keeps hkB (fun _ _ => id), HWH.out.keeps hkB, hWK, HKk3.out.trans hkB, hb0, by omega, fun g hg => by cases hg; show gb < B0; omega, fun g hg => by cases hg; show gh < B0; omega, fun g hg => by cases hg; show gk < B0; omega, fun g hg he => by cases hg; cases he; omega⟩)
          have hgbB : gb < B0 := by omega
          have hghB : gh < B0 := by omega
          have hgkB : gk < B0 := by omega
          clear hWK hkB hgk hB1 hB2 hB3 hA1 hB0
          obtain ⟨J, hJ⟩ : ∃ J, J = N / 64 := ⟨_, rfl⟩
          have hNJ : N = 64 * J := by omega
          have HJ := Lib.hid hNJ
          clear hJ hNJ HRM HWH
          go_loopw [10] (fun i wr => RelC w wr B0 J (.slice (some ⟨gb, 0, none⟩) N cb) (.slice (some ⟨gh, 0, none⟩) 5 5) (.slice (some ⟨gk, 0, none⟩) 4 4) P i) (fun i _ => N - (intOf i).toNat)
          case atStart => exact relC 0 rfl (Nat.zero_le _) HE
          case round =>
            clear HE
            obtain ⟨j, rfl, hj, hE⟩ := hrel
            obtain ⟨A, hA⟩ : ∃ A, A = 64 * j := ⟨_, rfl⟩
            rw [← hA]
            by_cases hlt : j < J
            · have hAN : A + 64 ≤ N := by rw [hA, HJ.out]; omega
              have hjN : 64 * (j : Int) < (N : Int) := by omega
              have hjN2 : (A : Int) < (N : Int) := by omega
              have hBw : B0 ≤ wr.heap.size := hE.out.2.2.2.2.2.1
              obtain ⟨B1, hB1⟩ : ∃ B, B = wr.heap.size := ⟨_, rfl⟩
              obtain ⟨p, hp⟩ : ∃ p, p = blk P j := ⟨_, rfl⟩
              have HPB := Lib.hid hp
              have HA := Lib.hid hA
              have hkW : Still wr (wr.alloc (.cells #[] 49 (0, 0))) := (Keeps.refl _ _).alloc _
              have hW0 := words_new wr B1 [] [] (Nat.le_of_eq hB1) (by simp) rfl (fun j hj => absurd hj (by simp))
              change WordsAt (wr.alloc (.cells #[] 49 (0, 0))) B1 (.slice (some ⟨wr.heap.size, 0, none⟩) 0 0) (wl p 0) at hW0
              have hE1 := (hE.out.to (B' := B1) (by omega) (Nat.le_of_eq hB1)).still hkW
              go_wp2_with fail
              rw [← hB1] at hW0 ⊢
              generalize wr.alloc (.cells #[] 49 (0, 0)) = wC at hW0 hE1 ⊢
              have HW0 := Lib.hid hW0
              have HE1 := Lib.hid hE1
              have hB01 : B0 ≤ B1 := by omega
              clear hkW hW0 hE1 hB1 hBw hp hA hE
              go_loopw [11, 12] (fun v i wr => RelS1 w wr B1 (.slice (some ⟨gb, 0, none⟩) N cb) (.slice (some ⟨gh, 0, none⟩) 5 5) (.slice (some ⟨gk, 0, none⟩) 4 4) P (stB P j).list p v i) (fun _ i _ => 80 - (intOf i).toNat)
              case atStart => exact relS1 0 rfl (by omega) HW0 HE1
              case round =>
                clear HW0 HE1
                obtain ⟨t, rfl, ht, hW, hE⟩ := hrel
                by_cases hlt2 : t < 80
                · obtain ⟨xs, hx1, hx2, hx3⟩ := hW.out
                  have hx2t : xs.length = t := by rw [hx2, length_wl]
                  obtain ⟨gw, cw, rfl, hcw, hgw1, hgw2⟩ := hW.out.shape (n := t) (length_wl p t)
                  have H49 := Lib.hid (show ∀ g, (Value.slice (some ⟨gw, 0, none⟩) t cw).ownBlock = some g → ∃ c fr, wr.heap[g]? = some (.cells c 49 fr) from fun g hg => hx1.is49 g hg)
                  have HSB := Lib.hid (show ∀ g, (Value.slice (some ⟨gw, 0, none⟩) t cw).ownBlock = some g → B1 ≤ g from fun g hg => by cases hg; exact hgw1)
                  have HXS : ∀ w', Still wr w' → Hid (Row w' B1 49 (.slice (some ⟨gw, 0, none⟩) t cw) xs) := fun w' h => hx1.keeps h (fun _ _ => id)
                  have hB1w : B1 ≤ wr.heap.size := hE.out.2.2.2.2.2.1
                  have hx2' : xs.length ≤ 1000 := by rw [hx2t]; omega
                  have HX3 := Lib.hid hx3
                  clear hx1 hx3
                  by_cases hlow : t < 16
                  · as_aux_lemma =>
                      obtain ⟨lo, hlo⟩ : ∃ lo, lo = A + 4 * t := ⟨_, rfl⟩
                      have hlo4 : lo + 4 ≤ N := by omega
                      have hsl := fun w' => slice25b w' gb N cb lo (lo + 4) ((A : Int) + 4 * (t : Int)) ((A : Int) + 4 * (t : Int) + 4) (by omega) (by omega) (by omega) (by omega) (by omega)
                      rw [show lo + 4 - lo = 4 by omega] at hsl
                      obtain ⟨q0, hq0⟩ : ∃ q, q = P.getD lo 0 := ⟨_, rfl⟩
                      obtain ⟨q1, hq1⟩ : ∃ q, q = P.getD (lo + 1) 0 := ⟨_, rfl⟩
                      obtain ⟨q2, hq2⟩ : ∃ q, q = P.getD (lo + 2) 0 := ⟨_, rfl⟩
                      obtain ⟨q3, hq3⟩ : ∃ q, q = P.getD (lo + 3) 0 := ⟨_, rfl⟩
                      obtain ⟨b0, hb0⟩ : ∃ b, b = q0.toNat := ⟨_, rfl⟩
                      obtain ⟨b1, hb1⟩ : ∃ b, b = q1.toNat := ⟨_, rfl⟩
                      obtain ⟨b2, hb2⟩ : ∃ b, b = q2.toNat := ⟨_, rfl⟩
                      obtain ⟨b3, hb3⟩ : ∃ b, b = q3.toNat := ⟨_, rfl⟩
                      have l0 : b0 < 256 := by rw [hb0]; exact b_lt _
                      have l1 : b1 < 256 := by rw [hb1]; exact b_lt _
                      have l2 : b2 < 256 := by rw [hb2]; exact b_lt _
                      have l3 : b3 < 256 := by rw [hb3]; exact b_lt _
                      have hPN : P.length = N := HPL.out
                      have HB : ∀ wz, Keeps (fun k => (Value.slice (some ⟨gw, 0, none⟩) t cw).ownBlock = some k) wr wz → wz.cell? ⟨gb, lo, none⟩ = some (.int .u8 (b0 : Int)) ∧ wz.cell? ⟨gb, lo + 1, none⟩ = some (.int .u8 (b1 : Int)) ∧ wz.cell? ⟨gb, lo + 2, none⟩ = some (.int .u8 (b2 : Int)) ∧ wz.cell? ⟨gb, lo + 3, none⟩ = some (.int .u8 (b3 : Int)) := fun wz hz => by
                        have hr := (hE.out.own hz HSB.out H49.out).1
                        rw [hb0, hb1, hb2, hb3, hq0, hq1, hq2, hq3]
                        exact ⟨hr.byte lo (by omega), hr.byte (lo + 1) (by omega), hr.byte (lo + 2) (by omega), hr.byte (lo + 3) (by omega)⟩
                      obtain ⟨m0, hm0⟩ : ∃ m, m = b0 * 16777216 := ⟨_, rfl⟩
                      obtain ⟨m1, hm1⟩ : ∃ m, m = b1 * 65536 := ⟨_, rfl⟩
                      obtain ⟨m2, hm2⟩ : ∃ m, m = b2 * 256 := ⟨_, rfl⟩
                      obtain ⟨n1, hn1⟩ : ∃ m, m = m0 + m1 := ⟨_, rfl⟩
                      obtain ⟨n2, hn2⟩ : ∃ m, m = n1 + m2 := ⟨_, rfl⟩
                      obtain ⟨n3, hn3⟩ : ∃ m, m = n2 + b3 := ⟨_, rfl⟩
                      have f0 : IntKind.u64.wrap (b0 : Int) = (b0 : Int) := by rw [IntKind.wrap_u64]; omega
                      have f1 : IntKind.u64.wrap (b1 : Int) = (b1 : Int) := by rw [IntKind.wrap_u64]; omega
                      have f2 : IntKind.u64.wrap (b2 : Int) = (b2 : Int) := by rw [IntKind.wrap_u64]; omega
                      have f3 : IntKind.u64.wrap (b3 : Int) = (b3 : Int) := by rw [IntKind.wrap_u64]; omega
                      have k0 : IntKind.u64.wrap ((b0 : Int) * 16777216) = (m0 : Int) := by rw [IntKind.wrap_u64]; omega
                      have k1 : IntKind.u64.wrap ((b1 : Int) * 65536) = (m1 : Int) := by rw [IntKind.wrap_u64]; omega
                      have k2 : IntKind.u64.wrap ((b2 : Int) * 256) = (m2 : Int) := by rw [IntKind.wrap_u64]; omega
                      have y1 : IntKind.u64.wrap ((m0 : Int) + (m1 : Int)) = (n1 : Int) := by rw [IntKind.wrap_u64]; omega
                      have y2 : IntKind.u64.wrap ((n1 : Int) + (m2 : Int)) = (n2 : Int) := by rw [IntKind.wrap_u64]; omega
                      have y3 : IntKind.u64.wrap ((n2 : Int) + (b3 : Int)) = (n3 : Int) := by rw [IntKind.wrap_u64]; omega
                      have HN3 := Lib.hid (show n3 = (wordAt p t).toNat by
                        have hg : ∀ i, i < 4 → p.getD (4 * t + i) 0 = P.getD (lo + i) 0 := fun i hi => by
                          rw [List.getD_eq_getElem?_getD, List.getD_eq_getElem?_getD, HPB.out, blk_at P j _ (by omega), hlo, HA.out, Nat.add_assoc]
                        unfold wordAt
                        have := hg 0 (by omega)
                        rw [Nat.add_zero, Nat.add_zero] at this
                        rw [this, hg 1 (by omega), hg 2 (by omega), hg 3 (by omega), ← hq0, ← hq1, ← hq2, ← hq3, ← word4_sum, ← hb0, ← hb1, ← hb2, ← hb3, hn3, hn2, hn1, hm0, hm1, hm2])
                      clear hm0 hm1 hm2 hn1 hn2 hn3 hq0 hq1 hq2 hq3 hb0 hb1 hb2 hb3 hlo hPN
                      go_wp2_with fail
                      refine wp_region_held (S := (fun w' => Keeps (fun k => (Value.slice (some ⟨gw, 0, none⟩) t cw).ownBlock = some k) wr w')) (by kernel_rfl) ?_
                      change wpAnyH _ _ _ _ _ _ _ _ (World.drew _)
                      refine held_start ?_ (fun hS => ?_)
                      · exact (Keeps.refl _ _).drew
                      refine wpAnyH_take (i := 0) (oi := { dst := some 89, op := Go.Op.move (Go.Operand.tmp 11), type := 51, pos := "ref.go:80", after := #[], guard := none }) (v := ?vCL_1) rfl (by kernel_rfl) (by kernel_rfl) (by kernel_rfl) (fun _ _ _ h => h) (Or.inl ⟨by rfl, ?hCL_1⟩) hS ?rCL_1
                      case hCL_1 => (intro wz _; go_simp; try with_reducible rfl)
                      simp only [Act.put, List.setIfInBounds_toArray, List.set_cons_zero, List.set_cons_succ]
                      refine wpAnyH_take (i := 1) (oi := { dst := some 90, op := Go.Op.move (Go.Operand.tmp 13), type := 25, pos := "ref.go:80", after := #[], guard := none }) (v := ?vCL_2) rfl (by kernel_rfl) (by kernel_rfl) (by kernel_rfl) (fun _ _ _ h => h) (Or.inl ⟨by rfl, ?hCL_2⟩) hS ?rCL_2
                      case hCL_2 => (intro wz _; go_simp; try with_reducible rfl)
                      simp only [Act.put, List.setIfInBounds_toArray, List.set_cons_zero, List.set_cons_succ]
                      refine wpAnyH_take (i := 2) (oi := { dst := some 91, op := Go.Op.indexAddr 25 (Go.Operand.tmp 90) (Go.Operand.const (Go.Value.int Go.IntKind.i64 0)), type := 0, pos := "ref.go:80", after := #[{ on := 1, ground := Go.Ground.data }], guard := none }) (v := ?vCL_3) rfl (by kernel_rfl) (by kernel_rfl) (by kernel_rfl) (fun _ _ _ h => h) (Or.inl ⟨by rfl, ?hCL_3⟩) hS ?rCL_3
                      case hCL_3 => (intro wz _; go_simp; try with_reducible rfl)
                      simp only [Act.put, List.setIfInBounds_toArray, List.set_cons_zero, List.set_cons_succ]
                      refine wpAnyH_take (i := 3) (oi := { dst := some 92, op := Go.Op.load 5 (Go.Operand.tmp 91), type := 5, pos := "ref.go:80", after := #[{ on := 2, ground := Go.Ground.data }], guard := none }) (v := ?vCL_4) rfl (by kernel_rfl) (by kernel_rfl) (by kernel_rfl) (fun _ _ _ h => h) (Or.inl ⟨by rfl, ?hCL_4⟩) hS ?rCL_4
                      case hCL_4 => (intro wz hz; obtain ⟨d0, d1, d2, d3⟩ := HB wz hz; go_simp; try with_reducible rfl)
                      simp only [Act.put, List.setIfInBounds_toArray, List.set_cons_zero, List.set_cons_succ]
                      refine wpAnyH_take (i := 4) (oi := { dst := some 93, op := Go.Op.convert 5 32 (Go.Operand.tmp 92), type := 32, pos := "ref.go:80", after := #[{ on := 3, ground := Go.Ground.data }], guard := none }) (v := ?vCL_5) rfl (by kernel_rfl) (by kernel_rfl) (by kernel_rfl) (fun _ _ _ h => h) (Or.inl ⟨by rfl, ?hCL_5⟩) hS ?rCL_5
                      case hCL_5 => (intro wz _; go_simp; try with_reducible rfl)
                      simp only [Act.put, List.setIfInBounds_toArray, List.set_cons_zero, List.set_cons_succ]
                      refine wpAnyH_take (i := 5) (oi := { dst := some 94, op := Go.Op.binOp Go.BinOp.mul 32 (Go.Operand.tmp 93) (Go.Operand.const (Go.Value.int Go.IntKind.u64 16777216)) 32, type := 32, pos := "ref.go:80", after := #[{ on := 4, ground := Go.Ground.data }], guard := none }) (v := ?vCL_6) rfl (by kernel_rfl) (by kernel_rfl) (by kernel_rfl) (fun _ _ _ h => h) (Or.inl ⟨by rfl, ?hCL_6⟩) hS ?rCL_6
                      case hCL_6 => (intro wz _; go_simp; try with_reducible rfl)
                      simp only [Act.put, List.setIfInBounds_toArray, List.set_cons_zero, List.set_cons_succ]
                      refine wpAnyH_take (i := 6) (oi := { dst := some 95, op := Go.Op.move (Go.Operand.tmp 13), type := 25, pos := "ref.go:80", after := #[], guard := none }) (v := ?vCL_7) rfl (by kernel_rfl) (by kernel_rfl) (by kernel_rfl) (fun _ _ _ h => h) (Or.inl ⟨by rfl, ?hCL_7⟩) hS ?rCL_7
                      case hCL_7 => (intro wz _; go_simp; try with_reducible rfl)
                      simp only [Act.put, List.setIfInBounds_toArray, List.set_cons_zero, List.set_cons_succ]
                      refine wpAnyH_take (i := 7) (oi := { dst := some 96, op := Go.Op.indexAddr 25 (Go.Operand.tmp 95) (Go.Operand.const (Go.Value.int Go.IntKind.i64 1)), type := 0, pos := "ref.go:80", after := #[{ on := 6, ground := Go.Ground.data }], guard := none }) (v := ?vCL_8) rfl (by kernel_rfl) (by kernel_rfl) (by kernel_rfl) (fun _ _ _ h => h) (Or.inl ⟨by rfl, ?hCL_8⟩) hS ?rCL_8
                      case hCL_8 => (intro wz _; go_simp; try with_reducible rfl)
                      simp only [Act.put, List.setIfInBounds_toArray, List.set_cons_zero, List.set_cons_succ]
                      refine wpAnyH_take (i := 8) (oi := { dst := some 97, op := Go.Op.load 5 (Go.Operand.tmp 96), type := 5, pos := "ref.go:80", after := #[{ on := 7, ground := Go.Ground.data }], guard := none }) (v := ?vCL_9) rfl (by kernel_rfl) (by kernel_rfl) (by kernel_rfl) (fun _ _ _ h => h) (Or.inl ⟨by rfl, ?hCL_9⟩) hS ?rCL_9
                      case hCL_9 => (intro wz hz; obtain ⟨d0, d1, d2, d3⟩ := HB wz hz; go_simp; try with_reducible rfl)
                      simp only [Act.put, List.setIfInBounds_toArray, List.set_cons_zero, List.set_cons_succ]
                      refine wpAnyH_take (i := 9) (oi := { dst := some 98, op := Go.Op.convert 5 32 (Go.Operand.tmp 97), type := 32, pos := "ref.go:80", after := #[{ on := 8, ground := Go.Ground.data }], guard := none }) (v := ?vCL_10) rfl (by kernel_rfl) (by kernel_rfl) (by kernel_rfl) (fun _ _ _ h => h) (Or.inl ⟨by rfl, ?hCL_10⟩) hS ?rCL_10
                      case hCL_10 => (intro wz _; go_simp; try with_reducible rfl)
                      simp only [Act.put, List.setIfInBounds_toArray, List.set_cons_zero, List.set_cons_succ]
                      refine wpAnyH_take (i := 10) (oi := { dst := some 99, op := Go.Op.binOp Go.BinOp.mul 32 (Go.Operand.tmp 98) (Go.Operand.const (Go.Value.int Go.IntKind.u64 65536)) 32, type := 32, pos := "ref.go:80", after := #[{ on := 9, ground := Go.Ground.data }], guard := none }) (v := ?vCL_11) rfl (by kernel_rfl) (by kernel_rfl) (by kernel_rfl) (fun _ _ _ h => h) (Or.inl ⟨by rfl, ?hCL_11⟩) hS ?rCL_11
                      case hCL_11 => (intro wz _; go_simp; try with_reducible rfl)
                      simp only [Act.put, List.setIfInBounds_toArray, List.set_cons_zero, List.set_cons_succ]
                      refine wpAnyH_take (i := 11) (oi := { dst := some 100, op := Go.Op.binOp Go.BinOp.add 32 (Go.Operand.tmp 94) (Go.Operand.tmp 99) 32, type := 32, pos := "ref.go:80", after := #[{ on := 5, ground := Go.Ground.data }, { on := 10, ground := Go.Ground.data }], guard := none }) (v := ?vCL_12) rfl (by kernel_rfl) (by kernel_rfl) (by kernel_rfl) (fun _ _ _ h => h) (Or.inl ⟨by rfl, ?hCL_12⟩) hS ?rCL_12
                      case hCL_12 => (intro wz _; go_simp; try with_reducible rfl)
                      simp only [Act.put, List.setIfInBounds_toArray, List.set_cons_zero, List.set_cons_succ]
                      refine wpAnyH_take (i := 12) (oi := { dst := some 101, op := Go.Op.move (Go.Operand.tmp 13), type := 25, pos := "ref.go:80", after := #[], guard := none }) (v := ?vCL_13) rfl (by kernel_rfl) (by kernel_rfl) (by kernel_rfl) (fun _ _ _ h => h) (Or.inl ⟨by rfl, ?hCL_13⟩) hS ?rCL_13
                      case hCL_13 => (intro wz _; go_simp; try with_reducible rfl)
                      simp only [Act.put, List.setIfInBounds_toArray, List.set_cons_zero, List.set_cons_succ]
                      refine wpAnyH_take (i := 13) (oi := { dst := some 102, op := Go.Op.indexAddr 25 (Go.Operand.tmp 101) (Go.Operand.const (Go.Value.int Go.IntKind.i64 2)), type := 0, pos := "ref.go:80", after := #[{ on := 12, ground := Go.Ground.data }], guard := none }) (v := ?vCL_14) rfl (by kernel_rfl) (by kernel_rfl) (by kernel_rfl) (fun _ _ _ h => h) (Or.inl ⟨by rfl, ?hCL_14⟩) hS ?rCL_14
                      case hCL_14 => (intro wz _; go_simp; try with_reducible rfl)
                      simp only [Act.put, List.setIfInBounds_toArray, List.set_cons_zero, List.set_cons_succ]
                      refine wpAnyH_take (i := 14) (oi := { dst := some 103, op := Go.Op.load 5 (Go.Operand.tmp 102), type := 5, pos := "ref.go:80", after := #[{ on := 13, ground := Go.Ground.data }], guard := none }) (v := ?vCL_15) rfl (by kernel_rfl) (by kernel_rfl) (by kernel_rfl) (fun _ _ _ h => h) (Or.inl ⟨by rfl, ?hCL_15⟩) hS ?rCL_15
                      case hCL_15 => (intro wz hz; obtain ⟨d0, d1, d2, d3⟩ := HB wz hz; go_simp; try with_reducible rfl)
                      simp only [Act.put, List.setIfInBounds_toArray, List.set_cons_zero, List.set_cons_succ]
                      refine wpAnyH_take (i := 15) (oi := { dst := some 104, op := Go.Op.convert 5 32 (Go.Operand.tmp 103), type := 32, pos := "ref.go:80", after := #[{ on := 14, ground := Go.Ground.data }], guard := none }) (v := ?vCL_16) rfl (by kernel_rfl) (by kernel_rfl) (by kernel_rfl) (fun _ _ _ h => h) (Or.inl ⟨by rfl, ?hCL_16⟩) hS ?rCL_16
                      case hCL_16 => (intro wz _; go_simp; try with_reducible rfl)
                      simp only [Act.put, List.setIfInBounds_toArray, List.set_cons_zero, List.set_cons_succ]
                      refine wpAnyH_take (i := 16) (oi := { dst := some 105, op := Go.Op.binOp Go.BinOp.mul 32 (Go.Operand.tmp 104) (Go.Operand.const (Go.Value.int Go.IntKind.u64 256)) 32, type := 32, pos := "ref.go:80", after := #[{ on := 15, ground := Go.Ground.data }], guard := none }) (v := ?vCL_17) rfl (by kernel_rfl) (by kernel_rfl) (by kernel_rfl) (fun _ _ _ h => h) (Or.inl ⟨by rfl, ?hCL_17⟩) hS ?rCL_17
                      case hCL_17 => (intro wz _; go_simp; try with_reducible rfl)
                      simp only [Act.put, List.setIfInBounds_toArray, List.set_cons_zero, List.set_cons_succ]
                      refine wpAnyH_take (i := 17) (oi := { dst := some 106, op := Go.Op.binOp Go.BinOp.add 32 (Go.Operand.tmp 100) (Go.Operand.tmp 105) 32, type := 32, pos := "ref.go:80", after := #[{ on := 11, ground := Go.Ground.data }, { on := 16, ground := Go.Ground.data }], guard := none }) (v := ?vCL_18) rfl (by kernel_rfl) (by kernel_rfl) (by kernel_rfl) (fun _ _ _ h => h) (Or.inl ⟨by rfl, ?hCL_18⟩) hS ?rCL_18
                      case hCL_18 => (intro wz _; go_simp; try with_reducible rfl)
                      simp only [Act.put, List.setIfInBounds_toArray, List.set_cons_zero, List.set_cons_succ]
                      refine wpAnyH_take (i := 18) (oi := { dst := some 107, op := Go.Op.move (Go.Operand.tmp 13), type := 25, pos := "ref.go:80", after := #[], guard := none }) (v := ?vCL_19) rfl (by kernel_rfl) (by kernel_rfl) (by kernel_rfl) (fun _ _ _ h => h) (Or.inl ⟨by rfl, ?hCL_19⟩) hS ?rCL_19
                      case hCL_19 => (intro wz _; go_simp; try with_reducible rfl)
                      simp only [Act.put, List.setIfInBounds_toArray, List.set_cons_zero, List.set_cons_succ]
                      refine wpAnyH_take (i := 19) (oi := { dst := some 108, op := Go.Op.indexAddr 25 (Go.Operand.tmp 107) (Go.Operand.const (Go.Value.int Go.IntKind.i64 3)), type := 0, pos := "ref.go:80", after := #[{ on := 18, ground := Go.Ground.data }], guard := none }) (v := ?vCL_20) rfl (by kernel_rfl) (by kernel_rfl) (by kernel_rfl) (fun _ _ _ h => h) (Or.inl ⟨by rfl, ?hCL_20⟩) hS ?rCL_20
                      case hCL_20 => (intro wz _; go_simp; try with_reducible rfl)
                      simp only [Act.put, List.setIfInBounds_toArray, List.set_cons_zero, List.set_cons_succ]
                      refine wpAnyH_take (i := 20) (oi := { dst := some 109, op := Go.Op.load 5 (Go.Operand.tmp 108), type := 5, pos := "ref.go:80", after := #[{ on := 19, ground := Go.Ground.data }], guard := none }) (v := ?vCL_21) rfl (by kernel_rfl) (by kernel_rfl) (by kernel_rfl) (fun _ _ _ h => h) (Or.inl ⟨by rfl, ?hCL_21⟩) hS ?rCL_21
                      case hCL_21 => (intro wz hz; obtain ⟨d0, d1, d2, d3⟩ := HB wz hz; go_simp; try with_reducible rfl)
                      simp only [Act.put, List.setIfInBounds_toArray, List.set_cons_zero, List.set_cons_succ]
                      refine wpAnyH_take (i := 21) (oi := { dst := some 110, op := Go.Op.convert 5 32 (Go.Operand.tmp 109), type := 32, pos := "ref.go:80", after := #[{ on := 20, ground := Go.Ground.data }], guard := none }) (v := ?vCL_22) rfl (by kernel_rfl) (by kernel_rfl) (by kernel_rfl) (fun _ _ _ h => h) (Or.inl ⟨by rfl, ?hCL_22⟩) hS ?rCL_22
                      case hCL_22 => (intro wz _; go_simp; try with_reducible rfl)
                      simp only [Act.put, List.setIfInBounds_toArray, List.set_cons_zero, List.set_cons_succ]
                      refine wpAnyH_take (i := 22) (oi := { dst := some 111, op := Go.Op.binOp Go.BinOp.add 32 (Go.Operand.tmp 106) (Go.Operand.tmp 110) 32, type := 32, pos := "ref.go:80", after := #[{ on := 17, ground := Go.Ground.data }, { on := 21, ground := Go.Ground.data }], guard := none }) (v := ?vCL_23) rfl (by kernel_rfl) (by kernel_rfl) (by kernel_rfl) (fun _ _ _ h => h) (Or.inl ⟨by rfl, ?hCL_23⟩) hS ?rCL_23
                      case hCL_23 => (intro wz _; go_simp; try with_reducible rfl)
                      simp only [Act.put, List.setIfInBounds_toArray, List.set_cons_zero, List.set_cons_succ]
                      refine held_one (k := 23) (o := { dst := some 112, op := Go.Op.call { callee := Go.Callee.value (Go.Operand.func 19), args := #[Go.Operand.tmp 111], argTypes := #[32] }, type := 49, pos := "ref.go:80", after := #[{ on := 22, ground := Go.Ground.data }], guard := none }) (by kernel_rfl) rfl (fun K hK => ?_)
                      go_simp
                      have hq := word_any wr.drew n3 (wordAt p t) HN3.out
                      refine hq.mono ?_
                      clear hq
                      rintro e w7 ⟨v, rfl, hv, hk7'⟩
                      have hk7 := hk7'.drew_of
                      obtain ⟨g7, c7, rfl, _⟩ := hv.open_
                      have hS7 := hS.trans hk7'.still
                      refine hK _ _ (held_go ?_ (fun hS => ?_))
                      · exact hS7
                      clear hK K
                      try simp only [Act.put, List.setIfInBounds_toArray, List.set_cons_zero, List.set_cons_succ]
                      refine held_one (k := 24) (o := { dst := some 113, op := Go.Op.buildSlice 51 1 #[(0, Go.Operand.tmp 112)], type := 51, pos := "ref.go:80", after := #[{ on := 23, ground := Go.Ground.data }], guard := none }) (by kernel_rfl) rfl (fun K hK => ?_)
                      go_simp
                      refine hK _ _ (held_go ?_ (fun hS => ?_))
                      · exact hS7.trans ((Keeps.refl _ _).alloc _)
                      clear hK K
                      try simp only [Act.put, List.setIfInBounds_toArray, List.set_cons_zero, List.set_cons_succ]
                      refine held_one (k := 25) (o := { dst := some 114, op := Go.Op.call { callee := Go.Callee.builtin Go.Builtin.append, args := #[Go.Operand.tmp 89, Go.Operand.tmp 113], argTypes := #[51, 51] }, type := 51, pos := "ref.go:80", after := #[{ on := 0, ground := Go.Ground.data }, { on := 24, ground := Go.Ground.data }, { on := 23, ground := Go.Ground.chain }], guard := none }) (by kernel_rfl) rfl (fun K hK => ?_)
                      refine step_push2 (by rfl) 49 51 24 (.slice none 0 0) Tryd.underlying51 info49 rfl (by omega) rfl (.tmp 89) (.tmp 113) rfl B1 (.slice (some ⟨gw, 0, none⟩) t cw) xs rfl (HXS w7 hk7) 1 rfl (by omega) (Nat.le_trans hB1w hk7.size) ?_
                      intro v8 w8 hr8 hk8 hp8
                      have hS8 := hS7.trans hk8.out
                      refine hK _ _ (held_go ?_ (fun hS => ?_))
                      · exact hS8
                      clear hK K
                      try simp only [Act.put, List.setIfInBounds_toArray, List.set_cons_zero, List.set_cons_succ]
                      refine wpAnyH_take (i := 26) (oi := { dst := some 11, op := Go.Op.assign (Go.Operand.tmp 114), type := 51, pos := "ref.go:80", after := #[{ on := 25, ground := Go.Ground.data }, { on := 25, ground := Go.Ground.chain }, { on := 0, ground := Go.Ground.phase }, { on := 1, ground := Go.Ground.phase }, { on := 2, ground := Go.Ground.phase }, { on := 3, ground := Go.Ground.phase }, { on := 4, ground := Go.Ground.phase }, { on := 5, ground := Go.Ground.phase }, { on := 6, ground := Go.Ground.phase }, { on := 7, ground := Go.Ground.phase }, { on := 8, ground := Go.Ground.phase }, { on := 9, ground := Go.Ground.phase }, { on := 10, ground := Go.Ground.phase }, { on := 11, ground := Go.Ground.phase }, { on := 12, ground := Go.Ground.phase }, { on := 13, ground := Go.Ground.phase }, { on := 14, ground := Go.Ground.phase }, { on := 15, ground := Go.Ground.phase }, { on := 16, ground := Go.Ground.phase }, { on := 17, ground := Go.Ground.phase }, { on := 18, ground := Go.Ground.phase }, { on := 19, ground := Go.Ground.phase }, { on := 20, ground := Go.Ground.phase }, { on := 21, ground := Go.Ground.phase }, { on := 22, ground := Go.Ground.phase }, { on := 23, ground := Go.Ground.phase }, { on := 24, ground := Go.Ground.phase }, { on := 25, ground := Go.Ground.phase }], guard := none }) (v := ?vCL_24) rfl (by kernel_rfl) (by kernel_rfl) (by kernel_rfl) (fun _ _ _ h => h) (Or.inl ⟨by rfl, ?hCL_24⟩) hS ?rCL_24
                      case hCL_24 => (intro wz _; go_simp; try with_reducible rfl)
                      simp only [Act.put, List.setIfInBounds_toArray, List.set_cons_zero, List.set_cons_succ]
                      refine wpAnyH_done (by kernel_rfl) ?_ _
                      have HW8 := Lib.hid (show WordsAt w8 B1 v8 (wl p (t + 1)) by rw [wl_low p t hlow]; exact WordsAt.push (hW.out.keeps hk7) (HXS w7 hk7).out hx2 (fun j hj => by obtain ⟨u, hu, hw⟩ := HX3.out j hj; exact ⟨u, hu, hw.keeps hk7⟩) hr8.out hk8.out hv)
                      have HE8 := Lib.hid (hE.out.own hS8 HSB.out H49.out)
                      clear hv hr8 hk8 hp8 hS8 hS7 hS hW hE
                      go_wp2_with fail
                      first
                      | exact ⟨relS1 (t + 1) rfl (by omega) HW8 HE8, by simp [intOf]; omega⟩
                      | (go_roundw
                         case rel => first | exact relS1 (t + 1) rfl (by omega) HW8 HE8 | ((repeat apply Exists.intro); exact ⟨relS1 (t + 1) rfl (by omega) HW8 HE8, by and_intros <;> first | rfl | assumption | simp | omega⟩)
                         case measure => simp [intOf]; omega)
                  · as_aux_lemma =>
                      have hhigh : 16 ≤ t := by omega
                      obtain ⟨t3, qq3⟩ : ∃ j, j = t - 3 := ⟨_, rfl⟩
                      have r3 : t3 < t := by omega
                      obtain ⟨u3, c3, h3⟩ := hW.out.cell t3 (by rw [length_wl]; exact r3)
                      obtain ⟨x3, ex3⟩ : ∃ x, x = (wl p t).getD t3 0 := ⟨_, rfl⟩
                      rw [← ex3] at h3
                      have ff3 : IntKind.i64.wrap ((t : Int) - 3) = (t3 : Int) := by rw [IntWalk.i64_in _ (by omega)]; omega
                      have ll3 : (t3 : Int) < (t : Int) := by omega
                      obtain ⟨t8, qq8⟩ : ∃ j, j = t - 8 := ⟨_, rfl⟩
                      have r8 : t8 < t := by omega
                      obtain ⟨u8, c8, h8⟩ := hW.out.cell t8 (by rw [length_wl]; exact r8)
                      obtain ⟨x8, ex8⟩ : ∃ x, x = (wl p t).getD t8 0 := ⟨_, rfl⟩
                      rw [← ex8] at h8
                      have ff8 : IntKind.i64.wrap ((t : Int) - 8) = (t8 : Int) := by rw [IntWalk.i64_in _ (by omega)]; omega
                      have ll8 : (t8 : Int) < (t : Int) := by omega
                      obtain ⟨t14, qq14⟩ : ∃ j, j = t - 14 := ⟨_, rfl⟩
                      have r14 : t14 < t := by omega
                      obtain ⟨u14, c14, h14⟩ := hW.out.cell t14 (by rw [length_wl]; exact r14)
                      obtain ⟨x14, ex14⟩ : ∃ x, x = (wl p t).getD t14 0 := ⟨_, rfl⟩
                      rw [← ex14] at h14
                      have ff14 : IntKind.i64.wrap ((t : Int) - 14) = (t14 : Int) := by rw [IntWalk.i64_in _ (by omega)]; omega
                      have ll14 : (t14 : Int) < (t : Int) := by omega
                      obtain ⟨t16, qq16⟩ : ∃ j, j = t - 16 := ⟨_, rfl⟩
                      have r16 : t16 < t := by omega
                      obtain ⟨u16, c16, h16⟩ := hW.out.cell t16 (by rw [length_wl]; exact r16)
                      obtain ⟨x16, ex16⟩ : ∃ x, x = (wl p t).getD t16 0 := ⟨_, rfl⟩
                      rw [← ex16] at h16
                      have ff16 : IntKind.i64.wrap ((t : Int) - 16) = (t16 : Int) := by rw [IntWalk.i64_in _ (by omega)]; omega
                      have ll16 : (t16 : Int) < (t : Int) := by omega
                      obtain ⟨y1, hy1⟩ : ∃ y, y = x3 ^^^ x8 := ⟨_, rfl⟩
                      obtain ⟨y2, hy2⟩ : ∃ y, y = x14 ^^^ x16 := ⟨_, rfl⟩
                      obtain ⟨y3, hy3⟩ : ∃ y, y = y1 ^^^ y2 := ⟨_, rfl⟩
                      obtain ⟨zz, hzz⟩ : ∃ y, y = rotl y3 1 := ⟨_, rfl⟩
                      have HNX := Lib.hid (show nextW (wl p t) = zz by
                        unfold nextW
                        rw [length_wl, ← qq3, ← qq8, ← qq14, ← qq16, ← ex3, ← ex8, ← ex14, ← ex16, hzz, hy3, hy1, hy2, UInt32.xor_assoc (x3 ^^^ x8)])
                      have HY1 := Lib.hid hy1
                      have HY2 := Lib.hid hy2
                      have HY3 := Lib.hid hy3
                      have HZZ := Lib.hid hzz
                      clear qq3 qq8 qq14 qq16 ex3 ex8 ex14 ex16 hy1 hy2 hy3 hzz
                      go_wp2_with fail
                      refine wp_region_held (S := (S2 wr gw t cw)) (by kernel_rfl) ?_
                      change wpAnyH _ _ _ _ _ _ _ _ (World.drew _)
                      refine held_start ?_ (fun hS => ?_)
                      · exact ⟨(Keeps.refl _ _).drew, fun _ _ => rfl⟩
                      refine wpAnyH_take (i := 0) (oi := { dst := some 115, op := Go.Op.move (Go.Operand.tmp 11), type := 51, pos := "ref.go:82", after := #[], guard := none }) (v := ?vCH_1) rfl (by kernel_rfl) (by kernel_rfl) (by kernel_rfl) (fun _ _ _ h => h) (Or.inl ⟨by rfl, ?hCH_1⟩) hS ?rCH_1
                      case hCH_1 => (intro wz _; go_simp; try with_reducible rfl)
                      simp only [Act.put, List.setIfInBounds_toArray, List.set_cons_zero, List.set_cons_succ]
                      refine wpAnyH_take (i := 1) (oi := { dst := some 116, op := Go.Op.move (Go.Operand.tmp 11), type := 51, pos := "ref.go:82", after := #[], guard := none }) (v := ?vCH_2) rfl (by kernel_rfl) (by kernel_rfl) (by kernel_rfl) (fun _ _ _ h => h) (Or.inl ⟨by rfl, ?hCH_2⟩) hS ?rCH_2
                      case hCH_2 => (intro wz _; go_simp; try with_reducible rfl)
                      simp only [Act.put, List.setIfInBounds_toArray, List.set_cons_zero, List.set_cons_succ]
                      refine wpAnyH_take (i := 2) (oi := { dst := some 117, op := Go.Op.move (Go.Operand.tmp 12), type := 3, pos := "ref.go:82", after := #[], guard := none }) (v := ?vCH_3) rfl (by kernel_rfl) (by kernel_rfl) (by kernel_rfl) (fun _ _ _ h => h) (Or.inl ⟨by rfl, ?hCH_3⟩) hS ?rCH_3
                      case hCH_3 => (intro wz _; go_simp; try with_reducible rfl)
                      simp only [Act.put, List.setIfInBounds_toArray, List.set_cons_zero, List.set_cons_succ]
                      refine wpAnyH_take (i := 3) (oi := { dst := some 118, op := Go.Op.binOp Go.BinOp.sub 3 (Go.Operand.tmp 117) (Go.Operand.const (Go.Value.int Go.IntKind.i64 3)) 3, type := 3, pos := "ref.go:82", after := #[{ on := 2, ground := Go.Ground.data }], guard := none }) (v := ?vCH_4) rfl (by kernel_rfl) (by kernel_rfl) (by kernel_rfl) (fun _ _ _ h => h) (Or.inl ⟨by rfl, ?hCH_4⟩) hS ?rCH_4
                      case hCH_4 => (intro wz _; go_simp; try with_reducible rfl)
                      simp only [Act.put, List.setIfInBounds_toArray, List.set_cons_zero, List.set_cons_succ]
                      refine wpAnyH_take (i := 4) (oi := { dst := some 119, op := Go.Op.indexAddr 51 (Go.Operand.tmp 116) (Go.Operand.tmp 118), type := 0, pos := "ref.go:82", after := #[{ on := 1, ground := Go.Ground.data }, { on := 3, ground := Go.Ground.data }], guard := none }) (v := ?vCH_5) rfl (by kernel_rfl) (by kernel_rfl) (by kernel_rfl) (fun _ _ _ h => h) (Or.inl ⟨by rfl, ?hCH_5⟩) hS ?rCH_5
                      case hCH_5 => (intro wz _; go_simp; try with_reducible rfl)
                      simp only [Act.put, List.setIfInBounds_toArray, List.set_cons_zero, List.set_cons_succ]
                      refine wpAnyH_take (i := 5) (oi := { dst := some 120, op := Go.Op.load 49 (Go.Operand.tmp 119), type := 49, pos := "ref.go:82", after := #[{ on := 4, ground := Go.Ground.data }], guard := none }) (v := ?vCH_6) rfl (by kernel_rfl) (by kernel_rfl) (by kernel_rfl) (fun _ _ _ h => h) (Or.inl ⟨by rfl, ?hCH_6⟩) hS ?rCH_6
                      case hCH_6 => (intro wz hz; have d := (hz.2 t3 r3).trans c3; go_simp; try with_reducible rfl)
                      simp only [Act.put, List.setIfInBounds_toArray, List.set_cons_zero, List.set_cons_succ]
                      refine wpAnyH_take (i := 6) (oi := { dst := some 121, op := Go.Op.move (Go.Operand.tmp 11), type := 51, pos := "ref.go:82", after := #[], guard := none }) (v := ?vCH_7) rfl (by kernel_rfl) (by kernel_rfl) (by kernel_rfl) (fun _ _ _ h => h) (Or.inl ⟨by rfl, ?hCH_7⟩) hS ?rCH_7
                      case hCH_7 => (intro wz _; go_simp; try with_reducible rfl)
                      simp only [Act.put, List.setIfInBounds_toArray, List.set_cons_zero, List.set_cons_succ]
                      refine wpAnyH_take (i := 7) (oi := { dst := some 122, op := Go.Op.move (Go.Operand.tmp 12), type := 3, pos := "ref.go:82", after := #[], guard := none }) (v := ?vCH_8) rfl (by kernel_rfl) (by kernel_rfl) (by kernel_rfl) (fun _ _ _ h => h) (Or.inl ⟨by rfl, ?hCH_8⟩) hS ?rCH_8
                      case hCH_8 => (intro wz _; go_simp; try with_reducible rfl)
                      simp only [Act.put, List.setIfInBounds_toArray, List.set_cons_zero, List.set_cons_succ]
                      refine wpAnyH_take (i := 8) (oi := { dst := some 123, op := Go.Op.binOp Go.BinOp.sub 3 (Go.Operand.tmp 122) (Go.Operand.const (Go.Value.int Go.IntKind.i64 8)) 3, type := 3, pos := "ref.go:82", after := #[{ on := 7, ground := Go.Ground.data }], guard := none }) (v := ?vCH_9) rfl (by kernel_rfl) (by kernel_rfl) (by kernel_rfl) (fun _ _ _ h => h) (Or.inl ⟨by rfl, ?hCH_9⟩) hS ?rCH_9
                      case hCH_9 => (intro wz _; go_simp; try with_reducible rfl)
                      simp only [Act.put, List.setIfInBounds_toArray, List.set_cons_zero, List.set_cons_succ]
                      refine wpAnyH_take (i := 9) (oi := { dst := some 124, op := Go.Op.indexAddr 51 (Go.Operand.tmp 121) (Go.Operand.tmp 123), type := 0, pos := "ref.go:82", after := #[{ on := 6, ground := Go.Ground.data }, { on := 8, ground := Go.Ground.data }], guard := none }) (v := ?vCH_10) rfl (by kernel_rfl) (by kernel_rfl) (by kernel_rfl) (fun _ _ _ h => h) (Or.inl ⟨by rfl, ?hCH_10⟩) hS ?rCH_10
                      case hCH_10 => (intro wz _; go_simp; try with_reducible rfl)
                      simp only [Act.put, List.setIfInBounds_toArray, List.set_cons_zero, List.set_cons_succ]
                      refine wpAnyH_take (i := 10) (oi := { dst := some 125, op := Go.Op.load 49 (Go.Operand.tmp 124), type := 49, pos := "ref.go:82", after := #[{ on := 9, ground := Go.Ground.data }], guard := none }) (v := ?vCH_11) rfl (by kernel_rfl) (by kernel_rfl) (by kernel_rfl) (fun _ _ _ h => h) (Or.inl ⟨by rfl, ?hCH_11⟩) hS ?rCH_11
                      case hCH_11 => (intro wz hz; have d := (hz.2 t8 r8).trans c8; go_simp; try with_reducible rfl)
                      simp only [Act.put, List.setIfInBounds_toArray, List.set_cons_zero, List.set_cons_succ]
                      refine wpAnyH_take (i := 12) (oi := { dst := some 127, op := Go.Op.move (Go.Operand.tmp 11), type := 51, pos := "ref.go:82", after := #[], guard := none }) (v := ?vCH_12) rfl (by kernel_rfl) (by kernel_rfl) (by kernel_rfl) (fun _ _ _ h => h) (Or.inl ⟨by rfl, ?hCH_12⟩) hS ?rCH_12
                      case hCH_12 => (intro wz _; go_simp; try with_reducible rfl)
                      simp only [Act.put, List.setIfInBounds_toArray, List.set_cons_zero, List.set_cons_succ]
                      refine wpAnyH_take (i := 13) (oi := { dst := some 128, op := Go.Op.move (Go.Operand.tmp 12), type := 3, pos := "ref.go:82", after := #[], guard := none }) (v := ?vCH_13) rfl (by kernel_rfl) (by kernel_rfl) (by kernel_rfl) (fun _ _ _ h => h) (Or.inl ⟨by rfl, ?hCH_13⟩) hS ?rCH_13
                      case hCH_13 => (intro wz _; go_simp; try with_reducible rfl)
                      simp only [Act.put, List.setIfInBounds_toArray, List.set_cons_zero, List.set_cons_succ]
                      refine wpAnyH_take (i := 14) (oi := { dst := some 129, op := Go.Op.binOp Go.BinOp.sub 3 (Go.Operand.tmp 128) (Go.Operand.const (Go.Value.int Go.IntKind.i64 14)) 3, type := 3, pos := "ref.go:82", after := #[{ on := 13, ground := Go.Ground.data }], guard := none }) (v := ?vCH_14) rfl (by kernel_rfl) (by kernel_rfl) (by kernel_rfl) (fun _ _ _ h => h) (Or.inl ⟨by rfl, ?hCH_14⟩) hS ?rCH_14
                      case hCH_14 => (intro wz _; go_simp; try with_reducible rfl)
                      simp only [Act.put, List.setIfInBounds_toArray, List.set_cons_zero, List.set_cons_succ]
                      refine wpAnyH_take (i := 15) (oi := { dst := some 130, op := Go.Op.indexAddr 51 (Go.Operand.tmp 127) (Go.Operand.tmp 129), type := 0, pos := "ref.go:82", after := #[{ on := 12, ground := Go.Ground.data }, { on := 14, ground := Go.Ground.data }], guard := none }) (v := ?vCH_15) rfl (by kernel_rfl) (by kernel_rfl) (by kernel_rfl) (fun _ _ _ h => h) (Or.inl ⟨by rfl, ?hCH_15⟩) hS ?rCH_15
                      case hCH_15 => (intro wz _; go_simp; try with_reducible rfl)
                      simp only [Act.put, List.setIfInBounds_toArray, List.set_cons_zero, List.set_cons_succ]
                      refine wpAnyH_take (i := 16) (oi := { dst := some 131, op := Go.Op.load 49 (Go.Operand.tmp 130), type := 49, pos := "ref.go:82", after := #[{ on := 15, ground := Go.Ground.data }], guard := none }) (v := ?vCH_16) rfl (by kernel_rfl) (by kernel_rfl) (by kernel_rfl) (fun _ _ _ h => h) (Or.inl ⟨by rfl, ?hCH_16⟩) hS ?rCH_16
                      case hCH_16 => (intro wz hz; have d := (hz.2 t14 r14).trans c14; go_simp; try with_reducible rfl)
                      simp only [Act.put, List.setIfInBounds_toArray, List.set_cons_zero, List.set_cons_succ]
                      refine wpAnyH_take (i := 17) (oi := { dst := some 132, op := Go.Op.move (Go.Operand.tmp 11), type := 51, pos := "ref.go:82", after := #[], guard := none }) (v := ?vCH_17) rfl (by kernel_rfl) (by kernel_rfl) (by kernel_rfl) (fun _ _ _ h => h) (Or.inl ⟨by rfl, ?hCH_17⟩) hS ?rCH_17
                      case hCH_17 => (intro wz _; go_simp; try with_reducible rfl)
                      simp only [Act.put, List.setIfInBounds_toArray, List.set_cons_zero, List.set_cons_succ]
                      refine wpAnyH_take (i := 18) (oi := { dst := some 133, op := Go.Op.move (Go.Operand.tmp 12), type := 3, pos := "ref.go:82", after := #[], guard := none }) (v := ?vCH_18) rfl (by kernel_rfl) (by kernel_rfl) (by kernel_rfl) (fun _ _ _ h => h) (Or.inl ⟨by rfl, ?hCH_18⟩) hS ?rCH_18
                      case hCH_18 => (intro wz _; go_simp; try with_reducible rfl)
                      simp only [Act.put, List.setIfInBounds_toArray, List.set_cons_zero, List.set_cons_succ]
                      refine wpAnyH_take (i := 19) (oi := { dst := some 134, op := Go.Op.binOp Go.BinOp.sub 3 (Go.Operand.tmp 133) (Go.Operand.const (Go.Value.int Go.IntKind.i64 16)) 3, type := 3, pos := "ref.go:82", after := #[{ on := 18, ground := Go.Ground.data }], guard := none }) (v := ?vCH_19) rfl (by kernel_rfl) (by kernel_rfl) (by kernel_rfl) (fun _ _ _ h => h) (Or.inl ⟨by rfl, ?hCH_19⟩) hS ?rCH_19
                      case hCH_19 => (intro wz _; go_simp; try with_reducible rfl)
                      simp only [Act.put, List.setIfInBounds_toArray, List.set_cons_zero, List.set_cons_succ]
                      refine wpAnyH_take (i := 20) (oi := { dst := some 135, op := Go.Op.indexAddr 51 (Go.Operand.tmp 132) (Go.Operand.tmp 134), type := 0, pos := "ref.go:82", after := #[{ on := 17, ground := Go.Ground.data }, { on := 19, ground := Go.Ground.data }], guard := none }) (v := ?vCH_20) rfl (by kernel_rfl) (by kernel_rfl) (by kernel_rfl) (fun _ _ _ h => h) (Or.inl ⟨by rfl, ?hCH_20⟩) hS ?rCH_20
                      case hCH_20 => (intro wz _; go_simp; try with_reducible rfl)
                      simp only [Act.put, List.setIfInBounds_toArray, List.set_cons_zero, List.set_cons_succ]
                      refine wpAnyH_take (i := 21) (oi := { dst := some 136, op := Go.Op.load 49 (Go.Operand.tmp 135), type := 49, pos := "ref.go:82", after := #[{ on := 20, ground := Go.Ground.data }], guard := none }) (v := ?vCH_21) rfl (by kernel_rfl) (by kernel_rfl) (by kernel_rfl) (fun _ _ _ h => h) (Or.inl ⟨by rfl, ?hCH_21⟩) hS ?rCH_21
                      case hCH_21 => (intro wz hz; have d := (hz.2 t16 r16).trans c16; go_simp; try with_reducible rfl)
                      simp only [Act.put, List.setIfInBounds_toArray, List.set_cons_zero, List.set_cons_succ]
                      refine held_one (k := 11) (o := { dst := some 126, op := Go.Op.call { callee := Go.Callee.value (Go.Operand.func 21), args := #[Go.Operand.tmp 120, Go.Operand.tmp 125], argTypes := #[49, 49] }, type := 49, pos := "ref.go:82", after := #[{ on := 5, ground := Go.Ground.data }, { on := 10, ground := Go.Ground.data }], guard := none }) (by kernel_rfl) rfl (fun K hK => ?_)
                      go_simp
                      have hq := odd_any wr.drew u3 u8 x3 x8 y1 (h3.keeps (Keeps.refl _ _).drew) (h8.keeps (Keeps.refl _ _).drew) HY1.out
                      refine hq.mono ?_
                      clear hq
                      rintro e w7 ⟨v7, rfl, hv7, hk7'⟩
                      have hk7 := hk7'.drew_of
                      refine hK _ _ (held_go ?_ (fun hS => ?_))
                      · exact S2.next hS hgw2 hk7'
                      clear hK K
                      try simp only [Act.put, List.setIfInBounds_toArray, List.set_cons_zero, List.set_cons_succ]
                      refine held_one (k := 22) (o := { dst := some 137, op := Go.Op.call { callee := Go.Callee.value (Go.Operand.func 21), args := #[Go.Operand.tmp 131, Go.Operand.tmp 136], argTypes := #[49, 49] }, type := 49, pos := "ref.go:82", after := #[{ on := 16, ground := Go.Ground.data }, { on := 21, ground := Go.Ground.data }, { on := 11, ground := Go.Ground.chain }], guard := none }) (by kernel_rfl) rfl (fun K hK => ?_)
                      go_simp
                      have hq := odd_any w7 u14 u16 x14 x16 y2 (h14.keeps hk7) (h16.keeps hk7) HY2.out
                      refine hq.mono ?_
                      clear hq
                      rintro e w9 ⟨v9, rfl, hv9, hk9'⟩
                      have hk9 := hk7.trans hk9'
                      refine hK _ _ (held_go ?_ (fun hS => ?_))
                      · exact S2.next hS hgw2 hk9'
                      clear hK K
                      try simp only [Act.put, List.setIfInBounds_toArray, List.set_cons_zero, List.set_cons_succ]
                      refine held_one (k := 23) (o := { dst := some 138, op := Go.Op.call { callee := Go.Callee.value (Go.Operand.func 21), args := #[Go.Operand.tmp 126, Go.Operand.tmp 137], argTypes := #[49, 49] }, type := 49, pos := "ref.go:82", after := #[{ on := 11, ground := Go.Ground.data }, { on := 22, ground := Go.Ground.data }, { on := 22, ground := Go.Ground.chain }], guard := none }) (by kernel_rfl) rfl (fun K hK => ?_)
                      go_simp
                      have hq := odd_any w9 v7 v9 y1 y2 y3 (hv7.keeps hk9') hv9 HY3.out
                      refine hq.mono ?_
                      clear hq
                      rintro e w10 ⟨v10, rfl, hv10, hk10'⟩
                      have hk10 := hk9.trans hk10'
                      refine hK _ _ (held_go ?_ (fun hS => ?_))
                      · exact S2.next hS hgw2 hk10'
                      clear hK K
                      try simp only [Act.put, List.setIfInBounds_toArray, List.set_cons_zero, List.set_cons_succ]
                      refine held_one (k := 24) (o := { dst := some 139, op := Go.Op.call { callee := Go.Callee.value (Go.Operand.func 20), args := #[Go.Operand.tmp 138, Go.Operand.const (Go.Value.int Go.IntKind.i64 1)], argTypes := #[49, 3] }, type := 49, pos := "ref.go:82", after := #[{ on := 23, ground := Go.Ground.data }, { on := 23, ground := Go.Ground.chain }], guard := none }) (by kernel_rfl) rfl (fun K hK => ?_)
                      go_simp
                      have hq := turn_any w10 v10 y3 zz 1 hv10 (by omega) (by omega) HZZ.out
                      refine hq.mono ?_
                      clear hq
                      rintro e w11 ⟨v11, rfl, hv11, hk11'⟩
                      have hk11 := hk10.trans hk11'
                      obtain ⟨g11, c11, rfl, _⟩ := hv11.open_
                      have hS11 := S2.next hS hgw2 hk11'
                      refine hK _ _ (held_go ?_ (fun hS => ?_))
                      · exact hS11
                      clear hK K
                      try simp only [Act.put, List.setIfInBounds_toArray, List.set_cons_zero, List.set_cons_succ]
                      refine held_one (k := 25) (o := { dst := some 140, op := Go.Op.buildSlice 51 1 #[(0, Go.Operand.tmp 139)], type := 51, pos := "ref.go:82", after := #[{ on := 24, ground := Go.Ground.data }], guard := none }) (by kernel_rfl) rfl (fun K hK => ?_)
                      go_simp
                      refine hK _ _ (held_go ?_ (fun hS => ?_))
                      · exact S2.next hS11 hgw2 ((Keeps.refl _ _).alloc _)
                      clear hK K
                      try simp only [Act.put, List.setIfInBounds_toArray, List.set_cons_zero, List.set_cons_succ]
                      refine held_one (k := 26) (o := { dst := some 141, op := Go.Op.call { callee := Go.Callee.builtin Go.Builtin.append, args := #[Go.Operand.tmp 115, Go.Operand.tmp 140], argTypes := #[51, 51] }, type := 51, pos := "ref.go:82", after := #[{ on := 0, ground := Go.Ground.data }, { on := 25, ground := Go.Ground.data }, { on := 24, ground := Go.Ground.chain }], guard := none }) (by kernel_rfl) rfl (fun K hK => ?_)
                      refine step_push2 (by rfl) 49 51 24 (.slice none 0 0) Tryd.underlying51 info49 rfl (by omega) rfl (.tmp 115) (.tmp 140) rfl B1 (.slice (some ⟨gw, 0, none⟩) t cw) xs rfl (HXS w11 hk11) 1 rfl (by omega) (Nat.le_trans hB1w hk11.size) ?_
                      intro v12 w12 hr12 hk12 hp12
                      have hS12 : S2 wr gw t cw w12 := ⟨hS11.1.trans hk12.out, fun i hi => (hp12.out i (by rw [hx2t]; exact hi) gw rfl).trans (hS11.2 i hi)⟩
                      refine hK _ _ (held_go ?_ (fun hS => ?_))
                      · exact hS12
                      clear hK K
                      try simp only [Act.put, List.setIfInBounds_toArray, List.set_cons_zero, List.set_cons_succ]
                      refine wpAnyH_take (i := 27) (oi := { dst := some 11, op := Go.Op.assign (Go.Operand.tmp 141), type := 51, pos := "ref.go:82", after := #[{ on := 26, ground := Go.Ground.data }, { on := 26, ground := Go.Ground.chain }, { on := 0, ground := Go.Ground.phase }, { on := 1, ground := Go.Ground.phase }, { on := 2, ground := Go.Ground.phase }, { on := 3, ground := Go.Ground.phase }, { on := 4, ground := Go.Ground.phase }, { on := 5, ground := Go.Ground.phase }, { on := 6, ground := Go.Ground.phase }, { on := 7, ground := Go.Ground.phase }, { on := 8, ground := Go.Ground.phase }, { on := 9, ground := Go.Ground.phase }, { on := 10, ground := Go.Ground.phase }, { on := 11, ground := Go.Ground.phase }, { on := 12, ground := Go.Ground.phase }, { on := 13, ground := Go.Ground.phase }, { on := 14, ground := Go.Ground.phase }, { on := 15, ground := Go.Ground.phase }, { on := 16, ground := Go.Ground.phase }, { on := 17, ground := Go.Ground.phase }, { on := 18, ground := Go.Ground.phase }, { on := 19, ground := Go.Ground.phase }, { on := 20, ground := Go.Ground.phase }, { on := 21, ground := Go.Ground.phase }, { on := 22, ground := Go.Ground.phase }, { on := 23, ground := Go.Ground.phase }, { on := 24, ground := Go.Ground.phase }, { on := 25, ground := Go.Ground.phase }, { on := 26, ground := Go.Ground.phase }], guard := none }) (v := ?vCH_22) rfl (by kernel_rfl) (by kernel_rfl) (by kernel_rfl) (fun _ _ _ h => h) (Or.inl ⟨by rfl, ?hCH_22⟩) hS ?rCH_22
                      case hCH_22 => (intro wz _; go_simp; try with_reducible rfl)
                      simp only [Act.put, List.setIfInBounds_toArray, List.set_cons_zero, List.set_cons_succ]
                      refine wpAnyH_done (by kernel_rfl) ?_ _
                      have HW8 := Lib.hid (show WordsAt w12 B1 v12 (wl p (t + 1)) by rw [wl_high p t hhigh, HNX.out]; exact WordsAt.push (hW.out.keeps hk11) (HXS w11 hk11).out hx2 (fun j hj => by obtain ⟨u, hu, hw⟩ := HX3.out j hj; exact ⟨u, hu, hw.keeps hk11⟩) hr12.out hk12.out hv11)
                      have HE8 := Lib.hid (hE.out.own hS12.1 HSB.out H49.out)
                      clear hv7 hv9 hv10 hv11 hr12 hk12 hp12 hS12 hS11 hS hW hE h3 h8 h14 h16
                      go_wp2_with fail
                      first
                      | exact ⟨relS1 (t + 1) rfl (by omega) HW8 HE8, by simp [intOf]; omega⟩
                      | (go_roundw
                         case rel => first | exact relS1 (t + 1) rfl (by omega) HW8 HE8 | ((repeat apply Exists.intro); exact ⟨relS1 (t + 1) rfl (by omega) HW8 HE8, by and_intros <;> first | rfl | assumption | simp | omega⟩)
                         case measure => simp [intOf]; omega)
                · obtain rfl : t = 80 := by omega
                  obtain ⟨gw, cw, rfl, hcw, _, hgw2⟩ := hW.out.shape (n := 80) (length_wl p 80)
                  obtain ⟨hS5, hS5e⟩ : ∃ h : S5, h = stB P j := ⟨_, rfl⟩
                  rw [← hS5e] at hE
                  have HS5 := Lib.hid hS5e
                  have HWW := Lib.hid (show WordsAt wr 0 (.slice (some ⟨gw, 0, none⟩) 80 cw) (sched p) from hW.out.base (Nat.zero_le _))
                  have HWH := Lib.hid hE.out.2.1
                  clear hS5e hW
                  go_wp2_with (with_reducible refine wpList_copyH (o := ⟨some 144, _, _, _, _, _⟩) rfl (.tmp 142) (.tmp 143) rfl w.heap.size gh 5 5 hS5.list HWH rfl (by omega) (by omega) rfl rfl ?_; intro vx w6 hx6 hk6)
                  have HX6 := Lib.hid (show WordsAt w6 B1 vx (st (sched p) hS5 0).list from hx6.out.base hE.out.2.2.2.2.2.1)
                  have HW6 := Lib.hid (HWW.out.keeps hk6.out)
                  have HE6 := Lib.hid (hE.out.still hk6.out)
                  clear hx6 hk6 hE HWW HWH
                  go_wp2_with fail
                  go_loopw [14, 15] (fun v i wr => RelR w wr B1 (.slice (some ⟨gb, 0, none⟩) N cb) (.slice (some ⟨gh, 0, none⟩) 5 5) (.slice (some ⟨gk, 0, none⟩) 4 4) (.slice (some ⟨gw, 0, none⟩) 80 cw) P hS5 (sched p) v i) (fun _ i _ => 80 - (intOf i).toNat)
                  case atStart => exact relR 0 rfl (by omega) HX6 HW6 HE6
                  case round =>
                    clear HX6 HW6 HE6
                    obtain ⟨t, rfl, ht, hX, hW, hE⟩ := hrel
                    by_cases hlt3 : t < 80
                    · obtain ⟨gx, cx, rfl, hcx, _, hgx2⟩ := hX.out.shape (n := 5) rfl
                      obtain ⟨ss, hss⟩ : ∃ s, s = st (sched p) hS5 t := ⟨_, rfl⟩
                      rw [← hss] at hX
                      obtain ⟨sa, sb, sc, sd, se⟩ := ss
                      obtain ⟨ux0, cx0, hx0⟩ := hX.out.cell 0 (by show 0 < 5; omega)
                      obtain ⟨ux1, cx1, hx1⟩ := hX.out.cell 1 (by show 1 < 5; omega)
                      obtain ⟨ux2, cx2, hx2⟩ := hX.out.cell 2 (by show 2 < 5; omega)
                      obtain ⟨ux3, cx3, hx3⟩ := hX.out.cell 3 (by show 3 < 5; omega)
                      obtain ⟨ux4, cx4, hx4⟩ := hX.out.cell 4 (by show 4 < 5; omega)
                      change WordAt wr ux0 sa at hx0
                      change WordAt wr ux1 sb at hx1
                      change WordAt wr ux2 sc at hx2
                      change WordAt wr ux3 sd at hx3
                      change WordAt wr ux4 se at hx4
                      obtain ⟨gx0, dx0, rfl, _⟩ := hx0.open_
                      obtain ⟨gx2, dx2, rfl, _⟩ := hx2.open_
                      obtain ⟨gx3, dx3, rfl, _⟩ := hx3.open_
                      obtain ⟨ut, cwt, hwt⟩ := hW.out.cell t (by rw [length_sched]; exact hlt3)
                      obtain ⟨xw, hxw⟩ : ∃ x, x = (sched p).getD t 0 := ⟨_, rfl⟩
                      rw [← hxw] at hwt
                      obtain ⟨tk, htk⟩ : ∃ k, k = t / 20 := ⟨_, rfl⟩
                      have htk4 : tk < 4 := by omega
                      obtain ⟨uk, ck, hk4⟩ := hE.out.2.2.1.cell tk (by show tk < 4; exact htk4)
                      obtain ⟨xk, hxk⟩ : ∃ x, x = mixk t := ⟨_, rfl⟩
                      rw [htk, k4_at t hlt3, ← hxk] at hk4
                      have i1 : (t : Int).tdiv 20 = (tk : Int) := by rw [Int.tdiv_eq_ediv_of_nonneg (by omega)]; omega
                      have i2 : (t : Int) / 20 = (tk : Int) := by omega
                      have i3 : (tk : Int) < 4 := by omega
                      have i4 : (t : Int) < 80 := by omega
                      have i5 : IntKind.i64.wrap (tk : Int) = (tk : Int) := IntWalk.i64_in _ (by omega)
                      obtain ⟨z1, hz1⟩ : ∃ z, z = rotl sa 5 := ⟨_, rfl⟩
                      obtain ⟨z2, hz2⟩ : ∃ z, z = mixf t sb sc sd := ⟨_, rfl⟩
                      obtain ⟨z3, hz3⟩ : ∃ z, z = z1 + z2 := ⟨_, rfl⟩
                      obtain ⟨z4, hz4⟩ : ∃ z, z = se + xw := ⟨_, rfl⟩
                      obtain ⟨z5, hz5⟩ : ∃ z, z = z4 + xk := ⟨_, rfl⟩
                      obtain ⟨z6, hz6⟩ : ∃ z, z = z3 + z5 := ⟨_, rfl⟩
                      obtain ⟨z7, hz7⟩ : ∃ z, z = rotl sb 30 := ⟨_, rfl⟩
                      have HST := Lib.hid (show (⟨z6, sa, z7, sc, sd⟩ : S5) = st (sched p) hS5 (t + 1) by
                        show _ = rnd t ((sched p).getD t 0) (st (sched p) hS5 t)
                        rw [← hss, ← hxw, hz6, hz5, hz4, hz3, hz2, hz1, hz7, hxk, rnd_plus]
                        rfl)
                      have HZ1 := Lib.hid hz1
                      have HZ2 := Lib.hid hz2
                      have HZ3 := Lib.hid hz3
                      have HZ4 := Lib.hid hz4
                      have HZ5 := Lib.hid hz5
                      have HZ6 := Lib.hid hz6
                      have HZ7 := Lib.hid hz7
                      clear hss hxw htk hxk hz1 hz2 hz3 hz4 hz5 hz6 hz7
                      go_wp2_with fail
                      refine wp_region_held (S := (fun w' => Still wr w')) (by kernel_rfl) ?_
                      change wpAnyH _ _ _ _ _ _ _ _ (World.drew _)
                      refine held_start ?_ (fun hS => ?_)
                      · exact (Keeps.refl _ _).drew
                      refine wpAnyH_take (i := 0) (oi := { dst := some 149, op := Go.Op.move (Go.Operand.tmp 14), type := 51, pos := "ref.go:87", after := #[], guard := none }) (v := ?vCR_1) rfl (by kernel_rfl) (by kernel_rfl) (by kernel_rfl) (fun _ _ _ h => h) (Or.inl ⟨by rfl, ?hCR_1⟩) hS ?rCR_1
                      case hCR_1 => (intro wz _; go_simp; try with_reducible rfl)
                      simp only [Act.put, List.setIfInBounds_toArray, List.set_cons_zero, List.set_cons_succ]
                      refine wpAnyH_take (i := 1) (oi := { dst := some 150, op := Go.Op.indexAddr 51 (Go.Operand.tmp 149) (Go.Operand.const (Go.Value.int Go.IntKind.i64 0)), type := 0, pos := "ref.go:87", after := #[{ on := 0, ground := Go.Ground.data }], guard := none }) (v := ?vCR_2) rfl (by kernel_rfl) (by kernel_rfl) (by kernel_rfl) (fun _ _ _ h => h) (Or.inl ⟨by rfl, ?hCR_2⟩) hS ?rCR_2
                      case hCR_2 => (intro wz _; go_simp; try with_reducible rfl)
                      simp only [Act.put, List.setIfInBounds_toArray, List.set_cons_zero, List.set_cons_succ]
                      refine wpAnyH_take (i := 2) (oi := { dst := some 151, op := Go.Op.load 49 (Go.Operand.tmp 150), type := 49, pos := "ref.go:87", after := #[{ on := 1, ground := Go.Ground.data }], guard := none }) (v := ?vCR_3) rfl (by kernel_rfl) (by kernel_rfl) (by kernel_rfl) (fun _ _ _ h => h) (Or.inl ⟨by rfl, ?hCR_3⟩) hS ?rCR_3
                      case hCR_3 => (intro wz hz; have d := hz.cell cx0 id; go_simp; try with_reducible rfl)
                      simp only [Act.put, List.setIfInBounds_toArray, List.set_cons_zero, List.set_cons_succ]
                      refine wpAnyH_take (i := 4) (oi := { dst := some 153, op := Go.Op.move (Go.Operand.tmp 15), type := 3, pos := "ref.go:87", after := #[], guard := none }) (v := ?vCR_4) rfl (by kernel_rfl) (by kernel_rfl) (by kernel_rfl) (fun _ _ _ h => h) (Or.inl ⟨by rfl, ?hCR_4⟩) hS ?rCR_4
                      case hCR_4 => (intro wz _; go_simp; try with_reducible rfl)
                      simp only [Act.put, List.setIfInBounds_toArray, List.set_cons_zero, List.set_cons_succ]
                      refine wpAnyH_take (i := 5) (oi := { dst := some 154, op := Go.Op.move (Go.Operand.tmp 14), type := 51, pos := "ref.go:87", after := #[], guard := none }) (v := ?vCR_5) rfl (by kernel_rfl) (by kernel_rfl) (by kernel_rfl) (fun _ _ _ h => h) (Or.inl ⟨by rfl, ?hCR_5⟩) hS ?rCR_5
                      case hCR_5 => (intro wz _; go_simp; try with_reducible rfl)
                      simp only [Act.put, List.setIfInBounds_toArray, List.set_cons_zero, List.set_cons_succ]
                      refine wpAnyH_take (i := 6) (oi := { dst := some 155, op := Go.Op.indexAddr 51 (Go.Operand.tmp 154) (Go.Operand.const (Go.Value.int Go.IntKind.i64 1)), type := 0, pos := "ref.go:87", after := #[{ on := 5, ground := Go.Ground.data }], guard := none }) (v := ?vCR_6) rfl (by kernel_rfl) (by kernel_rfl) (by kernel_rfl) (fun _ _ _ h => h) (Or.inl ⟨by rfl, ?hCR_6⟩) hS ?rCR_6
                      case hCR_6 => (intro wz _; go_simp; try with_reducible rfl)
                      simp only [Act.put, List.setIfInBounds_toArray, List.set_cons_zero, List.set_cons_succ]
                      refine wpAnyH_take (i := 7) (oi := { dst := some 156, op := Go.Op.load 49 (Go.Operand.tmp 155), type := 49, pos := "ref.go:87", after := #[{ on := 6, ground := Go.Ground.data }], guard := none }) (v := ?vCR_7) rfl (by kernel_rfl) (by kernel_rfl) (by kernel_rfl) (fun _ _ _ h => h) (Or.inl ⟨by rfl, ?hCR_7⟩) hS ?rCR_7
                      case hCR_7 => (intro wz hz; have d := hz.cell cx1 id; go_simp; try with_reducible rfl)
                      simp only [Act.put, List.setIfInBounds_toArray, List.set_cons_zero, List.set_cons_succ]
                      refine wpAnyH_take (i := 8) (oi := { dst := some 157, op := Go.Op.move (Go.Operand.tmp 14), type := 51, pos := "ref.go:87", after := #[], guard := none }) (v := ?vCR_8) rfl (by kernel_rfl) (by kernel_rfl) (by kernel_rfl) (fun _ _ _ h => h) (Or.inl ⟨by rfl, ?hCR_8⟩) hS ?rCR_8
                      case hCR_8 => (intro wz _; go_simp; try with_reducible rfl)
                      simp only [Act.put, List.setIfInBounds_toArray, List.set_cons_zero, List.set_cons_succ]
                      refine wpAnyH_take (i := 9) (oi := { dst := some 158, op := Go.Op.indexAddr 51 (Go.Operand.tmp 157) (Go.Operand.const (Go.Value.int Go.IntKind.i64 2)), type := 0, pos := "ref.go:87", after := #[{ on := 8, ground := Go.Ground.data }], guard := none }) (v := ?vCR_9) rfl (by kernel_rfl) (by kernel_rfl) (by kernel_rfl) (fun _ _ _ h => h) (Or.inl ⟨by rfl, ?hCR_9⟩) hS ?rCR_9
                      case hCR_9 => (intro wz _; go_simp; try with_reducible rfl)
                      simp only [Act.put, List.setIfInBounds_toArray, List.set_cons_zero, List.set_cons_succ]
                      refine wpAnyH_take (i := 10) (oi := { dst := some 159, op := Go.Op.load 49 (Go.Operand.tmp 158), type := 49, pos := "ref.go:87", after := #[{ on := 9, ground := Go.Ground.data }], guard := none }) (v := ?vCR_10) rfl (by kernel_rfl) (by kernel_rfl) (by kernel_rfl) (fun _ _ _ h => h) (Or.inl ⟨by rfl, ?hCR_10⟩) hS ?rCR_10
                      case hCR_10 => (intro wz hz; have d := hz.cell cx2 id; go_simp; try with_reducible rfl)
                      simp only [Act.put, List.setIfInBounds_toArray, List.set_cons_zero, List.set_cons_succ]
                      refine wpAnyH_take (i := 11) (oi := { dst := some 160, op := Go.Op.move (Go.Operand.tmp 14), type := 51, pos := "ref.go:87", after := #[], guard := none }) (v := ?vCR_11) rfl (by kernel_rfl) (by kernel_rfl) (by kernel_rfl) (fun _ _ _ h => h) (Or.inl ⟨by rfl, ?hCR_11⟩) hS ?rCR_11
                      case hCR_11 => (intro wz _; go_simp; try with_reducible rfl)
                      simp only [Act.put, List.setIfInBounds_toArray, List.set_cons_zero, List.set_cons_succ]
                      refine wpAnyH_take (i := 12) (oi := { dst := some 161, op := Go.Op.indexAddr 51 (Go.Operand.tmp 160) (Go.Operand.const (Go.Value.int Go.IntKind.i64 3)), type := 0, pos := "ref.go:87", after := #[{ on := 11, ground := Go.Ground.data }], guard := none }) (v := ?vCR_12) rfl (by kernel_rfl) (by kernel_rfl) (by kernel_rfl) (fun _ _ _ h => h) (Or.inl ⟨by rfl, ?hCR_12⟩) hS ?rCR_12
                      case hCR_12 => (intro wz _; go_simp; try with_reducible rfl)
                      simp only [Act.put, List.setIfInBounds_toArray, List.set_cons_zero, List.set_cons_succ]
                      refine wpAnyH_take (i := 13) (oi := { dst := some 162, op := Go.Op.load 49 (Go.Operand.tmp 161), type := 49, pos := "ref.go:87", after := #[{ on := 12, ground := Go.Ground.data }], guard := none }) (v := ?vCR_13) rfl (by kernel_rfl) (by kernel_rfl) (by kernel_rfl) (fun _ _ _ h => h) (Or.inl ⟨by rfl, ?hCR_13⟩) hS ?rCR_13
                      case hCR_13 => (intro wz hz; have d := hz.cell cx3 id; go_simp; try with_reducible rfl)
                      simp only [Act.put, List.setIfInBounds_toArray, List.set_cons_zero, List.set_cons_succ]
                      refine wpAnyH_take (i := 16) (oi := { dst := some 165, op := Go.Op.move (Go.Operand.tmp 14), type := 51, pos := "ref.go:87", after := #[], guard := none }) (v := ?vCR_14) rfl (by kernel_rfl) (by kernel_rfl) (by kernel_rfl) (fun _ _ _ h => h) (Or.inl ⟨by rfl, ?hCR_14⟩) hS ?rCR_14
                      case hCR_14 => (intro wz _; go_simp; try with_reducible rfl)
                      simp only [Act.put, List.setIfInBounds_toArray, List.set_cons_zero, List.set_cons_succ]
                      refine wpAnyH_take (i := 17) (oi := { dst := some 166, op := Go.Op.indexAddr 51 (Go.Operand.tmp 165) (Go.Operand.const (Go.Value.int Go.IntKind.i64 4)), type := 0, pos := "ref.go:87", after := #[{ on := 16, ground := Go.Ground.data }], guard := none }) (v := ?vCR_15) rfl (by kernel_rfl) (by kernel_rfl) (by kernel_rfl) (fun _ _ _ h => h) (Or.inl ⟨by rfl, ?hCR_15⟩) hS ?rCR_15
                      case hCR_15 => (intro wz _; go_simp; try with_reducible rfl)
                      simp only [Act.put, List.setIfInBounds_toArray, List.set_cons_zero, List.set_cons_succ]
                      refine wpAnyH_take (i := 18) (oi := { dst := some 167, op := Go.Op.load 49 (Go.Operand.tmp 166), type := 49, pos := "ref.go:87", after := #[{ on := 17, ground := Go.Ground.data }], guard := none }) (v := ?vCR_16) rfl (by kernel_rfl) (by kernel_rfl) (by kernel_rfl) (fun _ _ _ h => h) (Or.inl ⟨by rfl, ?hCR_16⟩) hS ?rCR_16
                      case hCR_16 => (intro wz hz; have d := hz.cell cx4 id; go_simp; try with_reducible rfl)
                      simp only [Act.put, List.setIfInBounds_toArray, List.set_cons_zero, List.set_cons_succ]
                      refine wpAnyH_take (i := 19) (oi := { dst := some 168, op := Go.Op.move (Go.Operand.tmp 11), type := 51, pos := "ref.go:87", after := #[], guard := none }) (v := ?vCR_17) rfl (by kernel_rfl) (by kernel_rfl) (by kernel_rfl) (fun _ _ _ h => h) (Or.inl ⟨by rfl, ?hCR_17⟩) hS ?rCR_17
                      case hCR_17 => (intro wz _; go_simp; try with_reducible rfl)
                      simp only [Act.put, List.setIfInBounds_toArray, List.set_cons_zero, List.set_cons_succ]
                      refine wpAnyH_take (i := 20) (oi := { dst := some 169, op := Go.Op.move (Go.Operand.tmp 15), type := 3, pos := "ref.go:87", after := #[], guard := none }) (v := ?vCR_18) rfl (by kernel_rfl) (by kernel_rfl) (by kernel_rfl) (fun _ _ _ h => h) (Or.inl ⟨by rfl, ?hCR_18⟩) hS ?rCR_18
                      case hCR_18 => (intro wz _; go_simp; try with_reducible rfl)
                      simp only [Act.put, List.setIfInBounds_toArray, List.set_cons_zero, List.set_cons_succ]
                      refine wpAnyH_take (i := 21) (oi := { dst := some 170, op := Go.Op.indexAddr 51 (Go.Operand.tmp 168) (Go.Operand.tmp 169), type := 0, pos := "ref.go:87", after := #[{ on := 19, ground := Go.Ground.data }, { on := 20, ground := Go.Ground.data }], guard := none }) (v := ?vCR_19) rfl (by kernel_rfl) (by kernel_rfl) (by kernel_rfl) (fun _ _ _ h => h) (Or.inl ⟨by rfl, ?hCR_19⟩) hS ?rCR_19
                      case hCR_19 => (intro wz _; go_simp; try with_reducible rfl)
                      simp only [Act.put, List.setIfInBounds_toArray, List.set_cons_zero, List.set_cons_succ]
                      refine wpAnyH_take (i := 22) (oi := { dst := some 171, op := Go.Op.load 49 (Go.Operand.tmp 170), type := 49, pos := "ref.go:87", after := #[{ on := 21, ground := Go.Ground.data }], guard := none }) (v := ?vCR_20) rfl (by kernel_rfl) (by kernel_rfl) (by kernel_rfl) (fun _ _ _ h => h) (Or.inl ⟨by rfl, ?hCR_20⟩) hS ?rCR_20
                      case hCR_20 => (intro wz hz; have d := hz.cell cwt id; go_simp; try with_reducible rfl)
                      simp only [Act.put, List.setIfInBounds_toArray, List.set_cons_zero, List.set_cons_succ]
                      refine wpAnyH_take (i := 24) (oi := { dst := some 173, op := Go.Op.move (Go.Operand.tmp 9), type := 51, pos := "ref.go:87", after := #[], guard := none }) (v := ?vCR_21) rfl (by kernel_rfl) (by kernel_rfl) (by kernel_rfl) (fun _ _ _ h => h) (Or.inl ⟨by rfl, ?hCR_21⟩) hS ?rCR_21
                      case hCR_21 => (intro wz _; go_simp; try with_reducible rfl)
                      simp only [Act.put, List.setIfInBounds_toArray, List.set_cons_zero, List.set_cons_succ]
                      refine wpAnyH_take (i := 25) (oi := { dst := some 174, op := Go.Op.move (Go.Operand.tmp 15), type := 3, pos := "ref.go:87", after := #[], guard := none }) (v := ?vCR_22) rfl (by kernel_rfl) (by kernel_rfl) (by kernel_rfl) (fun _ _ _ h => h) (Or.inl ⟨by rfl, ?hCR_22⟩) hS ?rCR_22
                      case hCR_22 => (intro wz _; go_simp; try with_reducible rfl)
                      simp only [Act.put, List.setIfInBounds_toArray, List.set_cons_zero, List.set_cons_succ]
                      refine wpAnyH_take (i := 26) (oi := { dst := some 175, op := Go.Op.binOp Go.BinOp.quo 3 (Go.Operand.tmp 174) (Go.Operand.const (Go.Value.int Go.IntKind.i64 20)) 3, type := 3, pos := "ref.go:87", after := #[{ on := 25, ground := Go.Ground.data }], guard := none }) (v := ?vCR_23) rfl (by kernel_rfl) (by kernel_rfl) (by kernel_rfl) (fun _ _ _ h => h) (Or.inl ⟨by rfl, ?hCR_23⟩) hS ?rCR_23
                      case hCR_23 => (intro wz _; go_simp; try with_reducible rfl)
                      simp only [Act.put, List.setIfInBounds_toArray, List.set_cons_zero, List.set_cons_succ]
                      refine wpAnyH_take (i := 27) (oi := { dst := some 176, op := Go.Op.indexAddr 51 (Go.Operand.tmp 173) (Go.Operand.tmp 175), type := 0, pos := "ref.go:87", after := #[{ on := 24, ground := Go.Ground.data }, { on := 26, ground := Go.Ground.data }], guard := none }) (v := ?vCR_24) rfl (by kernel_rfl) (by kernel_rfl) (by kernel_rfl) (fun _ _ _ h => h) (Or.inl ⟨by rfl, ?hCR_24⟩) hS ?rCR_24
                      case hCR_24 => (intro wz _; go_simp; try with_reducible rfl)
                      simp only [Act.put, List.setIfInBounds_toArray, List.set_cons_zero, List.set_cons_succ]
                      refine wpAnyH_take (i := 28) (oi := { dst := some 177, op := Go.Op.load 49 (Go.Operand.tmp 176), type := 49, pos := "ref.go:87", after := #[{ on := 27, ground := Go.Ground.data }], guard := none }) (v := ?vCR_25) rfl (by kernel_rfl) (by kernel_rfl) (by kernel_rfl) (fun _ _ _ h => h) (Or.inl ⟨by rfl, ?hCR_25⟩) hS ?rCR_25
                      case hCR_25 => (intro wz hz; have d := hz.cell ck id; go_simp; try with_reducible rfl)
                      simp only [Act.put, List.setIfInBounds_toArray, List.set_cons_zero, List.set_cons_succ]
                      refine held_one (k := 3) (o := { dst := some 152, op := Go.Op.call { callee := Go.Callee.value (Go.Operand.func 20), args := #[Go.Operand.tmp 151, Go.Operand.const (Go.Value.int Go.IntKind.i64 5)], argTypes := #[49, 3] }, type := 49, pos := "ref.go:87", after := #[{ on := 2, ground := Go.Ground.data }], guard := none }) (by kernel_rfl) rfl (fun K hK => ?_)
                      go_simp
                      have hq := turn_any wr.drew _ sa z1 5 (hx0.keeps (Keeps.refl _ _).drew) (by omega) (by omega) HZ1.out
                      refine hq.mono ?_
                      clear hq
                      rintro e w7 ⟨v7, rfl, hv7, hk7'⟩
                      have hk7 := hk7'.drew_of
                      refine hK _ _ (held_go ?_ (fun hS => ?_))
                      · exact hk7
                      clear hK K
                      try simp only [Act.put, List.setIfInBounds_toArray, List.set_cons_zero, List.set_cons_succ]
                      refine held_one (k := 14) (o := { dst := some 163, op := Go.Op.call { callee := Go.Callee.value (Go.Operand.func 23), args := #[Go.Operand.tmp 153, Go.Operand.tmp 156, Go.Operand.tmp 159, Go.Operand.tmp 162], argTypes := #[3, 49, 49, 49] }, type := 49, pos := "ref.go:87", after := #[{ on := 4, ground := Go.Ground.data }, { on := 7, ground := Go.Ground.data }, { on := 10, ground := Go.Ground.data }, { on := 13, ground := Go.Ground.data }, { on := 3, ground := Go.Ground.chain }], guard := none }) (by kernel_rfl) rfl (fun K hK => ?_)
                      go_simp
                      have hq := f_any w7 t _ _ _ sb sc sd z2 hlt3 (hx1.keeps hk7) (hx2.keeps hk7) (hx3.keeps hk7) HZ2.out
                      refine hq.mono ?_
                      clear hq
                      rintro e w8 ⟨v8, rfl, hv8, hk8'⟩
                      have hk8 := hk7.trans hk8'
                      refine hK _ _ (held_go ?_ (fun hS => ?_))
                      · exact hk8
                      clear hK K
                      try simp only [Act.put, List.setIfInBounds_toArray, List.set_cons_zero, List.set_cons_succ]
                      refine held_one (k := 15) (o := { dst := some 164, op := Go.Op.call { callee := Go.Callee.value (Go.Operand.func 22), args := #[Go.Operand.tmp 152, Go.Operand.tmp 163], argTypes := #[49, 49] }, type := 49, pos := "ref.go:87", after := #[{ on := 3, ground := Go.Ground.data }, { on := 14, ground := Go.Ground.data }, { on := 14, ground := Go.Ground.chain }], guard := none }) (by kernel_rfl) rfl (fun K hK => ?_)
                      go_simp
                      have hq := plus_any w8 v7 v8 z1 z2 z3 (hv7.keeps hk8') hv8 HZ3.out
                      refine hq.mono ?_
                      clear hq
                      rintro e w9 ⟨v9, rfl, hv9, hk9'⟩
                      have hk9 := hk8.trans hk9'
                      refine hK _ _ (held_go ?_ (fun hS => ?_))
                      · exact hk9
                      clear hK K
                      try simp only [Act.put, List.setIfInBounds_toArray, List.set_cons_zero, List.set_cons_succ]
                      refine held_one (k := 23) (o := { dst := some 172, op := Go.Op.call { callee := Go.Callee.value (Go.Operand.func 22), args := #[Go.Operand.tmp 167, Go.Operand.tmp 171], argTypes := #[49, 49] }, type := 49, pos := "ref.go:87", after := #[{ on := 18, ground := Go.Ground.data }, { on := 22, ground := Go.Ground.data }, { on := 15, ground := Go.Ground.chain }], guard := none }) (by kernel_rfl) rfl (fun K hK => ?_)
                      go_simp
                      have hq := plus_any w9 _ _ se xw z4 (hx4.keeps hk9) (hwt.keeps hk9) HZ4.out
                      refine hq.mono ?_
                      clear hq
                      rintro e w10 ⟨v10, rfl, hv10, hk10'⟩
                      have hk10 := hk9.trans hk10'
                      refine hK _ _ (held_go ?_ (fun hS => ?_))
                      · exact hk10
                      clear hK K
                      try simp only [Act.put, List.setIfInBounds_toArray, List.set_cons_zero, List.set_cons_succ]
                      refine held_one (k := 29) (o := { dst := some 178, op := Go.Op.call { callee := Go.Callee.value (Go.Operand.func 22), args := #[Go.Operand.tmp 172, Go.Operand.tmp 177], argTypes := #[49, 49] }, type := 49, pos := "ref.go:87", after := #[{ on := 23, ground := Go.Ground.data }, { on := 28, ground := Go.Ground.data }, { on := 23, ground := Go.Ground.chain }], guard := none }) (by kernel_rfl) rfl (fun K hK => ?_)
                      go_simp
                      have hq := plus_any w10 v10 _ z4 xk z5 hv10 (hk4.keeps hk10) HZ5.out
                      refine hq.mono ?_
                      clear hq
                      rintro e w11 ⟨v11, rfl, hv11, hk11'⟩
                      have hk11 := hk10.trans hk11'
                      refine hK _ _ (held_go ?_ (fun hS => ?_))
                      · exact hk11
                      clear hK K
                      try simp only [Act.put, List.setIfInBounds_toArray, List.set_cons_zero, List.set_cons_succ]
                      refine held_one (k := 30) (o := { dst := some 179, op := Go.Op.call { callee := Go.Callee.value (Go.Operand.func 22), args := #[Go.Operand.tmp 164, Go.Operand.tmp 178], argTypes := #[49, 49] }, type := 49, pos := "ref.go:87", after := #[{ on := 15, ground := Go.Ground.data }, { on := 29, ground := Go.Ground.data }, { on := 29, ground := Go.Ground.chain }], guard := none }) (by kernel_rfl) rfl (fun K hK => ?_)
                      go_simp
                      have hq := plus_any w11 v9 v11 z3 z5 z6 ((hv9.keeps hk10').keeps hk11') hv11 HZ6.out
                      refine hq.mono ?_
                      clear hq
                      rintro e w12 ⟨v12, rfl, hv12, hk12'⟩
                      have hk12 := hk11.trans hk12'
                      refine hK _ _ (held_go ?_ (fun hS => ?_))
                      · exact hk12
                      clear hK K
                      try simp only [Act.put, List.setIfInBounds_toArray, List.set_cons_zero, List.set_cons_succ]
                      refine wpAnyH_take (i := 31) (oi := { dst := some 16, op := Go.Op.assign (Go.Operand.tmp 179), type := 49, pos := "ref.go:87", after := #[{ on := 30, ground := Go.Ground.data }, { on := 30, ground := Go.Ground.chain }, { on := 0, ground := Go.Ground.phase }, { on := 1, ground := Go.Ground.phase }, { on := 2, ground := Go.Ground.phase }, { on := 3, ground := Go.Ground.phase }, { on := 4, ground := Go.Ground.phase }, { on := 5, ground := Go.Ground.phase }, { on := 6, ground := Go.Ground.phase }, { on := 7, ground := Go.Ground.phase }, { on := 8, ground := Go.Ground.phase }, { on := 9, ground := Go.Ground.phase }, { on := 10, ground := Go.Ground.phase }, { on := 11, ground := Go.Ground.phase }, { on := 12, ground := Go.Ground.phase }, { on := 13, ground := Go.Ground.phase }, { on := 14, ground := Go.Ground.phase }, { on := 15, ground := Go.Ground.phase }, { on := 16, ground := Go.Ground.phase }, { on := 17, ground := Go.Ground.phase }, { on := 18, ground := Go.Ground.phase }, { on := 19, ground := Go.Ground.phase }, { on := 20, ground := Go.Ground.phase }, { on := 21, ground := Go.Ground.phase }, { on := 22, ground := Go.Ground.phase }, { on := 23, ground := Go.Ground.phase }, { on := 24, ground := Go.Ground.phase }, { on := 25, ground := Go.Ground.phase }, { on := 26, ground := Go.Ground.phase }, { on := 27, ground := Go.Ground.phase }, { on := 28, ground := Go.Ground.phase }, { on := 29, ground := Go.Ground.phase }, { on := 30, ground := Go.Ground.phase }], guard := none }) (v := ?vCR_26) rfl (by kernel_rfl) (by kernel_rfl) (by kernel_rfl) (fun _ _ _ h => h) (Or.inl ⟨by rfl, ?hCR_26⟩) hS ?rCR_26
                      case hCR_26 => (intro wz _; go_simp; try with_reducible rfl)
                      simp only [Act.put, List.setIfInBounds_toArray, List.set_cons_zero, List.set_cons_succ]
                      refine wpAnyH_done (by kernel_rfl) ?_ _
                      obtain ⟨g12, c12, rfl, _⟩ := hv12.open_
                      have HV12 := Lib.hid hv12
                      have HW12 := Lib.hid (hW.out.keeps hk12)
                      have HE12 := Lib.hid (hE.out.still hk12)
                      have cx0' := hk12.cell cx0 id
                      have cx1' := hk12.cell cx1 id
                      have cx2' := hk12.cell cx2 id
                      have cx3' := hk12.cell cx3 id
                      have HX0 := Lib.hid (hx0.keeps hk12)
                      have HX1 := Lib.hid (hx1.keeps hk12)
                      have HX2 := Lib.hid (hx2.keeps hk12)
                      have HX3 := Lib.hid (hx3.keeps hk12)
                      clear hv7 hv8 hv9 hv10 hv11 hv12 hS hX hW hE hx0 hx1 hx2 hx3 hx4 hwt hk4 cx0 cx1 cx2 cx3 cx4 cwt ck
                      go_wp2_with fail
                      refine wp_region_held (S := (fun w' => Still w12 w')) (by kernel_rfl) ?_
                      change wpAnyH _ _ _ _ _ _ _ _ (World.drew _)
                      refine held_start ?_ (fun hS => ?_)
                      · exact (Keeps.refl _ _).drew
                      refine wpAnyH_take (i := 0) (oi := { dst := some 180, op := Go.Op.move (Go.Operand.tmp 16), type := 49, pos := "ref.go:88", after := #[], guard := none }) (v := ?vCX_1) rfl (by kernel_rfl) (by kernel_rfl) (by kernel_rfl) (fun _ _ _ h => h) (Or.inl ⟨by rfl, ?hCX_1⟩) hS ?rCX_1
                      case hCX_1 => (intro wz _; go_simp; try with_reducible rfl)
                      simp only [Act.put, List.setIfInBounds_toArray, List.set_cons_zero, List.set_cons_succ]
                      refine wpAnyH_take (i := 1) (oi := { dst := some 181, op := Go.Op.move (Go.Operand.tmp 14), type := 51, pos := "ref.go:88", after := #[], guard := none }) (v := ?vCX_2) rfl (by kernel_rfl) (by kernel_rfl) (by kernel_rfl) (fun _ _ _ h => h) (Or.inl ⟨by rfl, ?hCX_2⟩) hS ?rCX_2
                      case hCX_2 => (intro wz _; go_simp; try with_reducible rfl)
                      simp only [Act.put, List.setIfInBounds_toArray, List.set_cons_zero, List.set_cons_succ]
                      refine wpAnyH_take (i := 2) (oi := { dst := some 182, op := Go.Op.indexAddr 51 (Go.Operand.tmp 181) (Go.Operand.const (Go.Value.int Go.IntKind.i64 0)), type := 0, pos := "ref.go:88", after := #[{ on := 1, ground := Go.Ground.data }], guard := none }) (v := ?vCX_3) rfl (by kernel_rfl) (by kernel_rfl) (by kernel_rfl) (fun _ _ _ h => h) (Or.inl ⟨by rfl, ?hCX_3⟩) hS ?rCX_3
                      case hCX_3 => (intro wz _; go_simp; try with_reducible rfl)
                      simp only [Act.put, List.setIfInBounds_toArray, List.set_cons_zero, List.set_cons_succ]
                      refine wpAnyH_take (i := 3) (oi := { dst := some 183, op := Go.Op.load 49 (Go.Operand.tmp 182), type := 49, pos := "ref.go:88", after := #[{ on := 2, ground := Go.Ground.data }], guard := none }) (v := ?vCX_4) rfl (by kernel_rfl) (by kernel_rfl) (by kernel_rfl) (fun _ _ _ h => h) (Or.inl ⟨by rfl, ?hCX_4⟩) hS ?rCX_4
                      case hCX_4 => (intro wz hz; have d := hz.cell cx0' id; go_simp; try with_reducible rfl)
                      simp only [Act.put, List.setIfInBounds_toArray, List.set_cons_zero, List.set_cons_succ]
                      refine wpAnyH_take (i := 4) (oi := { dst := some 184, op := Go.Op.move (Go.Operand.tmp 14), type := 51, pos := "ref.go:88", after := #[], guard := none }) (v := ?vCX_5) rfl (by kernel_rfl) (by kernel_rfl) (by kernel_rfl) (fun _ _ _ h => h) (Or.inl ⟨by rfl, ?hCX_5⟩) hS ?rCX_5
                      case hCX_5 => (intro wz _; go_simp; try with_reducible rfl)
                      simp only [Act.put, List.setIfInBounds_toArray, List.set_cons_zero, List.set_cons_succ]
                      refine wpAnyH_take (i := 5) (oi := { dst := some 185, op := Go.Op.indexAddr 51 (Go.Operand.tmp 184) (Go.Operand.const (Go.Value.int Go.IntKind.i64 1)), type := 0, pos := "ref.go:88", after := #[{ on := 4, ground := Go.Ground.data }], guard := none }) (v := ?vCX_6) rfl (by kernel_rfl) (by kernel_rfl) (by kernel_rfl) (fun _ _ _ h => h) (Or.inl ⟨by rfl, ?hCX_6⟩) hS ?rCX_6
                      case hCX_6 => (intro wz _; go_simp; try with_reducible rfl)
                      simp only [Act.put, List.setIfInBounds_toArray, List.set_cons_zero, List.set_cons_succ]
                      refine wpAnyH_take (i := 6) (oi := { dst := some 186, op := Go.Op.load 49 (Go.Operand.tmp 185), type := 49, pos := "ref.go:88", after := #[{ on := 5, ground := Go.Ground.data }], guard := none }) (v := ?vCX_7) rfl (by kernel_rfl) (by kernel_rfl) (by kernel_rfl) (fun _ _ _ h => h) (Or.inl ⟨by rfl, ?hCX_7⟩) hS ?rCX_7
                      case hCX_7 => (intro wz hz; have d := hz.cell cx1' id; go_simp; try with_reducible rfl)
                      simp only [Act.put, List.setIfInBounds_toArray, List.set_cons_zero, List.set_cons_succ]
                      refine wpAnyH_take (i := 8) (oi := { dst := some 188, op := Go.Op.move (Go.Operand.tmp 14), type := 51, pos := "ref.go:88", after := #[], guard := none }) (v := ?vCX_8) rfl (by kernel_rfl) (by kernel_rfl) (by kernel_rfl) (fun _ _ _ h => h) (Or.inl ⟨by rfl, ?hCX_8⟩) hS ?rCX_8
                      case hCX_8 => (intro wz _; go_simp; try with_reducible rfl)
                      simp only [Act.put, List.setIfInBounds_toArray, List.set_cons_zero, List.set_cons_succ]
                      refine wpAnyH_take (i := 9) (oi := { dst := some 189, op := Go.Op.indexAddr 51 (Go.Operand.tmp 188) (Go.Operand.const (Go.Value.int Go.IntKind.i64 2)), type := 0, pos := "ref.go:88", after := #[{ on := 8, ground := Go.Ground.data }], guard := none }) (v := ?vCX_9) rfl (by kernel_rfl) (by kernel_rfl) (by kernel_rfl) (fun _ _ _ h => h) (Or.inl ⟨by rfl, ?hCX_9⟩) hS ?rCX_9
                      case hCX_9 => (intro wz _; go_simp; try with_reducible rfl)
                      simp only [Act.put, List.setIfInBounds_toArray, List.set_cons_zero, List.set_cons_succ]
                      refine wpAnyH_take (i := 10) (oi := { dst := some 190, op := Go.Op.load 49 (Go.Operand.tmp 189), type := 49, pos := "ref.go:88", after := #[{ on := 9, ground := Go.Ground.data }], guard := none }) (v := ?vCX_10) rfl (by kernel_rfl) (by kernel_rfl) (by kernel_rfl) (fun _ _ _ h => h) (Or.inl ⟨by rfl, ?hCX_10⟩) hS ?rCX_10
                      case hCX_10 => (intro wz hz; have d := hz.cell cx2' id; go_simp; try with_reducible rfl)
                      simp only [Act.put, List.setIfInBounds_toArray, List.set_cons_zero, List.set_cons_succ]
                      refine wpAnyH_take (i := 11) (oi := { dst := some 191, op := Go.Op.move (Go.Operand.tmp 14), type := 51, pos := "ref.go:88", after := #[], guard := none }) (v := ?vCX_11) rfl (by kernel_rfl) (by kernel_rfl) (by kernel_rfl) (fun _ _ _ h => h) (Or.inl ⟨by rfl, ?hCX_11⟩) hS ?rCX_11
                      case hCX_11 => (intro wz _; go_simp; try with_reducible rfl)
                      simp only [Act.put, List.setIfInBounds_toArray, List.set_cons_zero, List.set_cons_succ]
                      refine wpAnyH_take (i := 12) (oi := { dst := some 192, op := Go.Op.indexAddr 51 (Go.Operand.tmp 191) (Go.Operand.const (Go.Value.int Go.IntKind.i64 3)), type := 0, pos := "ref.go:88", after := #[{ on := 11, ground := Go.Ground.data }], guard := none }) (v := ?vCX_12) rfl (by kernel_rfl) (by kernel_rfl) (by kernel_rfl) (fun _ _ _ h => h) (Or.inl ⟨by rfl, ?hCX_12⟩) hS ?rCX_12
                      case hCX_12 => (intro wz _; go_simp; try with_reducible rfl)
                      simp only [Act.put, List.setIfInBounds_toArray, List.set_cons_zero, List.set_cons_succ]
                      refine wpAnyH_take (i := 13) (oi := { dst := some 193, op := Go.Op.load 49 (Go.Operand.tmp 192), type := 49, pos := "ref.go:88", after := #[{ on := 12, ground := Go.Ground.data }], guard := none }) (v := ?vCX_13) rfl (by kernel_rfl) (by kernel_rfl) (by kernel_rfl) (fun _ _ _ h => h) (Or.inl ⟨by rfl, ?hCX_13⟩) hS ?rCX_13
                      case hCX_13 => (intro wz hz; have d := hz.cell cx3' id; go_simp; try with_reducible rfl)
                      simp only [Act.put, List.setIfInBounds_toArray, List.set_cons_zero, List.set_cons_succ]
                      refine held_one (k := 7) (o := { dst := some 187, op := Go.Op.call { callee := Go.Callee.value (Go.Operand.func 20), args := #[Go.Operand.tmp 186, Go.Operand.const (Go.Value.int Go.IntKind.i64 30)], argTypes := #[49, 3] }, type := 49, pos := "ref.go:88", after := #[{ on := 6, ground := Go.Ground.data }], guard := none }) (by kernel_rfl) rfl (fun K hK => ?_)
                      go_simp
                      have hq := turn_any w12.drew _ sb z7 30 (HX1.out.keeps (Keeps.refl _ _).drew) (by omega) (by omega) HZ7.out
                      refine hq.mono ?_
                      clear hq
                      rintro e w13 ⟨v13, rfl, hv13, hk13'⟩
                      have hk13 := hk13'.drew_of
                      obtain ⟨g13, c13, rfl, _⟩ := hv13.open_
                      refine hK _ _ (held_go ?_ (fun hS => ?_))
                      · exact hk13
                      clear hK K
                      try simp only [Act.put, List.setIfInBounds_toArray, List.set_cons_zero, List.set_cons_succ]
                      refine held_one (k := 14) (o := { dst := some 194, op := Go.Op.buildSlice 51 5 #[(0, Go.Operand.tmp 180), (1, Go.Operand.tmp 183), (2, Go.Operand.tmp 187), (3, Go.Operand.tmp 190), (4, Go.Operand.tmp 193)], type := 51, pos := "ref.go:88", after := #[{ on := 0, ground := Go.Ground.data }, { on := 3, ground := Go.Ground.data }, { on := 7, ground := Go.Ground.data }, { on := 10, ground := Go.Ground.data }, { on := 13, ground := Go.Ground.data }], guard := none }) (by kernel_rfl) rfl (fun K hK => ?_)
                      go_simp
                      refine hK _ _ (held_go ?_ (fun hS => ?_))
                      · exact hk13.trans ((Keeps.refl _ _).alloc _)
                      clear hK K
                      try simp only [Act.put, List.setIfInBounds_toArray, List.set_cons_zero, List.set_cons_succ]
                      refine wpAnyH_take (i := 15) (oi := { dst := some 14, op := Go.Op.assign (Go.Operand.tmp 194), type := 51, pos := "ref.go:88", after := #[{ on := 14, ground := Go.Ground.data }, { on := 7, ground := Go.Ground.chain }, { on := 0, ground := Go.Ground.phase }, { on := 1, ground := Go.Ground.phase }, { on := 2, ground := Go.Ground.phase }, { on := 3, ground := Go.Ground.phase }, { on := 4, ground := Go.Ground.phase }, { on := 5, ground := Go.Ground.phase }, { on := 6, ground := Go.Ground.phase }, { on := 7, ground := Go.Ground.phase }, { on := 8, ground := Go.Ground.phase }, { on := 9, ground := Go.Ground.phase }, { on := 10, ground := Go.Ground.phase }, { on := 11, ground := Go.Ground.phase }, { on := 12, ground := Go.Ground.phase }, { on := 13, ground := Go.Ground.phase }, { on := 14, ground := Go.Ground.phase }], guard := none }) (v := ?vCX_14) rfl (by kernel_rfl) (by kernel_rfl) (by kernel_rfl) (fun _ _ _ h => h) (Or.inl ⟨by rfl, ?hCX_14⟩) hS ?rCX_14
                      case hCX_14 => (intro wz _; go_simp; try with_reducible rfl)
                      simp only [Act.put, List.setIfInBounds_toArray, List.set_cons_zero, List.set_cons_succ]
                      refine wpAnyH_done (by kernel_rfl) ?_ _
                      have hB13 : B1 ≤ w13.heap.size := Nat.le_trans HE12.out.2.2.2.2.2.1 hk13.size
                      have hXN := words_new w13 B1 [.slice (some ⟨g12, 0, none⟩) 32 c12, .slice (some ⟨gx0, 0, none⟩) 32 dx0, .slice (some ⟨g13, 0, none⟩) 32 c13, .slice (some ⟨gx2, 0, none⟩) 32 dx2, .slice (some ⟨gx3, 0, none⟩) 32 dx3] (⟨z6, sa, z7, sc, sd⟩ : S5).list hB13 (by simp) rfl (by
                        intro j hj
                        match j, hj with
                        | 0, _ => exact ⟨_, rfl, HV12.out.keeps hk13⟩
                        | 1, _ => exact ⟨_, rfl, HX0.out.keeps hk13⟩
                        | 2, _ => exact ⟨_, rfl, hv13⟩
                        | 3, _ => exact ⟨_, rfl, HX2.out.keeps hk13⟩
                        | 4, _ => exact ⟨_, rfl, HX3.out.keeps hk13⟩
                        | j + 5, hj => exact absurd hj (by simp [S5.list]))
                      rw [HST.out] at hXN
                      have hkN := hk13.trans ((Keeps.refl (fun _ => False) w13).alloc (.cells #[.slice (some ⟨g12, 0, none⟩) 32 c12, .slice (some ⟨gx0, 0, none⟩) 32 dx0, .slice (some ⟨g13, 0, none⟩) 32 c13, .slice (some ⟨gx2, 0, none⟩) 32 dx2, .slice (some ⟨gx3, 0, none⟩) 32 dx3] 49 (0, 0)))
                      change WordsAt (w13.alloc (.cells #[.slice (some ⟨g12, 0, none⟩) 32 c12, .slice (some ⟨gx0, 0, none⟩) 32 dx0, .slice (some ⟨g13, 0, none⟩) 32 c13, .slice (some ⟨gx2, 0, none⟩) 32 dx2, .slice (some ⟨gx3, 0, none⟩) 32 dx3] 49 (0, 0))) B1 (.slice (some ⟨w13.heap.size, 0, none⟩) 5 5) _ at hXN
                      have HXN := Lib.hid hXN
                      have HWN := Lib.hid (HW12.out.keeps hkN)
                      have HEN := Lib.hid (HE12.out.still hkN)
                      clear hXN hkN hv13 hS HW12 HE12
                      go_wp2_with fail
                      first
                      | exact ⟨relR (t + 1) rfl (by omega) HXN HWN HEN, by simp [intOf]; omega⟩
                      | (go_roundw
                         case rel => first | exact relR (t + 1) rfl (by omega) HXN HWN HEN | ((repeat apply Exists.intro); exact ⟨relR (t + 1) rfl (by omega) HXN HWN HEN, by and_intros <;> first | rfl | assumption | simp | omega⟩)
                         case measure => simp [intOf]; omega)
                    · obtain rfl : t = 80 := by omega
                      obtain ⟨gx, cx, rfl, hcx, hgx1, _⟩ := hX.out.shape (n := 5) rfl
                      have hgxh : gx ≠ gh := by omega
                      obtain ⟨ss, hss⟩ : ∃ s, s = st (sched p) hS5 80 := ⟨_, rfl⟩
                      rw [← hss] at hX
                      have HXN := Lib.hid (show WordsAt wr 0 (.slice (some ⟨gx, 0, none⟩) 5 cx) ss.list from hX.out.base (Nat.zero_le _))
                      have HEN := Lib.hid (show Env w wr B1 (.slice (some ⟨gb, 0, none⟩) N cb) (.slice (some ⟨gh, 0, none⟩) 5 5) (.slice (some ⟨gk, 0, none⟩) 4 4) P (plusK 0 hS5 ss).list from hE.out)
                      have HCP := Lib.hid (show plusK 5 hS5 ss = stB P (j + 1) by
                        rw [plusK_all, hss]
                        show _ = comp (stB P j) (blk P j)
                        rw [← HS5.out, ← HPB.out]
                        rfl)
                      clear hX hE hW hss hgx1
                      go_wp2_with fail
                      go_loopw [17] (fun i wr => RelH w wr B1 (.slice (some ⟨gb, 0, none⟩) N cb) (.slice (some ⟨gh, 0, none⟩) 5 5) (.slice (some ⟨gk, 0, none⟩) 4 4) (.slice (some ⟨gx, 0, none⟩) 5 cx) P hS5 ss i) (fun i _ => 5 - (intOf i).toNat)
                      case atStart => exact relH 0 rfl (by omega) HXN HEN
                      case round =>
                        clear HXN HEN
                        obtain ⟨k, rfl, hk, hX, hE⟩ := hrel
                        by_cases hlt5 : k < 5
                        · obtain ⟨uh, chh, hh⟩ := hE.out.2.1.cell k (show k < 5 from hlt5)
                          obtain ⟨ux, cxx, hx⟩ := hX.out.cell k (show k < 5 from hlt5)
                          have fz := hE.out.2.1.free k (show k < 5 from hlt5)
                          obtain ⟨xa, hxa⟩ : ∃ x, x = (plusK k hS5 ss).list.getD k 0 := ⟨_, rfl⟩
                          obtain ⟨xb, hxb⟩ : ∃ x, x = ss.list.getD k 0 := ⟨_, rfl⟩
                          rw [← hxa] at hh
                          rw [← hxb] at hx
                          obtain ⟨z, hz⟩ : ∃ z, z = xa + xb := ⟨_, rfl⟩
                          have HZ := Lib.hid hz
                          have HXA := Lib.hid hxa
                          have HXB := Lib.hid hxb
                          have i6 : (k : Int) < 5 := by omega
                          have hghw : gh < wr.heap.size := World.block_lt_of_cell? wr _ chh
                          clear hz hxa hxb
                          go_wp2_with fail
                          refine wp_region_any (by kernel_rfl) ?_
                          change wpAny _ _ _ _ _ _ _ (World.drew _)
                          refine wpAny_take (i := 0) (oi := { dst := some 199, op := Go.Op.move (Go.Operand.tmp 8), type := 51, pos := "ref.go:91", after := #[], guard := none }) (v := ?vCY_1) rfl (by kernel_rfl) (by kernel_rfl) (by kernel_rfl) (fun _ _ _ h => h) (Or.inl ⟨by rfl, ?hCY_1⟩) ?rCY_1
                          case hCY_1 => (intro wz; go_simp; try with_reducible rfl)
                          simp only [Act.put, List.setIfInBounds_toArray, List.set_cons_zero, List.set_cons_succ]
                          refine wpAny_take (i := 1) (oi := { dst := some 200, op := Go.Op.move (Go.Operand.tmp 17), type := 3, pos := "ref.go:91", after := #[], guard := none }) (v := ?vCY_2) rfl (by kernel_rfl) (by kernel_rfl) (by kernel_rfl) (fun _ _ _ h => h) (Or.inl ⟨by rfl, ?hCY_2⟩) ?rCY_2
                          case hCY_2 => (intro wz; go_simp; try with_reducible rfl)
                          simp only [Act.put, List.setIfInBounds_toArray, List.set_cons_zero, List.set_cons_succ]
                          refine wpAny_take (i := 2) (oi := { dst := some 201, op := Go.Op.move (Go.Operand.tmp 8), type := 51, pos := "ref.go:91", after := #[], guard := none }) (v := ?vCY_3) rfl (by kernel_rfl) (by kernel_rfl) (by kernel_rfl) (fun _ _ _ h => h) (Or.inl ⟨by rfl, ?hCY_3⟩) ?rCY_3
                          case hCY_3 => (intro wz; go_simp; try with_reducible rfl)
                          simp only [Act.put, List.setIfInBounds_toArray, List.set_cons_zero, List.set_cons_succ]
                          refine wpAny_take (i := 3) (oi := { dst := some 202, op := Go.Op.move (Go.Operand.tmp 17), type := 3, pos := "ref.go:91", after := #[], guard := none }) (v := ?vCY_4) rfl (by kernel_rfl) (by kernel_rfl) (by kernel_rfl) (fun _ _ _ h => h) (Or.inl ⟨by rfl, ?hCY_4⟩) ?rCY_4
                          case hCY_4 => (intro wz; go_simp; try with_reducible rfl)
                          simp only [Act.put, List.setIfInBounds_toArray, List.set_cons_zero, List.set_cons_succ]
                          refine wpAny_take (i := 4) (oi := { dst := some 203, op := Go.Op.indexAddr 51 (Go.Operand.tmp 201) (Go.Operand.tmp 202), type := 0, pos := "ref.go:91", after := #[{ on := 2, ground := Go.Ground.data }, { on := 3, ground := Go.Ground.data }], guard := none }) (v := ?vCY_5) rfl (by kernel_rfl) (by kernel_rfl) (by kernel_rfl) (fun _ _ _ h => h) (Or.inl ⟨by rfl, ?hCY_5⟩) ?rCY_5
                          case hCY_5 => (intro wz; go_simp; try with_reducible rfl)
                          simp only [Act.put, List.setIfInBounds_toArray, List.set_cons_zero, List.set_cons_succ]
                          refine wpAny_take (i := 6) (oi := { dst := some 205, op := Go.Op.move (Go.Operand.tmp 14), type := 51, pos := "ref.go:91", after := #[], guard := none }) (v := ?vCY_6) rfl (by kernel_rfl) (by kernel_rfl) (by kernel_rfl) (fun _ _ _ h => h) (Or.inl ⟨by rfl, ?hCY_6⟩) ?rCY_6
                          case hCY_6 => (intro wz; go_simp; try with_reducible rfl)
                          simp only [Act.put, List.setIfInBounds_toArray, List.set_cons_zero, List.set_cons_succ]
                          refine wpAny_take (i := 7) (oi := { dst := some 206, op := Go.Op.move (Go.Operand.tmp 17), type := 3, pos := "ref.go:91", after := #[], guard := none }) (v := ?vCY_7) rfl (by kernel_rfl) (by kernel_rfl) (by kernel_rfl) (fun _ _ _ h => h) (Or.inl ⟨by rfl, ?hCY_7⟩) ?rCY_7
                          case hCY_7 => (intro wz; go_simp; try with_reducible rfl)
                          simp only [Act.put, List.setIfInBounds_toArray, List.set_cons_zero, List.set_cons_succ]
                          refine wpAny_take (i := 8) (oi := { dst := some 207, op := Go.Op.indexAddr 51 (Go.Operand.tmp 205) (Go.Operand.tmp 206), type := 0, pos := "ref.go:91", after := #[{ on := 6, ground := Go.Ground.data }, { on := 7, ground := Go.Ground.data }], guard := none }) (v := ?vCY_8) rfl (by kernel_rfl) (by kernel_rfl) (by kernel_rfl) (fun _ _ _ h => h) (Or.inl ⟨by rfl, ?hCY_8⟩) ?rCY_8
                          case hCY_8 => (intro wz; go_simp; try with_reducible rfl)
                          simp only [Act.put, List.setIfInBounds_toArray, List.set_cons_zero, List.set_cons_succ]
                          refine wpAny_ready (rs := [5, 9]) (by kernel_rfl) (by simp) ?_
                          refine AllReady.cons (o := { dst := some 204, op := Go.Op.load 49 (Go.Operand.tmp 203), type := 49, pos := "ref.go:91", after := #[{ on := 4, ground := Go.Ground.data }], guard := none }) rfl (fun K hK => ?_) (AllReady.cons (o := { dst := some 208, op := Go.Op.load 49 (Go.Operand.tmp 207), type := 49, pos := "ref.go:91", after := #[{ on := 8, ground := Go.Ground.data }], guard := none }) rfl (fun K hK => ?_) (AllReady.nil))
                          · skip
                            go_simp
                            refine hK _ _ ?_
                            clear hK K
                            try simp only [Act.put, List.setIfInBounds_toArray, List.set_cons_zero, List.set_cons_succ]
                            refine wpAny_ready (rs := [9]) (by kernel_rfl) (by simp) ?_
                            refine AllReady.cons (o := { dst := some 208, op := Go.Op.load 49 (Go.Operand.tmp 207), type := 49, pos := "ref.go:91", after := #[{ on := 8, ground := Go.Ground.data }], guard := none }) rfl (fun K hK => ?_) AllReady.nil
                            go_simp
                            refine hK _ _ ?_
                            clear hK K
                            try simp only [Act.put, List.setIfInBounds_toArray, List.set_cons_zero, List.set_cons_succ]
                            refine wpAny_ready (rs := [10]) (by kernel_rfl) (by simp) ?_
                            refine AllReady.cons (o := { dst := some 209, op := Go.Op.call { callee := Go.Callee.value (Go.Operand.func 22), args := #[Go.Operand.tmp 204, Go.Operand.tmp 208], argTypes := #[49, 49] }, type := 49, pos := "ref.go:91", after := #[{ on := 5, ground := Go.Ground.data }, { on := 9, ground := Go.Ground.data }], guard := none }) rfl (fun K hK => ?_) AllReady.nil
                            go_simp
                            have hq := plus_any wr.drew uh ux xa xb z (hh.keeps (Keeps.refl _ _).drew) (hx.keeps (Keeps.refl _ _).drew) HZ.out
                            refine hq.mono ?_
                            clear hq
                            rintro e w7 ⟨v7, rfl, hv7, hk7'⟩
                            have hk7 := hk7'.drew_of
                            have ch7 := hk7.cell chh id
                            have fz7 : w7.frozen? ⟨gh, k, none⟩ = false := (World.frozen?_of_block (w := wr) (hk7.block gh hghw id)).trans fz
                            obtain ⟨g7, c7, rfl, _⟩ := hv7.open_
                            refine hK _ _ ?_
                            clear hK K
                            try simp only [Act.put, List.setIfInBounds_toArray, List.set_cons_zero, List.set_cons_succ]
                            refine wpAny_take (i := 11) (oi := { dst := some 210, op := Go.Op.indexAddr 51 (Go.Operand.tmp 199) (Go.Operand.tmp 200), type := 0, pos := "ref.go:91", after := #[{ on := 0, ground := Go.Ground.data }, { on := 1, ground := Go.Ground.data }, { on := 0, ground := Go.Ground.phase }, { on := 1, ground := Go.Ground.phase }, { on := 2, ground := Go.Ground.phase }, { on := 3, ground := Go.Ground.phase }, { on := 4, ground := Go.Ground.phase }, { on := 5, ground := Go.Ground.phase }, { on := 6, ground := Go.Ground.phase }, { on := 7, ground := Go.Ground.phase }, { on := 8, ground := Go.Ground.phase }, { on := 9, ground := Go.Ground.phase }, { on := 10, ground := Go.Ground.phase }], guard := none }) (v := ?vCY_9) rfl (by kernel_rfl) (by kernel_rfl) (by kernel_rfl) (fun _ _ _ h => h) (Or.inl ⟨by rfl, ?hCY_9⟩) ?rCY_9
                            case hCY_9 => (intro wz; go_simp; try with_reducible rfl)
                            simp only [Act.put, List.setIfInBounds_toArray, List.set_cons_zero, List.set_cons_succ]
                            refine wpAny_ready (rs := [12]) (by kernel_rfl) (by simp) ?_
                            refine AllReady.cons (o := { dst := none, op := Go.Op.store 49 (Go.Operand.tmp 210) (Go.Operand.tmp 209), type := 0, pos := "ref.go:91", after := #[{ on := 11, ground := Go.Ground.data }, { on := 10, ground := Go.Ground.data }, { on := 10, ground := Go.Ground.chain }, { on := 0, ground := Go.Ground.phase }, { on := 1, ground := Go.Ground.phase }, { on := 2, ground := Go.Ground.phase }, { on := 3, ground := Go.Ground.phase }, { on := 4, ground := Go.Ground.phase }, { on := 5, ground := Go.Ground.phase }, { on := 6, ground := Go.Ground.phase }, { on := 7, ground := Go.Ground.phase }, { on := 8, ground := Go.Ground.phase }, { on := 9, ground := Go.Ground.phase }, { on := 10, ground := Go.Ground.phase }], guard := none }) rfl (fun K hK => ?_) AllReady.nil
                            go_simp
                            refine hK _ _ ?_
                            clear hK K
                            try simp only [Act.put, List.setIfInBounds_toArray, List.set_cons_zero, List.set_cons_succ]
                            refine wpAny_done (by kernel_rfl) ?_ _
                            have hkS : Keeps (fun q => q = gh) w7 (w7.setCell ⟨gh, k, none⟩ (.slice (some ⟨g7, 0, none⟩) 32 c7)) := (Keeps.refl (fun q => q = gh) w7).setCell (p := ⟨gh, k, none⟩) rfl _
                            have hE7 := hE.out.still hk7
                            have hW8 := hE7.2.1.set k (show k < 5 from hlt5) _ z hv7
                            rw [HZ.out, HXA.out, HXB.out, ← plusK_next hS5 ss k hlt5] at hW8
                            have h49 : ∀ q, q = gh → ∃ c fr, w7.heap[q]? = some (.cells c 49 fr) := fun q hq => by subst hq; obtain ⟨xs, r1, _⟩ := hE7.2.1; exact r1.is49 _ rfl
                            have HX8 := Lib.hid ((hX.out.keeps hk7).keeps49 hkS h49 (fun g hg hq => by cases hg; exact hgxh hq))
                            have HE8 := Lib.hid (hE7.setH hkS hW8)
                            clear hkS hE7 hW8 h49 hv7 hX hE hh hx ch7 fz7 fz chh cxx
                            go_wp2_with fail
                            first
                            | exact ⟨relH (k + 1) rfl (by omega) HX8 HE8, by simp [intOf]; omega⟩
                            | (go_roundw
                               case rel => first | exact relH (k + 1) rfl (by omega) HX8 HE8 | ((repeat apply Exists.intro); exact ⟨relH (k + 1) rfl (by omega) HX8 HE8, by and_intros <;> first | rfl | assumption | simp | omega⟩)
                               case measure => simp [intOf]; omega)
                          · skip
                            go_simp
                            refine hK _ _ ?_
                            clear hK K
                            try simp only [Act.put, List.setIfInBounds_toArray, List.set_cons_zero, List.set_cons_succ]
                            refine wpAny_ready (rs := [5]) (by kernel_rfl) (by simp) ?_
                            refine AllReady.cons (o := { dst := some 204, op := Go.Op.load 49 (Go.Operand.tmp 203), type := 49, pos := "ref.go:91", after := #[{ on := 4, ground := Go.Ground.data }], guard := none }) rfl (fun K hK => ?_) AllReady.nil
                            go_simp
                            refine hK _ _ ?_
                            clear hK K
                            try simp only [Act.put, List.setIfInBounds_toArray, List.set_cons_zero, List.set_cons_succ]
                            refine wpAny_ready (rs := [10]) (by kernel_rfl) (by simp) ?_
                            refine AllReady.cons (o := { dst := some 209, op := Go.Op.call { callee := Go.Callee.value (Go.Operand.func 22), args := #[Go.Operand.tmp 204, Go.Operand.tmp 208], argTypes := #[49, 49] }, type := 49, pos := "ref.go:91", after := #[{ on := 5, ground := Go.Ground.data }, { on := 9, ground := Go.Ground.data }], guard := none }) rfl (fun K hK => ?_) AllReady.nil
                            go_simp
                            have hq := plus_any wr.drew uh ux xa xb z (hh.keeps (Keeps.refl _ _).drew) (hx.keeps (Keeps.refl _ _).drew) HZ.out
                            refine hq.mono ?_
                            clear hq
                            rintro e w7 ⟨v7, rfl, hv7, hk7'⟩
                            have hk7 := hk7'.drew_of
                            have ch7 := hk7.cell chh id
                            have fz7 : w7.frozen? ⟨gh, k, none⟩ = false := (World.frozen?_of_block (w := wr) (hk7.block gh hghw id)).trans fz
                            obtain ⟨g7, c7, rfl, _⟩ := hv7.open_
                            refine hK _ _ ?_
                            clear hK K
                            try simp only [Act.put, List.setIfInBounds_toArray, List.set_cons_zero, List.set_cons_succ]
                            refine wpAny_take (i := 11) (oi := { dst := some 210, op := Go.Op.indexAddr 51 (Go.Operand.tmp 199) (Go.Operand.tmp 200), type := 0, pos := "ref.go:91", after := #[{ on := 0, ground := Go.Ground.data }, { on := 1, ground := Go.Ground.data }, { on := 0, ground := Go.Ground.phase }, { on := 1, ground := Go.Ground.phase }, { on := 2, ground := Go.Ground.phase }, { on := 3, ground := Go.Ground.phase }, { on := 4, ground := Go.Ground.phase }, { on := 5, ground := Go.Ground.phase }, { on := 6, ground := Go.Ground.phase }, { on := 7, ground := Go.Ground.phase }, { on := 8, ground := Go.Ground.phase }, { on := 9, ground := Go.Ground.phase }, { on := 10, ground := Go.Ground.phase }], guard := none }) (v := ?vCY_10) rfl (by kernel_rfl) (by kernel_rfl) (by kernel_rfl) (fun _ _ _ h => h) (Or.inl ⟨by rfl, ?hCY_10⟩) ?rCY_10
                            case hCY_10 => (intro wz; go_simp; try with_reducible rfl)
                            simp only [Act.put, List.setIfInBounds_toArray, List.set_cons_zero, List.set_cons_succ]
                            refine wpAny_ready (rs := [12]) (by kernel_rfl) (by simp) ?_
                            refine AllReady.cons (o := { dst := none, op := Go.Op.store 49 (Go.Operand.tmp 210) (Go.Operand.tmp 209), type := 0, pos := "ref.go:91", after := #[{ on := 11, ground := Go.Ground.data }, { on := 10, ground := Go.Ground.data }, { on := 10, ground := Go.Ground.chain }, { on := 0, ground := Go.Ground.phase }, { on := 1, ground := Go.Ground.phase }, { on := 2, ground := Go.Ground.phase }, { on := 3, ground := Go.Ground.phase }, { on := 4, ground := Go.Ground.phase }, { on := 5, ground := Go.Ground.phase }, { on := 6, ground := Go.Ground.phase }, { on := 7, ground := Go.Ground.phase }, { on := 8, ground := Go.Ground.phase }, { on := 9, ground := Go.Ground.phase }, { on := 10, ground := Go.Ground.phase }], guard := none }) rfl (fun K hK => ?_) AllReady.nil
                            go_simp
                            refine hK _ _ ?_
                            clear hK K
                            try simp only [Act.put, List.setIfInBounds_toArray, List.set_cons_zero, List.set_cons_succ]
                            refine wpAny_done (by kernel_rfl) ?_ _
                            have hkS : Keeps (fun q => q = gh) w7 (w7.setCell ⟨gh, k, none⟩ (.slice (some ⟨g7, 0, none⟩) 32 c7)) := (Keeps.refl (fun q => q = gh) w7).setCell (p := ⟨gh, k, none⟩) rfl _
                            have hE7 := hE.out.still hk7
                            have hW8 := hE7.2.1.set k (show k < 5 from hlt5) _ z hv7
                            rw [HZ.out, HXA.out, HXB.out, ← plusK_next hS5 ss k hlt5] at hW8
                            have h49 : ∀ q, q = gh → ∃ c fr, w7.heap[q]? = some (.cells c 49 fr) := fun q hq => by subst hq; obtain ⟨xs, r1, _⟩ := hE7.2.1; exact r1.is49 _ rfl
                            have HX8 := Lib.hid ((hX.out.keeps hk7).keeps49 hkS h49 (fun g hg hq => by cases hg; exact hgxh hq))
                            have HE8 := Lib.hid (hE7.setH hkS hW8)
                            clear hkS hE7 hW8 h49 hv7 hX hE hh hx ch7 fz7 fz chh cxx
                            go_wp2_with fail
                            first
                            | exact ⟨relH (k + 1) rfl (by omega) HX8 HE8, by simp [intOf]; omega⟩
                            | (go_roundw
                               case rel => first | exact relH (k + 1) rfl (by omega) HX8 HE8 | ((repeat apply Exists.intro); exact ⟨relH (k + 1) rfl (by omega) HX8 HE8, by and_intros <;> first | rfl | assumption | simp | omega⟩)
                               case measure => simp [intOf]; omega)
                        · obtain rfl : k = 5 := by omega
                          have HEF := Lib.hid (show Env w wr B0 (.slice (some ⟨gb, 0, none⟩) N cb) (.slice (some ⟨gh, 0, none⟩) 5 5) (.slice (some ⟨gk, 0, none⟩) 4 4) P (stB P (j + 1)).list by rw [← HCP.out]; exact hE.out.back hb0 hB01 hgbB hghB hgkB)
                          clear hX hE
                          have eA : (A : Int) + 64 = ((64 * (j + 1) : Nat) : Int) := by have := HA.out; omega
                          have hA64 : A = 64 * j := HA.out
                          have HA64 := Lib.hid hA64
                          clear hA64
                          go_wp2_with fail
                          refine ⟨relC (j + 1) (congrArg (Value.int .i64) (by omega)) (by omega) HEF, ?_⟩
                          have h64 := HA64.out
                          have iN : A < N := by omega
                          clear HEF
                          simp [intOf]
                          omega
            · obtain rfl : j = J := by omega
              obtain ⟨z5, hz5⟩ : ∃ z, z = stB P j := ⟨_, rfl⟩
              rw [← hz5] at hE
              have HZ5 := Lib.hid hz5
              have hJA : A = N := by rw [hA, HJ.out]
              have HO := Lib.hid (show (⟨#[]⟩ : ByteArray).data.toList = outB z5 (4 * 0) from rfl)
              clear hz5 hA
              subst hJA
              go_wp2_with fail
              go_loopw [18, 19] (fun o i wr => RelD w wr B0 (.slice (some ⟨gb, 0, none⟩) A cb) (.slice (some ⟨gh, 0, none⟩) 5 5) (.slice (some ⟨gk, 0, none⟩) 4 4) P z5 o i) (fun _ i _ => 5 - (intOf i).toNat)
              case atStart => exact relD 0 ⟨#[]⟩ rfl (by omega) rfl HO hE
              case round =>
                clear HO hE
                obtain ⟨k, o, rfl, hk, rfl, ho, hE⟩ := hrel
                by_cases hlt5 : k < 5
                · obtain ⟨uh, chh, hh⟩ := hE.out.2.1.cell k (show k < 5 from hlt5)
                  obtain ⟨x, hx⟩ : ∃ x, x = z5.list.getD k 0 := ⟨_, rfl⟩
                  rw [← hx] at hh
                  have i6 : (k : Int) < 5 := by omega
                  have HX := Lib.hid hx
                  have HH := Lib.hid hh
                  clear hx hh
                  go_wp2_with fail
                  have hq := number_any wr uh x HH.out
                  refine hq.mono ?_
                  clear hq
                  rintro e w7 ⟨rfl, rfl⟩
                  obtain ⟨nn, hnn⟩ : ∃ n, n = x.toNat := ⟨_, rfl⟩
                  rw [← hnn]
                  have hlt32 : nn < 4294967296 := by rw [hnn]; exact w_lt x
                  obtain ⟨a0, ha0⟩ : ∃ a, a = nn / 16777216 := ⟨_, rfl⟩
                  obtain ⟨m1, hm1⟩ : ∃ a, a = nn / 65536 := ⟨_, rfl⟩
                  obtain ⟨a1, ha1⟩ : ∃ a, a = m1 % 256 := ⟨_, rfl⟩
                  obtain ⟨m2, hm2⟩ : ∃ a, a = nn / 256 := ⟨_, rfl⟩
                  obtain ⟨a2, ha2⟩ : ∃ a, a = m2 % 256 := ⟨_, rfl⟩
                  obtain ⟨a3, ha3⟩ : ∃ a, a = nn % 256 := ⟨_, rfl⟩
                  have l0 : a0 < 256 := by omega
                  have l1 : a1 < 256 := by omega
                  have l2 : a2 < 256 := by omega
                  have l3 : a3 < 256 := by omega
                  have d0 : (nn : Int) / 16777216 = (a0 : Int) := by omega
                  have d1 : (nn : Int) / 65536 = (m1 : Int) := by omega
                  have d2 : (m1 : Int) % 256 = (a1 : Int) := by omega
                  have d3 : (nn : Int) / 256 = (m2 : Int) := by omega
                  have d4 : (m2 : Int) % 256 = (a2 : Int) := by omega
                  have d5 : (nn : Int) % 256 = (a3 : Int) := by omega
                  have c0 : (a0 : Int) % 256 = (a0 : Int) := by omega
                  have c1' : (a1 : Int) % 256 = (a1 : Int) := by omega
                  have c2 : (a2 : Int) % 256 = (a2 : Int) := by omega
                  have c3 : (a3 : Int) % 256 = (a3 : Int) := by omega
                  have t0 : (nn : Int).tdiv 16777216 = (a0 : Int) := by rw [Int.tdiv_eq_ediv_of_nonneg (by omega)]; exact d0
                  have t1 : (nn : Int).tdiv 65536 = (m1 : Int) := by rw [Int.tdiv_eq_ediv_of_nonneg (by omega)]; exact d1
                  have t2 : (m1 : Int).tmod 256 = (a1 : Int) := by rw [Int.tmod_eq_emod_of_nonneg (by omega)]; exact d2
                  have t3 : (nn : Int).tdiv 256 = (m2 : Int) := by rw [Int.tdiv_eq_ediv_of_nonneg (by omega)]; exact d3
                  have t4 : (m2 : Int).tmod 256 = (a2 : Int) := by rw [Int.tmod_eq_emod_of_nonneg (by omega)]; exact d4
                  have t5 : (nn : Int).tmod 256 = (a3 : Int) := by rw [Int.tmod_eq_emod_of_nonneg (by omega)]; exact d5
                  have w0 : IntKind.u8.wrap (a0 : Int) = (a0 : Int) := IntWalk.u8_in _ (by omega)
                  have w1' : IntKind.u8.wrap (a1 : Int) = (a1 : Int) := IntWalk.u8_in _ (by omega)
                  have w2' : IntKind.u8.wrap (a2 : Int) = (a2 : Int) := IntWalk.u8_in _ (by omega)
                  have w3' : IntKind.u8.wrap (a3 : Int) = (a3 : Int) := IntWalk.u8_in _ (by omega)
                  obtain ⟨q4, hq4⟩ : ∃ q : ByteArray, q = ⟨#[UInt8.ofNat (x.toNat / 2 ^ 24), UInt8.ofNat (x.toNat / 2 ^ 16), UInt8.ofNat (x.toNat / 2 ^ 8), UInt8.ofNat x.toNat]⟩ := ⟨_, rfl⟩
                  have hq4d : q4.data.toList = [UInt8.ofNat (x.toNat / 2 ^ 24), UInt8.ofNat (x.toNat / 2 ^ 16), UInt8.ofNat (x.toNat / 2 ^ 8), UInt8.ofNat x.toNat] := by rw [hq4]
                  have hcc : (#[.int .u8 (a0 : Int), .int .u8 (a1 : Int), .int .u8 (a2 : Int), .int .u8 (a3 : Int)] : Array Value).toList = bts [UInt8.ofNat (x.toNat / 2 ^ 24), UInt8.ofNat (x.toNat / 2 ^ 16), UInt8.ofNat (x.toNat / 2 ^ 8), UInt8.ofNat x.toNat] := by
                    simp only [bts, List.map_cons, List.map_nil, UInt8.toNat_ofNat', ← hnn]
                    rw [show nn / 2 ^ 24 % 2 ^ 8 = a0 by omega, show nn / 2 ^ 16 % 2 ^ 8 = a1 by omega, show nn / 2 ^ 8 % 2 ^ 8 = a2 by omega, show nn % 2 ^ 8 = a3 by omega]
                  have cv := run_string_as (P := Tryd.prog) (cap := 4) Tryd.underlying25 Tryd.underlying5 Tryd.underlying9 q4 (slice_new w7 #[.int .u8 (a0 : Int), .int .u8 (a1 : Int), .int .u8 (a2 : Int), .int .u8 (a3 : Int)] 5 (0, 0) _ 4 rfl hcc) hq4d
                  obtain ⟨o', ho'⟩ : ∃ o' : ByteArray, o' = o ++ q4 := ⟨_, rfl⟩
                  have hos : o.size ≤ 20 := by rw [← len_data, ho.out, length_outB]; omega
                  have hq4s : q4.size = 4 := by rw [← len_data, hq4d]; rfl
                  have hadd : ∀ w', (Op.stringOp .add o q4).run Tryd.prog w' = .ok (.string o') w' := fun w' => by rw [run_string_add_sum w' _ _ (by omega), ho']
                  have HO2 := Lib.hid (show o'.data.toList = outB z5 (4 * (k + 1)) by rw [ho', data_append, ho.out, hq4d, out_four z5 k x HX.out])
                  have HE2 := Lib.hid (hE.out.still ((Keeps.refl (fun _ => False) w7).alloc (.cells #[.int .u8 (a0 : Int), .int .u8 (a1 : Int), .int .u8 (a2 : Int), .int .u8 (a3 : Int)] 5 (0, 0))))
                  clear ha0 hm1 ha1 hm2 ha2 ha3 hnn hq4 hq4d hcc ho' hE ho hq4s
                  go_wp2_with fail
                  first
                  | exact ⟨relD (k + 1) o' rfl (by omega) rfl HO2 HE2, by simp [intOf]; omega⟩
                  | (go_roundw
                     case rel => first | exact relD (k + 1) o' rfl (by omega) rfl HO2 HE2 | ((repeat apply Exists.intro); exact ⟨relD (k + 1) o' rfl (by omega) rfl HO2 HE2, by and_intros <;> first | rfl | assumption | simp | omega⟩)
                     case measure => simp [intOf]; omega)
                · obtain rfl : k = 5 := by omega
                  have hoq : o = q := data_ext (by
                    rw [ho.out, HQ.out, sum_blocks, ← HPM.out, HPL.out, HJ.out, show 64 * j / 64 = j by omega, ← HZ5.out]
                    rfl)
                  have HF := Lib.hid hE.out.2.2.2.1
                  have HOQ := Lib.hid hoq
                  clear hoq hE ho
                  go_wp2_with fail
                  go_ret
                  exact ⟨by rw [← HOQ.out]; rfl, HF.out⟩
    · have hzf : z < far (L.length + 1) := by unfold far at hz hfar64 ⊢; omega
      have hne : ¬ (a : Int) = 56 := by omega
      have hl1 : (bts ((L ++ [128]) ++ List.replicate z 0)).length ≤ 1000 := by rw [length_bts]; simp; omega
      have hbase := hst.out.size
      have hn500 : n ≤ 500 := by omega
      have HN := Lib.hid hn
      have HA := Lib.hid ha
      clear hn ha
      go_wp2_with (with_reducible refine wpList_push2 (o := ⟨some 32, _, _, _, _, _⟩) rfl 5 25 1 (.int .u8 0) Tryd.underlying25 info5b rfl (by omega) rfl (.tmp 30) (.tmp 31) rfl w.heap.size (.slice (some ⟨g, 0, none⟩) n cap) _ rfl hrow 1 rfl hl1 hbase ?_; intro v3 w3 hr3 hk3)
      have HR3 := Lib.hid (show Row w3 w.heap.size 5 v3 (bts ((L ++ [128]) ++ List.replicate (z + 1) 0)) by rw [List.replicate_succ', ← List.append_assoc, bts_append (_ ++ _)]; exact hr3.out)
      have HK3 := Lib.hid (hst.out.on (T := fun _ => False) hk3.out (fun i hi e => by have := (hrow.out.ge i e).1; omega))
      obtain ⟨g3, cap3, rfl, hcap3⟩ := HR3.out.shape (n := n + 1) (by rw [length_bts]; simp; have := HN.out; omega)
      clear hr3 hk3 hrow hst
      go_wp2_with fail
      first
      | exact ⟨relZ (z + 1) (by omega) HR3 HK3, by simp; omega⟩
      | (go_roundw
         case rel => exact relZ (z + 1) (by omega) HR3 HK3
         case measure => simp; omega)
end Go.Proofs.YtogojfmaiphiaaaDoor
