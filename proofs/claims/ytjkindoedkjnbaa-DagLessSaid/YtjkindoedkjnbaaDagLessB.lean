/- An edge taken out in place: what stands there then. -/
import Derived.Test.YtjkindoedkjnbaaDagLessA
import Derived.Laws.IdiomCopy
set_option linter.unusedVariables false
set_option linter.unusedSimpArgs false
namespace Go.Proofs.Ytjkindoedkjnbaa
open Go.RowKit Go.Sort
open Go.Proofs.YtjkindoedkjnbaaW.PrintWords
open DagPlain

def edgeCells : List (Int × Int) → List Value
  | [] => []
  | e :: r => .int .i64 e.1 :: .int .i64 e.2 :: edgeCells r
theorem edgeCells_len : ∀ (es : List (Int × Int)), (edgeCells es).length = es.length * 2
  | [] => rfl
  | e :: r => by show (edgeCells r).length + 1 + 1 = (r.length + 1) * 2; rw [edgeCells_len r]; omega
theorem edgeCells_at : ∀ (es : List (Int × Int)) (i : Nat), i < es.length → (edgeCells es)[i * 2]? = some (.int .i64 (es.getD i (0, 0)).1) ∧ (edgeCells es)[i * 2 + 1]? = some (.int .i64 (es.getD i (0, 0)).2)
  | [], i, h => absurd h (by simp)
  | e :: r, 0, _ => ⟨rfl, rfl⟩
  | e :: r, i + 1, h => by
    have := edgeCells_at r i (by simpa using h)
    rw [show (i + 1) * 2 = i * 2 + 1 + 1 by omega]
    exact this
theorem edgeCells_one : ∀ (es : List (Int × Int)), ∀ u ∈ edgeCells es, u.oneCell' = true
  | e :: r, u, h => by
    rcases List.mem_cons.1 h with rfl | h
    · rfl
    · rcases List.mem_cons.1 h with rfl | h
      · rfl
      · exact edgeCells_one r u h
theorem edgeCells_get {es : List (Int × Int)} {j : Nat} {u : Value} (h : (edgeCells es)[j]? = some u) : ∃ i, i < es.length ∧ ((j = i * 2 ∧ u = .int .i64 (es.getD i (0, 0)).1) ∨ (j = i * 2 + 1 ∧ u = .int .i64 (es.getD i (0, 0)).2)) := by
  have hj := (List.getElem?_eq_some_iff.1 h).1
  rw [edgeCells_len] at hj
  obtain ⟨h1, h2⟩ := edgeCells_at es (j / 2) (by omega)
  refine ⟨j / 2, by omega, ?_⟩
  rcases Nat.mod_two_eq_zero_or_one j with e | e
  · left
    rw [show j / 2 * 2 = j by omega, h] at h1
    exact ⟨by omega, Option.some.inj h1⟩
  · right
    rw [show j / 2 * 2 + 1 = j by omega, h] at h2
    exact ⟨by omega, Option.some.inj h2⟩
/-- The edges' cells, by the block's own places. -/
theorem EdR.cellAt {w : World} {g : Nat} {es : List (Int × Int)} (h : EdR w (some ⟨g, 0, none⟩) es) (i : Nat) (hi : i < es.length) : w.cell? ⟨g, i * 2, none⟩ = some (.int .i64 (es.getD i (0, 0)).1) ∧ w.cell? ⟨g, i * 2 + 1, none⟩ = some (.int .i64 (es.getD i (0, 0)).2) := by
  obtain ⟨ad, e, hc⟩ := h (by omega)
  cases e
  obtain ⟨h1, h2⟩ := hc i hi
  rw [add_next] at h2
  have e1 : (⟨g, 0, none⟩ : Addr).add (i * 2) = ⟨g, i * 2, none⟩ := by unfold Addr.add; split <;> simp <;> omega
  have e2 : (⟨g, 0, none⟩ : Addr).add (i * 2 + 1) = ⟨g, i * 2 + 1, none⟩ := by unfold Addr.add; simp
  rw [e1] at h1
  rw [e2] at h2
  exact ⟨h1, h2⟩
theorem EdR.ofCells {w : World} {g : Nat} {es : List (Int × Int)} (h : ∀ i, i < es.length → w.cell? ⟨g, i * 2, none⟩ = some (.int .i64 (es.getD i (0, 0)).1) ∧ w.cell? ⟨g, i * 2 + 1, none⟩ = some (.int .i64 (es.getD i (0, 0)).2)) : EdR w (some ⟨g, 0, none⟩) es := fun _ => by
  refine ⟨_, rfl, fun i hi => ?_⟩
  obtain ⟨h1, h2⟩ := h i hi
  rw [add_next]
  have e1 : (⟨g, 0, none⟩ : Addr).add (i * 2) = ⟨g, i * 2, none⟩ := by unfold Addr.add; split <;> simp <;> omega
  have e2 : (⟨g, 0, none⟩ : Addr).add (i * 2 + 1) = ⟨g, i * 2 + 1, none⟩ := by unfold Addr.add; simp
  rw [e1, e2]
  exact ⟨h1, h2⟩
theorem lessE_getD {es : List (Int × Int)} {k i : Nat} (hk : k < es.length) : (lessE es k).getD i (0, 0) = if i < k then es.getD i (0, 0) else es.getD (i + 1) (0, 0) := by
  unfold lessE
  rw [List.getD_eq_getElem?_getD, List.getElem?_append, List.length_take]
  by_cases h : i < k
  · rw [if_pos (by omega), if_pos h, List.getElem?_take_of_lt h, List.getD_eq_getElem?_getD]
  · rw [if_neg (by omega), if_neg h, List.getElem?_drop, List.getD_eq_getElem?_getD]
    congr 2
    omega
theorem EdR.less {w : World} {g : Nat} {es : List (Int × Int)} (h : EdR w (some ⟨g, 0, none⟩) es) (k : Nat) (hk : k < es.length) : EdR (w.setCells g (k * 2) (edgeCells (es.drop (k + 1)))) (some ⟨g, 0, none⟩) (lessE es k) := by
  have hl : (edgeCells (es.drop (k + 1))).length = (es.length - (k + 1)) * 2 := by rw [edgeCells_len, List.length_drop]
  refine EdR.ofCells fun i hi => ?_
  rw [lessE_len es k hk] at hi
  rw [lessE_getD hk]
  by_cases h2 : i < k
  · rw [if_pos h2, World.cell?_setCells_out g _ _ _ _ (fun _ _ => Or.inl (by show i * 2 < k * 2; omega)), World.cell?_setCells_out g _ _ _ _ (fun _ _ => Or.inl (by show i * 2 + 1 < k * 2; omega))]
    exact h.cellAt i (by omega)
  · rw [if_neg h2]
    have hsome : ∀ j, j < (edgeCells (es.drop (k + 1))).length → (w.cell? ⟨g, k * 2 + j, none⟩).isSome = true := by
      intro j hj
      rw [hl] at hj
      obtain ⟨c1, c2⟩ := h.cellAt (k + j / 2) (by omega)
      rcases Nat.mod_two_eq_zero_or_one j with e | e
      · rw [show k * 2 + j = (k + j / 2) * 2 by omega, c1]; rfl
      · rw [show k * 2 + j = (k + j / 2) * 2 + 1 by omega, c2]; rfl
    obtain ⟨e1, e2⟩ := edgeCells_at (es.drop (k + 1)) (i - k) (by rw [List.length_drop]; omega)
    have q : (es.drop (k + 1)).getD (i - k) (0, 0) = es.getD (i + 1) (0, 0) := by
      rw [List.getD_eq_getElem?_getD, List.getElem?_drop, List.getD_eq_getElem?_getD]
      congr 2
      omega
    rw [q] at e1 e2
    have l1 := (List.getElem?_eq_some_iff.1 e1).1
    have l2 := (List.getElem?_eq_some_iff.1 e2).1
    have s1 := World.cell?_setCells_in g (edgeCells (es.drop (k + 1))) (k * 2) w hsome ((i - k) * 2) l1
    have s2 := World.cell?_setCells_in g (edgeCells (es.drop (k + 1))) (k * 2) w hsome ((i - k) * 2 + 1) l2
    rw [show k * 2 + (i - k) * 2 = i * 2 by omega] at s1
    rw [show k * 2 + ((i - k) * 2 + 1) = i * 2 + 1 by omega] at s2
    rw [s1, s2]
    exact ⟨congrArg some (List.getElem?_eq_some_iff.1 e1).2, congrArg some (List.getElem?_eq_some_iff.1 e2).2⟩
theorem setCells_heap (b : Nat) : ∀ (vs : List Value) (o : Nat) (w : World), (w.setCells b o vs).heap.size = w.heap.size ∧ (w.setCells b o vs).os = w.os ∧ (w.setCells b o vs).tape = w.tape ∧ (w.setCells b o vs).output = w.output ∧ ∀ k, k ≠ b → (w.setCells b o vs).heap[k]? = w.heap[k]?
  | [], o, w => ⟨rfl, rfl, rfl, rfl, fun _ _ => rfl⟩
  | v :: vs, o, w => by
    obtain ⟨h1, h2, h3, h4, h5⟩ := setCells_heap b vs (o + 1) (w.setCell ⟨b, o, none⟩ v)
    have hb : Below 0 w (w.setCell ⟨b, o, none⟩ v) := (Below.refl 0 w).setCell (p := ⟨b, o, none⟩) (Nat.zero_le _) v
    refine ⟨h1.trans (by simp), h2.trans hb.os, h3.trans hb.tape, h4.trans hb.output, fun k hk => (h5 k hk).trans (Below.heap_setCell w ⟨b, o, none⟩ v k hk)⟩
/-- Two blocks alone have turned. -/
def Two (w : World) (g x : Nat) (w' : World) : Prop := w'.heap.size = w.heap.size ∧ w'.os = w.os ∧ w'.tape = w.tape ∧ w'.output = w.output ∧ ∀ k, k ≠ g → k ≠ x → w'.heap[k]? = w.heap[k]?
theorem two_less (w : World) (g x o q : Nat) (vs : List Value) (v : Value) : Two w g x ((w.drew.setCells g o vs).setCell ⟨x, q, none⟩ v) := by
  obtain ⟨h1, h2, h3, h4, h5⟩ := setCells_heap g vs o w.drew
  have hb : Below 0 (w.drew.setCells g o vs) ((w.drew.setCells g o vs).setCell ⟨x, q, none⟩ v) := (Below.refl 0 _).setCell (p := ⟨x, q, none⟩) (Nat.zero_le _) v
  exact ⟨(by simp : _ = (w.drew.setCells g o vs).heap.size).trans h1, hb.os.trans h2, hb.tape.trans h3, hb.output.trans h4, fun k hk hx => (Below.heap_setCell _ ⟨x, q, none⟩ v k hx).trans (h5 k hk)⟩
theorem Two.below {w w' : World} {g x base : Nat} (h : Two w g x w') (hg : base ≤ g) (hx : base ≤ x) : Below base w w' := ⟨h.2.1, h.2.2.1, h.2.2.2.1, by rw [h.1]; exact Nat.le_refl _, fun k hk => h.2.2.2.2 k (by omega) (by omega)⟩
theorem Two.cell {w w' : World} {g x : Nat} (h : Two w g x w') (b o : Nat) (hg : b ≠ g) (hx : b ≠ x) : w'.cell? ⟨b, o, none⟩ = w.cell? ⟨b, o, none⟩ := World.cell?_of_block (h.2.2.2.2 b hg hx)
theorem EdR.far {w w' : World} {g : Nat} {es : List (Int × Int)} (h : EdR w (some ⟨g, 0, none⟩) es) (hm : w'.heap[g]? = w.heap[g]?) : EdR w' (some ⟨g, 0, none⟩) es :=
  EdR.ofCells fun i hi => by
    obtain ⟨h1, h2⟩ := h.cellAt i hi
    exact ⟨by rw [World.cell?_of_block hm]; exact h1, by rw [World.cell?_of_block hm]; exact h2⟩
theorem ReadsInt.two {w w' : World} {g x : Nat} {A : Option Addr} {l : List Int} (h : ReadsInt w .i64 A l.length l) (ht : Two w g x w') (hA : 0 < l.length → ∀ a, A = some a → a.block ≠ g ∧ a.block ≠ x) : ReadsInt w' .i64 A l.length l := by
  refine ⟨h.1, h.2.1, fun h0 => ?_⟩
  obtain ⟨ad, rfl, hc⟩ := h.2.2 h0
  refine ⟨ad, rfl, fun j hj => ?_⟩
  have hb : (ad.add j).block = ad.block := by unfold Addr.add; split <;> rfl
  obtain ⟨n1, n2⟩ := hA h0 ad rfl
  rw [← hc j hj]
  exact World.cell?_of_block (ht.2.2.2.2 _ (by rw [hb]; exact n1) (by rw [hb]; exact n2))
end Go.Proofs.Ytjkindoedkjnbaa
