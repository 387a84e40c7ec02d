/- dag.Long: what it computes, and the state of its making. -/
import Derived.Test.YtjkindoedkjnbaaDagPreds
set_option linter.unusedVariables false
set_option linter.unusedSimpArgs false
namespace Go.Proofs.Ytjkindoedkjnbaa
open Go.RowKit Go.Sort
open Go.Proofs.YtjkindoedkjnbaaW.PrintWords
open DagPlain

def stepP (n : Int) (F : List Int) (p : Int) : List Int := F.set n.toNat (max (F.getD n.toNat 0) (F.getD p.toNat 0))
def stepF (l : List Int) (es : List (Int × Int)) (F : List Int) (n : Int) : List Int := ((predL n es).foldl (stepP n) F).set n.toNat (((predL n es).foldl (stepP n) F).getD n.toNat 0 + l.getD n.toNat 0)
def stepM (l : List Int) (es : List (Int × Int)) (F : List Int) (mo : Int) (n : Int) : Int := max mo ((stepF l es F n).getD n.toNat 0)
def stepN (l : List Int) (es : List (Int × Int)) (s : List Int × Int) (n : Int) : List Int × Int := (stepF l es s.1 n, stepM l es s.1 s.2 n)
def longL (l : List Int) (es : List (Int × Int)) : Int := ((ordL l es).foldl (stepN l es) (List.replicate l.length 0, 0)).2

theorem foldl_snoc {α : Type} (f : α → Int → α) (s : α) (l : List Int) (k : Nat) (h : k < l.length) : (l.take (k + 1)).foldl f s = f ((l.take k).foldl f s) (l.getD k 0) := by
  rw [List.getD_eq_getElem?_getD, List.getElem?_eq_getElem h, List.take_add_one, List.getElem?_eq_getElem h]
  simp only [Option.toList_some, List.foldl_append, List.foldl_cons, List.foldl_nil, Option.getD_some]
theorem orderGo_in {n : Nat} {es : List (Int × Int)} : ∀ (g : Nat) (out r : List Int), orderGo n es g out = some r → (∀ x ∈ out, 0 ≤ x ∧ x < n) → r.length = out.length + g ∧ ∀ x ∈ r, 0 ≤ x ∧ x < n
  | 0, out, r, h, ho => by
    simp only [orderGo, Option.some.injEq] at h
    subst h
    exact ⟨rfl, ho⟩
  | g + 1, out, r, h, ho => by
    simp only [orderGo] at h
    split at h
    · rename_i v hv
      have hvn : v < n := by
        unfold next at hv
        have := List.mem_of_find?_eq_some hv
        simpa using this
      obtain ⟨h1, h2⟩ := orderGo_in g _ r h (by
        intro x hx
        rw [List.mem_append] at hx
        rcases hx with hx | hx
        · exact ho x hx
        · simp at hx; omega)
      exact ⟨by rw [h1]; simp; omega, h2⟩
    · cases h
theorem ordL_in {l : List Int} {es : List (Int × Int)} (h : ordL l es ≠ []) : (∀ x ∈ ordL l es, 0 ≤ x ∧ x < l.length) ∧ (ordL l es).length ≤ 64 ∧ (∀ y, ∀ p ∈ predL y es, 0 ≤ p ∧ p < l.length) ∧ ∀ i : Nat, 0 ≤ l.getD i 0 ∧ l.getD i 0 ≤ 1000 := by
  unfold ordL at h ⊢
  split at h
  · rename_i hz
    rw [if_pos hz]
    obtain ⟨y1, y2, y3, y4, y5⟩ := ordL_yes hz
    obtain ⟨r, hr⟩ := Option.isSome_iff_exists.1 y5
    rw [hr]
    obtain ⟨h1, h2⟩ := orderGo_in _ _ _ hr (by simp)
    refine ⟨h2, by simp at h1 ⊢; omega, ?_, ?_⟩
    · intro y p hp
      unfold predL sortL at hp
      rw [List.mem_mergeSort] at hp
      unfold predRaw at hp
      rw [List.mem_map] at hp
      obtain ⟨e, he, rfl⟩ := hp
      exact (oddEs_in y3 e (List.mem_filter.1 he).1).1
    · intro i
      by_cases hi : i < l.length
      · rw [List.getD_eq_getElem?_getD, List.getElem?_eq_getElem hi]
        have := List.any_eq_false.1 y4 l[i] (List.getElem_mem hi)
        unfold oddW at this
        simp at this
        simp
        omega
      · rw [List.getD_eq_getElem?_getD, List.getElem?_eq_none (by omega)]; simp
  · exact absurd rfl h

/-- The state: the numbers so far, in the call's own row behind the box. -/
def LS (w : World) (A : Option Addr) (n c : Nat) (B : Option Addr) (m d : Nat) (F : List Int) (wr : World) : Prop :=
  Below w.heap.size w wr ∧ w.heap.size + 1 < wr.heap.size ∧ wr.cell? ⟨w.heap.size, 0, none⟩ = some (.slice A n c) ∧ wr.cell? ⟨w.heap.size, 1, none⟩ = some (.slice B m d) ∧
  wr.ownsRow w.heap.size 3 1 (.slice (some ⟨w.heap.size + 1, 0, none⟩) n n) n (encs (Value.int .i64) F)
theorem LS.below {w : World} {A : Option Addr} {n c : Nat} {B : Option Addr} {m d : Nat} {F : List Int} {wr wr' : World} (h : LS w A n c B m d F wr) (hb : Below wr.heap.size wr wr') : LS w A n c B m d F wr' := by
  obtain ⟨h1, h2, h3, h4, h5⟩ := h
  have := hb.size
  exact ⟨h1.trans (hb.mono h1.size), by omega, by rw [hb.cell (by show w.heap.size < _; omega)]; exact h3, by rw [hb.cell (by show w.heap.size < _; omega)]; exact h4, own_move h5 (fun q hq => hb.block q (own_lt h5 q hq))⟩
theorem LS.at_ {w : World} {A : Option Addr} {n c : Nat} {B : Option Addr} {m d : Nat} {F : List Int} {wr : World} (h : LS w A n c B m d F wr) (i : Nat) (hi : i < n) :
    wr.cell? ⟨w.heap.size + 1, i, none⟩ = some (.int .i64 (F.getD i 0)) ∧ wr.frozen? ⟨w.heap.size + 1, i, none⟩ = false :=
  own_at_of (d := (0 : Int)) (enc := Value.int .i64) h.2.2.2.2 (i : Int) (by omega) (by omega)
theorem LS.set {w : World} {A : Option Addr} {n c : Nat} {B : Option Addr} {m d : Nat} {F : List Int} {wr : World} (h : LS w A n c B m d F wr) (i : Nat) (x : Int) :
    LS w A n c B m d (F.set i x) (wr.setCell ⟨w.heap.size + 1, i, none⟩ (.int .i64 x)) := by
  obtain ⟨h1, h2, h3, h4, h5⟩ := h
  refine ⟨h1.setCell (p := ⟨w.heap.size + 1, i, none⟩) (by show w.heap.size ≤ w.heap.size + 1; omega) _, by simpa using h2, ?_, ?_, (own_store_of (enc := Value.int .i64) h5 (i : Int) x).1⟩
  · rw [World.cell?_setCell_other _ _ _ _ (by intro e; have := congrArg Addr.block e; simp at this)]; exact h3
  · rw [World.cell?_setCell_other _ _ _ _ (by intro e; have := congrArg Addr.block e; simp at this)]; exact h4
theorem LS.size {w : World} {A : Option Addr} {n c : Nat} {B : Option Addr} {m d : Nat} {F : List Int} {wr : World} (h : LS w A n c B m d F wr) : F.length = n := by
  have := h.2.2.2.2.1
  simpa [encs] using this
/-- A row that is read, not the own one. -/
def RX (g : Nat) (wr : World) (A : Option Addr) (r : List Int) : Prop := ReadsInt wr .i64 A r.length r ∧ ∀ a, A = some a → a.block ≠ g
theorem RX.below {g : Nat} {wr wr' : World} {A : Option Addr} {r : List Int} (h : RX g wr A r) (hb : Below wr.heap.size wr wr') : RX g wr' A r := ⟨h.1.below hb, h.2⟩
theorem RX.set {g : Nat} {wr : World} {A : Option Addr} {r : List Int} (h : RX g wr A r) (i : Nat) (x : Value) : RX g (wr.setCell ⟨g, i, none⟩ x) A r := by
  refine ⟨⟨h.1.1, h.1.2.1, fun h0 => ?_⟩, h.2⟩
  obtain ⟨ad, rfl, hc⟩ := h.1.2.2 h0
  refine ⟨ad, rfl, fun j hj => ?_⟩
  rw [World.cell?_setCell_other _ _ _ _ (by intro e; exact h.2 ad rfl ((show (ad.add j).block = ad.block by unfold Addr.add; split <;> rfl).symm.trans (congrArg Addr.block e).symm))]
  exact hc j hj
theorem LS.drew {w : World} {A : Option Addr} {n c : Nat} {B : Option Addr} {m d : Nat} {F : List Int} {wr : World} (h : LS w A n c B m d F wr) : LS w A n c B m d F wr.drew := h.below ⟨rfl, rfl, rfl, Nat.le_refl _, fun _ _ => rfl⟩
theorem RX.drew {g : Nat} {wr : World} {A : Option Addr} {r : List Int} (h : RX g wr A r) : RX g wr.drew A r := h.below ⟨rfl, rfl, rfl, Nat.le_refl _, fun _ _ => rfl⟩
theorem getD_set (F : List Int) (i j : Nat) (x : Int) : (F.set i x).getD j 0 = if i = j ∧ i < F.length then x else F.getD j 0 := by
  rw [List.getD_eq_getElem?_getD, List.getD_eq_getElem?_getD, List.getElem?_set]
  by_cases h : i = j
  · subst h
    by_cases h2 : i < F.length
    · simp [h2]
    · simp [h2]
  · simp [h]
theorem RX.of {w' : World} {v : Value} {base g : Nat} {r : List Int} (h : w'.ownsRow base 3 1 v r.length (encs (Value.int .i64) r)) (hg : g < base) : ∃ A c, v = .slice A r.length c ∧ RX g w' A r := by
  obtain ⟨A, c, rfl, hr⟩ := own_reads (k := .i64) h
  exact ⟨A, c, rfl, hr, fun a ha => by have := own_base h a.block (by rw [ha]; rfl); omega⟩
theorem LS.start {w w1 : World} {A : Option Addr} {n c : Nat} {B : Option Addr} {m d : Nat} {ty : TypeId} (hown : w1.ownsRow w.heap.size 3 1 (.slice (some ⟨w.heap.size + 1, 0, none⟩) n n) n (madeCells #[Value.int .i64 0] n).toList)
    (hgrow : (w.alloc (Obj.cells #[Value.slice A n c, Value.slice B m d] ty)).grownBy w1 none) : LS w A n c B m d (List.replicate n 0) w1 := by
  have hb0 : w1.heap[w.heap.size]? = (w.alloc (Obj.cells #[Value.slice A n c, Value.slice B m d] ty)).heap[w.heap.size]? := hgrow.block _ (by simp) (by intro h; cases h)
  have hh : (w.alloc (Obj.cells #[Value.slice A n c, Value.slice B m d] ty)).heap[w.heap.size]? = some (Obj.cells #[Value.slice A n c, Value.slice B m d] ty) := by show (w.heap.push _)[w.heap.size]? = _; simp
  have hlt := own_lt hown (w.heap.size + 1) rfl
  refine ⟨((Below.refl _ _).alloc (Nat.le_refl _) _).grown hgrow (by simp) (fun k h => by cases h), hlt, ?_, ?_, ?_⟩
  · rw [World.cell?_of_block hb0]; simp only [World.cell?]; rw [hh]; rfl
  · rw [World.cell?_of_block hb0]; simp only [World.cell?]; rw [hh]; rfl
  · have : encs (Value.int .i64) (List.replicate n 0) = (madeCells #[Value.int .i64 0] n).toList := by rw [toList_madeCells_one]; simp [encs]
    rw [this]; exact hown
end Go.Proofs.Ytjkindoedkjnbaa
