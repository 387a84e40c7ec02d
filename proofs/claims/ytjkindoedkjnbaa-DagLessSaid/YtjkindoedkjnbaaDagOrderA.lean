/- dag.order hands back the order, and whether there is one, for every graph whose edges lead between its nodes. -/
import Derived.Test.YtjkindoedkjnbaaDagWalks
import Derived.Test.YtjkindoedkjnbaaDagPlain
import Derived.Deep.LoopGhost
set_option linter.unusedVariables false
set_option linter.unusedSimpArgs false
namespace Go.Proofs.Ytjkindoedkjnbaa
open Go.RowKit Go.Sort
open Go.Proofs.YtjkindoedkjnbaaW.PrintWords
open DagPlain

theorem info4' : (Try.prog.info? 4).map (fun i => (i.zero, i.size, i.bytes)) = some (some (.bool false), 1, 1) := by kernel_rfl
theorem info3' : (Try.prog.info? 3).map (fun i => (i.zero, i.size, i.bytes)) = some (some (.int .i64 0), 1, 8) := by kernel_rfl
/-- Edges that are read. -/
def EdR (w : World) (B : Option Addr) (es : List (Int × Int)) : Prop :=
  0 < es.length → ∃ ad, B = some ad ∧ ∀ i, i < es.length → w.cell? (ad.add (i * 2)) = some (.int .i64 (es.getD i (0, 0)).1) ∧ w.cell? ⟨(ad.add (i * 2)).block, (ad.add (i * 2)).off + 1, none⟩ = some (.int .i64 (es.getD i (0, 0)).2)
theorem EdR.below {w w' : World} {B : Option Addr} {es : List (Int × Int)} (h : EdR w B es) (hb : Below w.heap.size w w') : EdR w' B es := fun h0 => by
  obtain ⟨ad, e, hc⟩ := h h0
  refine ⟨ad, e, fun i hi => ?_⟩
  obtain ⟨h1, h2⟩ := hc i hi
  exact ⟨by rw [hb.cell (block_lt_of_cell h1)]; exact h1, by rw [hb.cell (block_lt_of_cell h2)]; exact h2⟩
/-- The state of the order's making. -/
def OS (w : World) (A : Option Addr) (n c : Nat) (B : Option Addr) (m d : Nat) (out : List Int) (v0 : Value) (wr : World) : Prop :=
  Below w.heap.size w wr ∧ w.heap.size + 1 < wr.heap.size ∧ wr.cell? ⟨w.heap.size, 0, none⟩ = some (.slice A n c) ∧ wr.cell? ⟨w.heap.size, 1, none⟩ = some (.slice B m d) ∧
  (∀ i, i < n → wr.cell? ⟨w.heap.size + 1, i, none⟩ = some (.bool (out.contains (i : Int)))) ∧ (∀ i, i < n → wr.frozen? ⟨w.heap.size + 1, i, none⟩ = false) ∧
  wr.ownsRow (w.heap.size + 2) 3 1 v0 out.length (encs (Value.int .i64) out)
theorem OS.alloc {w : World} {A : Option Addr} {n c : Nat} {B : Option Addr} {m d : Nat} {out : List Int} {v0 : Value} {wr : World} (h : OS w A n c B m d out v0 wr) (o : Obj) : OS w A n c B m d out v0 (wr.alloc o) := by
  obtain ⟨h1, h2, h3, h4, h5, h6, h7⟩ := h
  have hb : Below wr.heap.size wr (wr.alloc o) := (Below.refl _ _).alloc (Nat.le_refl _) _
  exact ⟨h1.alloc h1.size _, by simp; omega, by rw [hb.cell (by show w.heap.size < _; omega)]; exact h3, by rw [hb.cell (by show w.heap.size < _; omega)]; exact h4,
    fun i hi => by rw [hb.cell (by show w.heap.size + 1 < _; omega)]; exact h5 i hi, fun i hi => by rw [hb.frozen (by show w.heap.size + 1 < _; omega)]; exact h6 i hi, h7.alloc _⟩
/-- A node more. -/
theorem OS.push {w : World} {A : Option Addr} {n c : Nat} {B : Option Addr} {m d : Nat} {out : List Int} {v0 v1 : Value} {wr w1 : World} (h : OS w A n c B m d out v0 wr) (j : Nat) (hj : j < n) (o : Obj)
    (ho : w1.ownsRow (w.heap.size + 2) 3 1 v1 (out.length + 1) (encs (Value.int .i64) out ++ [Value.int .i64 (j : Int)])) (hg : ((wr.setCell ⟨w.heap.size + 1, j, none⟩ (.bool true)).alloc o).grownBy w1 v0.ownBlock) : OS w A n c B m d (out ++ [(j : Int)]) v1 w1 := by
  obtain ⟨h1, h2, h3, h4, h5, h6, h7⟩ := h
  have hs : ((wr.setCell ⟨w.heap.size + 1, j, none⟩ (.bool true)).alloc o).heap.size = wr.heap.size + 1 := by simp
  have hne : ∀ k, k < w.heap.size + 2 → some k ≠ v0.ownBlock := fun k hk e => by have := own_base h7 k e.symm; omega
  have hblk : ∀ k, k < w.heap.size + 2 → w1.heap[k]? = (wr.setCell ⟨w.heap.size + 1, j, none⟩ (.bool true)).heap[k]? := fun k hk => by
    rw [hg.block k (by omega) (hne k hk)]
    exact Below.heap_alloc _ _ _ (by simp; omega)
  refine ⟨((h1.setCell (p := ⟨w.heap.size + 1, j, none⟩) (by show w.heap.size ≤ w.heap.size + 1; omega) _).alloc (by simp; omega) o).grown hg (by simp; omega) (fun k hk => by have := own_base h7 k hk; omega), by have := hg.size; omega, ?_, ?_, fun i hi => ?_, fun i hi => ?_, ?_⟩
  · rw [World.cell?_of_block (hblk w.heap.size (by omega)), World.cell?_setCell_other _ _ _ _ (by intro e; have := congrArg Addr.block e; simp at this)]; exact h3
  · rw [World.cell?_of_block (hblk w.heap.size (by omega)), World.cell?_setCell_other _ _ _ _ (by intro e; have := congrArg Addr.block e; simp at this)]; exact h4
  · rw [World.cell?_of_block (hblk (w.heap.size + 1) (by omega))]
    by_cases e : i = j
    · subst e
      rw [World.cell?_setCell_same _ _ _ (h5 i hi)]
      simp
    · rw [World.cell?_setCell_other _ _ _ _ (by intro h; exact e (congrArg Addr.off h).symm), h5 i hi]
      simp
      intro h; exact absurd (Int.ofNat.inj h) e
  · rw [World.frozen?_of_block (hblk (w.heap.size + 1) (by omega)), World.frozen?_setCell]; exact h6 i hi
  · have e : (out ++ [(j : Int)]).length = out.length + 1 := by simp
    rw [e, encs_append]; exact ho

theorem OS.shape {w : World} {A : Option Addr} {n c : Nat} {B : Option Addr} {m d : Nat} {out : List Int} {v0 : Value} {wr : World} (h : OS w A n c B m d out v0 wr) : ∃ A' c', v0 = .slice A' out.length c' := by
  obtain ⟨_, _, _, _, _, _, h7⟩ := h
  obtain ⟨_, h | ⟨g, cap, cur, e, _⟩⟩ := h7
  · exact ⟨none, 0, by rw [h.1, h.2]⟩
  · exact ⟨_, _, e⟩
theorem OS.start {w w1 : World} {A : Option Addr} {n c : Nat} {B : Option Addr} {m d : Nat} {ty : TypeId} (hown : w1.ownsRow w.heap.size 4 1 (.slice (some ⟨w.heap.size + 1, 0, none⟩) n n) n (madeCells #[Value.bool false] n).toList)
    (hgrow : (w.alloc (Obj.cells #[Value.slice A n c, Value.slice B m d] ty)).grownBy w1 none) : OS w A n c B m d [] (.slice none 0 0) w1 := by
  have hs : (w.alloc (Obj.cells #[Value.slice A n c, Value.slice B m d] ty)).heap.size = w.heap.size + 1 := by simp
  have hb0 : w1.heap[w.heap.size]? = (w.alloc (Obj.cells #[Value.slice A n c, Value.slice B m d] ty)).heap[w.heap.size]? := hgrow.block _ (by omega) (by intro h; cases h)
  have hrow := hown
  obtain ⟨hl, h | ⟨g, cap, cur, e, hg1, hg2, hg3, hg4, hg5, hg6⟩⟩ := hrow
  · cases h.1
  · obtain rfl : w.heap.size + 1 = g := by injection e with e1; injection e1 with e2; exact congrArg Addr.block e2
    have hsz : w.heap.size + 1 < w1.heap.size := by
      rcases Nat.lt_or_ge (w.heap.size + 1) w1.heap.size with h | h
      · exact h
      · rw [Array.getElem?_eq_none h] at hg2; cases hg2
    refine ⟨((Below.refl _ _).alloc (Nat.le_refl _) _).grown hgrow (by simp) (fun k h => by cases h), hsz, ?_, ?_, fun i hi => ?_, fun i hi => ?_, own_nil _ _ _ _⟩
    · rw [World.cell?_of_block hb0]; simp only [World.cell?]; rw [show (w.alloc (Obj.cells #[Value.slice A n c, Value.slice B m d] ty)).heap[w.heap.size]? = some (Obj.cells #[Value.slice A n c, Value.slice B m d] ty) by show (w.heap.push _)[w.heap.size]? = _; simp]; rfl
    · rw [World.cell?_of_block hb0]; simp only [World.cell?]; rw [show (w.alloc (Obj.cells #[Value.slice A n c, Value.slice B m d] ty)).heap[w.heap.size]? = some (Obj.cells #[Value.slice A n c, Value.slice B m d] ty) by show (w.heap.push _)[w.heap.size]? = _; simp]; rfl
    · have h1 : (cur.toList.take (n * 1))[i]? = some (.bool false) := by rw [hg6, toList_madeCells_one]; simp [hi]
      rw [List.getElem?_take, if_pos (by omega), Array.getElem?_toList] at h1
      simp only [World.cell?, hg2]
      simpa using h1
    · exact hown.frozenAt i

theorem OS.row {w : World} {A : Option Addr} {n c : Nat} {B : Option Addr} {m d : Nat} {out : List Int} {v0 : Value} {wr : World} (h : OS w A n c B m d out v0 wr) (j : Nat) (o : Obj) :
    ((wr.setCell ⟨w.heap.size + 1, j, none⟩ (.bool true)).alloc o).ownsRow (w.heap.size + 2) 3 1 v0 out.length (encs (Value.int .i64) out) := by
  obtain ⟨h1, h2, h3, h4, h5, h6, h7⟩ := h
  exact (own_setCell h7 (p := ⟨w.heap.size + 1, j, none⟩) (fun e => by have := own_base h7 (w.heap.size + 1) e.symm; omega) _).alloc _

def OrderPost (w : World) (r : Option (List Int)) (e : Ending) (w' : World) : Prop :=
  ∃ v, e = .returned (.tuple #[v, .bool r.isSome]) ∧ w'.ownsRow w.heap.size 3 1 v (r.getD []).length (encs (Value.int .i64) (r.getD [])) ∧ Below w.heap.size w w'

end Go.Proofs.Ytjkindoedkjnbaa
