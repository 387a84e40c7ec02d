/- A graph that came in, read: its works and its edges. -/
import Derived.Test.YtjkindoedkjnbaaDagOrderA
import Derived.Test.YtjkindoedkjnbaaRows
import Derived.Lib.SmallJoins
import Derived.Deep.SlicePairs
import Derived.OpenShut
import Derived.ChangeOld
import Derived.ProofKit
set_option linter.unusedVariables false
set_option linter.unusedSimpArgs false
namespace Go.Proofs.Ytjkindoedkjnbaa
open Go.RowKit Go.Sort Go.Joins Go.Deep
open Go.Proofs.YtjkindoedkjnbaaW.PrintWords

def EdC (w : World) (B : Option Addr) (es : List (Int × Int)) : Prop :=
  0 < es.length → ∃ ad, B = some ad ∧ ∀ i, i < es.length → w.cell? (ad.add (i * 2)) = some (.int .i64 (es.getD i (0, 0)).1) ∧ w.cell? (ad.add (i * 2 + 1)) = some (.int .i64 (es.getD i (0, 0)).2)
theorem cellsDag : Try.prog.cellsOf 25 = 2 := by kernel_rfl
theorem cellsEdge : Try.prog.cellsOf 40 = 2 := by kernel_rfl
def I64 (x : Int) : Prop := (Lit.int .i64 x).wf = true
theorem trod_ints {H : Type} {enc : TypeId × Value → H} {w : World} {base : Nat} {sp : Nat → Bool} {held : Bool} {n : Nat} {v : Value} {y : DataW H × List MemPlace} (h : DataW.trod enc Try.prog w base sp held n 22 [v] = some y) :
    ∃ A c l, v = .slice A l.length c ∧ l.length ≤ c ∧ ReadsInt w .i64 A l.length l ∧ ∀ x ∈ l, I64 x := by
  rcases Go.ChangeShapes.open_ints Try.underlying22 Try.underlying3 (by kernel_rfl) h with ⟨hcs, _⟩ | ⟨a, len, cap, zs, hcs, _, hl, hm, hz, _, hcell, hwz⟩
  · obtain rfl : v = .slice none 0 0 := by simpa using hcs
    exact ⟨none, 0, [], rfl, Nat.le_refl _, ⟨rfl, by simp, fun h => absurd h (by simp)⟩, by simp⟩
  · obtain rfl : v = .slice (some a) len cap := by simpa using hcs
    have hlz : len ≤ zs.length := by rw [hz]; split <;> omega
    refine ⟨some a, cap, zs.take len, by rw [List.length_take, Nat.min_eq_left hlz], by rw [List.length_take]; omega, ⟨rfl, by rw [List.length_take]; unfold maxLen at hm; omega, fun _ => ⟨a, rfl, fun j hj => ?_⟩⟩, fun x hx => hwz x (List.mem_of_mem_take hx)⟩
    rw [List.length_take] at hj
    rw [hcell j (by omega), List.getD_eq_getElem?_getD, List.getD_eq_getElem?_getD, List.getElem?_take_of_lt (by omega)]
theorem trod_edges {H : Type} {enc : TypeId × Value → H} {w : World} {base : Nat} {sp : Nat → Bool} {held : Bool} {n : Nat} {v : Value} {y : DataW H × List MemPlace} (h : DataW.trod enc Try.prog w base sp held n 23 [v] = some y) :
    ∃ B d es, v = .slice B es.length d ∧ es.length ≤ d ∧ es.length ≤ maxLen ∧ EdC w B es ∧ ∀ e ∈ es, I64 e.1 ∧ I64 e.2 := by
  rcases open_slice_pairs Try.underlying23 Try.underlying40 cellsEdge rfl rfl (by kernel_rfl) (by kernel_rfl) h with ⟨hcs, _⟩ | ⟨a, len, cap, m, k, V0, V1, D0, D1, P0, P1, hcs, _, hl, hm, hmm, _, hx⟩
  · obtain rfl : v = .slice none 0 0 := by simpa using hcs
    exact ⟨none, 0, [], rfl, Nat.le_refl _, by simp, fun h => absurd h (by simp), by simp⟩
  · obtain rfl : v = .slice (some a) len cap := by simpa using hcs
    have hlm : len ≤ m := by rw [hmm]; split <;> omega
    have hval : ∀ i, i < len → ∃ p : Int × Int, (V0 i = .int .i64 p.1 ∧ V1 i = .int .i64 p.2) ∧ I64 p.1 ∧ I64 p.2 := by
      intro i hi
      obtain ⟨_, _, h0, h1⟩ := hx i (by omega)
      obtain ⟨x, e0, _, w0⟩ := DataW.trod_int Try.underlying3 h0
      obtain ⟨z, e1, _, w1⟩ := DataW.trod_int Try.underlying3 h1
      exact ⟨(x, z), ⟨by simpa using e0, by simpa using e1⟩, w0, w1⟩
    obtain ⟨q, hq⟩ := choose_lt hval
    refine ⟨some a, cap, (List.range len).map q, by simp, by simpa using hl, by simp; omega, fun _ => ⟨a, rfl, fun i hi => ?_⟩, fun e he => ?_⟩
    · have hi' : i < len := by simpa using hi
      have hg : ((List.range len).map q).getD i (0, 0) = q i := by simp [List.getD_eq_getElem?_getD, hi']
      obtain ⟨h0, h1, _, _⟩ := hx i (by omega)
      rw [hg, h0, h1, (hq i hi').1.1, (hq i hi').1.2]
      exact ⟨rfl, rfl⟩
    · obtain ⟨i, hi, rfl⟩ := List.mem_map.1 he
      exact (hq i (by simpa using hi)).2
theorem open_edge {H : Type} {enc : TypeId × Value → H} {w : World} {base b0 : Nat} {sp : Nat → Bool} {held : Bool} {v : Value} {d : DataW H} {p : List MemPlace} (hv : Value.okWide Try.prog w .any b0 40 v) (h : DataW.Trod enc Try.prog w base sp held 40 v d p) :
    ∃ x y, v = .agg #[.int .i64 x, .int .i64 y] ∧ I64 x ∧ I64 y := by
  obtain ⟨c0, c1, y0, y1, m, rfl, _, _, hy0, hy1⟩ := open_agg2 Try.underlying40 (by kernel_rfl) cellsEdge hv h
  obtain ⟨x, e0, _, w0⟩ := DataW.trod_int Try.underlying3 hy0
  obtain ⟨z, e1, _, w1⟩ := DataW.trod_int Try.underlying3 hy1
  obtain rfl : c0 = .int .i64 x := by simpa using e0
  obtain rfl : c1 = .int .i64 z := by simpa using e1
  exact ⟨x, z, rfl, w0, w1⟩
/-- What the frame hands on of a graph. -/
def DagIn (w : World) (A : Option Addr) (c : Nat) (l : List Int) (B : Option Addr) (d : Nat) (es : List (Int × Int)) : Prop :=
  l.length ≤ c ∧ ReadsInt w .i64 A l.length l ∧ (∀ x ∈ l, I64 x) ∧ es.length ≤ d ∧ es.length ≤ maxLen ∧ EdC w B es ∧ ∀ e ∈ es, I64 e.1 ∧ I64 e.2
theorem open_dag {H : Type} {enc : TypeId × Value → H} {w : World} {base b0 : Nat} {sp : Nat → Bool} {held : Bool} {v : Value} {d : DataW H} {p : List MemPlace} (hv : Value.okWide Try.prog w .any b0 25 v) (h : DataW.Trod enc Try.prog w base sp held 25 v d p) :
    ∃ A c l B dd es, v = .agg #[.slice A l.length c, .slice B es.length dd] ∧ DagIn w A c l B dd es := by
  obtain ⟨c0, c1, y0, y1, m, rfl, _, _, hy0, hy1⟩ := open_agg2 Try.underlying25 (by kernel_rfl) cellsDag hv h
  obtain ⟨A, c, l, rfl, h1, h2, h3⟩ := trod_ints hy0
  obtain ⟨B, dd, es, rfl, h4, h5, h6, h7⟩ := trod_edges hy1
  exact ⟨A, c, l, B, dd, es, rfl, h1, h2, h3, h4, h5, h6, h7⟩
end Go.Proofs.Ytjkindoedkjnbaa
