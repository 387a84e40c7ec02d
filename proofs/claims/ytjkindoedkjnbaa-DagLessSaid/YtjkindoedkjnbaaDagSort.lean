/- slices.Sort at []int: the shelf's contract, laid at this program. -/
import Derived.Test.YtjkindoedkjnbaaDagWalks
import Derived.Shelf.Lay
import Derived.Shelf.Sort.Plain
import Derived.Shelf.Slices.In.SortNone
import Derived.Sort.OwnSortedInts
import Derived.Ground.NamesProg
set_option linter.unusedVariables false
set_option linter.unusedSimpArgs false
namespace Go.Proofs
open Go.Shelf
shelf_lay Lays.n189 Nm 189 at Try as Try.laysSort
end Go.Proofs
namespace Go.Proofs.Ytjkindoedkjnbaa
open Go.RowKit Go.Sort Go.Shelf
theorem sort_int (blk off cap : Nat) (zs : List Int) (w : World) (hH : Holds (Value.int .i64) w blk off zs.toArray) (hblk : blk < w.heap.size) (hsz : zs.length < 4611686018427387904) :
    Calls Try.prog 49 #[.slice (some ⟨blk, off, none⟩) zs.length cap] w fun e w' => e = .returned (.tuple #[]) ∧ ∃ n os, w' = grow (putRow (Value.int .i64) (Sort.ahead w n) blk off (zs.mergeSort fun x y => decide (x ≤ y)).toArray) os := Any.slices_Sort_int Try.laysSort blk off cap zs w hH hblk hsz
theorem sort_none (p : Option Addr) (cap : Nat) (w : World) :
    Calls Try.prog 49 #[.slice p 0 cap] w fun e w' => e = .returned (.tuple #[]) ∧ w' = w := Any.slices_Sort_int_none Try.laysSort p cap w
open Go.Proofs.YtjkindoedkjnbaaW.PrintWords
def sortL (zs : List Int) : List Int := zs.mergeSort fun x y => decide (x ≤ y)
theorem sortL_len (zs : List Int) : (sortL zs).length = zs.length := by unfold sortL; exact List.length_mergeSort _
def SortPost (base : Nat) (w : World) (v : Value) (zs : List Int) (e : Ending) (w' : World) : Prop :=
  e = .returned (.tuple #[]) ∧ w'.ownsRow base 3 1 v (sortL zs).length (encs (Value.int .i64) (sortL zs)) ∧ Below base w w'
theorem sort_own (base : Nat) (v : Value) (zs : List Int) (w : World) (h : w.ownsRow base 3 1 v zs.length (encs (Value.int .i64) zs)) (hsz : zs.length < 4611686018427387904) (hb : base ≤ w.heap.size) :
    Calls Try.prog 49 #[v] w (SortPost base w v zs) := by
  have hown := h
  obtain ⟨hl, ⟨rfl, hn⟩ | ⟨g, cap, cur, rfl, hg1, hg2, hg3, hg4, hg5, hg6⟩⟩ := h
  · refine (sort_none none 0 w).mono ?_
    rintro e w' ⟨rfl, rfl⟩
    refine ⟨rfl, ?_, Below.refl _ _⟩
    obtain rfl : zs = [] := List.length_eq_zero_iff.1 hn
    have : sortL [] = [] := by unfold sortL; simp
    rw [this]
    exact hown
  · have hgl : g < w.heap.size := by
      rcases Nat.lt_or_ge g w.heap.size with h | h
      · exact h
      · rw [Array.getElem?_eq_none h] at hg2; cases hg2
    refine (sort_int g 0 cap zs w (holds_of_blockI hg2 (by rw [Nat.mul_one] at hg6; exact hg6)) hgl hsz).mono ?_
    rintro e w' ⟨rfl, q, os, rfl⟩
    refine ⟨rfl, ?_, (Below.refl _ _).grown (grownBy_sortedI _) hb (fun k h => by cases h; exact hg1)⟩
    have := ownsRow_sortedI (ts := sortL zs) (w := w) (n := q) (os := os) (sortL_len zs) hg1 hg2 hg3 hg4 hg5
    rw [sortL_len]
    exact this
end Go.Proofs.Ytjkindoedkjnbaa
