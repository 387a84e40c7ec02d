/- slices.Sort at []int: the shelf's contract, laid at this program. -/
import Derived.Test.YtjkindoedkjnbaaDagWalks
import Derived.Shelf.Sort.Plain
import Derived.Shelf.Slices.In.SortNone
import Derived.Sort.OwnSortedInts
import Derived.Ground.NamesProg
set_option linter.unusedVariables false
set_option linter.unusedSimpArgs false
namespace Go.Proofs
open Go.Shelf
def Try.laysSort_ren : Go.Shelf.Ren := ⟨fun | 189 => 49 | 125 => 52 | 257 => 51 | 128 => 62 | 129 => 63 | 294 => 53 | 295 => 54 | 296 => 55 | 297 => 56 | 298 => 57 | 299 => 58 | 216 => 59 | 300 => 60 | 301 => 61 | 328 => 64 | 329 => 65 | 330 => 66 | 331 => 67 | 332 => 68 | 215 => 69 | 343 => 70 | n => n, fun | 28 => 22 | 3 => 3 | 46 => 60 | 0 => 0 | 51 => 70 | 53 => 72 | 4 => 4 | 183 => 63 | 182 => 62 | 131 => 55 | 5 => 5 | 9 => 9 | 218 => 73 | 222 => 77 | 228 => 79 | 229 => 80 | n => n, fun | n => n⟩
theorem Try.laysSort : Go.Proofs.Lays.n189 Try.prog Try.laysSort_ren := {
  mixed := by kernel_rfl
  f125 := Try.func52.trans (congrArg some (by kernel_rfl))
  f128 := Try.func62.trans (congrArg some (by kernel_rfl))
  f129 := Try.func63.trans (congrArg some (by kernel_rfl))
  f189 := Try.func49.trans (congrArg some (by kernel_rfl))
  f215 := Try.func69.trans (congrArg some (by kernel_rfl))
  f216 := Try.func59.trans (congrArg some (by kernel_rfl))
  f257 := Try.func51.trans (congrArg some (by kernel_rfl))
  f294 := Try.func53.trans (congrArg some (by kernel_rfl))
  f295 := Try.func54.trans (congrArg some (by kernel_rfl))
  f296 := Try.func55.trans (congrArg some (by kernel_rfl))
  f297 := Try.func56.trans (congrArg some (by kernel_rfl))
  f298 := Try.func57.trans (congrArg some (by kernel_rfl))
  f299 := Try.func58.trans (congrArg some (by kernel_rfl))
  f300 := Try.func60.trans (congrArg some (by kernel_rfl))
  f301 := Try.func61.trans (congrArg some (by kernel_rfl))
  f328 := Try.func64.trans (congrArg some (by kernel_rfl))
  f329 := Try.func65.trans (congrArg some (by kernel_rfl))
  f330 := Try.func66.trans (congrArg some (by kernel_rfl))
  f331 := Try.func67.trans (congrArg some (by kernel_rfl))
  f332 := Try.func68.trans (congrArg some (by kernel_rfl))
  f343 := Try.func70.trans (congrArg some (by kernel_rfl))
  t0 := Try.underlying0
  a0 := Try.isAgg0
  z0 := Try.sizeOf0
  v0 := Try.zeroValue0
  t3 := Try.underlying3
  a3 := Try.isAgg3
  z3 := Try.sizeOf3
  v3 := Try.zeroValue3
  t4 := Try.underlying4
  a4 := Try.isAgg4
  z4 := Try.sizeOf4
  v4 := Try.zeroValue4
  t5 := Try.underlying5
  a5 := Try.isAgg5
  z5 := Try.sizeOf5
  v5 := Try.zeroValue5
  t9 := Try.underlying9
  a9 := Try.isAgg9
  z9 := Try.sizeOf9
  v9 := Try.zeroValue9
  t28 := Try.underlying22
  a28 := Try.isAgg22
  z28 := Try.sizeOf22
  v28 := Try.zeroValue22
  t46 := Try.underlying60
  a46 := Try.isAgg60
  z46 := Try.sizeOf60
  v46 := Try.zeroValue60
  t51 := Try.underlying70
  a51 := Try.isAgg70
  z51 := Try.sizeOf70
  v51 := Try.zeroValue70
  t53 := Try.underlying72
  a53 := Try.isAgg72
  z53 := Try.sizeOf72
  v53 := Try.zeroValue72
  t131 := Try.underlying55
  a131 := Try.isAgg55
  z131 := Try.sizeOf55
  v131 := Try.zeroValue55
  t182 := Try.underlying62
  a182 := Try.isAgg62
  z182 := Try.sizeOf62
  v182 := Try.zeroValue62
  t183 := Try.underlying63
  a183 := Try.isAgg63
  z183 := Try.sizeOf63
  v183 := Try.zeroValue63
  t218 := Try.underlying73
  a218 := Try.isAgg73
  z218 := Try.sizeOf73
  v218 := Try.zeroValue73
  t222 := Try.underlying77
  a222 := Try.isAgg77
  z222 := Try.sizeOf77
  v222 := Try.zeroValue77
  t228 := Try.underlying79
  a228 := Try.isAgg79
  z228 := Try.sizeOf79
  v228 := Try.zeroValue79
  t229 := Try.underlying80
  a229 := Try.isAgg80
  z229 := Try.sizeOf80
  v229 := Try.zeroValue80 }
end Go.Proofs
namespace Go.Proofs.Ytjkindoedkjnbaa
open Go.RowKit Go.Sort Go.Shelf
theorem sort_int (blk off cap : Nat) (zs : List Int) (w : World) (hH : Holds (Value.int .i64) w blk off zs.toArray) (hblk : blk < w.heap.size) (hsz : zs.length < 4611686018427387904) :
    Calls Try.prog 49 #[.slice (some ⟨blk, off, none⟩) zs.length cap] w fun e w' => e = .returned (.tuple #[]) ∧ ∃ n os, w' = grow (putRow (Value.int .i64) (Sort.ahead w n) blk off (zs.mergeSort fun x y => decide (x ≤ y)).toArray) os := Any.slices_Sort_int Try.laysSort blk off cap zs w hH hblk hsz
theorem sort_none (p : Option Addr) (cap : Nat) (w : World) :
    Calls Try.prog 49 #[.slice p 0 cap] w fun e w' => e = .returned (.tuple #[]) ∧ w' = w := Any.slices_Sort_int_none Try.laysSort p cap w
open Go.Proofs.YtjkindoedkjnbaaW.PrintWords
def sortL (zs : List Int) : List Int := zs.mergeSort fun x y => decide (x ≤ y)
theorem sortL_len (zs : List Int) : (sortL zs).length = zs.length := by unfold sortL; exact List.length_mergeSort _
def SortPost (base : Nat) (w : World) (v : Value) (zs : List Int) (e : Ending) (w' : World) : Prop :=
  e = .returned (.tuple #[]) ∧ w'.ownsRow base 3 1 v (sortL zs).length (encs (Value.int .i64) (sortL zs)) ∧ Below base w w'
theorem sort_own (base : Nat) (v : Value) (zs : List Int) (w : World) (h : w.ownsRow base 3 1 v zs.length (encs (Value.int .i64) zs)) (hsz : zs.length < 4611686018427387904) (hb : base ≤ w.heap.size) :
    Calls Try.prog 49 #[v] w (SortPost base w v zs) := by
  have hown := h
  obtain ⟨hl, ⟨rfl, hn⟩ | ⟨g, cap, cur, rfl, hg1, hg2, hg3, hg4, hg5, hg6⟩⟩ := h
  · refine (sort_none none 0 w).mono ?_
    rintro e w' ⟨rfl, rfl⟩
    refine ⟨rfl, ?_, Below.refl _ _⟩
    obtain rfl : zs = [] := List.length_eq_zero_iff.1 hn
    have : sortL [] = [] := by unfold sortL; simp
    rw [this]
    exact hown
  · have hgl : g < w.heap.size := by
      rcases Nat.lt_or_ge g w.heap.size with h | h
      · exact h
      · rw [Array.getElem?_eq_none h] at hg2; cases hg2
    refine (sort_int g 0 cap zs w (holds_of_blockI hg2 (by rw [Nat.mul_one] at hg6; exact hg6)) hgl hsz).mono ?_
    rintro e w' ⟨rfl, q, os, rfl⟩
    refine ⟨rfl, ?_, (Below.refl _ _).grown (grownBy_sortedI _) hb (fun k h => by cases h; exact hg1)⟩
    have := ownsRow_sortedI (ts := sortL zs) (w := w) (n := q) (os := os) (sortL_len zs) hg1 hg2 hg3 hg4 hg5
    rw [sortL_len]
    exact this
end Go.Proofs.Ytjkindoedkjnbaa
