/- Texts of this work, put into one: DagEq, DagSort, DagWay, DagPreds, DagLongA, DagLong, DagBefore, DagAwake, DagFacts, DagPaths, DagCycle, DagFar, DagFewer, DagReach, DagRel, DagOpen. -/
import Derived.Test.YtnnbgfjokbaepaaMDagA
import Derived.Deep.QuietTactic
import Derived.BigQuiet
import Derived.Shelf.Sort.Plain
import Derived.Shelf.Slices.In.SortNone
import Derived.Sort.OwnSortedInts
import Derived.Ground.NamesProg
import Derived.Test.YtnnbgfjokbaepaaRows
import Derived.Lib.SmallJoins
import Derived.Deep.SlicePairs
import Derived.OpenShut
import Derived.ChangeOld
import Derived.ProofKit

/- slices.Equal at []int and at edges; dag.Same. -/
set_option linter.unusedVariables false
set_option linter.unusedSimpArgs false
namespace Go.Proofs.Ytnnbgfjokbaepaa
open Go.RowKit Go.Sort
open Go.Proofs.YtnnbgfjokbaepaaW.PrintWords
open DagPlain

theorem list_eq_of {l m : List Int} (h : l.length = m.length) (hk : ∀ k, k < l.length → l.getD k 0 = m.getD k 0) : l = m := by
  apply List.ext_getElem h
  intro k h1 h2
  have := hk k h1
  rw [List.getD_eq_getElem?_getD, List.getD_eq_getElem?_getD, List.getElem?_eq_getElem h1, List.getElem?_eq_getElem h2] at this
  exact this
theorem edges_eq_of {l m : List (Int × Int)} (h : l.length = m.length) (hk : ∀ k, k < l.length → l.getD k (0, 0) = m.getD k (0, 0)) : l = m := by
  apply List.ext_getElem h
  intro k h1 h2
  have := hk k h1
  rw [List.getD_eq_getElem?_getD, List.getD_eq_getElem?_getD, List.getElem?_eq_getElem h1, List.getElem?_eq_getElem h2] at this
  exact this

end Go.Proofs.Ytnnbgfjokbaepaa


/- slices.Sort at []int: the shelf's contract, laid at this program. -/
set_option linter.unusedVariables false
set_option linter.unusedSimpArgs false
namespace Go.Proofs
open Go.Shelf
def Try.laysSort_ren : Go.Shelf.Ren := ⟨fun | 189 => 69 | 125 => 71 | 257 => 70 | 128 => 81 | 129 => 82 | 294 => 72 | 295 => 73 | 296 => 74 | 297 => 75 | 298 => 76 | 299 => 77 | 216 => 78 | 300 => 79 | 301 => 80 | 328 => 83 | 329 => 84 | 330 => 85 | 331 => 86 | 332 => 87 | 215 => 88 | 343 => 89 | n => n, fun | 28 => 22 | 3 => 3 | 46 => 94 | 0 => 0 | 51 => 103 | 53 => 105 | 4 => 4 | 183 => 97 | 182 => 96 | 131 => 90 | 5 => 5 | 9 => 9 | 218 => 106 | 222 => 110 | 228 => 112 | 229 => 113 | n => n, fun | n => n⟩
theorem Try.laysSort : Go.Proofs.Lays.n189 Try.prog Try.laysSort_ren := {
  mixed := by kernel_rfl
  f125 := Try.func71.trans (congrArg some (by kernel_rfl))
  f128 := Try.func81.trans (congrArg some (by kernel_rfl))
  f129 := Try.func82.trans (congrArg some (by kernel_rfl))
  f189 := Try.func69.trans (congrArg some (by kernel_rfl))
  f215 := Try.func88.trans (congrArg some (by kernel_rfl))
  f216 := Try.func78.trans (congrArg some (by kernel_rfl))
  f257 := Try.func70.trans (congrArg some (by kernel_rfl))
  f294 := Try.func72.trans (congrArg some (by kernel_rfl))
  f295 := Try.func73.trans (congrArg some (by kernel_rfl))
  f296 := Try.func74.trans (congrArg some (by kernel_rfl))
  f297 := Try.func75.trans (congrArg some (by kernel_rfl))
  f298 := Try.func76.trans (congrArg some (by kernel_rfl))
  f299 := Try.func77.trans (congrArg some (by kernel_rfl))
  f300 := Try.func79.trans (congrArg some (by kernel_rfl))
  f301 := Try.func80.trans (congrArg some (by kernel_rfl))
  f328 := Try.func83.trans (congrArg some (by kernel_rfl))
  f329 := Try.func84.trans (congrArg some (by kernel_rfl))
  f330 := Try.func85.trans (congrArg some (by kernel_rfl))
  f331 := Try.func86.trans (congrArg some (by kernel_rfl))
  f332 := Try.func87.trans (congrArg some (by kernel_rfl))
  f343 := Try.func89.trans (congrArg some (by kernel_rfl))
  t0 := Try.underlying0
  a0 := Try.isAgg0
  z0 := Try.sizeOf0
  v0 := Try.zeroValue0
  t3 := Try.underlying3
  a3 := Try.isAgg3
  z3 := Try.sizeOf3
  v3 := Try.zeroValue3
  t4 := Try.underlying4
  a4 := Try.isAgg4
  z4 := Try.sizeOf4
  v4 := Try.zeroValue4
  t5 := Try.underlying5
  a5 := Try.isAgg5
  z5 := Try.sizeOf5
  v5 := Try.zeroValue5
  t9 := Try.underlying9
  a9 := Try.isAgg9
  z9 := Try.sizeOf9
  v9 := Try.zeroValue9
  t28 := Try.underlying22
  a28 := Try.isAgg22
  z28 := Try.sizeOf22
  v28 := Try.zeroValue22
  t46 := Try.underlying94
  a46 := Try.isAgg94
  z46 := Try.sizeOf94
  v46 := Try.zeroValue94
  t51 := Try.underlying103
  a51 := Try.isAgg103
  z51 := Try.sizeOf103
  v51 := Try.zeroValue103
  t53 := Try.underlying105
  a53 := Try.isAgg105
  z53 := Try.sizeOf105
  v53 := Try.zeroValue105
  t131 := Try.underlying90
  a131 := Try.isAgg90
  z131 := Try.sizeOf90
  v131 := Try.zeroValue90
  t182 := Try.underlying96
  a182 := Try.isAgg96
  z182 := Try.sizeOf96
  v182 := Try.zeroValue96
  t183 := Try.underlying97
  a183 := Try.isAgg97
  z183 := Try.sizeOf97
  v183 := Try.zeroValue97
  t218 := Try.underlying106
  a218 := Try.isAgg106
  z218 := Try.sizeOf106
  v218 := Try.zeroValue106
  t222 := Try.underlying110
  a222 := Try.isAgg110
  z222 := Try.sizeOf110
  v222 := Try.zeroValue110
  t228 := Try.underlying112
  a228 := Try.isAgg112
  z228 := Try.sizeOf112
  v228 := Try.zeroValue112
  t229 := Try.underlying113
  a229 := Try.isAgg113
  z229 := Try.sizeOf113
  v229 := Try.zeroValue113 }
end Go.Proofs
namespace Go.Proofs.Ytnnbgfjokbaepaa
open Go.RowKit Go.Sort Go.Shelf
theorem sort_int (blk off cap : Nat) (zs : List Int) (w : World) (hH : Holds (Value.int .i64) w blk off zs.toArray) (hblk : blk < w.heap.size) (hsz : zs.length < 4611686018427387904) :
    Calls Try.prog 69 #[.slice (some ⟨blk, off, none⟩) zs.length cap] w fun e w' => e = .returned (.tuple #[]) ∧ ∃ n os, w' = grow (putRow (Value.int .i64) (Sort.ahead w n) blk off (zs.mergeSort fun x y => decide (x ≤ y)).toArray) os := Any.slices_Sort_int Try.laysSort blk off cap zs w hH hblk hsz
theorem sort_none (p : Option Addr) (cap : Nat) (w : World) :
    Calls Try.prog 69 #[.slice p 0 cap] w fun e w' => e = .returned (.tuple #[]) ∧ w' = w := Any.slices_Sort_int_none Try.laysSort p cap w
open Go.Proofs.YtnnbgfjokbaepaaW.PrintWords
def sortL (zs : List Int) : List Int := zs.mergeSort fun x y => decide (x ≤ y)
theorem sortL_len (zs : List Int) : (sortL zs).length = zs.length := by unfold sortL; exact List.length_mergeSort _
def SortPost (base : Nat) (w : World) (v : Value) (zs : List Int) (e : Ending) (w' : World) : Prop :=
  e = .returned (.tuple #[]) ∧ w'.ownsRow base 3 1 v (sortL zs).length (encs (Value.int .i64) (sortL zs)) ∧ Below base w w'
theorem sort_own (base : Nat) (v : Value) (zs : List Int) (w : World) (h : w.ownsRow base 3 1 v zs.length (encs (Value.int .i64) zs)) (hsz : zs.length < 4611686018427387904) (hb : base ≤ w.heap.size) :
    Calls Try.prog 69 #[v] w (SortPost base w v zs) := by
  have hown := h
  obtain ⟨hl, ⟨rfl, hn⟩ | ⟨g, cap, cur, rfl, hg1, hg2, hg3, hg4, hg5, hg6⟩⟩ := h
  · refine (sort_none none 0 w).mono ?_
    rintro e w' ⟨rfl, rfl⟩
    refine ⟨rfl, ?_, Below.refl _ _⟩
    obtain rfl : zs = [] := List.length_eq_zero_iff.1 hn
    have : sortL [] = [] := by unfold sortL; simp
    rw [this]
    exact hown
  · have hgl : g < w.heap.size := by
      rcases Nat.lt_or_ge g w.heap.size with h | h
      · exact h
      · rw [Array.getElem?_eq_none h] at hg2; cases hg2
    refine (sort_int g 0 cap zs w (holds_of_blockI hg2 (by rw [Nat.mul_one] at hg6; exact hg6)) hgl hsz).mono ?_
    rintro e w' ⟨rfl, q, os, rfl⟩
    refine ⟨rfl, ?_, (Below.refl _ _).grown (grownBy_sortedI _) hb (fun k h => by cases h; exact hg1)⟩
    have := ownsRow_sortedI (ts := sortL zs) (w := w) (n := q) (os := os) (sortL_len zs) hg1 hg2 hg3 hg4 hg5
    rw [sortL_len]
    exact this
end Go.Proofs.Ytnnbgfjokbaepaa


/- dag.way with the two tests; dag.preds, dag.Preds, dag.Succs. -/
set_option linter.unusedVariables false
set_option linter.unusedSimpArgs false
namespace Go.Proofs.Ytnnbgfjokbaepaa
open Go.RowKit Go.Sort
open Go.Proofs.YtnnbgfjokbaepaaW.PrintWords
open DagPlain

def predRaw (n : Int) (es : List (Int × Int)) : List Int := (es.filter fun e => e.2 == n).map (·.1)
def predL (n : Int) (es : List (Int × Int)) : List Int := sortL (predRaw n es)
theorem pred_snoc (n : Int) (es : List (Int × Int)) (k : Nat) (h : k < es.length) : predRaw n (es.take (k + 1)) = predRaw n (es.take k) ++ if (es.getD k (0, 0)).2 == n then [(es.getD k (0, 0)).1] else [] := by
  rw [List.getD_eq_getElem?_getD, List.getElem?_eq_getElem h, List.take_add_one, List.getElem?_eq_getElem h]
  unfold predRaw
  simp only [Option.toList_some, List.filter_append, List.map_append, Option.getD_some]
  congr 1
  by_cases hh : es[k].2 == n
  · simp [hh]
  · simp [hh]
theorem pred_len (n : Int) (es : List (Int × Int)) : (predRaw n es).length ≤ es.length := by
  unfold predRaw
  rw [List.length_map]
  exact List.length_filter_le _ _
set_option maxHeartbeats 400000 in
theorem predC_any (p : Addr) (f t n : Int) (w : World) (hc : w.cell? p = some (.int .i64 n)) :
    Calls Try.prog 63 #[.agg #[.int .i64 f, .int .i64 t], .pointer (some p)] w fun e w' => e = .returned (.tuple #[.int .i64 f, .bool (t == n)]) ∧ Below w.heap.size w w' := by
  have hcl := block_lt_of_cell hc
  have hb : Below w.heap.size w (w.alloc (Obj.cells #[.int .i64 f, .int .i64 t] 45)) := (Below.refl _ _).alloc (Nat.le_refl _) _
  go_enter Try.func63, Try.ntmps63
  go_wp2
  obtain ⟨W, hW⟩ : ∃ W, W = w.alloc (Obj.cells #[.int .i64 f, .int .i64 t] 45) := ⟨_, rfl⟩
  have hf0 : W.cell? ⟨w.heap.size, 0, none⟩ = some (.int .i64 f) := by rw [hW]; simp
  have ht0 : W.cell? ⟨w.heap.size, 1, none⟩ = some (.int .i64 t) := by rw [hW]; simp
  rw [← hW] at hb ⊢
  have hn0 : W.cell? p = some (.int .i64 n) := by rw [hb.cell hcl]; exact hc
  clear hW hc hcl
  have HB := Lib.hid hb
  clear hb
  go_quiet (fail)
  go_wp2
  go_ret2
  exact ⟨rfl, below_drewN HB.out nq⟩

set_option maxHeartbeats 2000000 in
theorem predW_any (A : Option Addr) (n c : Nat) (B : Option Addr) (d : Nat) (es : List (Int × Int)) (p : Addr) (x : Int) (w : World) (hm1 : es.length ≤ 1000) (hE : EdR w B es) (hc : w.cell? p = some (.int .i64 x)) :
    Calls Try.prog 62 #[.agg #[.slice A n c, .slice B es.length d], .func (Fn.func 63) #[] #[.pointer (some p)]] w (SlicePost w (predL x es)) := by
  have HC := Lib.hid hc
  have HE := Lib.hid hE
  have HPL := Lib.hid (pred_len x es)
  obtain ⟨j0, ki, kz0, kz1, kz2⟩ := info_parts info3'
  clear hc hE
  have C1 := Lib.hid (fun f t w1 h => predC_any p f t x w1 h)
  have CS := Lib.hid (fun v zs w1 h h1 h2 => sort_own w.heap.size v zs w1 h h1 h2)
  go_enter Try.func62, Try.ntmps62
  go_wp2_with fail
  obtain ⟨w0, hw0⟩ : ∃ w0, w0 = w.alloc (Obj.cells #[.slice A n c, .slice B es.length d] 25) := ⟨_, rfl⟩
  have HB0 : Hid (Below w.heap.size w w0) := by show Below w.heap.size w w0; rw [hw0]; exact (Below.refl _ _).alloc (Nat.le_refl _) _
  rw [← hw0]
  clear hw0
  go_loopw [5, 13] (fun v i wr => ∃ (k : Nat) (v0 : Value), k ≤ es.length ∧ v0 = v ∧ i = .int .i64 k ∧ Hid (wr.ownsRow w.heap.size 3 1 v0 (predRaw x (es.take k)).length (encs (Value.int .i64) (predRaw x (es.take k)))) ∧ Hid (Below w.heap.size w wr)) (fun _ i _ => es.length - (intOf i).toNat)
  case atStart => exact ⟨0, _, Nat.zero_le _, rfl, rfl, own_nil _ _ _ _, HB0⟩
  case round =>
    clear HB0
    obtain ⟨k, v0, hk, rfl, rfl, HO, HBW⟩ := hrel
    by_cases hlt : k < es.length
    · obtain ⟨ad, rfl, hcs⟩ := (HE.out.below HBW.out) (by omega)
      obtain ⟨hr1, hr2⟩ := hcs k hlt
      have HSN := Lib.hid (pred_snoc x es k hlt)
      have hl0 := pred_len x (es.take k)
      rw [List.length_take] at hl0
      have hlen : (predRaw x (es.take k)).length ≤ 1000 := by omega
      generalize predRaw x (es.take k) = zs at *
      obtain ⟨⟨f, t⟩, hft⟩ : ∃ e, e = es.getD k (0, 0) := ⟨_, rfl⟩
      rw [← hft] at hr1 hr2 HSN
      dsimp only at hr1 hr2 HSN
      clear hft hcs hl0
      have hb0 : ∀ o, Below wr.heap.size wr (wr.alloc o) := fun o => (Below.refl _ _).alloc (Nat.le_refl _) _
      have HBA := Lib.hid (fun o => HBW.out.trans ((hb0 o).mono HBW.out.size))
      have HBA2 := Lib.hid hb0
      clear hb0
      cases hcmp : (t == x) with
      | false =>
        rw [hcmp] at HSN
        have HZ : Hid (predRaw x (es.take (k + 1)) = zs) := by show _ = zs; rw [HSN.out]; simp
        go_wp2_with fail
        refine (C1.out f t _ (by rw [(HBA.out _).cell (block_lt_of_cell HC.out)]; exact HC.out)).mono ?_
        rw [hcmp]
        clear hcmp
        rintro e w2 ⟨rfl, hb⟩
        have HB2 : Hid (Below w.heap.size w w2) := (HBA.out _).trans (hb.mono (HBA.out _).size)
        have HO2 : Hid (w2.ownsRow w.heap.size 3 1 v0 zs.length (encs (Value.int .i64) zs)) := own_move HO.out (fun q hq => by
          have := own_lt HO.out q hq
          rw [hb.block q (by simp; omega), (HBA2.out _).block q this])
        clear hb
        go_wp2_with fail
        go_roundw
        case rel => exact ⟨k + 1, v0, by omega, rfl, by go_num, by rw [HZ.out]; exact HO2, HB2⟩
        case measure => simp [intOf]; omega
      | true =>
        rw [hcmp] at HSN
        have HZ : Hid (predRaw x (es.take (k + 1)) = zs ++ [f]) := by show _ = zs ++ _; rw [HSN.out]; simp
        go_wp2_with fail
        refine (C1.out f t _ (by rw [(HBA.out _).cell (block_lt_of_cell HC.out)]; exact HC.out)).mono ?_
        rw [hcmp]
        clear hcmp
        rintro e w2 ⟨rfl, hb⟩
        have HB2 : Hid (Below w.heap.size w w2) := (HBA.out _).trans (hb.mono (HBA.out _).size)
        have HO2 : Hid (w2.ownsRow w.heap.size 3 1 v0 zs.length (encs (Value.int .i64) zs)) := own_move HO.out (fun q hq => by
          have := own_lt HO.out q hq
          rw [hb.block q (by simp; omega), (HBA2.out _).block q this])
        clear hb
        go_wp2_with (at_builtin; refine wpList_append_own _ rfl _ _ 22 rfl w.heap.size 3 j0 (.int .i64 0) 1 8 Try.underlying22 ki kz0 kz1 kz2 rfl (by decide) v0 zs.length _ rfl (HO2.out.alloc _) ⟨w2.heap.size, 0, none⟩ 1 1 [.int .i64 f] rfl rfl (cell_one_new _ _ _) (by simp [Value.oneCell']) (by unfold maxLen; omega) (by omega) (by have := HB2.out.size; simp; omega) ?_)
        intro v3 w3 hown3 hgrow3 _
        have HO3 : Hid (w3.ownsRow w.heap.size 3 1 v3 (predRaw x (es.take (k + 1))).length (encs (Value.int .i64) (predRaw x (es.take (k + 1))))) := by
          rw [HZ.out, List.length_append, encs_append]; exact hown3
        have HB3 : Hid (Below w.heap.size w w3) := (HB2.out.alloc HB2.out.size _).grown hgrow3 (by have := HB2.out.size; simp; omega) (fun q hq => own_base HO2.out q hq)
        clear hown3 hgrow3
        go_wp2_with fail
        go_roundw
        case rel => exact ⟨k + 1, v3, by omega, rfl, by go_num, HO3, HB3⟩
        case measure => simp [intOf]; omega
    · obtain rfl : k = es.length := by omega
      have HO2 : Hid (wr.ownsRow w.heap.size 3 1 v0 (predRaw x es).length (encs (Value.int .i64) (predRaw x es))) := by
        have := HO.out
        rw [List.take_length] at this
        exact this
      have hlen : (predRaw x es).length ≤ es.length := HPL.out
      have HLL : Hid (predL x es = sortL (predRaw x es)) := rfl
      clear HO
      generalize predRaw x es = zs at *
      go_wp2_with fail
      refine (CS.out v0 zs wr HO2.out (by omega) HBW.out.size).mono ?_
      rintro e w2 ⟨rfl, hown, hb⟩
      have HB3 : Hid (Below w.heap.size w w2) := HBW.out.trans hb
      have HO3 := Lib.hid hown
      clear hown hb
      go_wp2_with fail
      go_ret
      unfold SlicePost
      rw [HLL.out]
      exact ⟨_, rfl, HO3.out, HB3.out⟩

def succRaw (n : Int) (es : List (Int × Int)) : List Int := (es.filter fun e => e.1 == n).map (·.2)
def succL (n : Int) (es : List (Int × Int)) : List Int := sortL (succRaw n es)
theorem succ_snoc (n : Int) (es : List (Int × Int)) (k : Nat) (h : k < es.length) : succRaw n (es.take (k + 1)) = succRaw n (es.take k) ++ if (es.getD k (0, 0)).1 == n then [(es.getD k (0, 0)).2] else [] := by
  rw [List.getD_eq_getElem?_getD, List.getElem?_eq_getElem h, List.take_add_one, List.getElem?_eq_getElem h]
  unfold succRaw
  simp only [Option.toList_some, List.filter_append, List.map_append, Option.getD_some]
  congr 1
  by_cases hh : es[k].1 == n
  · simp [hh]
  · simp [hh]
theorem succ_len (n : Int) (es : List (Int × Int)) : (succRaw n es).length ≤ es.length := by
  unfold succRaw
  rw [List.length_map]
  exact List.length_filter_le _ _
end Go.Proofs.Ytnnbgfjokbaepaa


/- dag.preds, dag.Preds, dag.Succs. -/
set_option linter.unusedVariables false
set_option linter.unusedSimpArgs false
namespace Go.Proofs.Ytnnbgfjokbaepaa
open Go.RowKit Go.Sort
open Go.Proofs.YtnnbgfjokbaepaaW.PrintWords
open DagPlain

set_option maxHeartbeats 1000000 in
theorem preds_any (A : Option Addr) (n c : Nat) (B : Option Addr) (d : Nat) (es : List (Int × Int)) (x : Int) (w : World) (hm1 : es.length ≤ 1000) (hE : EdR w B es) :
    Calls Try.prog 44 #[.agg #[.slice A n c, .slice B es.length d], .int .i64 x] w (SlicePost w (predL x es)) := by
  have C1 := Lib.hid (fun p w1 h1 h2 => predW_any A n c B d es p x w1 hm1 h1 h2)
  have HE := Lib.hid hE
  clear hE
  have hb0 : ∀ o o', Below w.heap.size w ((w.alloc o).alloc o') := fun o o' => ((Below.refl _ _).alloc (Nat.le_refl _) _).alloc (by simp) _
  have HB0 := Lib.hid hb0
  clear hb0
  go_enter Try.func44, Try.ntmps44
  go_wp2_with fail
  refine (C1.out _ _ (HE.out.below (HB0.out _ _)) (by simp)).mono ?_
  rintro e w1 ⟨v, rfl, hown, hb⟩
  have HB1 : Hid (Below w.heap.size w w1) := (HB0.out _ _).trans (hb.mono (HB0.out _ _).size)
  have HO1 := Lib.hid (own_weaken hown (HB0.out _ _).size)
  clear hown hb
  go_wp2_with fail
  go_ret
  exact ⟨_, rfl, HO1.out, HB1.out⟩
def predsR (x : Int) (l : List Int) (es : List (Int × Int)) : List Int := if checkL l es = 0 then predL x es else []
def succsR (x : Int) (l : List Int) (es : List (Int × Int)) : List Int := if checkL l es = 0 then succL x es else []
end Go.Proofs.Ytnnbgfjokbaepaa


/- dag.Long: what it computes, and the state of its making. -/
set_option linter.unusedVariables false
set_option linter.unusedSimpArgs false
namespace Go.Proofs.Ytnnbgfjokbaepaa
open Go.RowKit Go.Sort
open Go.Proofs.YtnnbgfjokbaepaaW.PrintWords
open DagPlain

def stepP (n : Int) (F : List Int) (p : Int) : List Int := F.set n.toNat (max (F.getD n.toNat 0) (F.getD p.toNat 0))
def stepF (l : List Int) (es : List (Int × Int)) (F : List Int) (n : Int) : List Int := ((predL n es).foldl (stepP n) F).set n.toNat (((predL n es).foldl (stepP n) F).getD n.toNat 0 + l.getD n.toNat 0)
def stepM (l : List Int) (es : List (Int × Int)) (F : List Int) (mo : Int) (n : Int) : Int := max mo ((stepF l es F n).getD n.toNat 0)
def stepN (l : List Int) (es : List (Int × Int)) (s : List Int × Int) (n : Int) : List Int × Int := (stepF l es s.1 n, stepM l es s.1 s.2 n)
def longL (l : List Int) (es : List (Int × Int)) : Int := ((ordL l es).foldl (stepN l es) (List.replicate l.length 0, 0)).2

theorem foldl_snoc {α : Type} (f : α → Int → α) (s : α) (l : List Int) (k : Nat) (h : k < l.length) : (l.take (k + 1)).foldl f s = f ((l.take k).foldl f s) (l.getD k 0) := by
  rw [List.getD_eq_getElem?_getD, List.getElem?_eq_getElem h, List.take_add_one, List.getElem?_eq_getElem h]
  simp only [Option.toList_some, List.foldl_append, List.foldl_cons, List.foldl_nil, Option.getD_some]
theorem orderGo_in {n : Nat} {es : List (Int × Int)} : ∀ (g : Nat) (out r : List Int), orderGo n es g out = some r → (∀ x ∈ out, 0 ≤ x ∧ x < n) → r.length = out.length + g ∧ ∀ x ∈ r, 0 ≤ x ∧ x < n
  | 0, out, r, h, ho => by
    simp only [orderGo, Option.some.injEq] at h
    subst h
    exact ⟨rfl, ho⟩
  | g + 1, out, r, h, ho => by
    simp only [orderGo] at h
    split at h
    · rename_i v hv
      have hvn : v < n := by
        unfold next at hv
        have := List.mem_of_find?_eq_some hv
        simpa using this
      obtain ⟨h1, h2⟩ := orderGo_in g _ r h (by
        intro x hx
        rw [List.mem_append] at hx
        rcases hx with hx | hx
        · exact ho x hx
        · simp at hx; omega)
      exact ⟨by rw [h1]; simp; omega, h2⟩
    · cases h
theorem ordL_in {l : List Int} {es : List (Int × Int)} (h : ordL l es ≠ []) : (∀ x ∈ ordL l es, 0 ≤ x ∧ x < l.length) ∧ (ordL l es).length ≤ 64 ∧ (∀ y, ∀ p ∈ predL y es, 0 ≤ p ∧ p < l.length) ∧ ∀ i : Nat, 0 ≤ l.getD i 0 ∧ l.getD i 0 ≤ 1000 := by
  unfold ordL at h ⊢
  split at h
  · rename_i hz
    rw [if_pos hz]
    obtain ⟨y1, y2, y3, y4, y5⟩ := ordL_yes hz
    obtain ⟨r, hr⟩ := Option.isSome_iff_exists.1 y5
    rw [hr]
    obtain ⟨h1, h2⟩ := orderGo_in _ _ _ hr (by simp)
    refine ⟨h2, by simp at h1 ⊢; omega, ?_, ?_⟩
    · intro y p hp
      unfold predL sortL at hp
      rw [List.mem_mergeSort] at hp
      unfold predRaw at hp
      rw [List.mem_map] at hp
      obtain ⟨e, he, rfl⟩ := hp
      exact (oddEs_in y3 e (List.mem_filter.1 he).1).1
    · intro i
      by_cases hi : i < l.length
      · rw [List.getD_eq_getElem?_getD, List.getElem?_eq_getElem hi]
        have := List.any_eq_false.1 y4 l[i] (List.getElem_mem hi)
        unfold oddW at this
        simp at this
        simp
        omega
      · rw [List.getD_eq_getElem?_getD, List.getElem?_eq_none (by omega)]; simp
  · exact absurd rfl h

/-- The state: the numbers so far, in the call's own row behind the box. -/
def LS (w : World) (A : Option Addr) (n c : Nat) (B : Option Addr) (m d : Nat) (F : List Int) (wr : World) : Prop :=
  Below w.heap.size w wr ∧ w.heap.size + 1 < wr.heap.size ∧ wr.cell? ⟨w.heap.size, 0, none⟩ = some (.slice A n c) ∧ wr.cell? ⟨w.heap.size, 1, none⟩ = some (.slice B m d) ∧
  wr.ownsRow w.heap.size 3 1 (.slice (some ⟨w.heap.size + 1, 0, none⟩) n n) n (encs (Value.int .i64) F)
theorem LS.below {w : World} {A : Option Addr} {n c : Nat} {B : Option Addr} {m d : Nat} {F : List Int} {wr wr' : World} (h : LS w A n c B m d F wr) (hb : Below wr.heap.size wr wr') : LS w A n c B m d F wr' := by
  obtain ⟨h1, h2, h3, h4, h5⟩ := h
  have := hb.size
  exact ⟨h1.trans (hb.mono h1.size), by omega, by rw [hb.cell (by show w.heap.size < _; omega)]; exact h3, by rw [hb.cell (by show w.heap.size < _; omega)]; exact h4, own_move h5 (fun q hq => hb.block q (own_lt h5 q hq))⟩
theorem LS.at_ {w : World} {A : Option Addr} {n c : Nat} {B : Option Addr} {m d : Nat} {F : List Int} {wr : World} (h : LS w A n c B m d F wr) (i : Nat) (hi : i < n) :
    wr.cell? ⟨w.heap.size + 1, i, none⟩ = some (.int .i64 (F.getD i 0)) ∧ wr.frozen? ⟨w.heap.size + 1, i, none⟩ = false :=
  own_at_of (d := (0 : Int)) (enc := Value.int .i64) h.2.2.2.2 (i : Int) (by omega) (by omega)
theorem LS.set {w : World} {A : Option Addr} {n c : Nat} {B : Option Addr} {m d : Nat} {F : List Int} {wr : World} (h : LS w A n c B m d F wr) (i : Nat) (x : Int) :
    LS w A n c B m d (F.set i x) (wr.setCell ⟨w.heap.size + 1, i, none⟩ (.int .i64 x)) := by
  obtain ⟨h1, h2, h3, h4, h5⟩ := h
  refine ⟨h1.setCell (p := ⟨w.heap.size + 1, i, none⟩) (by show w.heap.size ≤ w.heap.size + 1; omega) _, by simpa using h2, ?_, ?_, (own_store_of (enc := Value.int .i64) h5 (i : Int) x).1⟩
  · rw [World.cell?_setCell_other _ _ _ _ (by intro e; have := congrArg Addr.block e; simp at this)]; exact h3
  · rw [World.cell?_setCell_other _ _ _ _ (by intro e; have := congrArg Addr.block e; simp at this)]; exact h4
theorem LS.size {w : World} {A : Option Addr} {n c : Nat} {B : Option Addr} {m d : Nat} {F : List Int} {wr : World} (h : LS w A n c B m d F wr) : F.length = n := by
  have := h.2.2.2.2.1
  simpa [encs] using this
/-- A row that is read, not the own one. -/
def RX (g : Nat) (wr : World) (A : Option Addr) (r : List Int) : Prop := ReadsInt wr .i64 A r.length r ∧ ∀ a, A = some a → a.block ≠ g
theorem RX.below {g : Nat} {wr wr' : World} {A : Option Addr} {r : List Int} (h : RX g wr A r) (hb : Below wr.heap.size wr wr') : RX g wr' A r := ⟨h.1.below hb, h.2⟩
theorem RX.set {g : Nat} {wr : World} {A : Option Addr} {r : List Int} (h : RX g wr A r) (i : Nat) (x : Value) : RX g (wr.setCell ⟨g, i, none⟩ x) A r := by
  refine ⟨⟨h.1.1, h.1.2.1, fun h0 => ?_⟩, h.2⟩
  obtain ⟨ad, rfl, hc⟩ := h.1.2.2 h0
  refine ⟨ad, rfl, fun j hj => ?_⟩
  rw [World.cell?_setCell_other _ _ _ _ (by intro e; exact h.2 ad rfl ((show (ad.add j).block = ad.block by unfold Addr.add; split <;> rfl).symm.trans (congrArg Addr.block e).symm))]
  exact hc j hj
theorem LS.drew {w : World} {A : Option Addr} {n c : Nat} {B : Option Addr} {m d : Nat} {F : List Int} {wr : World} (h : LS w A n c B m d F wr) : LS w A n c B m d F wr.drew := h.below ⟨rfl, rfl, rfl, Nat.le_refl _, fun _ _ => rfl⟩
theorem RX.drew {g : Nat} {wr : World} {A : Option Addr} {r : List Int} (h : RX g wr A r) : RX g wr.drew A r := h.below ⟨rfl, rfl, rfl, Nat.le_refl _, fun _ _ => rfl⟩
theorem getD_set (F : List Int) (i j : Nat) (x : Int) : (F.set i x).getD j 0 = if i = j ∧ i < F.length then x else F.getD j 0 := by
  rw [List.getD_eq_getElem?_getD, List.getD_eq_getElem?_getD, List.getElem?_set]
  by_cases h : i = j
  · subst h
    by_cases h2 : i < F.length
    · simp [h2]
    · simp [h2]
  · simp [h]
theorem RX.of {w' : World} {v : Value} {base g : Nat} {r : List Int} (h : w'.ownsRow base 3 1 v r.length (encs (Value.int .i64) r)) (hg : g < base) : ∃ A c, v = .slice A r.length c ∧ RX g w' A r := by
  obtain ⟨A, c, rfl, hr⟩ := own_reads (k := .i64) h
  exact ⟨A, c, rfl, hr, fun a ha => by have := own_base h a.block (by rw [ha]; rfl); omega⟩
theorem LS.start {w w1 : World} {A : Option Addr} {n c : Nat} {B : Option Addr} {m d : Nat} {ty : TypeId} (hown : w1.ownsRow w.heap.size 3 1 (.slice (some ⟨w.heap.size + 1, 0, none⟩) n n) n (madeCells #[Value.int .i64 0] n).toList)
    (hgrow : (w.alloc (Obj.cells #[Value.slice A n c, Value.slice B m d] ty)).grownBy w1 none) : LS w A n c B m d (List.replicate n 0) w1 := by
  have hb0 : w1.heap[w.heap.size]? = (w.alloc (Obj.cells #[Value.slice A n c, Value.slice B m d] ty)).heap[w.heap.size]? := hgrow.block _ (by simp) (by intro h; cases h)
  have hh : (w.alloc (Obj.cells #[Value.slice A n c, Value.slice B m d] ty)).heap[w.heap.size]? = some (Obj.cells #[Value.slice A n c, Value.slice B m d] ty) := by show (w.heap.push _)[w.heap.size]? = _; simp
  have hlt := own_lt hown (w.heap.size + 1) rfl
  refine ⟨((Below.refl _ _).alloc (Nat.le_refl _) _).grown hgrow (by simp) (fun k h => by cases h), hlt, ?_, ?_, ?_⟩
  · rw [World.cell?_of_block hb0]; simp only [World.cell?]; rw [hh]; rfl
  · rw [World.cell?_of_block hb0]; simp only [World.cell?]; rw [hh]; rfl
  · have : encs (Value.int .i64) (List.replicate n 0) = (madeCells #[Value.int .i64 0] n).toList := by rw [toList_madeCells_one]; simp [encs]
    rw [this]; exact hown
end Go.Proofs.Ytnnbgfjokbaepaa


/- dag.Long. -/
set_option linter.unusedVariables false
set_option linter.unusedSimpArgs false
namespace Go.Proofs.Ytnnbgfjokbaepaa
open Go.RowKit Go.Sort
open Go.Proofs.YtnnbgfjokbaepaaW.PrintWords
open DagPlain

set_option maxHeartbeats 2000000 in
theorem Long_any (A : Option Addr) (c : Nat) (l : List Int) (B : Option Addr) (d : Nat) (es : List (Int × Int)) (w : World) (hl : ReadsInt w .i64 A l.length l) (hn1 : l.length ≤ 1000) (hm1 : es.length ≤ 1000) (hE : EdR w B es) (hcd : es.length ≤ d) :
    Calls Try.prog 27 #[.agg #[.slice A l.length c, .slice B es.length d]] w fun e w' => e = .returned (.int .i64 (longL l es)) ∧ Below w.heap.size w w' := by
  have C1 := Lib.hid (fun w1 h1 h2 => Order_any A c l B d es w1 h1 hn1 hm1 h2 hcd)
  have C2 := Lib.hid (fun x w1 h => preds_any A l.length c B d es x w1 hm1 h)
  have HE := Lib.hid hE
  have HL := Lib.hid hl
  have HIN : Hid (ordL l es ≠ [] → _) := @ordL_in l es
  have HR : Hid (longL l es = ((ordL l es).foldl (stepN l es) (List.replicate l.length 0, 0)).2) := rfl
  obtain ⟨j0, ki, kz0, kz1, kz2⟩ := info_parts info3'
  clear hE hl
  go_enter Try.func27, Try.ntmps27
  go_wp2_with (at_make; refine wpList_make_full _ rfl _ _ 22 rfl w.heap.size 3 j0 (.int .i64 0) 1 Try.underlying22 ki kz0 kz1 _ _ _ _ l.length rfl rfl rfl rfl (by rw [kz2]; omega) (by unfold maxLen; omega) (by simp) ?_)
  intro w1 hown hgrow
  have HS := Lib.hid (LS.start hown hgrow)
  obtain ⟨hb1, hb2, hc0, hc1, -⟩ := HS.out
  have HB1 := Lib.hid hb1
  clear hown hgrow hb1 hb2
  generalize ordL l es = ol at *
  go_wp2_with fail
  refine (C1.out _ (HL.out.below HB1.out) (HE.out.below HB1.out)).mono ?_
  rintro e w2 ⟨v, rfl, hown, hb⟩
  have HS2 := Lib.hid (HS.out.below hb)
  obtain ⟨A1, c1, rfl, hrx⟩ := RX.of (g := w.heap.size + 1) hown HS.out.2.1
  have HX := Lib.hid hrx
  clear hown hb hrx hc0 hc1 HS HB1
  go_wp2_with fail
  go_loopw [4, 16] (fun mo i wr => ∃ (k : Nat) (F : List Int) (m : Int), k ≤ ol.length ∧ i = .int .i64 k ∧ mo = .int .i64 m ∧ 0 ≤ m ∧ m ≤ 1000 * k ∧ Hid (∀ i : Nat, 0 ≤ F.getD i 0 ∧ F.getD i 0 ≤ 1000 * k) ∧ Hid ((ol.take k).foldl (stepN l es) (List.replicate l.length 0, 0) = (F, m)) ∧ Hid (LS w A l.length c B es.length d F wr) ∧ Hid (RX (w.heap.size + 1) wr A1 ol)) (fun _ i _ => ol.length - (intOf i).toNat)
  case atStart =>
    refine ⟨0, List.replicate l.length 0, 0, Nat.zero_le _, rfl, rfl, by omega, by omega, ?_, rfl, HS2, HX⟩
    show ∀ i : Nat, _
    intro i
    have : (List.replicate l.length (0 : Int)).getD i 0 = 0 := by simp [List.getD_eq_getElem?_getD, List.getElem?_replicate]; split <;> rfl
    rw [this]
    omega
  case round =>
    clear HS2 HX
    obtain ⟨k, F, m, hk, rfl, rfl, hm0, hm2, HF, HFO, HS, HX⟩ := hrel
    by_cases hlt : k < ol.length
    · obtain ⟨i1, i2, i3, i4⟩ := HIN.out (by intro h; rw [h] at hlt; simp at hlt)
      obtain ⟨ad, rfl, hcs⟩ := HX.out.1.2.2 (by omega)
      have hxk := hcs k hlt
      have hmem : ol.getD k 0 ∈ ol := by rw [List.getD_eq_getElem?_getD, List.getElem?_eq_getElem hlt]; exact List.getElem_mem hlt
      have hxb := i1 _ hmem
      have HSN := Lib.hid (foldl_snoc (stepN l es) (List.replicate l.length 0, 0) ol k hlt)
      rw [HFO.out] at HSN
      obtain ⟨x, hx⟩ : ∃ x, x = ol.getD k 0 := ⟨_, rfl⟩
      rw [← hx] at hxk hxb HSN
      obtain ⟨nx, rfl⟩ : ∃ nx : Nat, x = (nx : Int) := ⟨x.toNat, by omega⟩
      have hnx : nx < l.length := by omega
      have HI3 := Lib.hid (i3 (nx : Int))
      have HI4 := Lib.hid (i4 nx)
      have hpl : (predL (nx : Int) es).length ≤ 1000 := by have := pred_len (nx : Int) es; unfold predL; rw [sortL_len]; omega
      obtain ⟨hb1, hb2, hc0, hc1, -⟩ := HS.out
      have HB1 := Lib.hid hb1
      have HSF : Hid (∀ G, (predL (nx : Int) es).foldl (stepP (nx : Int)) F = G → stepN l es (F, m) (nx : Int) = (G.set nx (G.getD nx 0 + l.getD nx 0), max m ((G.set nx (G.getD nx 0 + l.getD nx 0)).getD nx 0))) := by
        show ∀ G, _
        rintro G rfl
        rfl
      clear hx hmem hcs i1 i3 i4 hb1
      go_wp2_with fail
      refine (C2.out _ _ (HE.out.below HB1.out)).mono ?_
      generalize predL (nx : Int) es = pl at *
      rintro e w3 ⟨v, rfl, hown, hb⟩
      have HS3 := Lib.hid (HS.out.below hb)
      have HX3 := Lib.hid (HX.out.below hb)
      obtain ⟨A2, c2, rfl, hrx⟩ := RX.of (g := w.heap.size + 1) hown hb2
      have HY := Lib.hid hrx
      clear hown hb hrx hc0 hc1 HS HX HB1 hxk hb2
      go_wp2_with fail
      go_loopw [24] (fun i wr => ∃ (q : Nat) (G : List Int), q ≤ pl.length ∧ i = .int .i64 q ∧ Hid (∀ i : Nat, 0 ≤ G.getD i 0 ∧ G.getD i 0 ≤ 1000 * k) ∧ Hid ((pl.take q).foldl (stepP (nx : Int)) F = G) ∧ Hid (LS w A l.length c B es.length d G wr) ∧ Hid (RX (w.heap.size + 1) wr (some ad) ol) ∧ Hid (RX (w.heap.size + 1) wr A2 pl)) (fun i _ => pl.length - (intOf i).toNat)
      case atStart => exact ⟨0, F, Nat.zero_le _, rfl, HF, rfl, HS3, HX3, HY⟩
      case round =>
        clear HS3 HX3 HY HF HFO
        obtain ⟨q, G, hq, rfl, HG, HGO, HS, HX, HY⟩ := hrel
        by_cases hlq : q < pl.length
        · obtain ⟨pd, rfl, hcs⟩ := HY.out.1.2.2 (by omega)
          have hpk := hcs q hlq
          have hmem : pl.getD q 0 ∈ pl := by rw [List.getD_eq_getElem?_getD, List.getElem?_eq_getElem hlq]; exact List.getElem_mem hlq
          have hpb := HI3.out _ hmem
          have HSN2 := Lib.hid (foldl_snoc (stepP (nx : Int)) F pl q hlq)
          rw [HGO.out] at HSN2
          obtain ⟨p, hp⟩ : ∃ p, p = pl.getD q 0 := ⟨_, rfl⟩
          rw [← hp] at hpk hpb HSN2
          obtain ⟨np, rfl⟩ : ∃ np : Nat, p = (np : Int) := ⟨p.toNat, by omega⟩
          have hnp : np < l.length := by omega
          have hgn := HS.out.at_ nx hnx
          have hgp := HS.out.at_ np hnp
          clear hp hmem hcs
          go_wp2_with fail
          obtain ⟨hgn1, hgn2⟩ := hgn
          obtain ⟨hgp1, -⟩ := hgp
          have HG1 : Hid (∀ i : Nat, 0 ≤ (stepP (nx : Int) G (np : Int)).getD i 0 ∧ (stepP (nx : Int) G (np : Int)).getD i 0 ≤ 1000 * k) := by
            show ∀ i : Nat, _
            intro i
            have h1 := HG.out i
            have h2 := HG.out nx
            have h3 := HG.out np
            unfold stepP
            rw [getD_set]
            simp only [Int.toNat_natCast]
            split <;> omega
          have HSP : Hid (stepP (nx : Int) G (np : Int) = G.set nx (max (G.getD nx 0) (G.getD np 0))) := rfl
          obtain ⟨a, ha⟩ : ∃ a, a = G.getD nx 0 := ⟨_, rfl⟩
          obtain ⟨b, hb⟩ : ∃ b, b = G.getD np 0 := ⟨_, rfl⟩
          rw [← ha] at hgn1 HSP
          rw [← hb] at hgp1 HSP
          clear ha hb
          have HS2 := Lib.hid ((HS.out.set nx (max a b)).drew)
          have HX2 := Lib.hid ((HX.out.set nx (.int .i64 (max a b))).drew)
          have HY2 := Lib.hid ((HY.out.set nx (.int .i64 (max a b))).drew)
          go_region
          go_wp2_with fail
          go_roundw
          case rel => exact ⟨q + 1, stepP (nx : Int) G (np : Int), by omega, by go_num, HG1, HSN2, by rw [HSP.out]; exact HS2, HX2, HY2⟩
          case measure => simp [intOf]; omega
        · obtain rfl : q = pl.length := by omega
          have hfin := HGO.out
          rw [List.take_length] at hfin
          have HST := HSF.out G hfin
          rw [HST] at HSN
          clear HST hfin HGO HSF
          have hgn := HS.out.at_ nx hnx
          obtain ⟨hgn1, hgn2⟩ := hgn
          obtain ⟨hb1, hb2, hc0, hc1, -⟩ := HS.out
          obtain ⟨wd, rfl, hws⟩ := (HL.out.below hb1).2.2 (by omega)
          have hwn := hws nx hnx
          have hg0 := HG.out nx
          have hl0 := HI4.out
          have HG1 : Hid (∀ i : Nat, 0 ≤ (G.set nx (G.getD nx 0 + l.getD nx 0)).getD i 0 ∧ (G.set nx (G.getD nx 0 + l.getD nx 0)).getD i 0 ≤ 1000 * ((k + 1 : Nat) : Int)) := by
            show ∀ i : Nat, _
            intro i
            have h1 := HG.out i
            rw [getD_set]
            split <;> omega
          have hgs : (G.set nx (G.getD nx 0 + l.getD nx 0)).getD nx 0 = G.getD nx 0 + l.getD nx 0 := by rw [getD_set, if_pos ⟨rfl, by rw [HS.out.size]; exact hnx⟩]
          rw [hgs] at HSN
          have HGS := Lib.hid hgs
          have HS2 := Lib.hid ((HS.out.set nx (G.getD nx 0 + l.getD nx 0)).drew)
          have HX2 := Lib.hid ((HX.out.set nx (.int .i64 (G.getD nx 0 + l.getD nx 0))).drew)
          generalize G.set nx (G.getD nx 0 + l.getD nx 0) = G2 at *
          generalize G.getD nx 0 = a at *
          generalize l.getD nx 0 = b at *
          clear hws hgs hb1 hb2
          go_wp2_with fail
          go_region
          generalize (wr.setCell ⟨w.heap.size + 1, nx, none⟩ (.int .i64 (a + b))).drew = w5 at *
          obtain ⟨hh1, -⟩ := HS2.out.at_ nx hnx
          rw [HGS.out] at hh1
          clear hgn1 hgn2 hc0 hc1 hwn
          go_wp2_with fail
          have hmx0 : 0 ≤ max m (a + b) := by omega
          have hmx1 : max m (a + b) ≤ 1000 * ((k + 1 : Nat) : Int) := by omega
          go_roundw
          case rel => exact ⟨k + 1, G2, max m (a + b), by omega, by go_num, rfl, hmx0, hmx1, HG1, HSN, HS2, HX2⟩
          case measure => simp [intOf]; omega
    · obtain rfl : k = ol.length := by omega
      have HR2 : Hid (longL l es = m) := by show longL l es = m; rw [HR.out]; have := HFO.out; rw [List.take_length] at this; rw [this]
      have HB := Lib.hid HS.out.1
      clear HR HFO HF
      go_wp2_with fail
      go_ret
      exact ⟨by rw [HR2.out]; rfl, HB.out⟩
end Go.Proofs.Ytnnbgfjokbaepaa


/- slices.Index and slices.Contains at []int; dag.Before. -/
set_option linter.unusedVariables false
set_option linter.unusedSimpArgs false
namespace Go.Proofs.Ytnnbgfjokbaepaa
open Go.RowKit Go.Sort
open Go.Proofs.YtnnbgfjokbaepaaW.PrintWords
open DagPlain

def IdxIPost (w : World) (es : List Int) (x : Int) (e : Ending) (w' : World) : Prop := ∃ i : Int, e = .returned (.int .i64 i) ∧ (0 ≤ i ↔ es.contains x = true) ∧ -1 ≤ i ∧ Below w.heap.size w w'
set_option maxHeartbeats 1000000 in
theorem idxI_any (B : Option Addr) (c : Nat) (es : List Int) (x : Int) (w : World) (hE : ReadsInt w .i64 B es.length es) (hlen : es.length ≤ 1000) :
    Calls Try.prog 52 #[.slice B es.length c, .int .i64 x] w (IdxIPost w es x) := by
  have HE := Lib.hid hE
  clear hE
  go_enter Try.func52, Try.ntmps52
  go_wp2
  go_loopw [8] (fun i wr => ∃ k : Nat, k ≤ es.length ∧ i = .int .i64 k ∧ Hid (∀ j, j < k → es.getD j 0 ≠ x) ∧ Hid (Below w.heap.size w wr)) (fun i _ => es.length - (intOf i).toNat)
  case atStart => exact ⟨0, Nat.zero_le _, rfl, by show ∀ j, j < 0 → _; omega, Below.refl _ _⟩
  case round =>
    obtain ⟨k, hk, rfl, HN, HBW⟩ := hrel
    by_cases hlt : k < es.length
    · obtain ⟨ad, rfl, hcs⟩ := (HE.out.below HBW.out).2.2 (by omega)
      have hr1 := hcs k hlt
      have hmem : es.getD k 0 ∈ es := by rw [List.getD_eq_getElem?_getD, List.getElem?_eq_getElem hlt]; exact List.getElem_mem hlt
      obtain ⟨f, hft⟩ : ∃ p, p = es.getD k 0 := ⟨_, rfl⟩
      rw [← hft] at hr1 hmem
      have HM := Lib.hid hmem
      have HFT := Lib.hid hft
      clear hcs hmem hft
      by_cases he : x = f
      · subst he
        have HC : Hid (es.contains x = true) := by show es.contains x = true; rw [List.contains_iff_mem]; exact HM.out
        go_wp2
        go_ret
        exact ⟨_, rfl, ⟨fun _ => HC.out, fun _ => by omega⟩, by omega, HBW.out⟩
      · have HN2 : Hid (∀ j, j < k + 1 → es.getD j 0 ≠ x) := by
          show ∀ j, j < k + 1 → _
          intro j hj
          by_cases e : j = k
          · rw [e, ← HFT.out]; intro h; exact he h.symm
          · exact HN.out j (by omega)
        go_wp2
        go_roundw
        case rel => exact ⟨k + 1, by omega, by go_num, HN2, HBW.out⟩
        case measure => simp [intOf]; omega
    · obtain rfl : k = es.length := by omega
      have HC : Hid (¬ es.contains x = true) := by
        show ¬ _
        rw [List.contains_iff_mem]
        intro hm
        obtain ⟨j, hj, e⟩ := List.getElem_of_mem hm
        have := HN.out j hj
        rw [List.getD_eq_getElem?_getD, List.getElem?_eq_getElem hj] at this
        exact this e
      clear HN
      go_wp2
      go_ret
      exact ⟨_, rfl, ⟨fun h => by omega, fun h => absurd h HC.out⟩, by omega, HBW.out⟩

set_option maxHeartbeats 400000 in
theorem contI_any (B : Option Addr) (c : Nat) (es : List Int) (x : Int) (w : World) (hE : ReadsInt w .i64 B es.length es) (hlen : es.length ≤ 1000) :
    Calls Try.prog 34 #[.slice B es.length c, .int .i64 x] w fun e w' => e = .returned (.bool (es.contains x)) ∧ Below w.heap.size w w' := by
  have C := Lib.hid (fun w1 h => idxI_any B c es x w1 h hlen)
  have HE := Lib.hid hE
  clear hE
  cases ho : es.contains x with
  | true =>
    have HO := Lib.hid ho
    clear ho
    go_enter Try.func34, Try.ntmps34
    go_wp2_with fail
    refine (C.out _ HE.out).mono ?_
    rintro e w1 ⟨i, rfl, h1, h2, hb⟩
    have h0 : 0 ≤ i := h1.2 HO.out
    have HB := Lib.hid hb
    clear h1 hb
    go_wp2
    go_ret
    exact ⟨by simp [h0], HB.out⟩
  | false =>
    have HO : Hid (¬ es.contains x = true) := by rw [ho]; show ¬ _; simp
    clear ho
    go_enter Try.func34, Try.ntmps34
    go_wp2_with fail
    refine (C.out _ HE.out).mono ?_
    rintro e w1 ⟨i, rfl, h1, h2, hb⟩
    have h0 : ¬ 0 ≤ i := fun h => HO.out (h1.1 h)
    have HB := Lib.hid hb
    clear h1 hb
    go_wp2
    go_ret
    exact ⟨by simp [h0], HB.out⟩

def beforeGo (es : List (Int × Int)) (b : Int) : List Int → List Int → Bool
  | [], _ => false
  | n :: r, fr => if (predL n es).any (fun p => fr.contains p) = true then if n = b then true else beforeGo es b r (fr ++ [n]) else beforeGo es b r fr
def beforeL (l : List Int) (es : List (Int × Int)) (a b : Int) : Bool := beforeGo es b (ordL l es) [a]
theorem drop_cons (l : List Int) (k : Nat) (h : k < l.length) : l.drop k = l.getD k 0 :: l.drop (k + 1) := by
  rw [List.getD_eq_getElem?_getD, List.getElem?_eq_getElem h]; exact List.drop_eq_getElem_cons h

/-- A row that is read, in another block than the own row's. -/
def RB (v0 : Value) (wr : World) (A : Option Addr) (r : List Int) : Prop := ReadsInt wr .i64 A r.length r ∧ (0 < r.length → ∀ a, A = some a → some a.block ≠ v0.ownBlock ∧ a.block < wr.heap.size)
theorem RB.below {v0 : Value} {wr wr' : World} {A : Option Addr} {r : List Int} (h : RB v0 wr A r) (hb : Below wr.heap.size wr wr') : RB v0 wr' A r := ⟨h.1.below hb, fun h0 a ha => ⟨(h.2 h0 a ha).1, by have := (h.2 h0 a ha).2; have := hb.size; omega⟩⟩
theorem RB.grown {v0 v1 : Value} {wr wr' : World} {A : Option Addr} {r : List Int} (h : RB v0 wr A r) (hg : wr.grownBy wr' v0.ownBlock) (hv : v1.ownBlock = v0.ownBlock ∨ ∃ b, v1.ownBlock = some b ∧ wr.heap.size ≤ b) : RB v1 wr' A r := by
  refine ⟨⟨h.1.1, h.1.2.1, fun h0 => ?_⟩, fun h0 a ha => ?_⟩
  · obtain ⟨ad, rfl, hc⟩ := h.1.2.2 h0
    obtain ⟨h1, h2⟩ := h.2 h0 ad rfl
    refine ⟨ad, rfl, fun j hj => ?_⟩
    have hbk : (ad.add j).block = ad.block := by unfold Addr.add; split <;> rfl
    rw [World.cell?_of_block (w := wr) (by rw [hbk]; exact hg.block _ h2 h1)]
    exact hc j hj
  · obtain ⟨h1, h2⟩ := h.2 h0 a ha
    refine ⟨?_, by have := hg.size; omega⟩
    rcases hv with e | ⟨b, e, hb⟩
    · rw [e]; exact h1
    · rw [e]; intro e2; injection e2 with e2; omega
theorem RB.of {w w' : World} {v v0 : Value} {r : List Int} (h : w'.ownsRow w.heap.size 3 1 v r.length (encs (Value.int .i64) r)) (hg : ∀ b, v0.ownBlock = some b → b < w.heap.size) : ∃ A c, v = .slice A r.length c ∧ RB v0 w' A r := by
  obtain ⟨A, c, rfl, hr⟩ := own_reads (k := .i64) h
  refine ⟨A, c, rfl, hr, fun h0 a ha => ⟨?_, own_lt h a.block (by rw [ha]; rfl)⟩⟩
  have h1 := own_base h a.block (by rw [ha]; rfl)
  intro e
  have := hg a.block e.symm
  omega

end Go.Proofs.Ytnnbgfjokbaepaa


/- trefoilref02.Ints; the law package's awake. -/
set_option linter.unusedVariables false
set_option linter.unusedSimpArgs false
namespace Go.Proofs.Ytnnbgfjokbaepaa
open Go.RowKit Go.Sort
open Go.Proofs.YtnnbgfjokbaepaaW.PrintWords
open DagPlain

set_option maxHeartbeats 1000000 in
theorem ints_any (A B : Option Addr) (c d : Nat) (l m : List Int) (w : World) (hl : ReadsInt w .i64 A l.length l) (hm : ReadsInt w .i64 B m.length m) (hn1 : l.length ≤ 1000) (hm1 : m.length ≤ 1000) :
    Calls Try.prog 20 #[.slice A l.length c, .slice B m.length d] w fun e w' => e = .returned (.bool (decide (l = m))) ∧ Below w.heap.size w w' := by
  by_cases hle : l.length = m.length
  · have HL := Lib.hid hl
    have HM := Lib.hid hm
    have HLE := Lib.hid hle
    rw [← hle]
    clear hl hm hle
    go_enter Try.func20, Try.ntmps20
    go_wp2_with fail
    go_loopw [5] (fun i wr => ∃ k : Nat, k ≤ l.length ∧ i = .int .i64 k ∧ Hid (∀ j, j < k → l.getD j 0 = m.getD j 0) ∧ Hid (Below w.heap.size w wr)) (fun i _ => l.length - (intOf i).toNat)
    case atStart => exact ⟨0, Nat.zero_le _, rfl, by show ∀ j, j < 0 → _; omega, Below.refl _ _⟩
    case round =>
      obtain ⟨k, hk, rfl, HN, HBW⟩ := hrel
      by_cases hlt : k < l.length
      · obtain ⟨ad, rfl, hcs⟩ := (HL.out.below HBW.out).2.2 (by omega)
        obtain ⟨bd, rfl, hds⟩ := (HM.out.below HBW.out).2.2 (by have := HLE.out; omega)
        have hc := hcs k hlt
        have hd := hds k (by have := HLE.out; omega)
        obtain ⟨x, hx⟩ : ∃ x, x = l.getD k 0 := ⟨_, rfl⟩
        obtain ⟨y, hy⟩ : ∃ y, y = m.getD k 0 := ⟨_, rfl⟩
        rw [← hx] at hc
        rw [← hy] at hd
        have HX := Lib.hid hx
        have HY := Lib.hid hy
        clear hcs hds hx hy
        by_cases hxy : x = y
        · subst hxy
          have HN2 : Hid (∀ j, j < k + 1 → l.getD j 0 = m.getD j 0) := by
            show ∀ j, j < k + 1 → _
            intro j hj
            by_cases e : j = k
            · rw [e, ← HX.out, ← HY.out]
            · exact HN.out j (by omega)
          clear HX HY
          go_wp2_with fail
          go_quiet (fail)
          go_wp2_with fail
          go_roundw
          case rel => exact ⟨k + 1, by omega, by go_num, HN2, below_drewN HBW.out nq⟩
          case measure => simp [intOf]; omega
        · have HR : Hid (decide (l = m) = false) := by
            show decide (l = m) = false
            rw [decide_eq_false_iff_not]
            rintro rfl
            have := HX.out.trans HY.out.symm
            exact hxy this
          go_wp2_with fail
          go_quiet (fail)
          go_wp2_with fail
          go_ret
          exact ⟨by rw [HR.out]; rfl, below_drewN HBW.out nq⟩
      · obtain rfl : k = l.length := by omega
        have hr : l = m := list_eq_of HLE.out HN.out
        have HR : Hid (decide (l = m) = true) := by show decide (l = m) = true; simpa using hr
        clear HN hr
        go_wp2_with fail
        go_ret
        exact ⟨by rw [HR.out]; rfl, HBW.out⟩
  · have hr : decide (l = m) = false := by rw [decide_eq_false_iff_not]; intro h; exact hle (by rw [h])
    have hleI : ¬ (l.length : Int) = (m.length : Int) := by omega
    rw [hr]
    clear hr hl hm
    go_enter Try.func20, Try.ntmps20
    go_wp2_with fail
    go_ret
    exact ⟨rfl, Below.refl _ _⟩


theorem sortL_id {zs : List Int} (h : zs.Pairwise (fun x y => decide (x ≤ y) = true)) : sortL zs = zs := by unfold sortL; exact List.mergeSort_of_pairwise h
def es0 : List (Int × Int) := [(0, 2), (1, 2)]
theorem p0 : predL 0 es0 = [] := by unfold predL; exact sortL_id (by decide)
theorem p1 : predL 1 es0 = [] := by unfold predL; exact sortL_id (by decide)
theorem p2 : predL 2 es0 = [0, 1] := by unfold predL; exact sortL_id (by decide)
theorem s0 : succL 0 es0 = [2] := by unfold succL; exact sortL_id (by decide)
theorem o0 : ordL [2, 3, 4] es0 = [0, 1, 2] := by decide +kernel
theorem c0 : checkL [2, 3, 4] es0 = 0 := by decide +kernel
theorem k4 : longL [2, 3, 4] es0 = 7 := by
  unfold longL
  rw [o0]
  simp only [List.foldl_cons, List.foldl_nil, stepN, stepM, stepF, p0, p1, p2]
  decide
theorem k5 : beforeL [2, 3, 4] es0 1 2 = true := by
  unfold beforeL
  rw [o0]
  simp only [beforeGo, p0, p1, p2]
  decide
theorem k6 : beforeL [2, 3, 4] es0 0 1 = false := by
  unfold beforeL
  rw [o0]
  simp only [beforeGo, p0, p1, p2]
  decide
theorem k7 : predsR 2 [2, 3, 4] es0 = [0, 1] := by unfold predsR; rw [c0, if_pos rfl, p2]
theorem k8 : succsR 0 [2, 3, 4] es0 = [2] := by unfold succsR; rw [c0, if_pos rfl, s0]

def es1 : List (Int × Int) := [(0, 1), (1, 0)]
theorem q1 : checkL [1, 1] es1 = 43 := by decide +kernel
theorem t0 : totL [2, 3, 4] es0 = 9 := by decide +kernel
theorem lit_ints (w : World) (l : List Int) (cs : Array Value) (hc : cs = (l.map (Value.int .i64)).toArray) (hl : l.length ≤ 100) :
    ReadsInt (w.alloc (.cells cs 3)) .i64 (some ⟨w.heap.size, 0, none⟩) l.length l := by
  refine ⟨rfl, by omega, fun _ => ⟨_, rfl, fun j hj => ?_⟩⟩
  rw [show (⟨w.heap.size, 0, none⟩ : Addr).add j = ⟨w.heap.size, j, none⟩ by simp [Addr.add, eq_comm], World.cell?_alloc_mark, hc]
  simp [hj, List.getD_eq_getElem?_getD]

/-- What lies there behind the two graphs. -/
def AW (w W : World) : Prop :=
  Below w.heap.size w W ∧ ReadsInt W .i64 (some ⟨w.heap.size, 0, none⟩) 3 [2, 3, 4] ∧ EdR W (some ⟨w.heap.size + 1, 0, none⟩) es0 ∧ ReadsInt W .i64 (some ⟨w.heap.size + 1 + 1 + 1, 0, none⟩) 2 [1, 1] ∧ EdR W (some ⟨w.heap.size + 1 + 1 + 1 + 1, 0, none⟩) es1
theorem AW.below {w W W' : World} (h : AW w W) (hb : Below W.heap.size W W') : AW w W' := ⟨h.1.trans (hb.mono h.1.size), h.2.1.below hb, h.2.2.1.below hb, h.2.2.2.1.below hb, h.2.2.2.2.below hb⟩
theorem lit_edges (w : World) (a b c d : Int) : EdR (w.alloc (.cells #[.int .i64 a, .int .i64 b, .int .i64 c, .int .i64 d] 45)) (some ⟨w.heap.size, 0, none⟩) [(a, b), (c, d)] := fun _ => by
  refine ⟨_, rfl, fun i hi => ?_⟩
  have h2 : i = 0 ∨ i = 1 := by simp at hi; omega
  rcases h2 with rfl | rfl
  · exact ⟨by rw [show (⟨w.heap.size, 0, none⟩ : Addr).add (0 * 2) = ⟨w.heap.size, 0, none⟩ by simp [Addr.add], World.cell?_alloc_mark]; rfl, by rw [show (⟨w.heap.size, 0, none⟩ : Addr).add (0 * 2) = ⟨w.heap.size, 0, none⟩ by simp [Addr.add], World.cell?_alloc_mark]; rfl⟩
  · exact ⟨by rw [show (⟨w.heap.size, 0, none⟩ : Addr).add (1 * 2) = ⟨w.heap.size, 2, none⟩ by simp [Addr.add], World.cell?_alloc_mark]; rfl, by rw [show (⟨w.heap.size, 0, none⟩ : Addr).add (1 * 2) = ⟨w.heap.size, 2, none⟩ by simp [Addr.add], World.cell?_alloc_mark]; rfl⟩
def BX (w W : World) : Prop :=
  (W.cell? ⟨w.heap.size + 1 + 1, 0, none⟩ = some (.slice (some ⟨w.heap.size, 0, none⟩) 3 3) ∧ W.cell? ⟨w.heap.size + 1 + 1, 1, none⟩ = some (.slice (some ⟨w.heap.size + 1, 0, none⟩) 2 2)) ∧
  W.cell? ⟨w.heap.size + 1 + 1 + 1 + 1 + 1, 0, none⟩ = some (.slice (some ⟨w.heap.size + 1 + 1 + 1, 0, none⟩) 2 2) ∧ W.cell? ⟨w.heap.size + 1 + 1 + 1 + 1 + 1, 1, none⟩ = some (.slice (some ⟨w.heap.size + 1 + 1 + 1 + 1, 0, none⟩) 2 2)
theorem BX.below {w W W' : World} (h : BX w W) (hb : Below W.heap.size W W') : BX w W' := by
  obtain ⟨⟨h1, h2⟩, h3, h4⟩ := h
  exact ⟨⟨by rw [hb.cell (block_lt_of_cell h1)]; exact h1, by rw [hb.cell (block_lt_of_cell h2)]; exact h2⟩, by rw [hb.cell (block_lt_of_cell h3)]; exact h3, by rw [hb.cell (block_lt_of_cell h4)]; exact h4⟩
/-- A row of numbers that is read, whatever comes. -/
def RI (W : World) (A : Option Addr) (r : List Int) : Prop := ReadsInt W .i64 A r.length r
theorem RI.below {W W' : World} {A : Option Addr} {r : List Int} (h : RI W A r) (hb : Below W.heap.size W W') : RI W' A r := ReadsInt.below h hb
theorem below_alloc (W : World) (o : Obj) : Below W.heap.size W (W.alloc o) := (Below.refl _ _).alloc (Nat.le_refl _) _
def SP (W0 : World) (r : List Int) (e : Ending) (w' : World) : Prop := ∃ A c, e = .returned (.slice A r.length c) ∧ RI w' A r ∧ Below W0.heap.size W0 w'
theorem SP.of {W0 : World} {r : List Int} {e : Ending} {w' : World} (h : SlicePost W0 r e w') : SP W0 r e w' := by
  obtain ⟨v, rfl, hown, hb⟩ := h
  obtain ⟨A, c, rfl, hr⟩ := own_reads (k := .i64) hown
  exact ⟨A, c, rfl, hr, hb⟩

theorem btr {w w1 w2 : World} (h : Below w.heap.size w w1) (k : Below w1.heap.size w1 w2) : Below w.heap.size w w2 := h.trans (k.mono h.size)
set_option maxHeartbeats 1000000 in
theorem aw_start (w : World) : AW w ((((((w.alloc (.cells #[.int .i64 2, .int .i64 3, .int .i64 4] 3)).alloc (.cells #[.int .i64 0, .int .i64 2, .int .i64 1, .int .i64 2] 45)).alloc (.cells #[.slice (some ⟨w.heap.size, 0, none⟩) 3 3, .slice (some ⟨w.heap.size + 1, 0, none⟩) 2 2] 25)).alloc (.cells #[.int .i64 1, .int .i64 1] 3)).alloc (.cells #[.int .i64 0, .int .i64 1, .int .i64 1, .int .i64 0] 45)).alloc (.cells #[.slice (some ⟨w.heap.size + 1 + 1 + 1, 0, none⟩) 2 2, .slice (some ⟨w.heap.size + 1 + 1 + 1 + 1, 0, none⟩) 2 2] 25)) ∧ BX w ((((((w.alloc (.cells #[.int .i64 2, .int .i64 3, .int .i64 4] 3)).alloc (.cells #[.int .i64 0, .int .i64 2, .int .i64 1, .int .i64 2] 45)).alloc (.cells #[.slice (some ⟨w.heap.size, 0, none⟩) 3 3, .slice (some ⟨w.heap.size + 1, 0, none⟩) 2 2] 25)).alloc (.cells #[.int .i64 1, .int .i64 1] 3)).alloc (.cells #[.int .i64 0, .int .i64 1, .int .i64 1, .int .i64 0] 45)).alloc (.cells #[.slice (some ⟨w.heap.size + 1 + 1 + 1, 0, none⟩) 2 2, .slice (some ⟨w.heap.size + 1 + 1 + 1 + 1, 0, none⟩) 2 2] 25)) := by
  have h1 := lit_ints w [2, 3, 4] #[.int .i64 2, .int .i64 3, .int .i64 4] rfl (by decide)
  have h2 := lit_edges (w.alloc (.cells #[.int .i64 2, .int .i64 3, .int .i64 4] 3)) 0 2 1 2
  have h4 := lit_ints (((w.alloc (.cells #[.int .i64 2, .int .i64 3, .int .i64 4] 3)).alloc (.cells #[.int .i64 0, .int .i64 2, .int .i64 1, .int .i64 2] 45)).alloc (.cells #[.slice (some ⟨w.heap.size, 0, none⟩) 3 3, .slice (some ⟨w.heap.size + 1, 0, none⟩) 2 2] 25)) [1, 1] #[.int .i64 1, .int .i64 1] rfl (by decide)
  have h5 := lit_edges ((((w.alloc (.cells #[.int .i64 2, .int .i64 3, .int .i64 4] 3)).alloc (.cells #[.int .i64 0, .int .i64 2, .int .i64 1, .int .i64 2] 45)).alloc (.cells #[.slice (some ⟨w.heap.size, 0, none⟩) 3 3, .slice (some ⟨w.heap.size + 1, 0, none⟩) 2 2] 25)).alloc (.cells #[.int .i64 1, .int .i64 1] 3)) 0 1 1 0
  simp only [World.size_alloc] at h2 h4 h5
  have b1 := below_alloc w (.cells #[.int .i64 2, .int .i64 3, .int .i64 4] 3)
  have b2 := below_alloc (w.alloc (.cells #[.int .i64 2, .int .i64 3, .int .i64 4] 3)) (.cells #[.int .i64 0, .int .i64 2, .int .i64 1, .int .i64 2] 45)
  have b3 := below_alloc ((w.alloc (.cells #[.int .i64 2, .int .i64 3, .int .i64 4] 3)).alloc (.cells #[.int .i64 0, .int .i64 2, .int .i64 1, .int .i64 2] 45)) (.cells #[.slice (some ⟨w.heap.size, 0, none⟩) 3 3, .slice (some ⟨w.heap.size + 1, 0, none⟩) 2 2] 25)
  have b4 := below_alloc (((w.alloc (.cells #[.int .i64 2, .int .i64 3, .int .i64 4] 3)).alloc (.cells #[.int .i64 0, .int .i64 2, .int .i64 1, .int .i64 2] 45)).alloc (.cells #[.slice (some ⟨w.heap.size, 0, none⟩) 3 3, .slice (some ⟨w.heap.size + 1, 0, none⟩) 2 2] 25)) (.cells #[.int .i64 1, .int .i64 1] 3)
  have b5 := below_alloc ((((w.alloc (.cells #[.int .i64 2, .int .i64 3, .int .i64 4] 3)).alloc (.cells #[.int .i64 0, .int .i64 2, .int .i64 1, .int .i64 2] 45)).alloc (.cells #[.slice (some ⟨w.heap.size, 0, none⟩) 3 3, .slice (some ⟨w.heap.size + 1, 0, none⟩) 2 2] 25)).alloc (.cells #[.int .i64 1, .int .i64 1] 3)) (.cells #[.int .i64 0, .int .i64 1, .int .i64 1, .int .i64 0] 45)
  have b6 := below_alloc (((((w.alloc (.cells #[.int .i64 2, .int .i64 3, .int .i64 4] 3)).alloc (.cells #[.int .i64 0, .int .i64 2, .int .i64 1, .int .i64 2] 45)).alloc (.cells #[.slice (some ⟨w.heap.size, 0, none⟩) 3 3, .slice (some ⟨w.heap.size + 1, 0, none⟩) 2 2] 25)).alloc (.cells #[.int .i64 1, .int .i64 1] 3)).alloc (.cells #[.int .i64 0, .int .i64 1, .int .i64 1, .int .i64 0] 45)) (.cells #[.slice (some ⟨w.heap.size + 1 + 1 + 1, 0, none⟩) 2 2, .slice (some ⟨w.heap.size + 1 + 1 + 1 + 1, 0, none⟩) 2 2] 25)
  have d5 := btr b5 b6
  have d4 := btr b4 d5
  have d3 := btr b3 d4
  have d2 := btr b2 d3
  have m0 : (((w.alloc (.cells #[.int .i64 2, .int .i64 3, .int .i64 4] 3)).alloc (.cells #[.int .i64 0, .int .i64 2, .int .i64 1, .int .i64 2] 45)).alloc (.cells #[.slice (some ⟨w.heap.size, 0, none⟩) 3 3, .slice (some ⟨w.heap.size + 1, 0, none⟩) 2 2] 25)).cell? ⟨((w.alloc (.cells #[.int .i64 2, .int .i64 3, .int .i64 4] 3)).alloc (.cells #[.int .i64 0, .int .i64 2, .int .i64 1, .int .i64 2] 45)).heap.size, 0, none⟩ = some (.slice (some ⟨w.heap.size, 0, none⟩) 3 3) := by rw [World.cell?_alloc_mark]; rfl
  have m1 : (((w.alloc (.cells #[.int .i64 2, .int .i64 3, .int .i64 4] 3)).alloc (.cells #[.int .i64 0, .int .i64 2, .int .i64 1, .int .i64 2] 45)).alloc (.cells #[.slice (some ⟨w.heap.size, 0, none⟩) 3 3, .slice (some ⟨w.heap.size + 1, 0, none⟩) 2 2] 25)).cell? ⟨((w.alloc (.cells #[.int .i64 2, .int .i64 3, .int .i64 4] 3)).alloc (.cells #[.int .i64 0, .int .i64 2, .int .i64 1, .int .i64 2] 45)).heap.size, 1, none⟩ = some (.slice (some ⟨w.heap.size + 1, 0, none⟩) 2 2) := by rw [World.cell?_alloc_mark]; rfl
  have m2 : ((((((w.alloc (.cells #[.int .i64 2, .int .i64 3, .int .i64 4] 3)).alloc (.cells #[.int .i64 0, .int .i64 2, .int .i64 1, .int .i64 2] 45)).alloc (.cells #[.slice (some ⟨w.heap.size, 0, none⟩) 3 3, .slice (some ⟨w.heap.size + 1, 0, none⟩) 2 2] 25)).alloc (.cells #[.int .i64 1, .int .i64 1] 3)).alloc (.cells #[.int .i64 0, .int .i64 1, .int .i64 1, .int .i64 0] 45)).alloc (.cells #[.slice (some ⟨w.heap.size + 1 + 1 + 1, 0, none⟩) 2 2, .slice (some ⟨w.heap.size + 1 + 1 + 1 + 1, 0, none⟩) 2 2] 25)).cell? ⟨(((((w.alloc (.cells #[.int .i64 2, .int .i64 3, .int .i64 4] 3)).alloc (.cells #[.int .i64 0, .int .i64 2, .int .i64 1, .int .i64 2] 45)).alloc (.cells #[.slice (some ⟨w.heap.size, 0, none⟩) 3 3, .slice (some ⟨w.heap.size + 1, 0, none⟩) 2 2] 25)).alloc (.cells #[.int .i64 1, .int .i64 1] 3)).alloc (.cells #[.int .i64 0, .int .i64 1, .int .i64 1, .int .i64 0] 45)).heap.size, 0, none⟩ = some (.slice (some ⟨w.heap.size + 1 + 1 + 1, 0, none⟩) 2 2) := by rw [World.cell?_alloc_mark]; rfl
  have m3 : ((((((w.alloc (.cells #[.int .i64 2, .int .i64 3, .int .i64 4] 3)).alloc (.cells #[.int .i64 0, .int .i64 2, .int .i64 1, .int .i64 2] 45)).alloc (.cells #[.slice (some ⟨w.heap.size, 0, none⟩) 3 3, .slice (some ⟨w.heap.size + 1, 0, none⟩) 2 2] 25)).alloc (.cells #[.int .i64 1, .int .i64 1] 3)).alloc (.cells #[.int .i64 0, .int .i64 1, .int .i64 1, .int .i64 0] 45)).alloc (.cells #[.slice (some ⟨w.heap.size + 1 + 1 + 1, 0, none⟩) 2 2, .slice (some ⟨w.heap.size + 1 + 1 + 1 + 1, 0, none⟩) 2 2] 25)).cell? ⟨(((((w.alloc (.cells #[.int .i64 2, .int .i64 3, .int .i64 4] 3)).alloc (.cells #[.int .i64 0, .int .i64 2, .int .i64 1, .int .i64 2] 45)).alloc (.cells #[.slice (some ⟨w.heap.size, 0, none⟩) 3 3, .slice (some ⟨w.heap.size + 1, 0, none⟩) 2 2] 25)).alloc (.cells #[.int .i64 1, .int .i64 1] 3)).alloc (.cells #[.int .i64 0, .int .i64 1, .int .i64 1, .int .i64 0] 45)).heap.size, 1, none⟩ = some (.slice (some ⟨w.heap.size + 1 + 1 + 1 + 1, 0, none⟩) 2 2) := by rw [World.cell?_alloc_mark]; rfl
  simp only [World.size_alloc] at m0 m1 m2 m3
  refine ⟨⟨btr b1 d2, h1.below d2, h2.below d3, h4.below d5, h5.below b6⟩, ⟨?_, ?_⟩, ?_, ?_⟩
  · rw [d4.cell (by show w.heap.size + 1 + 1 < _; simp only [World.size_alloc]; omega)]; exact m0
  · rw [d4.cell (by show w.heap.size + 1 + 1 < _; simp only [World.size_alloc]; omega)]; exact m1
  · exact m2
  · exact m3
end Go.Proofs.Ytnnbgfjokbaepaa


/- What an order is: each node once, behind all that it waits for. Plain Lean. -/
set_option linter.unusedVariables false
set_option linter.unusedSimpArgs false
namespace Go.Proofs.Ytnnbgfjokbaepaa
open DagPlain

def Good (es : List (Int × Int)) (out : List Int) : Prop := out.Nodup ∧ ∀ j, j < out.length → ∀ e ∈ es, e.2 = out.getD j 0 → ∃ i, i < j ∧ out.getD i 0 = e.1
theorem free_out {es : List (Int × Int)} {out : List Int} {v : Int} (h : free es out v = true) : v ∉ out ∧ ∀ e ∈ es, e.2 = v → e.1 ∈ out := by
  unfold free at h
  rw [Bool.and_eq_true, List.all_eq_true] at h
  refine ⟨by simpa using h.1, fun e he hv => ?_⟩
  have := h.2 e he
  rw [hv] at this
  simpa using this
theorem getD_app_left (a b : List Int) (j : Nat) (h : j < a.length) : (a ++ b).getD j 0 = a.getD j 0 := by
  rw [List.getD_eq_getElem?_getD, List.getD_eq_getElem?_getD, List.getElem?_append_left h]
theorem getD_app_last (a : List Int) (v : Int) : (a ++ [v]).getD a.length 0 = v := by
  rw [List.getD_eq_getElem?_getD, List.getElem?_append_right (Nat.le_refl _)]; simp
theorem mem_getD {a : List Int} {x : Int} (h : x ∈ a) : ∃ i, i < a.length ∧ a.getD i 0 = x := by
  obtain ⟨i, hi, rfl⟩ := List.getElem_of_mem h
  exact ⟨i, hi, by rw [List.getD_eq_getElem?_getD, List.getElem?_eq_getElem hi]; rfl⟩
theorem getD_mem (a : List Int) (i : Nat) (h : i < a.length) : a.getD i 0 ∈ a := by
  rw [List.getD_eq_getElem?_getD, List.getElem?_eq_getElem h]; exact List.getElem_mem h
theorem Good.push {es : List (Int × Int)} {out : List Int} {v : Int} (h : Good es out) (hf : free es out v = true) : Good es (out ++ [v]) := by
  obtain ⟨h1, h2⟩ := free_out hf
  refine ⟨?_, fun j hj e he hv => ?_⟩
  · rw [List.nodup_append]
    refine ⟨h.1, by simp, fun a ha b hb => ?_⟩
    rw [List.mem_singleton] at hb
    subst hb
    intro e
    exact h1 (e ▸ ha)
  · rw [List.length_append] at hj
    by_cases hjl : j < out.length
    · rw [getD_app_left _ _ _ hjl] at hv
      obtain ⟨i, hi, e1⟩ := h.2 j hjl e he hv
      exact ⟨i, hi, by rw [getD_app_left _ _ _ (by omega)]; exact e1⟩
    · obtain rfl : j = out.length := by simp at hj; omega
      rw [getD_app_last] at hv
      obtain ⟨i, hi, e1⟩ := mem_getD (h2 e he hv)
      exact ⟨i, hi, by rw [getD_app_left _ _ _ hi]; exact e1⟩
theorem orderGo_good {n : Nat} {es : List (Int × Int)} : ∀ (g : Nat) (out r : List Int), orderGo n es g out = some r → Good es out → Good es r
  | 0, out, r, h, ho => by
    simp only [orderGo, Option.some.injEq] at h
    subst h
    exact ho
  | g + 1, out, r, h, ho => by
    simp only [orderGo] at h
    split at h
    · rename_i v hv
      unfold next at hv
      have hf := List.find?_some hv
      exact orderGo_good g _ r h (ho.push hf)
    · cases h
theorem nodup_len : ∀ (n : Nat) (r : List Int), r.Nodup → (∀ x ∈ r, 0 ≤ x ∧ x < n) → r.length ≤ n
  | 0, r, _, h => by
    cases r with
    | nil => simp
    | cons a r => have := h a (by simp); omega
  | n + 1, r, hn, h => by
    by_cases hm : (n : Int) ∈ r
    · have h1 := nodup_len n (r.erase (n : Int)) (hn.erase _) (fun x hx => by
        have h2 := (hn.mem_erase_iff).1 hx
        have := h x h2.2
        have := h2.1
        omega)
      rw [List.length_erase_of_mem hm] at h1
      omega
    · have := nodup_len n r hn (fun x hx => by
        have h2 := h x hx
        have : x ≠ (n : Int) := fun e => hm (e ▸ hx)
        omega)
      omega
theorem cover {n : Nat} {r : List Int} (hn : r.Nodup) (h : ∀ x ∈ r, 0 ≤ x ∧ x < n) (hl : r.length = n) (b : Int) (hb : 0 ≤ b ∧ b < n) : b ∈ r := by
  by_cases hm : b ∈ r
  · exact hm
  · have := nodup_len n (b :: r) (List.nodup_cons.2 ⟨hm, hn⟩) (fun x hx => by
      rcases List.mem_cons.1 hx with rfl | hx
      · exact hb
      · exact h x hx)
    rw [List.length_cons] at this
    omega
theorem ordL_good {l : List Int} {es : List (Int × Int)} (hz : checkL l es = 0) : Good es (ordL l es) ∧ (ordL l es).length = l.length ∧ (∀ x ∈ ordL l es, 0 ≤ x ∧ x < l.length) ∧ ∀ b : Int, 0 ≤ b ∧ b < l.length → b ∈ ordL l es := by
  obtain ⟨y1, y2, y3, y4, y5⟩ := ordL_yes hz
  obtain ⟨r, hr⟩ := Option.isSome_iff_exists.1 y5
  have ho : ordL l es = r := by unfold ordL; rw [if_pos hz, hr]; rfl
  rw [ho]
  obtain ⟨h1, h2⟩ := orderGo_in _ _ _ hr (by simp)
  have hg := orderGo_good _ _ _ hr ⟨List.nodup_nil, fun j hj => absurd hj (by simp)⟩
  have hl : r.length = l.length := by simpa using h1
  exact ⟨hg, hl, h2, fun b hb => cover hg.1 h2 hl b hb⟩
theorem nodup_getD {r : List Int} (h : r.Nodup) {i j : Nat} (hi : i < r.length) (hj : j < r.length) (e : r.getD i 0 = r.getD j 0) : i = j := by
  rw [List.getD_eq_getElem?_getD, List.getD_eq_getElem?_getD, List.getElem?_eq_getElem hi, List.getElem?_eq_getElem hj] at e
  simp only [Option.getD_some] at e
  have hp := List.pairwise_iff_getElem.1 h
  rcases Nat.lt_trichotomy i j with hlt | he | hgt
  · exact absurd e (hp i j hi hj hlt)
  · exact he
  · exact absurd e.symm (hp j i hj hi hgt)
end Go.Proofs.Ytnnbgfjokbaepaa


/- Ways along edges; dag.Before says whether there is one. Plain Lean. -/
set_option linter.unusedVariables false
set_option linter.unusedSimpArgs false
namespace Go.Proofs.Ytnnbgfjokbaepaa
open DagPlain

inductive Path (es : List (Int × Int)) : Int → Int → Prop
  | edge {a b : Int} : (a, b) ∈ es → Path es a b
  | step {a p b : Int} : Path es a p → (p, b) ∈ es → Path es a b
theorem Path.trans {es : List (Int × Int)} {a b c : Int} (h : Path es a b) (k : Path es b c) : Path es a c := by
  induction k with
  | edge he => exact .step h he
  | step _ he ih => exact .step ih he
theorem Path.last {es : List (Int × Int)} {a b : Int} (h : Path es a b) : ∃ p, (p, b) ∈ es ∧ (p = a ∨ Path es a p) := by
  cases h with
  | edge he => exact ⟨a, he, .inl rfl⟩
  | step hp he => exact ⟨_, he, .inr hp⟩
theorem mem_predL {es : List (Int × Int)} {n p : Int} : p ∈ predL n es ↔ (p, n) ∈ es := by
  unfold predL sortL
  rw [List.mem_mergeSort]
  unfold predRaw
  rw [List.mem_map]
  constructor
  · rintro ⟨e, he, rfl⟩
    obtain ⟨h1, h2⟩ := List.mem_filter.1 he
    have : e.2 = n := by simpa using h2
    rw [← this]
    exact h1
  · intro h
    exact ⟨(p, n), List.mem_filter.2 ⟨h, by simp⟩, rfl⟩
theorem before_sound (es : List (Int × Int)) (a b : Int) : ∀ (r fr : List Int), (∀ x ∈ fr, x = a ∨ Path es a x) → beforeGo es b r fr = true → Path es a b
  | [], fr, _, h => by simp [beforeGo] at h
  | n :: r, fr, hf, h => by
    unfold beforeGo at h
    have hn : (predL n es).any (fun p => fr.contains p) = true → Path es a n := by
      intro hany
      obtain ⟨p, hp, hc⟩ := List.any_eq_true.1 hany
      have hp2 := mem_predL.1 hp
      rcases hf p (by simpa using hc) with rfl | hpp
      · exact .edge hp2
      · exact .step hpp hp2
    split at h
    · rename_i hany
      split at h
      · rename_i e; rw [← e]; exact hn hany
      · exact before_sound es a b r (fr ++ [n]) (fun x hx => by
          rcases List.mem_append.1 hx with hx | hx
          · exact hf x hx
          · rw [List.mem_singleton] at hx; subst hx; exact .inr (hn hany)) h
    · exact before_sound es a b r fr hf h
theorem before_complete (es : List (Int × Int)) (a b : Int) (hp : Path es a b) : ∀ (r done fr : List Int), Good es (done ++ r) → (∀ x ∈ done ++ r, True) → a ∈ fr → (∀ x ∈ done, Path es a x → x ∈ fr) → b ∈ r → beforeGo es b r fr = true
  | [], done, fr, _, _, _, _, hb => by simp at hb
  | n :: r, done, fr, hg, ht, ha, hd, hb => by
    have hany : Path es a n → (predL n es).any (fun p => fr.contains p) = true := by
      intro hn
      obtain ⟨p, he, hpa⟩ := hn.last
      refine List.any_eq_true.2 ⟨p, mem_predL.2 he, ?_⟩
      rcases hpa with rfl | hpp
      · simpa using ha
      · have hj : done.length < (done ++ n :: r).length := by simp
        have hgn : (done ++ n :: r).getD done.length 0 = n := by rw [List.getD_eq_getElem?_getD, List.getElem?_append_right (Nat.le_refl _)]; simp
        obtain ⟨i, hi, e⟩ := hg.2 done.length hj (p, n) he hgn.symm
        rw [getD_app_left _ _ _ hi] at e
        have hpd : p ∈ done := by
          have := getD_mem done i hi
          rw [e] at this
          exact this
        simpa using hd p hpd hpp
    have hg2 : Good es ((done ++ [n]) ++ r) := by simpa using hg
    unfold beforeGo
    by_cases hnb : n = b
    · rw [if_pos (hany (hnb ▸ hp)), if_pos hnb]
    · have hb2 : b ∈ r := by
        rcases List.mem_cons.1 hb with e | h
        · exact absurd e.symm hnb
        · exact h
      split
      · refine before_complete es a b hp r (done ++ [n]) (fr ++ [n]) hg2 (fun _ _ => trivial) (by simp [ha]) (fun x hx hxp => ?_) hb2
        rcases List.mem_append.1 hx with hx | hx
        · exact List.mem_append.2 (.inl (hd x hx hxp))
        · exact List.mem_append.2 (.inr hx)
      · rename_i hno
        refine before_complete es a b hp r (done ++ [n]) fr hg2 (fun _ _ => trivial) ha (fun x hx hxp => ?_) hb2
        rcases List.mem_append.1 hx with hx | hx
        · exact hd x hx hxp
        · rw [List.mem_singleton] at hx
          subst hx
          exact absurd (hany hxp) hno
theorem path_in {l : List Int} {es : List (Int × Int)} (hz : checkL l es = 0) {a b : Int} (h : Path es a b) : ∃ i j, i < j ∧ j < (ordL l es).length ∧ (ordL l es).getD i 0 = a ∧ (ordL l es).getD j 0 = b := by
  obtain ⟨g1, g2, g3, g4⟩ := ordL_good hz
  obtain ⟨y1, y2, y3, y4, y5⟩ := ordL_yes hz
  have hedge : ∀ x y, (x, y) ∈ es → ∃ i j, i < j ∧ j < (ordL l es).length ∧ (ordL l es).getD i 0 = x ∧ (ordL l es).getD j 0 = y := by
    intro x y he
    obtain ⟨j, hj, e⟩ := mem_getD (g4 y (oddEs_in y3 _ he).2)
    obtain ⟨i, hi, e2⟩ := g1.2 j hj _ he e.symm
    exact ⟨i, j, hi, hj, e2, e⟩
  induction h with
  | edge he => exact hedge _ _ he
  | step _ he ih =>
    obtain ⟨i, j, h1, h2, h3, h4⟩ := ih
    obtain ⟨j', k, h5, h6, h7, h8⟩ := hedge _ _ he
    have : j = j' := nodup_getD g1.1 h2 (by omega) (by rw [h4, h7])
    exact ⟨i, k, by omega, h6, h3, h8⟩
theorem before_iff {l : List Int} {es : List (Int × Int)} (hz : checkL l es = 0) (a b : Int) : beforeL l es a b = true ↔ Path es a b := by
  constructor
  · intro h
    exact before_sound es a b _ _ (fun x hx => .inl (by simpa using hx)) h
  · intro h
    obtain ⟨i, j, h1, h2, h3, h4⟩ := path_in hz h
    obtain ⟨g1, g2, g3, g4⟩ := ordL_good hz
    exact before_complete es a b h (ordL l es) [] [a] (by simpa using g1) (fun _ _ => trivial) (by simp) (fun x hx => by simp at hx) (h4 ▸ getD_mem _ _ h2)
theorem no_round {l : List Int} {es : List (Int × Int)} (hz : checkL l es = 0) (a : Int) : ¬ Path es a a := by
  intro h
  obtain ⟨i, j, h1, h2, h3, h4⟩ := path_in hz h
  obtain ⟨g1, g2, g3, g4⟩ := ordL_good hz
  have := nodup_getD g1.1 (by omega) h2 (h3.trans h4.symm)
  omega
end Go.Proofs.Ytnnbgfjokbaepaa


/- Where no order is found edges lead round; an edge more. Plain Lean. -/
set_option linter.unusedVariables false
set_option linter.unusedSimpArgs false
namespace Go.Proofs.Ytnnbgfjokbaepaa
open DagPlain

theorem stuck {n : Nat} {es : List (Int × Int)} : ∀ (g : Nat) (out : List Int), orderGo n es g out = none → out.Nodup → out.length + g = n → ∃ out', out'.Nodup ∧ out'.length < n ∧ next n es out' = none
  | 0, out, h, _, _ => by simp [orderGo] at h
  | g + 1, out, h, hn, hl => by
    simp only [orderGo] at h
    split at h
    · rename_i v hv
      have hf : free es out (v : Int) = true := by unfold next at hv; have := List.find?_some hv; exact this
      refine stuck g _ h ?_ (by simp; omega)
      rw [List.nodup_append]
      refine ⟨hn, by simp, fun a ha b hb => ?_⟩
      rw [List.mem_singleton] at hb
      subst hb
      intro e
      exact (free_out hf).1 (e ▸ ha)
    · rename_i hv
      exact ⟨out, hn, by omega, hv⟩
theorem many_le : ∀ (n : Nat) (out : List Int), out.Nodup → (∀ v : Nat, v < n → (v : Int) ∈ out) → n ≤ out.length
  | 0, out, _, _ => Nat.zero_le _
  | n + 1, out, hn, h => by
    have hm := h n (by omega)
    have := many_le n (out.erase (n : Int)) (hn.erase _) (fun v hv => (hn.mem_erase_iff).2 ⟨by omega, h v (by omega)⟩)
    rw [List.length_erase_of_mem hm] at this
    have := List.length_pos_of_mem hm
    omega
/-- Who has, again and again, one ahead of it: edges lead round. -/
theorem round_of {n : Nat} {es : List (Int × Int)} (U : Int → Prop) (hU : ∀ v, U v → 0 ≤ v ∧ v < n) (hp : ∀ v, U v → ∃ u, U u ∧ (u, v) ∈ es) (v0 : Int) (h0 : U v0) : ∃ v, Path es v v := by
  classical
  let f : Int → Int := fun v => if h : U v then (hp v h).choose else v
  have hf : ∀ v, U v → U (f v) ∧ (f v, v) ∈ es := by
    intro v h
    have e : f v = (hp v h).choose := by show (if h : U v then _ else v) = _; rw [dif_pos h]
    rw [e]
    exact (hp v h).choose_spec
  let s : Nat → Int := fun i => Nat.rec v0 (fun _ x => f x) i
  have hs : ∀ i, U (s i) := by
    intro i
    induction i with
    | zero => exact h0
    | succ i ih => exact (hf _ ih).1
  have he : ∀ i, (s (i + 1), s i) ∈ es := fun i => (hf _ (hs i)).2
  have hpath : ∀ d i, Path es (s (i + (d + 1))) (s i) := by
    intro d
    induction d with
    | zero => intro i; exact .edge (he i)
    | succ d ih =>
      intro i
      have h1 := ih (i + 1)
      rw [show i + 1 + (d + 1) = i + (d + 1 + 1) by omega] at h1
      exact .step h1 (he i)
  by_cases hd : ∃ i j, i < j ∧ j < n + 1 ∧ s i = s j
  · obtain ⟨i, j, h1, h2, h3⟩ := hd
    have := hpath (j - i - 1) i
    rw [show i + (j - i - 1 + 1) = j by omega, ← h3] at this
    exact ⟨s i, this⟩
  · have hnd : ((List.range (n + 1)).map s).Nodup := by
      rw [List.nodup_iff_pairwise_ne, List.pairwise_map]
      refine List.Pairwise.imp_of_mem ?_ (List.pairwise_lt_range (n := n + 1))
      intro i j hi hj hij e
      exact hd ⟨i, j, hij, by simpa using hj, e⟩
    have := nodup_len n _ hnd (fun x hx => by
      obtain ⟨i, _, rfl⟩ := List.mem_map.1 hx
      exact hU _ (hs i))
    simp at this
    omega
theorem order_none {n : Nat} {es : List (Int × Int)} (hin : ∀ e ∈ es, (0 ≤ e.1 ∧ e.1 < n) ∧ 0 ≤ e.2 ∧ e.2 < n) (h : orderL n es = none) : ∃ v, Path es v v := by
  obtain ⟨out, h1, h2, h3⟩ := stuck n [] h List.nodup_nil (by simp)
  have hfree : ∀ v : Nat, v < n → free es out (v : Int) = false := by
    intro v hv
    unfold next at h3
    rw [List.find?_eq_none] at h3
    simpa using h3 v (by simpa using hv)
  have hex : ∃ v : Nat, v < n ∧ (v : Int) ∉ out := by
    refine Classical.byContradiction fun hno => ?_
    have := many_le n out h1 (fun v hv => Classical.byContradiction fun hm => hno ⟨v, hv, hm⟩)
    omega
  obtain ⟨v0, hv0, hm0⟩ := hex
  refine round_of (n := n) (fun v => (0 ≤ v ∧ v < n) ∧ v ∉ out) (fun v h => h.1) (fun v hv => ?_) v0 ⟨by omega, hm0⟩
  have hfv := hfree v.toNat (by omega)
  rw [show ((v.toNat : Nat) : Int) = v by omega] at hfv
  unfold free at hfv
  rw [Bool.and_eq_false_iff] at hfv
  rcases hfv with hc | hc
  · have : v ∈ out := by simpa using hc
    exact absurd this hv.2
  · rw [List.all_eq_false] at hc
    obtain ⟨e, he, hc⟩ := hc
    have h4 : ¬ e.2 ≠ v ∧ e.1 ∉ out := by simpa using hc
    have h5 : e.2 = v := Classical.byContradiction fun h => h4.1 h
    exact ⟨e.1, ⟨(hin e he).1, h4.2⟩, by rw [← h5]; exact he⟩
theorem pair_single {x y a b : Int} (h : (x, y) ∈ [(a, b)]) : x = a ∧ y = b := by simpa using h
theorem path_more {es : List (Int × Int)} {a b x y : Int} (h : Path (es ++ [(a, b)]) x y) : Path es x y ∨ ((x = a ∨ Path es x a) ∧ (y = b ∨ Path es b y)) := by
  induction h with
  | edge he =>
    rcases List.mem_append.1 he with h1 | h1
    · exact .inl (.edge h1)
    · have h2 := pair_single h1
      exact .inr ⟨.inl h2.1, .inl h2.2⟩
  | step _ he ih =>
    rcases List.mem_append.1 he with h1 | h1
    · rcases ih with h | ⟨h3, h2⟩
      · exact .inl (.step h h1)
      · refine .inr ⟨h3, .inr ?_⟩
        rcases h2 with h2 | h2
        · rw [h2] at h1; exact .edge h1
        · exact .step h2 h1
    · have h2 := pair_single h1
      rcases ih with h | ⟨h3, _⟩
      · rw [h2.1] at h; exact .inr ⟨.inr h, .inl h2.2⟩
      · exact .inr ⟨h3, .inl h2.2⟩
theorem Path.mono {es es' : List (Int × Int)} (hs : ∀ e ∈ es, e ∈ es') {x y : Int} (h : Path es x y) : Path es' x y := by
  induction h with
  | edge he => exact .edge (hs _ he)
  | step _ he ih => exact .step ih (hs _ he)
theorem oddE_app {n : Nat} {es : List (Int × Int)} {p : Int × Int} {k : Nat} (hk : k < es.length) : oddE n (es ++ [p]) k = oddE n es k := by
  unfold oddE
  have h1 : (es ++ [p]).getD k (0, 0) = es.getD k (0, 0) := by rw [List.getD_eq_getElem?_getD, List.getD_eq_getElem?_getD, List.getElem?_append_left hk]
  have h2 : (es ++ [p]).take k = es.take k := by rw [List.take_append_of_le_length (by omega)]
  rw [h1, h2]
theorem oddE_last {n : Nat} {es : List (Int × Int)} {a b : Int} (ha : 0 ≤ a ∧ a < n) (hb : 0 ≤ b ∧ b < n) : oddE n (es ++ [(a, b)]) es.length = (decide (a = b) || es.contains (a, b)) := by
  unfold oddE
  have h1 : (es ++ [(a, b)]).getD es.length (0, 0) = (a, b) := by rw [List.getD_eq_getElem?_getD, List.getElem?_append_right (Nat.le_refl _)]; simp
  have h2 : (es ++ [(a, b)]).take es.length = es := by simp
  have h3 : thereB n a = true := by unfold thereB; simp [ha.1, ha.2]
  have h4 : thereB n b = true := by unfold thereB; simp [hb.1, hb.2]
  rw [h1, h2, h3, h4]
  rfl
theorem more_odd {l : List Int} {es : List (Int × Int)} {a b : Int} (hz : checkL l es = 0) (hm : es.length < 256) (ha : 0 ≤ a ∧ a < l.length) (hb : 0 ≤ b ∧ b < l.length) (h : a = b ∨ (a, b) ∈ es) : checkL l (es ++ [(a, b)]) = 42 := by
  obtain ⟨y1, y2, y3, y4, y5⟩ := ordL_yes hz
  unfold checkL
  rw [if_neg (by simp; omega), if_neg (by rw [y4]; simp), if_pos]
  refine oddEs_yes (k := es.length) (by simp) ?_
  rw [oddE_last ha hb]
  rcases h with h | h
  · simp [h]
  · have : es.contains (a, b) = true := by rw [List.contains_iff_mem]; exact h
    rw [this]; simp
theorem more_even {l : List Int} {es : List (Int × Int)} {a b : Int} (hz : checkL l es = 0) (hm : es.length < 256) (ha : 0 ≤ a ∧ a < l.length) (hb : 0 ≤ b ∧ b < l.length) (h1 : a ≠ b) (h2 : (a, b) ∉ es) :
    checkL l (es ++ [(a, b)]) = if beforeL l es b a = true then 43 else 0 := by
  obtain ⟨y1, y2, y3, y4, y5⟩ := ordL_yes hz
  have hodd : oddEs l.length (es ++ [(a, b)]) = false := by
    refine oddEs_no fun j hj => ?_
    rw [List.length_append] at hj
    by_cases hjl : j < es.length
    · rw [oddE_app hjl]
      unfold oddEs at y3
      rw [List.any_eq_false] at y3
      simpa using y3 j (by simpa using hjl)
    · obtain rfl : j = es.length := by simp at hj; omega
      rw [oddE_last ha hb]
      have : es.contains (a, b) = false := by rw [Bool.eq_false_iff]; intro h; exact h2 (List.contains_iff_mem.1 h)
      rw [this]; simp [h1]
  have hc : checkL l (es ++ [(a, b)]) = if (orderL l.length (es ++ [(a, b)])).isSome = true then 0 else 43 := by
    unfold checkL
    rw [if_neg (by simp; omega), if_neg (by rw [y4]; simp), if_neg (by rw [hodd]; simp)]
  by_cases hs : (orderL l.length (es ++ [(a, b)])).isSome = true
  · rw [hc, if_pos hs, if_neg]
    intro hp
    have hz2 : checkL l (es ++ [(a, b)]) = 0 := by rw [hc, if_pos hs]
    have hp2 := ((before_iff hz b a).1 hp).mono (es' := es ++ [(a, b)]) (fun e he => List.mem_append.2 (.inl he))
    exact no_round hz2 b (.step hp2 (by simp))
  · rw [hc, if_neg hs, if_pos]
    obtain ⟨v, hv⟩ := order_none (oddEs_in hodd) (by simpa using hs)
    refine (before_iff hz b a).2 ?_
    rcases path_more hv with h | ⟨h3, h4⟩
    · exact absurd h (no_round hz v)
    · rcases h3 with rfl | h3
      · rcases h4 with rfl | h4
        · exact absurd rfl h1
        · exact h4
      · rcases h4 with rfl | h4
        · exact h3
        · exact h4.trans h3
end Go.Proofs.Ytnnbgfjokbaepaa


/- The longest way: what dag.Long comes to. Plain Lean. -/
set_option linter.unusedVariables false
set_option linter.unusedSimpArgs false
namespace Go.Proofs.Ytnnbgfjokbaepaa
open DagPlain

theorem fold_len (x : Int) : ∀ (ps : List Int) (F : List Int), (ps.foldl (stepP x) F).length = F.length
  | [], F => rfl
  | p :: ps, F => by
    rw [List.foldl_cons, fold_len x ps]
    unfold stepP
    rw [List.length_set]
theorem fold_spec (x : Int) (n : Nat) (hx : x.toNat < n) : ∀ (ps : List Int) (F : List Int), F.length = n → (∀ p ∈ ps, p.toNat ≠ x.toNat) →
    (∀ v : Nat, v ≠ x.toNat → (ps.foldl (stepP x) F).getD v 0 = F.getD v 0) ∧ F.getD x.toNat 0 ≤ (ps.foldl (stepP x) F).getD x.toNat 0 ∧ (∀ p ∈ ps, F.getD p.toNat 0 ≤ (ps.foldl (stepP x) F).getD x.toNat 0) ∧
    ((ps.foldl (stepP x) F).getD x.toNat 0 = F.getD x.toNat 0 ∨ ∃ p ∈ ps, (ps.foldl (stepP x) F).getD x.toNat 0 = F.getD p.toNat 0)
  | [], F, hl, _ => ⟨fun _ _ => rfl, Int.le_refl _, fun p hp => by simp at hp, .inl rfl⟩
  | p :: ps, F, hl, hne => by
    have hl1 : (stepP x F p).length = n := by unfold stepP; rw [List.length_set]; exact hl
    obtain ⟨h1, h2, h3, h4⟩ := fold_spec x n hx ps (stepP x F p) hl1 (fun q hq => hne q (List.mem_cons_of_mem _ hq))
    have hx1 : (stepP x F p).getD x.toNat 0 = max (F.getD x.toNat 0) (F.getD p.toNat 0) := by unfold stepP; rw [getD_set, if_pos ⟨rfl, by omega⟩]
    have hv1 : ∀ v : Nat, v ≠ x.toNat → (stepP x F p).getD v 0 = F.getD v 0 := fun v hv => by unfold stepP; rw [getD_set, if_neg (fun h => hv h.1.symm)]
    rw [List.foldl_cons]
    rw [hx1] at h2 h4
    refine ⟨fun v hv => by rw [h1 v hv, hv1 v hv], by omega, fun q hq => ?_, ?_⟩
    · rcases List.mem_cons.1 hq with rfl | hq
      · omega
      · have := h3 q hq
        rw [hv1 _ (hne q (List.mem_cons_of_mem _ hq))] at this
        exact this
    · rcases h4 with h4 | ⟨q, hq, h4⟩
      · rcases Int.le_total (F.getD p.toNat 0) (F.getD x.toNat 0) with h | h
        · exact .inl (by omega)
        · exact .inr ⟨p, by simp, by omega⟩
      · rw [hv1 _ (hne q (List.mem_cons_of_mem _ hq))] at h4
        exact .inr ⟨q, List.mem_cons_of_mem _ hq, h4⟩

/-- What is told of a node that is done. -/
def FarAt (l : List Int) (es : List (Int × Int)) (F : List Int) (x : Int) : Prop :=
  ∃ m, F.getD x.toNat 0 = m + l.getD x.toNat 0 ∧ 0 ≤ m ∧ (∀ p ∈ predL x es, F.getD p.toNat 0 ≤ m) ∧ (m = 0 ∨ ∃ p ∈ predL x es, m = F.getD p.toNat 0)
def FarInv (l : List Int) (es : List (Int × Int)) (r : List Int) (k : Nat) (s : List Int × Int) : Prop :=
  s.1.length = l.length ∧ (∀ j, j < k → FarAt l es s.1 (r.getD j 0)) ∧ (∀ v : Nat, (∀ j, j < k → r.getD j 0 ≠ (v : Int)) → s.1.getD v 0 = 0) ∧ (∀ j, j < k → s.1.getD (r.getD j 0).toNat 0 ≤ s.2) ∧ (s.2 = 0 ∨ ∃ j, j < k ∧ s.2 = s.1.getD (r.getD j 0).toNat 0) ∧ 0 ≤ s.2
theorem far_run {l : List Int} {es : List (Int × Int)} (hz : checkL l es = 0) : ∀ k, k ≤ (ordL l es).length → FarInv l es (ordL l es) k (((ordL l es).take k).foldl (stepN l es) (List.replicate l.length 0, 0))
  | 0, _ => ⟨by simp, fun j hj => absurd hj (by omega), fun v _ => by simp [List.getD_eq_getElem?_getD, List.getElem?_replicate]; split <;> rfl, fun j hj => absurd hj (by omega), .inl rfl, Int.le_refl _⟩
  | k + 1, hk => by
    obtain ⟨g1, g2, g3, g4⟩ := ordL_good hz
    obtain ⟨i1, i2, i3, i4, i5, i6⟩ := far_run hz k (by omega)
    rw [foldl_snoc _ _ _ _ (by omega)]
    generalize ((ordL l es).take k).foldl (stepN l es) (List.replicate l.length 0, 0) = s at *
    obtain ⟨F, mo⟩ := s
    dsimp only at i1 i2 i3 i4 i5 i6
    generalize hr : ordL l es = r at *
    have hxr := g3 _ (getD_mem r k (by omega))
    have hne : ∀ j, j < k → r.getD j 0 ≠ r.getD k 0 := fun j hj e => by have := nodup_getD g1.1 (by omega) (by omega) e; omega
    have hpre : ∀ j, j ≤ k → ∀ p ∈ predL (r.getD j 0) es, ∃ i, i < j ∧ r.getD i 0 = p := fun j hj p hp => by
      obtain ⟨i, hi, e⟩ := g1.2 j (by omega) _ (mem_predL.1 hp) rfl
      exact ⟨i, hi, e⟩
    have hnn : ∀ j, j < r.length → 0 ≤ r.getD j 0 ∧ r.getD j 0 < l.length := fun j hj => g3 _ (getD_mem r j hj)
    have htn : ∀ j, j < k → (r.getD j 0).toNat ≠ (r.getD k 0).toNat := fun j hj e => by
      have h1 := hnn j (by omega)
      have h2 := hnn k (by omega)
      exact hne j hj (by omega)
    have hfs := fold_spec (r.getD k 0) l.length (by omega) (predL (r.getD k 0) es) F i1 (fun p hp => by
      obtain ⟨i, hi, e⟩ := hpre k (Nat.le_refl _) p hp
      rw [← e]; exact htn i hi)
    have hln := fold_len (r.getD k 0) (predL (r.getD k 0) es) F
    have hx0 : F.getD (r.getD k 0).toNat 0 = 0 := i3 _ (fun j hj e => hne j hj (by rw [e]; omega))
    obtain ⟨f1, f2, f3, f4⟩ := hfs
    rw [hx0] at f2 f4
    unfold stepN stepM
    have hSF : stepF l es F (r.getD k 0) = ((predL (r.getD k 0) es).foldl (stepP (r.getD k 0)) F).set (r.getD k 0).toNat (((predL (r.getD k 0) es).foldl (stepP (r.getD k 0)) F).getD (r.getD k 0).toNat 0 + l.getD (r.getD k 0).toNat 0) := rfl
    dsimp only
    generalize stepF l es F (r.getD k 0) = S at *
    generalize (predL (r.getD k 0) es).foldl (stepP (r.getD k 0)) F = G at *
    have hSx : S.getD (r.getD k 0).toNat 0 = G.getD (r.getD k 0).toNat 0 + l.getD (r.getD k 0).toNat 0 := by rw [hSF, getD_set, if_pos ⟨rfl, by omega⟩]
    have hSo : ∀ v : Nat, v ≠ (r.getD k 0).toNat → S.getD v 0 = F.getD v 0 := fun v hv => by rw [hSF, getD_set, if_neg (fun h => hv h.1.symm), f1 v hv]
    have hSl : S.length = l.length := by rw [hSF, List.length_set, hln, i1]
    have hold : ∀ j, j < k → S.getD (r.getD j 0).toNat 0 = F.getD (r.getD j 0).toNat 0 := fun j hj => hSo _ (htn j hj)
    have hw : 0 ≤ l.getD (r.getD k 0).toNat 0 := by
      have := (ordL_in (l := l) (es := es) (by rw [hr]; intro h; rw [h] at hk; simp at hk)).2.2.2 (r.getD k 0).toNat
      omega
    refine ⟨hSl, fun j hj => ?_, fun v hv => ?_, fun j hj => ?_, ?_, by omega⟩
    · by_cases e : j = k
      · subst e
        refine ⟨G.getD (r.getD j 0).toNat 0, hSx, f2, fun p hp => ?_, ?_⟩
        · obtain ⟨i, hi, e⟩ := hpre j (Nat.le_refl _) p hp
          have := f3 p hp
          rw [← e] at this ⊢
          rw [hold i hi]; exact this
        · rcases f4 with f4 | ⟨p, hp, f4⟩
          · exact .inl f4
          · obtain ⟨i, hi, e⟩ := hpre j (Nat.le_refl _) p hp
            exact .inr ⟨p, hp, by rw [f4, ← e, hold i hi]⟩
      · obtain ⟨m, m1, m2, m3, m4⟩ := i2 j (by omega)
        refine ⟨m, by rw [hold j (by omega)]; exact m1, m2, fun p hp => ?_, ?_⟩
        · obtain ⟨i, hi, e⟩ := hpre j (by omega) p hp
          have := m3 p hp
          rw [← e] at this ⊢
          rw [hold i (by omega)]; exact this
        · rcases m4 with m4 | ⟨p, hp, m4⟩
          · exact .inl m4
          · obtain ⟨i, hi, e⟩ := hpre j (by omega) p hp
            exact .inr ⟨p, hp, by rw [m4, ← e, hold i (by omega)]⟩
    · have hvk := hv k (by omega)
      rw [hSo v (by omega)]
      exact i3 v (fun j hj => hv j (by omega))
    · by_cases e : j = k
      · subst e; dsimp only; omega
      · rw [hold j (by omega)]
        have := i4 j (by omega)
        dsimp only
        omega
    · dsimp only
      rcases Int.le_total (S.getD (r.getD k 0).toNat 0) mo with h | h
      · rcases i5 with i5 | ⟨j, hj, i5⟩
        · exact .inl (by omega)
        · exact .inr ⟨j, by omega, by rw [hold j hj]; omega⟩
      · exact .inr ⟨k, by omega, by omega⟩

/-- The numbers at the end. -/
def farL (l : List Int) (es : List (Int × Int)) : List Int := ((ordL l es).foldl (stepN l es) (List.replicate l.length 0, 0)).1
theorem far_at {l : List Int} {es : List (Int × Int)} (hz : checkL l es = 0) (v : Int) (hv : 0 ≤ v ∧ v < l.length) : FarAt l es (farL l es) v ∧ (farL l es).getD v.toNat 0 ≤ longL l es := by
  obtain ⟨g1, g2, g3, g4⟩ := ordL_good hz
  have h := far_run hz (ordL l es).length (Nat.le_refl _)
  rw [List.take_length] at h
  obtain ⟨i1, i2, i3, i4, i5, i6⟩ := h
  obtain ⟨j, hj, e⟩ := mem_getD (g4 v hv)
  have h2 := i2 j hj
  have h4 := i4 j hj
  rw [e] at h2 h4
  exact ⟨h2, h4⟩
theorem long_some {l : List Int} {es : List (Int × Int)} (hz : checkL l es = 0) : 0 ≤ longL l es ∧ (longL l es = 0 ∨ ∃ j, j < (ordL l es).length ∧ longL l es = (farL l es).getD ((ordL l es).getD j 0).toNat 0) := by
  have h := far_run hz (ordL l es).length (Nat.le_refl _)
  rw [List.take_length] at h
  exact ⟨h.2.2.2.2.2, h.2.2.2.2.1⟩
theorem work_nn {l : List Int} {es : List (Int × Int)} (hz : checkL l es = 0) (i : Nat) : 0 ≤ l.getD i 0 ∧ l.getD i 0 ≤ 1000 := by
  obtain ⟨y1, y2, y3, y4, y5⟩ := ordL_yes hz
  by_cases hi : i < l.length
  · rw [List.getD_eq_getElem?_getD, List.getElem?_eq_getElem hi]
    have := List.any_eq_false.1 y4 l[i] (List.getElem_mem hi)
    unfold oddW at this
    simp at this
    simp
    omega
  · rw [List.getD_eq_getElem?_getD, List.getElem?_eq_none (by omega)]; simp
theorem long_work {l : List Int} {es : List (Int × Int)} (hz : checkL l es = 0) (i : Nat) (hi : i < l.length) : l.getD i 0 ≤ longL l es := by
  obtain ⟨⟨m, m1, m2, _⟩, h⟩ := far_at hz (i : Int) (by omega)
  simp only [Int.toNat_natCast] at m1 h
  omega
theorem long_edge {l : List Int} {es : List (Int × Int)} (hz : checkL l es = 0) (e : Int × Int) (he : e ∈ es) : l.getD e.1.toNat 0 + l.getD e.2.toNat 0 ≤ longL l es := by
  obtain ⟨y1, y2, y3, y4, y5⟩ := ordL_yes hz
  obtain ⟨h1, h2⟩ := oddEs_in y3 e he
  obtain ⟨⟨m, m1, m2, _⟩, _⟩ := far_at hz e.1 h1
  obtain ⟨⟨m', n1, n2, n3, _⟩, hl⟩ := far_at hz e.2 h2
  have := n3 e.1 (mem_predL.2 he)
  omega
theorem sum_perm {l l' : List Int} (h : List.Perm l l') : l.sum = l'.sum := by
  induction h with
  | nil => rfl
  | cons x _ ih => simp only [List.sum_cons, ih]
  | swap x y l => simp only [List.sum_cons]; omega
  | trans _ _ h1 h2 => rw [h1, h2]
theorem sum_range (l : List Int) : ((List.range l.length).map fun i => l.getD i 0).sum = l.sum := by
  congr 1
  apply List.ext_getElem (by simp)
  intro i h1 h2
  simp [List.getD_eq_getElem?_getD, h2]
theorem ord_sum {l : List Int} {es : List (Int × Int)} (hz : checkL l es = 0) : ((ordL l es).map fun v => l.getD v.toNat 0).sum = l.sum := by
  obtain ⟨g1, g2, g3, g4⟩ := ordL_good hz
  rw [← sum_range l]
  have hp : List.Perm ((ordL l es).map Int.toNat) (List.range l.length) := by
    refine (List.perm_ext_iff_of_nodup ?_ List.nodup_range).2 fun a => ?_
    · rw [List.nodup_iff_pairwise_ne, List.pairwise_map]
      refine List.Pairwise.imp_of_mem ?_ (List.nodup_iff_pairwise_ne.1 g1.1)
      intro x y hx hy hne e
      have := g3 x hx
      have := g3 y hy
      exact hne (by omega)
    · rw [List.mem_map, List.mem_range]
      constructor
      · rintro ⟨x, hx, rfl⟩
        have := g3 x hx
        omega
      · intro ha
        exact ⟨(a : Int), g4 a (by omega), by simp⟩
  have := sum_perm (hp.map fun i => l.getD i 0)
  rw [List.map_map] at this
  exact this
theorem sum_snoc' (f : Int → Int) (r : List Int) (k : Nat) (h : k < r.length) : ((r.take (k + 1)).map f).sum = ((r.take k).map f).sum + f (r.getD k 0) := by
  rw [List.getD_eq_getElem?_getD, List.getElem?_eq_getElem h, List.take_add_one, List.getElem?_eq_getElem h]
  simp only [Option.toList_some, List.map_append, List.map_cons, List.map_nil, List.sum_append, List.sum_cons, List.sum_nil, Option.getD_some]
  omega
theorem sum_mono (f : Int → Int) (hf : ∀ v, 0 ≤ f v) (r : List Int) : ∀ (d i : Nat), i + d ≤ r.length → ((r.take i).map f).sum ≤ ((r.take (i + d)).map f).sum
  | 0, i, _ => Int.le_refl _
  | d + 1, i, h => by
    have h1 := sum_mono f hf r d i (by omega)
    have h2 := sum_snoc' f r (i + d) (by omega)
    have h3 := hf (r.getD (i + d) 0)
    rw [show i + (d + 1) = i + d + 1 by omega]
    omega
theorem long_total {l : List Int} {es : List (Int × Int)} (hz : checkL l es = 0) : longL l es ≤ l.sum := by
  obtain ⟨g1, g2, g3, g4⟩ := ordL_good hz
  have hw : ∀ v : Int, 0 ≤ (fun v : Int => l.getD v.toNat 0) v := fun v => (work_nn hz v.toNat).1
  have hpre : ∀ (k j : Nat), j < k → j < (ordL l es).length → (farL l es).getD ((ordL l es).getD j 0).toNat 0 ≤ (((ordL l es).take (j + 1)).map fun v => l.getD v.toNat 0).sum := by
    intro k
    induction k with
    | zero => intro j hj; omega
    | succ k ih =>
      intro j hj hjl
      by_cases e : j < k
      · exact ih j e hjl
      · obtain ⟨⟨m, m1, m2, m3, m4⟩, _⟩ := far_at hz _ (g3 _ (getD_mem _ j hjl))
        rw [sum_snoc' _ _ _ hjl, m1]
        have hs0 := sum_mono _ hw (ordL l es) j 0 (by omega)
        simp only [List.take_zero, List.map_nil, List.sum_nil, Nat.zero_add] at hs0
        rcases m4 with m4 | ⟨p, hp, m4⟩
        · omega
        · obtain ⟨i, hi, e2⟩ := g1.2 j hjl _ (mem_predL.1 hp) rfl
          have h1 := ih i (by omega) (by omega)
          rw [e2] at h1
          have h2 := sum_mono _ hw (ordL l es) (j - (i + 1)) (i + 1) (by omega)
          rw [show i + 1 + (j - (i + 1)) = j by omega] at h2
          dsimp only at h1
          omega
  have htot : (((ordL l es).take (ordL l es).length).map fun v => l.getD v.toNat 0).sum = l.sum := by rw [List.take_length]; exact ord_sum hz
  obtain ⟨_, h | ⟨j, hj, h⟩⟩ := long_some hz
  · have hs0 := sum_mono _ hw (ordL l es) (ordL l es).length 0 (by omega)
    simp only [List.take_zero, List.map_nil, List.sum_nil, Nat.zero_add] at hs0
    rw [h]; omega
  · have h1 := hpre (j + 1) j (by omega) hj
    have h2 := sum_mono _ hw (ordL l es) ((ordL l es).length - (j + 1)) (j + 1) (by omega)
    rw [show j + 1 + ((ordL l es).length - (j + 1)) = (ordL l es).length by omega] at h2
    omega
theorem long_mono {l : List Int} {es es' : List (Int × Int)} (hz : checkL l es = 0) (hz' : checkL l es' = 0) (hs : ∀ e ∈ es, e ∈ es') : longL l es ≤ longL l es' := by
  obtain ⟨g1, g2, g3, g4⟩ := ordL_good hz
  have hle : ∀ (k j : Nat), j < k → j < (ordL l es).length → (farL l es).getD ((ordL l es).getD j 0).toNat 0 ≤ (farL l es').getD ((ordL l es).getD j 0).toNat 0 := by
    intro k
    induction k with
    | zero => intro j hj; omega
    | succ k ih =>
      intro j hj hjl
      by_cases e : j < k
      · exact ih j e hjl
      · have hb := g3 _ (getD_mem _ j hjl)
        obtain ⟨⟨m, m1, m2, m3, m4⟩, _⟩ := far_at hz _ hb
        obtain ⟨⟨m', n1, n2, n3, _⟩, _⟩ := far_at hz' _ hb
        rcases m4 with m4 | ⟨p, hp, m4⟩
        · omega
        · obtain ⟨i, hi, e2⟩ := g1.2 j hjl _ (mem_predL.1 hp) rfl
          have h1 := ih i (by omega) (by omega)
          rw [e2] at h1
          have h2 := n3 p (mem_predL.2 (hs _ (mem_predL.1 hp)))
          dsimp only at h1
          omega
  obtain ⟨_, h | ⟨j, hj, h⟩⟩ := long_some hz
  · have := (long_some hz').1
    omega
  · have h1 := hle (j + 1) j (by omega) hj
    have h2 := (far_at hz' _ (g3 _ (getD_mem _ j hj))).2
    omega
end Go.Proofs.Ytnnbgfjokbaepaa


/- A graph with an edge less: it may be, too. -/
set_option linter.unusedVariables false
set_option linter.unusedSimpArgs false
namespace Go.Proofs.Ytnnbgfjokbaepaa
open DagPlain

theorem oddE_spec {n : Nat} {es : List (Int × Int)} {k : Nat} (hk : k < es.length) : oddE n es k = false ↔ ((0 ≤ es[k].1 ∧ es[k].1 < n) ∧ (0 ≤ es[k].2 ∧ es[k].2 < n) ∧ es[k].1 ≠ es[k].2) ∧ es[k] ∉ es.take k := by
  have hd : es.getD k (0, 0) = es[k] := by rw [List.getD_eq_getElem?_getD, List.getElem?_eq_getElem hk]; rfl
  unfold oddE thereB
  rw [hd]
  simp only [Bool.or_eq_false_iff, Bool.not_eq_false', Bool.and_eq_true, decide_eq_true_eq, decide_eq_false_iff_not, List.contains_eq_mem]
  constructor
  · rintro ⟨h1, h2, h3, h4⟩; exact ⟨⟨h1, h2, h3⟩, h4⟩
  · rintro ⟨⟨h1, h2, h3⟩, h4⟩; exact ⟨h1, h2, h3, h4⟩
theorem oddEs_all {n : Nat} {es : List (Int × Int)} (h : oddEs n es = false) : ∀ k (hk : k < es.length), ((0 ≤ es[k].1 ∧ es[k].1 < n) ∧ (0 ≤ es[k].2 ∧ es[k].2 < n) ∧ es[k].1 ≠ es[k].2) ∧ es[k] ∉ es.take k := by
  intro k hk
  unfold oddEs at h
  rw [List.any_eq_false] at h
  exact (oddE_spec hk).1 (by simpa using h k (by simpa using hk))
theorem nodup_take {α : Type} {es : List α} (h : ∀ k (hk : k < es.length), es[k] ∉ es.take k) : es.Nodup := by
  rw [List.nodup_iff_pairwise_ne, List.pairwise_iff_getElem]
  intro i j hi hj hij e
  refine h j hj ?_
  rw [← e]
  exact List.mem_take_iff_getElem.2 ⟨i, by omega, rfl⟩
theorem take_nodup {α : Type} {es : List α} (h : es.Nodup) : ∀ k (hk : k < es.length), es[k] ∉ es.take k := by
  intro k hk hm
  obtain ⟨i, hi, e⟩ := List.mem_take_iff_getElem.1 hm
  rw [List.nodup_iff_pairwise_ne, List.pairwise_iff_getElem] at h
  exact h i k (by omega) hk (by omega) e
theorem oddEs_sub {n : Nat} {es es' : List (Int × Int)} (h : oddEs n es = false) (hs : List.Sublist es' es) : oddEs n es' = false := by
  have ha := oddEs_all h
  have hn : es'.Nodup := (nodup_take fun k hk => (ha k hk).2).sublist hs
  refine oddEs_no fun j hj => (oddE_spec hj).2 ⟨?_, take_nodup hn j hj⟩
  obtain ⟨k, hk, e⟩ := List.getElem_of_mem (hs.subset (List.getElem_mem hj))
  rw [← e]
  exact (ha k hk).1
theorem check_sub {l : List Int} {es es' : List (Int × Int)} (hz : checkL l es = 0) (hs : List.Sublist es' es) : checkL l es' = 0 := by
  obtain ⟨y1, y2, y3, y4, y5⟩ := ordL_yes hz
  have ho := oddEs_sub y3 hs
  have hl := hs.length_le
  unfold checkL
  rw [if_neg (by omega), if_neg (by rw [y4]; simp), if_neg (by rw [ho]; simp)]
  by_cases hc : (orderL l.length es').isSome = true
  · rw [if_pos hc]
  · exfalso
    obtain ⟨v, hv⟩ := order_none (oddEs_in ho) (by simpa using hc)
    exact no_round hz v (hv.mono fun e he => hs.subset he)
def lessE (es : List (Int × Int)) (at_ : Nat) : List (Int × Int) := es.take at_ ++ es.drop (at_ + 1)
theorem lessE_sub (es : List (Int × Int)) (k : Nat) : List.Sublist (lessE es k) es := by
  unfold lessE
  rw [← List.eraseIdx_eq_take_drop_succ]
  exact List.eraseIdx_sublist _ _
theorem lessE_len (es : List (Int × Int)) (k : Nat) (h : k < es.length) : (lessE es k).length = es.length - 1 := by unfold lessE; simp; omega
theorem less_check {l : List Int} {es : List (Int × Int)} (hz : checkL l es = 0) (k : Nat) : checkL l (lessE es k) = 0 := check_sub hz (lessE_sub es k)
theorem less_long {l : List Int} {es : List (Int × Int)} (hz : checkL l es = 0) (k : Nat) : longL l (lessE es k) ≤ longL l es := long_mono (less_check hz k) hz fun e he => (lessE_sub es k).subset he
theorem less_total {l : List Int} {es : List (Int × Int)} (hz : checkL l es = 0) (k : Nat) : totL l (lessE es k) = totL l es := by unfold totL; rw [if_pos hz, if_pos (less_check hz k)]
theorem less_ne {es : List (Int × Int)} {k : Nat} (h : k < es.length) : lessE es k ≠ es := fun e => by
  have := lessE_len es k h
  rw [e] at this
  omega
end Go.Proofs.Ytnnbgfjokbaepaa


/- All nodes to which a way leads, by rounds over the edges. Plain Lean. -/
set_option linter.unusedVariables false
set_option linter.unusedSimpArgs false
namespace Go.Proofs.Ytnnbgfjokbaepaa
open DagPlain

def stepR (a : Int) (out : List Bool) (e : Int × Int) : List Bool := if e.1 = a ∨ out.getD e.1.toNat false = true then out.set e.2.toNat true else out
def roundL (a : Int) (es : List (Int × Int)) (out : List Bool) : List Bool := es.foldl (stepR a) out
def rounds (a : Int) (es : List (Int × Int)) : Nat → List Bool → List Bool
  | 0, out => out
  | d + 1, out => rounds a es d (roundL a es out)
def reachL (n : Nat) (es : List (Int × Int)) (a : Int) : List Bool := rounds a es n (List.replicate n false)
theorem getB_set (F : List Bool) (i j : Nat) (x : Bool) : (F.set i x).getD j false = if i = j ∧ i < F.length then x else F.getD j false := by
  rw [List.getD_eq_getElem?_getD, List.getD_eq_getElem?_getD, List.getElem?_set]
  by_cases h : i = j
  · subst h
    by_cases h2 : i < F.length
    · simp [h2]
    · simp [h2]
  · simp [h]
theorem stepR_len (a : Int) (out : List Bool) (e : Int × Int) : (stepR a out e).length = out.length := by unfold stepR; split <;> simp
theorem stepR_mono (a : Int) (out : List Bool) (e : Int × Int) (v : Nat) (h : out.getD v false = true) : (stepR a out e).getD v false = true := by
  unfold stepR
  split
  · rw [getB_set]; split
    · rfl
    · exact h
  · exact h
theorem fold_mono (a : Int) (v : Nat) : ∀ (es : List (Int × Int)) (out : List Bool), out.getD v false = true → (es.foldl (stepR a) out).getD v false = true
  | [], out, h => h
  | e :: es, out, h => fold_mono a v es _ (stepR_mono a out e v h)
theorem foldR_len (a : Int) : ∀ (es : List (Int × Int)) (out : List Bool), (es.foldl (stepR a) out).length = out.length
  | [], out => rfl
  | e :: es, out => by rw [List.foldl_cons, foldR_len a es, stepR_len]
theorem fold_edge (a : Int) (n : Nat) : ∀ (es : List (Int × Int)) (out : List Bool), out.length = n → (∀ e ∈ es, 0 ≤ e.2 ∧ e.2 < n) → ∀ e ∈ es, (e.1 = a ∨ out.getD e.1.toNat false = true) → (es.foldl (stepR a) out).getD e.2.toNat false = true
  | [], out, _, _, e, he, _ => by simp at he
  | e0 :: es, out, hl, hin, e, he, h => by
    rw [List.foldl_cons]
    rcases List.mem_cons.1 he with rfl | he
    · refine fold_mono a _ es _ ?_
      unfold stepR
      have := hin e (by simp)
      rw [if_pos h, getB_set, if_pos ⟨rfl, by omega⟩]
    · refine fold_edge a n es _ (by rw [stepR_len]; exact hl) (fun e he => hin e (List.mem_cons_of_mem _ he)) e he ?_
      rcases h with h | h
      · exact .inl h
      · exact .inr (stepR_mono a out e0 _ h)
theorem fold_sound (a : Int) (es0 : List (Int × Int)) (n : Nat) : ∀ (es : List (Int × Int)) (out : List Bool), (∀ e ∈ es, e ∈ es0) → (∀ e ∈ es, (0 ≤ e.1 ∧ e.1 < n) ∧ 0 ≤ e.2 ∧ e.2 < n) → (∀ v : Nat, out.getD v false = true → Path es0 a (v : Int)) → ∀ v : Nat, (es.foldl (stepR a) out).getD v false = true → Path es0 a (v : Int)
  | [], out, _, _, h, v, hv => h v hv
  | e :: es, out, hs, hin, h, v, hv => by
    rw [List.foldl_cons] at hv
    refine fold_sound a es0 n es _ (fun e he => hs e (List.mem_cons_of_mem _ he)) (fun e he => hin e (List.mem_cons_of_mem _ he)) (fun u hu => ?_) v hv
    unfold stepR at hu
    split at hu
    · rename_i hc
      rw [getB_set] at hu
      split at hu
      · rename_i hh
        have hb := hin e (by simp)
        have he := hs e (by simp)
        have hu2 : (u : Int) = e.2 := by omega
        rw [hu2]
        rcases hc with hc | hc
        · exact .edge (by rw [← hc]; exact he)
        · have := h _ hc
          rw [show ((e.1.toNat : Nat) : Int) = e.1 by omega] at this
          exact .step this he
      · exact h u hu
    · exact h u hu
theorem cnt_lt : ∀ (x y : List Bool), x.length = y.length → (∀ i, x.getD i false = true → y.getD i false = true) → x = y ∨ x.count true < y.count true
  | [], [], _, _ => .inl rfl
  | [], _ :: _, h, _ => by simp at h
  | _ :: _, [], h, _ => by simp at h
  | a :: x, b :: y, h, hm => by
    have ih := cnt_lt x y (by simpa using h) (fun i hi => by have := hm (i + 1) (by simpa using hi); simpa using this)
    have h0 := hm 0
    rw [List.count_cons, List.count_cons]
    cases a <;> cases b
    · rcases ih with ih | ih
      · exact .inl (by rw [ih])
      · exact .inr (by simpa using ih)
    · refine .inr ?_
      rcases ih with ih | ih
      · rw [ih]; simp
      · simp; omega
    · simp at h0
    · rcases ih with ih | ih
      · exact .inl (by rw [ih])
      · exact .inr (by simpa using ih)
theorem round_or (a : Int) (es : List (Int × Int)) (out : List Bool) : roundL a es out = out ∨ out.count true < (roundL a es out).count true := by
  rcases cnt_lt out (roundL a es out) (foldR_len a es out).symm (fun i h => fold_mono a i es out h) with h | h
  · exact .inl h.symm
  · exact .inr h
theorem rounds_fix (a : Int) (es : List (Int × Int)) (out : List Bool) (h : roundL a es out = out) : ∀ d, rounds a es d out = out
  | 0 => rfl
  | d + 1 => by unfold rounds; rw [h]; exact rounds_fix a es out h d
theorem rounds_len (a : Int) (es : List (Int × Int)) : ∀ (d : Nat) (out : List Bool), (rounds a es d out).length = out.length
  | 0, out => rfl
  | d + 1, out => by unfold rounds; rw [rounds_len a es d]; exact foldR_len a es out
theorem rounds_or (a : Int) (es : List (Int × Int)) : ∀ (d : Nat) (out : List Bool), roundL a es (rounds a es d out) = rounds a es d out ∨ out.count true + d ≤ (rounds a es d out).count true
  | 0, out => .inr (Nat.le_refl _)
  | d + 1, out => by
    rcases round_or a es out with h | h
    · refine .inl ?_
      rw [rounds_fix a es out h (d + 1)]
      exact h
    · have e : rounds a es (d + 1) out = rounds a es d (roundL a es out) := rfl
      rw [e]
      rcases rounds_or a es d (roundL a es out) with h2 | h2
      · exact .inl h2
      · exact .inr (by omega)
theorem reach_closed (n : Nat) (es : List (Int × Int)) (a : Int) : roundL a es (reachL n es a) = reachL n es a := by
  rcases rounds_or a es n (List.replicate n false) with h | h
  · exact h
  · rcases round_or a es (reachL n es a) with h2 | h2
    · exact h2
    · have hl : (roundL a es (reachL n es a)).length = n := by unfold roundL reachL; rw [foldR_len, rounds_len]; simp
      have := List.count_le_length (a := true) (l := roundL a es (reachL n es a))
      unfold reachL at h2 hl this
      omega
theorem rounds_sound (n : Nat) (es : List (Int × Int)) (a : Int) (hin : ∀ e ∈ es, (0 ≤ e.1 ∧ e.1 < n) ∧ 0 ≤ e.2 ∧ e.2 < n) : ∀ (d : Nat) (out : List Bool), (∀ v : Nat, out.getD v false = true → Path es a (v : Int)) → ∀ v : Nat, (rounds a es d out).getD v false = true → Path es a (v : Int)
  | 0, out, h, v, hv => h v hv
  | d + 1, out, h, v, hv => rounds_sound n es a hin d (roundL a es out) (fun u hu => fold_sound a es n es out (fun _ h => h) hin h u hu) v hv
theorem reach_iff {n : Nat} {es : List (Int × Int)} {a : Int} (hin : ∀ e ∈ es, (0 ≤ e.1 ∧ e.1 < n) ∧ 0 ≤ e.2 ∧ e.2 < n) (v : Int) (hv : 0 ≤ v) : (reachL n es a).getD v.toNat false = true ↔ Path es a v := by
  constructor
  · intro h
    have := rounds_sound n es a hin n (List.replicate n false) (fun u hu => by
      rw [List.getD_eq_getElem?_getD, List.getElem?_replicate] at hu
      split at hu <;> simp at hu) v.toNat h
    rw [show ((v.toNat : Nat) : Int) = v by omega] at this
    exact this
  · intro h
    have hl : (reachL n es a).length = n := by unfold reachL; rw [rounds_len]; simp
    have hed : ∀ e ∈ es, (e.1 = a ∨ (reachL n es a).getD e.1.toNat false = true) → (reachL n es a).getD e.2.toNat false = true := fun e he h => by
      have := fold_edge a n es (reachL n es a) hl (fun e he => (hin e he).2) e he h
      have hc := reach_closed n es a
      unfold roundL at hc
      rw [hc] at this
      exact this
    clear hv
    induction h with
    | edge he => exact hed _ he (.inl rfl)
    | step _ he ih => exact hed _ he (.inr ih)
end Go.Proofs.Ytnnbgfjokbaepaa


/- The longest way by rounds over all edges (the document's way) is the longest way. -/
set_option linter.unusedVariables false
set_option linter.unusedSimpArgs false
namespace Go.Proofs.Ytnnbgfjokbaepaa
open DagPlain
def relE (l : List Int) (F : List Int) (e : Int × Int) : List Int := if F.getD e.1.toNat 0 + l.getD e.2.toNat 0 > F.getD e.2.toNat 0 then F.set e.2.toNat (F.getD e.1.toNat 0 + l.getD e.2.toNat 0) else F
def relRound (l : List Int) (es : List (Int × Int)) (F : List Int) : List Int := es.foldl (relE l) F
def relK (l : List Int) (es : List (Int × Int)) : Nat → List Int
  | 0 => l
  | k + 1 => relRound l es (relK l es k)
theorem relE_len (l F : List Int) (e : Int × Int) : (relE l F e).length = F.length := by unfold relE; split <;> simp
theorem relF_len (l : List Int) : ∀ (es : List (Int × Int)) (F : List Int), (es.foldl (relE l) F).length = F.length
  | [], F => rfl
  | e :: es, F => (relF_len l es (relE l F e)).trans (relE_len l F e)
theorem relE_at (l F : List Int) (e : Int × Int) (v : Nat) : (relE l F e).getD v 0 = if e.2.toNat = v ∧ v < F.length ∧ F.getD v 0 < F.getD e.1.toNat 0 + l.getD v 0 then F.getD e.1.toNat 0 + l.getD v 0 else F.getD v 0 := by
  unfold relE
  by_cases h : e.2.toNat = v
  · subst h
    by_cases h2 : F.getD e.1.toNat 0 + l.getD e.2.toNat 0 > F.getD e.2.toNat 0
    · rw [if_pos h2, getD_set]
      by_cases h3 : e.2.toNat < F.length
      · rw [if_pos ⟨rfl, h3⟩, if_pos ⟨rfl, h3, h2⟩]
      · rw [if_neg (fun x => h3 x.2), if_neg (fun x => h3 x.2.1)]
    · rw [if_neg h2, if_neg (fun x => h2 x.2.2)]
  · by_cases h2 : F.getD e.1.toNat 0 + l.getD e.2.toNat 0 > F.getD e.2.toNat 0
    · rw [if_pos h2, getD_set, if_neg (fun x => h x.1), if_neg (fun x => h x.1)]
    · rw [if_neg h2, if_neg (fun x => h x.1)]
theorem relE_mono (l F : List Int) (e : Int × Int) (v : Nat) : F.getD v 0 ≤ (relE l F e).getD v 0 := by
  rw [relE_at]
  split <;> omega
theorem relF_mono (l : List Int) (v : Nat) : ∀ (es : List (Int × Int)) (F : List Int), F.getD v 0 ≤ (es.foldl (relE l) F).getD v 0
  | [], F => Int.le_refl _
  | e :: es, F => Int.le_trans (relE_mono l F e v) (relF_mono l v es (relE l F e))
theorem relF_edge (l : List Int) (e : Int × Int) : ∀ (es : List (Int × Int)) (F : List Int), e ∈ es → e.2.toNat < F.length → F.getD e.1.toNat 0 + l.getD e.2.toNat 0 ≤ (es.foldl (relE l) F).getD e.2.toNat 0
  | [], F, h, _ => by cases h
  | x :: es, F, h, hv => by
    rcases List.mem_cons.1 h with rfl | h
    · refine Int.le_trans ?_ (relF_mono l _ es (relE l F e))
      rw [relE_at]
      split
      · exact Int.le_refl _
      · rename_i hn
        by_cases hc : F.getD e.2.toNat 0 < F.getD e.1.toNat 0 + l.getD e.2.toNat 0
        · exact absurd ⟨rfl, hv, hc⟩ hn
        · omega
    · refine Int.le_trans ?_ (relF_edge l e es (relE l F x) h (by rw [relE_len]; exact hv))
      have := relE_mono l F x e.1.toNat
      omega
theorem relF_le (l : List Int) (G : List Int) (n : Nat) : ∀ (es : List (Int × Int)) (F : List Int), (∀ e ∈ es, G.getD e.1.toNat 0 + l.getD e.2.toNat 0 ≤ G.getD e.2.toNat 0) → (∀ v : Nat, F.getD v 0 ≤ G.getD v 0) → ∀ v : Nat, (es.foldl (relE l) F).getD v 0 ≤ G.getD v 0
  | [], F, _, h => h
  | e :: es, F, hg, h => relF_le l G n es (relE l F e) (fun x hx => hg x (List.mem_cons_of_mem _ hx)) (fun v => by
    rw [relE_at]
    split
    · rename_i hc
      have h1 := hg e List.mem_cons_self
      have h2 := h e.1.toNat
      rw [← hc.1] at *
      omega
    · exact h v)
section
variable {l : List Int} {es : List (Int × Int)}
theorem relK_len : ∀ k, (relK l es k).length = l.length
  | 0 => rfl
  | k + 1 => (relF_len l es _).trans (relK_len k)
theorem far_out (hz : checkL l es = 0) (v : Nat) (hv : l.length ≤ v) : (farL l es).getD v 0 = 0 := by
  have h := (far_run hz (ordL l es).length (Nat.le_refl _)).1
  rw [List.take_length] at h
  have : (farL l es).length ≤ v := by show (((ordL l es).foldl (stepN l es) (List.replicate l.length 0, 0)).1).length ≤ v; rw [h]; exact hv
  rw [List.getD_eq_getElem?_getD, List.getElem?_eq_none this]; rfl
theorem relK_le (hz : checkL l es = 0) : ∀ (k v : Nat), (relK l es k).getD v 0 ≤ (farL l es).getD v 0
  | 0, v => by
    show l.getD v 0 ≤ _
    by_cases hv : v < l.length
    · obtain ⟨⟨m, m1, m2, -⟩, -⟩ := far_at hz (v : Int) (by omega)
      simp only [Int.toNat_natCast] at m1
      omega
    · rw [far_out hz v (by omega), List.getD_eq_getElem?_getD, List.getElem?_eq_none (by omega)]; exact Int.le_refl _
  | k + 1, v => by
    refine relF_le l (farL l es) 0 es _ (fun e he => ?_) (fun v => relK_le hz k v) v
    obtain ⟨y1, y2, y3, y4, y5⟩ := ordL_yes hz
    have hin := oddEs_in y3 e he
    obtain ⟨⟨m, m1, m2, m3, -⟩, -⟩ := far_at hz e.2 hin.2
    have := m3 e.1 (mem_predL.2 he)
    omega
theorem relK_mono (v : Nat) : ∀ k, l.getD v 0 ≤ (relK l es k).getD v 0
  | 0 => Int.le_refl _
  | k + 1 => Int.le_trans (relK_mono v k) (relF_mono l v es _)
theorem relK_ge (hz : checkL l es = 0) : ∀ k, k ≤ (ordL l es).length → ∀ j, j < k → (farL l es).getD ((ordL l es).getD j 0).toNat 0 ≤ (relK l es k).getD ((ordL l es).getD j 0).toNat 0
  | 0, _, j, hj => absurd hj (by omega)
  | k + 1, hk, j, hj => by
    by_cases e : j = k
    · subst e
      obtain ⟨g1, g2, g3, g4⟩ := ordL_good hz
      have hv := g3 _ (getD_mem _ j (by omega))
      obtain ⟨⟨m, m1, m2, m3, m4⟩, -⟩ := far_at hz ((ordL l es).getD j 0) hv
      rcases m4 with m4 | ⟨p, hp, m4⟩
      · have := relK_mono (l := l) (es := es) ((ordL l es).getD j 0).toNat (j + 1)
        omega
      · have hpe := mem_predL.1 hp
        obtain ⟨i, hi, hie⟩ := g1.2 j (by omega) _ hpe rfl
        have ih := relK_ge hz j (by omega) i hi
        rw [hie] at ih
        have := relF_edge l (p, (ordL l es).getD j 0) es (relK l es j) hpe (by rw [relK_len]; show ((ordL l es).getD j 0).toNat < _; omega)
        show _ ≤ (es.foldl (relE l) (relK l es j)).getD _ 0
        simp only at this ih
        omega
    · exact Int.le_trans (relK_ge hz k (by omega) j (by omega)) (relF_mono l _ es _)
theorem relK_eq (hz : checkL l es = 0) (v : Nat) : (relK l es l.length).getD v 0 = (farL l es).getD v 0 := by
  have h1 := relK_le hz l.length v
  by_cases hv : v < l.length
  · obtain ⟨g1, g2, g3, g4⟩ := ordL_good hz
    obtain ⟨j, hj, e⟩ := mem_getD (g4 (v : Int) (by omega))
    have := relK_ge hz l.length (by omega) j (by omega)
    rw [e, Int.toNat_natCast] at this
    omega
  · rw [far_out hz v (by omega), List.getD_eq_getElem?_getD, List.getElem?_eq_none (by rw [relK_len]; omega)]; rfl
def maxL (F : List Int) : Int := F.foldl max 0
theorem maxL_le (x : Int) : ∀ (F : List Int) (a : Int), a ≤ x → (∀ y ∈ F, y ≤ x) → F.foldl max a ≤ x
  | [], a, h, _ => h
  | y :: F, a, h, hF => maxL_le x F (max a y) (by have := hF y List.mem_cons_self; omega) (fun z hz => hF z (List.mem_cons_of_mem _ hz))
theorem maxL_ge : ∀ (F : List Int) (a : Int), a ≤ F.foldl max a ∧ ∀ y ∈ F, y ≤ F.foldl max a
  | [], a => ⟨Int.le_refl _, fun y h => by cases h⟩
  | x :: F, a => by
    obtain ⟨h1, h2⟩ := maxL_ge F (max a x)
    refine ⟨by show a ≤ F.foldl max (max a x); omega, fun y hy => ?_⟩
    rcases List.mem_cons.1 hy with rfl | hy
    · show y ≤ F.foldl max (max a y); omega
    · exact h2 y hy
/-- The longest way, by rounds. -/
theorem rel_long (hz : checkL l es = 0) : maxL (relK l es l.length) = longL l es := by
  have hlen := relK_len (l := l) (es := es) l.length
  refine Int.le_antisymm ?_ ?_
  · refine maxL_le _ _ _ (long_some hz).1 (fun y hy => ?_)
    obtain ⟨i, hi, rfl⟩ := List.getElem_of_mem hy
    have h := (far_at hz (i : Int) (by omega)).2
    have e := relK_eq hz i
    rw [List.getD_eq_getElem?_getD, List.getElem?_eq_getElem hi] at e
    simp only [Option.getD_some, Int.toNat_natCast] at e h
    omega
  · rcases (long_some hz).2 with h | ⟨j, hj, h⟩
    · rw [h]; exact (maxL_ge _ 0).1
    · obtain ⟨g1, g2, g3, g4⟩ := ordL_good hz
      have hv := g3 _ (getD_mem _ j hj)
      have e := relK_eq hz ((ordL l es).getD j 0).toNat
      rw [h, ← e, List.getD_eq_getElem?_getD, List.getElem?_eq_getElem (by omega)]
      exact (maxL_ge _ 0).2 _ (List.getElem_mem _)
end
end Go.Proofs.Ytnnbgfjokbaepaa


/- A graph that came in, read: its works and its edges. -/
set_option linter.unusedVariables false
set_option maxRecDepth 100000
set_option linter.unusedSimpArgs false
namespace Go.Proofs.Ytnnbgfjokbaepaa
open Go.RowKit Go.Sort Go.Joins Go.Deep
open Go.Proofs.YtnnbgfjokbaepaaW.PrintWords

def EdC (w : World) (B : Option Addr) (es : List (Int × Int)) : Prop :=
  0 < es.length → ∃ ad, B = some ad ∧ ∀ i, i < es.length → w.cell? (ad.add (i * 2)) = some (.int .i64 (es.getD i (0, 0)).1) ∧ w.cell? (ad.add (i * 2 + 1)) = some (.int .i64 (es.getD i (0, 0)).2)
theorem cellsDag : Try.prog.cellsOf 25 = 2 := by kernel_rfl
theorem cellsEdge : Try.prog.cellsOf 45 = 2 := by kernel_rfl
def I64 (x : Int) : Prop := (Lit.int .i64 x).wf = true
theorem trod_ints {H : Type} {enc : TypeId × Value → H} {w : World} {base : Nat} {sp : Nat → Bool} {held : Bool} {n : Nat} {v : Value} {y : DataW H × List MemPlace} (h : DataW.trod enc Try.prog w base sp held n 22 [v] = some y) :
    ∃ A c l, v = .slice A l.length c ∧ l.length ≤ c ∧ ReadsInt w .i64 A l.length l ∧ ∀ x ∈ l, I64 x := by
  rcases Go.ChangeShapes.open_ints Try.underlying22 Try.underlying3 (by kernel_rfl) h with ⟨hcs, _⟩ | ⟨a, len, cap, zs, hcs, _, hl, hm, hz, _, hcell, hwz⟩
  · obtain rfl : v = .slice none 0 0 := by simpa using hcs
    exact ⟨none, 0, [], rfl, Nat.le_refl _, ⟨rfl, by simp, fun h => absurd h (by simp)⟩, by simp⟩
  · obtain rfl : v = .slice (some a) len cap := by simpa using hcs
    have hlz : len ≤ zs.length := by rw [hz]; split <;> omega
    refine ⟨some a, cap, zs.take len, by rw [List.length_take, Nat.min_eq_left hlz], by rw [List.length_take]; omega, ⟨rfl, by rw [List.length_take]; unfold maxLen at hm; omega, fun _ => ⟨a, rfl, fun j hj => ?_⟩⟩, fun x hx => hwz x (List.mem_of_mem_take hx)⟩
    rw [List.length_take] at hj
    rw [hcell j (by omega), List.getD_eq_getElem?_getD, List.getD_eq_getElem?_getD, List.getElem?_take_of_lt (by omega)]
theorem trod_edges {H : Type} {enc : TypeId × Value → H} {w : World} {base : Nat} {sp : Nat → Bool} {held : Bool} {n : Nat} {v : Value} {y : DataW H × List MemPlace} (h : DataW.trod enc Try.prog w base sp held n 23 [v] = some y) :
    ∃ B d es, v = .slice B es.length d ∧ es.length ≤ d ∧ es.length ≤ maxLen ∧ EdC w B es ∧ ∀ e ∈ es, I64 e.1 ∧ I64 e.2 := by
  rcases open_slice_pairs Try.underlying23 Try.underlying45 cellsEdge rfl rfl (by kernel_rfl) (by kernel_rfl) h with ⟨hcs, _⟩ | ⟨a, len, cap, m, k, V0, V1, D0, D1, P0, P1, hcs, _, hl, hm, hmm, _, hx⟩
  · obtain rfl : v = .slice none 0 0 := by simpa using hcs
    exact ⟨none, 0, [], rfl, Nat.le_refl _, by simp, fun h => absurd h (by simp), by simp⟩
  · obtain rfl : v = .slice (some a) len cap := by simpa using hcs
    have hlm : len ≤ m := by rw [hmm]; split <;> omega
    have hval : ∀ i, i < len → ∃ p : Int × Int, (V0 i = .int .i64 p.1 ∧ V1 i = .int .i64 p.2) ∧ I64 p.1 ∧ I64 p.2 := by
      intro i hi
      obtain ⟨_, _, h0, h1⟩ := hx i (by omega)
      obtain ⟨x, e0, _, w0⟩ := DataW.trod_int Try.underlying3 h0
      obtain ⟨z, e1, _, w1⟩ := DataW.trod_int Try.underlying3 h1
      exact ⟨(x, z), ⟨by simpa using e0, by simpa using e1⟩, w0, w1⟩
    obtain ⟨q, hq⟩ := choose_lt hval
    refine ⟨some a, cap, (List.range len).map q, by simp, by simpa using hl, by simp; omega, fun _ => ⟨a, rfl, fun i hi => ?_⟩, fun e he => ?_⟩
    · have hi' : i < len := by simpa using hi
      have hg : ((List.range len).map q).getD i (0, 0) = q i := by simp [List.getD_eq_getElem?_getD, hi']
      obtain ⟨h0, h1, _, _⟩ := hx i (by omega)
      rw [hg, h0, h1, (hq i hi').1.1, (hq i hi').1.2]
      exact ⟨rfl, rfl⟩
    · obtain ⟨i, hi, rfl⟩ := List.mem_map.1 he
      exact (hq i (by simpa using hi)).2
theorem open_edge {H : Type} {enc : TypeId × Value → H} {w : World} {base b0 : Nat} {sp : Nat → Bool} {held : Bool} {v : Value} {d : DataW H} {p : List MemPlace} (hv : Value.okWide Try.prog w .any b0 45 v) (h : DataW.Trod enc Try.prog w base sp held 45 v d p) :
    ∃ x y, v = .agg #[.int .i64 x, .int .i64 y] ∧ I64 x ∧ I64 y := by
  obtain ⟨c0, c1, y0, y1, m, rfl, _, _, hy0, hy1⟩ := open_agg2 Try.underlying45 (by kernel_rfl) cellsEdge hv h
  obtain ⟨x, e0, _, w0⟩ := DataW.trod_int Try.underlying3 hy0
  obtain ⟨z, e1, _, w1⟩ := DataW.trod_int Try.underlying3 hy1
  obtain rfl : c0 = .int .i64 x := by simpa using e0
  obtain rfl : c1 = .int .i64 z := by simpa using e1
  exact ⟨x, z, rfl, w0, w1⟩
/-- What the frame hands on of a graph. -/
def DagIn (w : World) (A : Option Addr) (c : Nat) (l : List Int) (B : Option Addr) (d : Nat) (es : List (Int × Int)) : Prop :=
  l.length ≤ c ∧ ReadsInt w .i64 A l.length l ∧ (∀ x ∈ l, I64 x) ∧ es.length ≤ d ∧ es.length ≤ maxLen ∧ EdC w B es ∧ ∀ e ∈ es, I64 e.1 ∧ I64 e.2
theorem open_dag {H : Type} {enc : TypeId × Value → H} {w : World} {base b0 : Nat} {sp : Nat → Bool} {held : Bool} {v : Value} {d : DataW H} {p : List MemPlace} (hv : Value.okWide Try.prog w .any b0 25 v) (h : DataW.Trod enc Try.prog w base sp held 25 v d p) :
    ∃ A c l B dd es, v = .agg #[.slice A l.length c, .slice B es.length dd] ∧ DagIn w A c l B dd es := by
  obtain ⟨c0, c1, y0, y1, m, rfl, _, _, hy0, hy1⟩ := open_agg2 Try.underlying25 (by kernel_rfl) cellsDag hv h
  obtain ⟨A, c, l, rfl, h1, h2, h3⟩ := trod_ints hy0
  obtain ⟨B, dd, es, rfl, h4, h5, h6, h7⟩ := trod_edges hy1
  exact ⟨A, c, l, B, dd, es, rfl, h1, h2, h3, h4, h5, h6, h7⟩
end Go.Proofs.Ytnnbgfjokbaepaa
