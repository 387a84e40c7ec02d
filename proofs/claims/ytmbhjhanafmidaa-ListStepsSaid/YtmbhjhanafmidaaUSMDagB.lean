/- Texts of this work, put into one. -/
import Derived.Test.YtmbhjhanafmidaaUSMDagA
import Derived.Deep.QuietTactic
import Derived.BigQuiet
import Derived.Shelf.Sort.Plain
import Derived.Shelf.Slices.In.SortNone
import Derived.Sort.OwnSortedInts
import Derived.Ground.NamesProg
import Derived.Test.YtmbhjhanafmidaaRows
import Derived.Lib.SmallJoins
import Derived.Deep.SlicePairs
import Derived.OpenShut
import Derived.ChangeOld
import Derived.ProofKit
set_option linter.unusedVariables false
set_option linter.unusedSimpArgs false
namespace Go.Proofs.Ytmbhjhanafmidaa
open Go.RowKit Go.Sort
open Go.Proofs.YtmbhjhanafmidaaW.PrintWords
open DagPlain
end Go.Proofs.Ytmbhjhanafmidaa

set_option linter.unusedVariables false
set_option linter.unusedSimpArgs false
namespace Go.Proofs
open Go.Shelf
def Try.laysSort_ren : Go.Shelf.Ren := ⟨fun | 189 => 59 | 125 => 83 | 257 => 82 | 128 => 101 | 129 => 102 | 294 => 92 | 295 => 93 | 296 => 94 | 297 => 95 | 298 => 96 | 299 => 97 | 216 => 98 | 300 => 99 | 301 => 100 | 328 => 103 | 329 => 104 | 330 => 105 | 331 => 106 | 332 => 107 | 215 => 108 | 343 => 109 | n => n, fun | 28 => 22 | 3 => 3 | 46 => 101 | 0 => 0 | 51 => 118 | 53 => 120 | 4 => 4 | 183 => 111 | 182 => 110 | 131 => 115 | 5 => 5 | 9 => 9 | 218 => 121 | 222 => 125 | 228 => 127 | 229 => 128 | n => n, fun | n => n⟩
theorem Try.laysSort : Go.Proofs.Lays.n189 Try.prog Try.laysSort_ren := {
 mixed := by kernel_rfl
 f125 := Try.func83.trans (congrArg some (by kernel_rfl))
 f128 := Try.func101.trans (congrArg some (by kernel_rfl))
 f129 := Try.func102.trans (congrArg some (by kernel_rfl))
 f189 := Try.func59.trans (congrArg some (by kernel_rfl))
 f215 := Try.func108.trans (congrArg some (by kernel_rfl))
 f216 := Try.func98.trans (congrArg some (by kernel_rfl))
 f257 := Try.func82.trans (congrArg some (by kernel_rfl))
 f294 := Try.func92.trans (congrArg some (by kernel_rfl))
 f295 := Try.func93.trans (congrArg some (by kernel_rfl))
 f296 := Try.func94.trans (congrArg some (by kernel_rfl))
 f297 := Try.func95.trans (congrArg some (by kernel_rfl))
 f298 := Try.func96.trans (congrArg some (by kernel_rfl))
 f299 := Try.func97.trans (congrArg some (by kernel_rfl))
 f300 := Try.func99.trans (congrArg some (by kernel_rfl))
 f301 := Try.func100.trans (congrArg some (by kernel_rfl))
 f328 := Try.func103.trans (congrArg some (by kernel_rfl))
 f329 := Try.func104.trans (congrArg some (by kernel_rfl))
 f330 := Try.func105.trans (congrArg some (by kernel_rfl))
 f331 := Try.func106.trans (congrArg some (by kernel_rfl))
 f332 := Try.func107.trans (congrArg some (by kernel_rfl))
 f343 := Try.func109.trans (congrArg some (by kernel_rfl))
 t0 := Try.underlying0
 a0 := Try.isAgg0
 z0 := Try.sizeOf0
 v0 := Try.zeroValue0
 t3 := Try.underlying3
 a3 := Try.isAgg3
 z3 := Try.sizeOf3
 v3 := Try.zeroValue3
 t4 := Try.underlying4
 a4 := Try.isAgg4
 z4 := Try.sizeOf4
 v4 := Try.zeroValue4
 t5 := Try.underlying5
 a5 := Try.isAgg5
 z5 := Try.sizeOf5
 v5 := Try.zeroValue5
 t9 := Try.underlying9
 a9 := Try.isAgg9
 z9 := Try.sizeOf9
 v9 := Try.zeroValue9
 t28 := Try.underlying22
 a28 := Try.isAgg22
 z28 := Try.sizeOf22
 v28 := Try.zeroValue22
 t46 := Try.underlying101
 a46 := Try.isAgg101
 z46 := Try.sizeOf101
 v46 := Try.zeroValue101
 t51 := Try.underlying118
 a51 := Try.isAgg118
 z51 := Try.sizeOf118
 v51 := Try.zeroValue118
 t53 := Try.underlying120
 a53 := Try.isAgg120
 z53 := Try.sizeOf120
 v53 := Try.zeroValue120
 t131 := Try.underlying115
 a131 := Try.isAgg115
 z131 := Try.sizeOf115
 v131 := Try.zeroValue115
 t182 := Try.underlying110
 a182 := Try.isAgg110
 z182 := Try.sizeOf110
 v182 := Try.zeroValue110
 t183 := Try.underlying111
 a183 := Try.isAgg111
 z183 := Try.sizeOf111
 v183 := Try.zeroValue111
 t218 := Try.underlying121
 a218 := Try.isAgg121
 z218 := Try.sizeOf121
 v218 := Try.zeroValue121
 t222 := Try.underlying125
 a222 := Try.isAgg125
 z222 := Try.sizeOf125
 v222 := Try.zeroValue125
 t228 := Try.underlying127
 a228 := Try.isAgg127
 z228 := Try.sizeOf127
 v228 := Try.zeroValue127
 t229 := Try.underlying128
 a229 := Try.isAgg128
 z229 := Try.sizeOf128
 v229 := Try.zeroValue128 }
end Go.Proofs
namespace Go.Proofs.Ytmbhjhanafmidaa
open Go.RowKit Go.Sort Go.Shelf
theorem sort_int (blk off cap : Nat) (zs : List Int) (w : World) (hH : Holds (Value.int .i64) w blk off zs.toArray) (hblk : blk < w.heap.size) (hsz : zs.length < 4611686018427387904) :
  Calls Try.prog 59 #[.slice (some ⟨blk, off, none⟩) zs.length cap] w fun e w' => e = .returned (.tuple #[]) ∧ ∃ n os, w' = grow (putRow (Value.int .i64) (Sort.ahead w n) blk off (zs.mergeSort fun x y => decide (x ≤ y)).toArray) os := Any.slices_Sort_int Try.laysSort blk off cap zs w hH hblk hsz
theorem sort_none (p : Option Addr) (cap : Nat) (w : World) :
  Calls Try.prog 59 #[.slice p 0 cap] w fun e w' => e = .returned (.tuple #[]) ∧ w' = w := Any.slices_Sort_int_none Try.laysSort p cap w
open Go.Proofs.YtmbhjhanafmidaaW.PrintWords
def sortL (zs : List Int) : List Int := zs.mergeSort fun x y => decide (x ≤ y)
theorem sortL_len (zs : List Int) : (sortL zs).length = zs.length := by unfold sortL; exact List.length_mergeSort _
def SortPost (base : Nat) (w : World) (v : Value) (zs : List Int) (e : Ending) (w' : World) : Prop :=
 e = .returned (.tuple #[]) ∧ w'.ownsRow base 3 1 v (sortL zs).length (encs (Value.int .i64) (sortL zs)) ∧ Below base w w'
theorem sort_own (base : Nat) (v : Value) (zs : List Int) (w : World) (h : w.ownsRow base 3 1 v zs.length (encs (Value.int .i64) zs)) (hsz : zs.length < 4611686018427387904) (hb : base ≤ w.heap.size) :
  Calls Try.prog 59 #[v] w (SortPost base w v zs) := by
 have hown := h
 obtain ⟨hl, ⟨rfl, hn⟩ | ⟨g, cap, cur, rfl, hg1, hg2, hg3, hg4, hg5, hg6⟩⟩ := h
 ·refine (sort_none none 0 w).mono ?_
  rintro e w' ⟨rfl, rfl⟩
  refine ⟨rfl, ?_, Below.refl _ _⟩
  obtain rfl : zs = [] := List.length_eq_zero_iff.1 hn
  have : sortL [] = [] := by unfold sortL; simp
  rw [this]
  exact hown
 ·have hgl : g < w.heap.size := by
   rcases Nat.lt_or_ge g w.heap.size with h | h
   ·exact h
   ·rw [Array.getElem?_eq_none h] at hg2; cases hg2
  refine (sort_int g 0 cap zs w (holds_of_blockI hg2 (by rw [Nat.mul_one] at hg6; exact hg6)) hgl hsz).mono ?_
  rintro e w' ⟨rfl, q, os, rfl⟩
  refine ⟨rfl, ?_, (Below.refl _ _).grown (grownBy_sortedI _) hb (fun k h => by cases h; exact hg1)⟩
  have := ownsRow_sortedI (ts := sortL zs) (w := w) (n := q) (os := os) (sortL_len zs) hg1 hg2 hg3 hg4 hg5
  rw [sortL_len]
  exact this
end Go.Proofs.Ytmbhjhanafmidaa

set_option linter.unusedVariables false
set_option linter.unusedSimpArgs false
namespace Go.Proofs.Ytmbhjhanafmidaa
open Go.RowKit Go.Sort
open Go.Proofs.YtmbhjhanafmidaaW.PrintWords
open DagPlain
end Go.Proofs.Ytmbhjhanafmidaa

set_option linter.unusedVariables false
set_option linter.unusedSimpArgs false
namespace Go.Proofs.Ytmbhjhanafmidaa
open Go.RowKit Go.Sort
open Go.Proofs.YtmbhjhanafmidaaW.PrintWords
open DagPlain
end Go.Proofs.Ytmbhjhanafmidaa

set_option linter.unusedVariables false
set_option linter.unusedSimpArgs false
namespace Go.Proofs.Ytmbhjhanafmidaa
open Go.RowKit Go.Sort
open Go.Proofs.YtmbhjhanafmidaaW.PrintWords
open DagPlain
theorem orderGo_in {n : Nat} {es : List (Int × Int)} : ∀ (g : Nat) (out r : List Int), orderGo n es g out = some r → (∀ x ∈ out, 0 ≤ x ∧ x < n) → r.length = out.length + g ∧ ∀ x ∈ r, 0 ≤ x ∧ x < n
 | 0, out, r, h, ho => by
  simp only [orderGo, Option.some.injEq] at h
  subst h
  exact ⟨rfl, ho⟩
 | g + 1, out, r, h, ho => by
  simp only [orderGo] at h
  split at h
  ·rename_i v hv
   have hvn : v < n := by
    unfold next at hv
    have := List.mem_of_find?_eq_some hv
    simpa using this
   obtain ⟨h1, h2⟩ := orderGo_in g _ r h (by
    intro x hx
    rw [List.mem_append] at hx
    rcases hx with hx | hx
    ·exact ho x hx
    ·simp at hx; omega)
   exact ⟨by rw [h1]; simp; omega, h2⟩
  ·cases h
def RX (g : Nat) (wr : World) (A : Option Addr) (r : List Int) : Prop := ReadsInt wr .i64 A r.length r ∧ ∀ a, A = some a → a.block ≠ g
theorem RX.set {g : Nat} {wr : World} {A : Option Addr} {r : List Int} (h : RX g wr A r) (i : Nat) (x : Value) : RX g (wr.setCell ⟨g, i, none⟩ x) A r := by
 refine ⟨⟨h.1.1, h.1.2.1, fun h0 => ?_⟩, h.2⟩
 obtain ⟨ad, rfl, hc⟩ := h.1.2.2 h0
 refine ⟨ad, rfl, fun j hj => ?_⟩
 rw [World.cell?_setCell_other _ _ _ _ (by intro e; exact h.2 ad rfl ((show (ad.add j).block = ad.block by unfold Addr.add; split <;> rfl).symm.trans (congrArg Addr.block e).symm))]
 exact hc j hj
end Go.Proofs.Ytmbhjhanafmidaa

set_option linter.unusedVariables false
set_option linter.unusedSimpArgs false
namespace Go.Proofs.Ytmbhjhanafmidaa
open Go.RowKit Go.Sort
open Go.Proofs.YtmbhjhanafmidaaW.PrintWords
open DagPlain
end Go.Proofs.Ytmbhjhanafmidaa

set_option linter.unusedVariables false
set_option linter.unusedSimpArgs false
namespace Go.Proofs.Ytmbhjhanafmidaa
open Go.RowKit Go.Sort
open Go.Proofs.YtmbhjhanafmidaaW.PrintWords
open DagPlain
def IdxIPost (w : World) (es : List Int) (x : Int) (e : Ending) (w' : World) : Prop := ∃ i : Int, e = .returned (.int .i64 i) ∧ (0 ≤ i ↔ es.contains x = true) ∧ -1 ≤ i ∧ Below w.heap.size w w'
set_option maxHeartbeats 1000000 in
theorem idxI_any (B : Option Addr) (c : Nat) (es : List Int) (x : Int) (w : World) (hE : ReadsInt w .i64 B es.length es) (hlen : es.length ≤ 1000) :
  Calls Try.prog 75 #[.slice B es.length c, .int .i64 x] w (IdxIPost w es x) := by
 have HE := Lib.hid hE
 clear hE
 go_enter Try.func75, Try.ntmps75
 go_wp2
 go_loopw [8] (fun i wr => ∃ k : Nat, k ≤ es.length ∧ i = .int .i64 k ∧ Hid (∀ j, j < k → es.getD j 0 ≠ x) ∧ Hid (Below w.heap.size w wr)) (fun i _ => es.length - (intOf i).toNat)
 case atStart => exact ⟨0, Nat.zero_le _, rfl, by show ∀ j, j < 0 → _; omega, Below.refl _ _⟩
 case round =>
  obtain ⟨k, hk, rfl, HN, HBW⟩ := hrel
  by_cases hlt : k < es.length
  ·obtain ⟨ad, rfl, hcs⟩ := (HE.out.below HBW.out).2.2 (by omega)
   have hr1 := hcs k hlt
   have hmem : es.getD k 0 ∈ es := by rw [List.getD_eq_getElem?_getD, List.getElem?_eq_getElem hlt]; exact List.getElem_mem hlt
   obtain ⟨f, hft⟩ : ∃ p, p = es.getD k 0 := ⟨_, rfl⟩
   rw [← hft] at hr1 hmem
   have HM := Lib.hid hmem
   have HFT := Lib.hid hft
   clear hcs hmem hft
   by_cases he : x = f
   ·subst he
    have HC : Hid (es.contains x = true) := by show es.contains x = true; rw [List.contains_iff_mem]; exact HM.out
    go_wp2
    go_ret
    exact ⟨_, rfl, ⟨fun _ => HC.out, fun _ => by omega⟩, by omega, HBW.out⟩
   ·have HN2 : Hid (∀ j, j < k + 1 → es.getD j 0 ≠ x) := by
     show ∀ j, j < k + 1 → _
     intro j hj
     by_cases e : j = k
     ·rw [e, ← HFT.out]; intro h; exact he h.symm
     ·exact HN.out j (by omega)
    go_wp2
    go_roundw
    case rel => exact ⟨k + 1, by omega, by go_num, HN2, HBW.out⟩
    case measure => simp [intOf]; omega
  ·obtain rfl : k = es.length := by omega
   have HC : Hid (¬ es.contains x = true) := by
    show ¬ _
    rw [List.contains_iff_mem]
    intro hm
    obtain ⟨j, hj, e⟩ := List.getElem_of_mem hm
    have := HN.out j hj
    rw [List.getD_eq_getElem?_getD, List.getElem?_eq_getElem hj] at this
    exact this e
   clear HN
   go_wp2
   go_ret
   exact ⟨_, rfl, ⟨fun h => by omega, fun h => absurd h HC.out⟩, by omega, HBW.out⟩
set_option maxHeartbeats 400000 in
theorem contI_any (B : Option Addr) (c : Nat) (es : List Int) (x : Int) (w : World) (hE : ReadsInt w .i64 B es.length es) (hlen : es.length ≤ 1000) :
  Calls Try.prog 53 #[.slice B es.length c, .int .i64 x] w fun e w' => e = .returned (.bool (es.contains x)) ∧ Below w.heap.size w w' := by
 have C := Lib.hid (fun w1 h => idxI_any B c es x w1 h hlen)
 have HE := Lib.hid hE
 clear hE
 cases ho : es.contains x with
 | true =>
  have HO := Lib.hid ho
  clear ho
  go_enter Try.func53, Try.ntmps53
  go_wp2_with fail
  refine (C.out _ HE.out).mono ?_
  rintro e w1 ⟨i, rfl, h1, h2, hb⟩
  have h0 : 0 ≤ i := h1.2 HO.out
  have HB := Lib.hid hb
  clear h1 hb
  go_wp2
  go_ret
  exact ⟨by simp [h0], HB.out⟩
 | false =>
  have HO : Hid (¬ es.contains x = true) := by rw [ho]; show ¬ _; simp
  clear ho
  go_enter Try.func53, Try.ntmps53
  go_wp2_with fail
  refine (C.out _ HE.out).mono ?_
  rintro e w1 ⟨i, rfl, h1, h2, hb⟩
  have h0 : ¬ 0 ≤ i := fun h => HO.out (h1.1 h)
  have HB := Lib.hid hb
  clear h1 hb
  go_wp2
  go_ret
  exact ⟨by simp [h0], HB.out⟩
end Go.Proofs.Ytmbhjhanafmidaa

set_option linter.unusedVariables false
set_option linter.unusedSimpArgs false
namespace Go.Proofs.Ytmbhjhanafmidaa
open Go.RowKit Go.Sort
open Go.Proofs.YtmbhjhanafmidaaW.PrintWords
open DagPlain
theorem sortL_id {zs : List Int} (h : zs.Pairwise (fun x y => decide (x ≤ y) = true)) : sortL zs = zs := by unfold sortL; exact List.mergeSort_of_pairwise h
theorem below_alloc (W : World) (o : Obj) : Below W.heap.size W (W.alloc o) := (Below.refl _ _).alloc (Nat.le_refl _) _
end Go.Proofs.Ytmbhjhanafmidaa

set_option linter.unusedVariables false
set_option linter.unusedSimpArgs false
namespace Go.Proofs.Ytmbhjhanafmidaa
open DagPlain
def Good (es : List (Int × Int)) (out : List Int) : Prop := out.Nodup ∧ ∀ j, j < out.length → ∀ e ∈ es, e.2 = out.getD j 0 → ∃ i, i < j ∧ out.getD i 0 = e.1
theorem free_out {es : List (Int × Int)} {out : List Int} {v : Int} (h : free es out v = true) : v ∉ out ∧ ∀ e ∈ es, e.2 = v → e.1 ∈ out := by
 unfold free at h
 rw [Bool.and_eq_true, List.all_eq_true] at h
 refine ⟨by simpa using h.1, fun e he hv => ?_⟩
 have := h.2 e he
 rw [hv] at this
 simpa using this
theorem getD_app_left (a b : List Int) (j : Nat) (h : j < a.length) : (a ++ b).getD j 0 = a.getD j 0 := by
 rw [List.getD_eq_getElem?_getD, List.getD_eq_getElem?_getD, List.getElem?_append_left h]
theorem getD_app_last (a : List Int) (v : Int) : (a ++ [v]).getD a.length 0 = v := by
 rw [List.getD_eq_getElem?_getD, List.getElem?_append_right (Nat.le_refl _)]; simp
theorem mem_getD {a : List Int} {x : Int} (h : x ∈ a) : ∃ i, i < a.length ∧ a.getD i 0 = x := by
 obtain ⟨i, hi, rfl⟩ := List.getElem_of_mem h
 exact ⟨i, hi, by rw [List.getD_eq_getElem?_getD, List.getElem?_eq_getElem hi]; rfl⟩
theorem getD_mem (a : List Int) (i : Nat) (h : i < a.length) : a.getD i 0 ∈ a := by
 rw [List.getD_eq_getElem?_getD, List.getElem?_eq_getElem h]; exact List.getElem_mem h
theorem Good.push {es : List (Int × Int)} {out : List Int} {v : Int} (h : Good es out) (hf : free es out v = true) : Good es (out ++ [v]) := by
 obtain ⟨h1, h2⟩ := free_out hf
 refine ⟨?_, fun j hj e he hv => ?_⟩
 ·rw [List.nodup_append]
  refine ⟨h.1, by simp, fun a ha b hb => ?_⟩
  rw [List.mem_singleton] at hb
  subst hb
  intro e
  exact h1 (e ▸ ha)
 ·rw [List.length_append] at hj
  by_cases hjl : j < out.length
  ·rw [getD_app_left _ _ _ hjl] at hv
   obtain ⟨i, hi, e1⟩ := h.2 j hjl e he hv
   exact ⟨i, hi, by rw [getD_app_left _ _ _ (by omega)]; exact e1⟩
  ·obtain rfl : j = out.length := by simp at hj; omega
   rw [getD_app_last] at hv
   obtain ⟨i, hi, e1⟩ := mem_getD (h2 e he hv)
   exact ⟨i, hi, by rw [getD_app_left _ _ _ hi]; exact e1⟩
theorem orderGo_good {n : Nat} {es : List (Int × Int)} : ∀ (g : Nat) (out r : List Int), orderGo n es g out = some r → Good es out → Good es r
 | 0, out, r, h, ho => by
  simp only [orderGo, Option.some.injEq] at h
  subst h
  exact ho
 | g + 1, out, r, h, ho => by
  simp only [orderGo] at h
  split at h
  ·rename_i v hv
   unfold next at hv
   have hf := List.find?_some hv
   exact orderGo_good g _ r h (ho.push hf)
  ·cases h
theorem nodup_len : ∀ (n : Nat) (r : List Int), r.Nodup → (∀ x ∈ r, 0 ≤ x ∧ x < n) → r.length ≤ n
 | 0, r, _, h => by
  cases r with
  | nil => simp
  | cons a r => have := h a (by simp); omega
 | n + 1, r, hn, h => by
  by_cases hm : (n : Int) ∈ r
  ·have h1 := nodup_len n (r.erase (n : Int)) (hn.erase _) (fun x hx => by
    have h2 := (hn.mem_erase_iff).1 hx
    have := h x h2.2
    have := h2.1
    omega)
   rw [List.length_erase_of_mem hm] at h1
   omega
  ·have := nodup_len n r hn (fun x hx => by
    have h2 := h x hx
    have : x ≠ (n : Int) := fun e => hm (e ▸ hx)
    omega)
   omega
theorem cover {n : Nat} {r : List Int} (hn : r.Nodup) (h : ∀ x ∈ r, 0 ≤ x ∧ x < n) (hl : r.length = n) (b : Int) (hb : 0 ≤ b ∧ b < n) : b ∈ r := by
 by_cases hm : b ∈ r
 ·exact hm
 ·have := nodup_len n (b :: r) (List.nodup_cons.2 ⟨hm, hn⟩) (fun x hx => by
   rcases List.mem_cons.1 hx with rfl | hx
   ·exact hb
   ·exact h x hx)
  rw [List.length_cons] at this
  omega
theorem ordL_good {l : List Int} {es : List (Int × Int)} (hz : checkL l es = 0) : Good es (ordL l es) ∧ (ordL l es).length = l.length ∧ (∀ x ∈ ordL l es, 0 ≤ x ∧ x < l.length) ∧ ∀ b : Int, 0 ≤ b ∧ b < l.length → b ∈ ordL l es := by
 obtain ⟨y1, y2, y3, y4, y5⟩ := ordL_yes hz
 obtain ⟨r, hr⟩ := Option.isSome_iff_exists.1 y5
 have ho : ordL l es = r := by unfold ordL; rw [if_pos hz, hr]; rfl
 rw [ho]
 obtain ⟨h1, h2⟩ := orderGo_in _ _ _ hr (by simp)
 have hg := orderGo_good _ _ _ hr ⟨List.nodup_nil, fun j hj => absurd hj (by simp)⟩
 have hl : r.length = l.length := by simpa using h1
 exact ⟨hg, hl, h2, fun b hb => cover hg.1 h2 hl b hb⟩
theorem nodup_getD {r : List Int} (h : r.Nodup) {i j : Nat} (hi : i < r.length) (hj : j < r.length) (e : r.getD i 0 = r.getD j 0) : i = j := by
 rw [List.getD_eq_getElem?_getD, List.getD_eq_getElem?_getD, List.getElem?_eq_getElem hi, List.getElem?_eq_getElem hj] at e
 simp only [Option.getD_some] at e
 have hp := List.pairwise_iff_getElem.1 h
 rcases Nat.lt_trichotomy i j with hlt | he | hgt
 ·exact absurd e (hp i j hi hj hlt)
 ·exact he
 ·exact absurd e.symm (hp j i hj hi hgt)
end Go.Proofs.Ytmbhjhanafmidaa

set_option linter.unusedVariables false
set_option linter.unusedSimpArgs false
namespace Go.Proofs.Ytmbhjhanafmidaa
open DagPlain
inductive Path (es : List (Int × Int)) : Int → Int → Prop
 | edge {a b : Int} : (a, b) ∈ es → Path es a b
 | step {a p b : Int} : Path es a p → (p, b) ∈ es → Path es a b
theorem Path.last {es : List (Int × Int)} {a b : Int} (h : Path es a b) : ∃ p, (p, b) ∈ es ∧ (p = a ∨ Path es a p) := by
 cases h with
 | edge he => exact ⟨a, he, .inl rfl⟩
 | step hp he => exact ⟨_, he, .inr hp⟩
theorem path_in {l : List Int} {es : List (Int × Int)} (hz : checkL l es = 0) {a b : Int} (h : Path es a b) : ∃ i j, i < j ∧ j < (ordL l es).length ∧ (ordL l es).getD i 0 = a ∧ (ordL l es).getD j 0 = b := by
 obtain ⟨g1, g2, g3, g4⟩ := ordL_good hz
 obtain ⟨y1, y2, y3, y4, y5⟩ := ordL_yes hz
 have hedge : ∀ x y, (x, y) ∈ es → ∃ i j, i < j ∧ j < (ordL l es).length ∧ (ordL l es).getD i 0 = x ∧ (ordL l es).getD j 0 = y := by
  intro x y he
  obtain ⟨j, hj, e⟩ := mem_getD (g4 y (oddEs_in y3 _ he).2)
  obtain ⟨i, hi, e2⟩ := g1.2 j hj _ he e.symm
  exact ⟨i, j, hi, hj, e2, e⟩
 induction h with
 | edge he => exact hedge _ _ he
 | step _ he ih =>
  obtain ⟨i, j, h1, h2, h3, h4⟩ := ih
  obtain ⟨j', k, h5, h6, h7, h8⟩ := hedge _ _ he
  have : j = j' := nodup_getD g1.1 h2 (by omega) (by rw [h4, h7])
  exact ⟨i, k, by omega, h6, h3, h8⟩
theorem no_round {l : List Int} {es : List (Int × Int)} (hz : checkL l es = 0) (a : Int) : ¬ Path es a a := by
 intro h
 obtain ⟨i, j, h1, h2, h3, h4⟩ := path_in hz h
 obtain ⟨g1, g2, g3, g4⟩ := ordL_good hz
 have := nodup_getD g1.1 (by omega) h2 (h3.trans h4.symm)
 omega
end Go.Proofs.Ytmbhjhanafmidaa

set_option linter.unusedVariables false
set_option linter.unusedSimpArgs false
namespace Go.Proofs.Ytmbhjhanafmidaa
open DagPlain
theorem stuck {n : Nat} {es : List (Int × Int)} : ∀ (g : Nat) (out : List Int), orderGo n es g out = none → out.Nodup → out.length + g = n → ∃ out', out'.Nodup ∧ out'.length < n ∧ next n es out' = none
 | 0, out, h, _, _ => by simp [orderGo] at h
 | g + 1, out, h, hn, hl => by
  simp only [orderGo] at h
  split at h
  ·rename_i v hv
   have hf : free es out (v : Int) = true := by unfold next at hv; have := List.find?_some hv; exact this
   refine stuck g _ h ?_ (by simp; omega)
   rw [List.nodup_append]
   refine ⟨hn, by simp, fun a ha b hb => ?_⟩
   rw [List.mem_singleton] at hb
   subst hb
   intro e
   exact (free_out hf).1 (e ▸ ha)
  ·rename_i hv
   exact ⟨out, hn, by omega, hv⟩
theorem many_le : ∀ (n : Nat) (out : List Int), out.Nodup → (∀ v : Nat, v < n → (v : Int) ∈ out) → n ≤ out.length
 | 0, out, _, _ => Nat.zero_le _
 | n + 1, out, hn, h => by
  have hm := h n (by omega)
  have := many_le n (out.erase (n : Int)) (hn.erase _) (fun v hv => (hn.mem_erase_iff).2 ⟨by omega, h v (by omega)⟩)
  rw [List.length_erase_of_mem hm] at this
  have := List.length_pos_of_mem hm
  omega
theorem round_of {n : Nat} {es : List (Int × Int)} (U : Int → Prop) (hU : ∀ v, U v → 0 ≤ v ∧ v < n) (hp : ∀ v, U v → ∃ u, U u ∧ (u, v) ∈ es) (v0 : Int) (h0 : U v0) : ∃ v, Path es v v := by
 classical
 let f : Int → Int := fun v => if h : U v then (hp v h).choose else v
 have hf : ∀ v, U v → U (f v) ∧ (f v, v) ∈ es := by
  intro v h
  have e : f v = (hp v h).choose := by show (if h : U v then _ else v) = _; rw [dif_pos h]
  rw [e]
  exact (hp v h).choose_spec
 let s : Nat → Int := fun i => Nat.rec v0 (fun _ x => f x) i
 have hs : ∀ i, U (s i) := by
  intro i
  induction i with
  | zero => exact h0
  | succ i ih => exact (hf _ ih).1
 have he : ∀ i, (s (i + 1), s i) ∈ es := fun i => (hf _ (hs i)).2
 have hpath : ∀ d i, Path es (s (i + (d + 1))) (s i) := by
  intro d
  induction d with
  | zero => intro i; exact .edge (he i)
  | succ d ih =>
   intro i
   have h1 := ih (i + 1)
   rw [show i + 1 + (d + 1) = i + (d + 1 + 1) by omega] at h1
   exact .step h1 (he i)
 by_cases hd : ∃ i j, i < j ∧ j < n + 1 ∧ s i = s j
 ·obtain ⟨i, j, h1, h2, h3⟩ := hd
  have := hpath (j - i - 1) i
  rw [show i + (j - i - 1 + 1) = j by omega, ← h3] at this
  exact ⟨s i, this⟩
 ·have hnd : ((List.range (n + 1)).map s).Nodup := by
   rw [List.nodup_iff_pairwise_ne, List.pairwise_map]
   refine List.Pairwise.imp_of_mem ?_ (List.pairwise_lt_range (n := n + 1))
   intro i j hi hj hij e
   exact hd ⟨i, j, hij, by simpa using hj, e⟩
  have := nodup_len n _ hnd (fun x hx => by
   obtain ⟨i, _, rfl⟩ := List.mem_map.1 hx
   exact hU _ (hs i))
  simp at this
  omega
theorem order_none {n : Nat} {es : List (Int × Int)} (hin : ∀ e ∈ es, (0 ≤ e.1 ∧ e.1 < n) ∧ 0 ≤ e.2 ∧ e.2 < n) (h : orderL n es = none) : ∃ v, Path es v v := by
 obtain ⟨out, h1, h2, h3⟩ := stuck n [] h List.nodup_nil (by simp)
 have hfree : ∀ v : Nat, v < n → free es out (v : Int) = false := by
  intro v hv
  unfold next at h3
  rw [List.find?_eq_none] at h3
  simpa using h3 v (by simpa using hv)
 have hex : ∃ v : Nat, v < n ∧ (v : Int) ∉ out := by
  refine Classical.byContradiction fun hno => ?_
  have := many_le n out h1 (fun v hv => Classical.byContradiction fun hm => hno ⟨v, hv, hm⟩)
  omega
 obtain ⟨v0, hv0, hm0⟩ := hex
 refine round_of (n := n) (fun v => (0 ≤ v ∧ v < n) ∧ v ∉ out) (fun v h => h.1) (fun v hv => ?_) v0 ⟨by omega, hm0⟩
 have hfv := hfree v.toNat (by omega)
 rw [show ((v.toNat : Nat) : Int) = v by omega] at hfv
 unfold free at hfv
 rw [Bool.and_eq_false_iff] at hfv
 rcases hfv with hc | hc
 ·have : v ∈ out := by simpa using hc
  exact absurd this hv.2
 ·rw [List.all_eq_false] at hc
  obtain ⟨e, he, hc⟩ := hc
  have h4 : ¬ e.2 ≠ v ∧ e.1 ∉ out := by simpa using hc
  have h5 : e.2 = v := Classical.byContradiction fun h => h4.1 h
  exact ⟨e.1, ⟨(hin e he).1, h4.2⟩, by rw [← h5]; exact he⟩
end Go.Proofs.Ytmbhjhanafmidaa

set_option linter.unusedVariables false
set_option linter.unusedSimpArgs false
namespace Go.Proofs.Ytmbhjhanafmidaa
open DagPlain
end Go.Proofs.Ytmbhjhanafmidaa

set_option linter.unusedVariables false
set_option linter.unusedSimpArgs false
namespace Go.Proofs.Ytmbhjhanafmidaa
open DagPlain
end Go.Proofs.Ytmbhjhanafmidaa

set_option linter.unusedVariables false
set_option linter.unusedSimpArgs false
namespace Go.Proofs.Ytmbhjhanafmidaa
open DagPlain
section
variable {l : List Int} {es : List (Int × Int)}
end
end Go.Proofs.Ytmbhjhanafmidaa

set_option linter.unusedVariables false
set_option linter.unusedSimpArgs false
namespace Go.Proofs.Ytmbhjhanafmidaa
open DagPlain
theorem sorted_ext : ∀ {a b : List Int}, a.Pairwise (· < ·) → b.Pairwise (· < ·) → (∀ x, x ∈ a ↔ x ∈ b) → a = b
 | [], [], _, _, _ => rfl
 | [], y :: b, _, _, h => by have := (h y).2 List.mem_cons_self; cases this
 | x :: a, [], _, _, h => by have := (h x).1 List.mem_cons_self; cases this
 | x :: a, y :: b, ha, hb, h => by
  rw [List.pairwise_cons] at ha hb
  have hxy : x = y := by
   rcases List.mem_cons.1 ((h x).1 List.mem_cons_self) with e | e
   ·exact e
   ·rcases List.mem_cons.1 ((h y).2 List.mem_cons_self) with e2 | e2
    ·exact e2.symm
    ·have h1 := hb.1 x e
     have h2 := ha.1 y e2
     omega
  subst hxy
  have : a = b := sorted_ext ha.2 hb.2 (fun z => by
   have hz := h z
   rw [List.mem_cons, List.mem_cons] at hz
   constructor
   ·intro hza
    rcases hz.1 (.inr hza) with e | e
    ·have := ha.1 z hza; omega
    ·exact e
   ·intro hzb
    rcases hz.2 (.inr hzb) with e | e
    ·have := hb.1 z hzb; omega
    ·exact e)
  rw [this]
theorem sortL_lt {zs : List Int} (h : zs.Nodup) : (sortL zs).Pairwise (· < ·) := by
 have h1 : (sortL zs).Pairwise (fun a b => decide (a ≤ b) = true) := List.pairwise_mergeSort (le := fun x y => decide (x ≤ y)) (fun a b c h1 h2 => by simp only [decide_eq_true_eq] at *; omega) (fun a b => by simp only [Bool.or_eq_true, decide_eq_true_eq]; omega) zs
 have h2 : (sortL zs).Nodup := (List.mergeSort_perm zs _).nodup_iff.2 h
 exact (h1.and h2).imp (fun ⟨h3, h4⟩ => by simp only [decide_eq_true_eq] at h3; have : (_ : Int) ≠ _ := h4; omega)
theorem mem_sortL {zs : List Int} {x : Int} : x ∈ sortL zs ↔ x ∈ zs := (List.mergeSort_perm zs _).mem_iff
section
variable {l : List Int} {es : List (Int × Int)}
end
end Go.Proofs.Ytmbhjhanafmidaa

set_option linter.unusedVariables false
set_option maxRecDepth 100000
set_option linter.unusedSimpArgs false
namespace Go.Proofs.Ytmbhjhanafmidaa
open Go.RowKit Go.Sort Go.Joins Go.Deep
open Go.Proofs.YtmbhjhanafmidaaW.PrintWords
def EdC (w : World) (B : Option Addr) (es : List (Int × Int)) : Prop :=
 0 < es.length → ∃ ad, B = some ad ∧ ∀ i, i < es.length → w.cell? (ad.add (i * 2)) = some (.int .i64 (es.getD i (0, 0)).1) ∧ w.cell? (ad.add (i * 2 + 1)) = some (.int .i64 (es.getD i (0, 0)).2)
theorem cellsDag : Try.prog.cellsOf 25 = 2 := by kernel_rfl
theorem cellsEdge : Try.prog.cellsOf 85 = 2 := by kernel_rfl
def I64 (x : Int) : Prop := (Lit.int .i64 x).wf = true
theorem trod_ints {H : Type} {enc : TypeId × Value → H} {w : World} {base : Nat} {sp : Nat → Bool} {held : Bool} {n : Nat} {v : Value} {y : DataW H × List MemPlace} (h : DataW.trod enc Try.prog w base sp held n 22 [v] = some y) :
  ∃ A c l, v = .slice A l.length c ∧ l.length ≤ c ∧ ReadsInt w .i64 A l.length l ∧ ∀ x ∈ l, I64 x := by
 rcases Go.ChangeShapes.open_ints Try.underlying22 Try.underlying3 (by kernel_rfl) h with ⟨hcs, _⟩ | ⟨a, len, cap, zs, hcs, _, hl, hm, hz, _, hcell, hwz⟩
 ·obtain rfl : v = .slice none 0 0 := by simpa using hcs
  exact ⟨none, 0, [], rfl, Nat.le_refl _, ⟨rfl, by simp, fun h => absurd h (by simp)⟩, by simp⟩
 ·obtain rfl : v = .slice (some a) len cap := by simpa using hcs
  have hlz : len ≤ zs.length := by rw [hz]; split <;> omega
  refine ⟨some a, cap, zs.take len, by rw [List.length_take, Nat.min_eq_left hlz], by rw [List.length_take]; omega, ⟨rfl, by rw [List.length_take]; unfold maxLen at hm; omega, fun _ => ⟨a, rfl, fun j hj => ?_⟩⟩, fun x hx => hwz x (List.mem_of_mem_take hx)⟩
  rw [List.length_take] at hj
  rw [hcell j (by omega), List.getD_eq_getElem?_getD, List.getD_eq_getElem?_getD, List.getElem?_take_of_lt (by omega)]
theorem trod_edges {H : Type} {enc : TypeId × Value → H} {w : World} {base : Nat} {sp : Nat → Bool} {held : Bool} {n : Nat} {v : Value} {y : DataW H × List MemPlace} (h : DataW.trod enc Try.prog w base sp held n 23 [v] = some y) :
  ∃ B d es, v = .slice B es.length d ∧ es.length ≤ d ∧ es.length ≤ maxLen ∧ EdC w B es ∧ ∀ e ∈ es, I64 e.1 ∧ I64 e.2 := by
 rcases open_slice_pairs Try.underlying23 Try.underlying85 cellsEdge rfl rfl (by kernel_rfl) (by kernel_rfl) h with ⟨hcs, _⟩ | ⟨a, len, cap, m, k, V0, V1, D0, D1, P0, P1, hcs, _, hl, hm, hmm, _, hx⟩
 ·obtain rfl : v = .slice none 0 0 := by simpa using hcs
  exact ⟨none, 0, [], rfl, Nat.le_refl _, by simp, fun h => absurd h (by simp), by simp⟩
 ·obtain rfl : v = .slice (some a) len cap := by simpa using hcs
  have hlm : len ≤ m := by rw [hmm]; split <;> omega
  have hval : ∀ i, i < len → ∃ p : Int × Int, (V0 i = .int .i64 p.1 ∧ V1 i = .int .i64 p.2) ∧ I64 p.1 ∧ I64 p.2 := by
   intro i hi
   obtain ⟨_, _, h0, h1⟩ := hx i (by omega)
   obtain ⟨x, e0, _, w0⟩ := DataW.trod_int Try.underlying3 h0
   obtain ⟨z, e1, _, w1⟩ := DataW.trod_int Try.underlying3 h1
   exact ⟨(x, z), ⟨by simpa using e0, by simpa using e1⟩, w0, w1⟩
  obtain ⟨q, hq⟩ := choose_lt hval
  refine ⟨some a, cap, (List.range len).map q, by simp, by simpa using hl, by simp; omega, fun _ => ⟨a, rfl, fun i hi => ?_⟩, fun e he => ?_⟩
  ·have hi' : i < len := by simpa using hi
   have hg : ((List.range len).map q).getD i (0, 0) = q i := by simp [List.getD_eq_getElem?_getD, hi']
   obtain ⟨h0, h1, _, _⟩ := hx i (by omega)
   rw [hg, h0, h1, (hq i hi').1.1, (hq i hi').1.2]
   exact ⟨rfl, rfl⟩
  ·obtain ⟨i, hi, rfl⟩ := List.mem_map.1 he
   exact (hq i (by simpa using hi)).2
def DagIn (w : World) (A : Option Addr) (c : Nat) (l : List Int) (B : Option Addr) (d : Nat) (es : List (Int × Int)) : Prop :=
 l.length ≤ c ∧ ReadsInt w .i64 A l.length l ∧ (∀ x ∈ l, I64 x) ∧ es.length ≤ d ∧ es.length ≤ maxLen ∧ EdC w B es ∧ ∀ e ∈ es, I64 e.1 ∧ I64 e.2
theorem open_dag {H : Type} {enc : TypeId × Value → H} {w : World} {base b0 : Nat} {sp : Nat → Bool} {held : Bool} {v : Value} {d : DataW H} {p : List MemPlace} (hv : Value.okWide Try.prog w .any b0 25 v) (h : DataW.Trod enc Try.prog w base sp held 25 v d p) :
  ∃ A c l B dd es, v = .agg #[.slice A l.length c, .slice B es.length dd] ∧ DagIn w A c l B dd es := by
 obtain ⟨c0, c1, y0, y1, m, rfl, _, _, hy0, hy1⟩ := open_agg2 Try.underlying25 (by kernel_rfl) cellsDag hv h
 obtain ⟨A, c, l, rfl, h1, h2, h3⟩ := trod_ints hy0
 obtain ⟨B, dd, es, rfl, h4, h5, h6, h7⟩ := trod_edges hy1
 exact ⟨A, c, l, B, dd, es, rfl, h1, h2, h3, h4, h5, h6, h7⟩
end Go.Proofs.Ytmbhjhanafmidaa

set_option linter.unusedVariables false
set_option linter.unusedSimpArgs false
namespace Go.Proofs.Ytmbhjhanafmidaa
open DagPlain
def stepR (a : Int) (out : List Bool) (e : Int × Int) : List Bool := if e.1 = a ∨ out.getD e.1.toNat false = true then out.set e.2.toNat true else out
def roundL (a : Int) (es : List (Int × Int)) (out : List Bool) : List Bool := es.foldl (stepR a) out
def rounds (a : Int) (es : List (Int × Int)) : Nat → List Bool → List Bool
 | 0, out => out
 | d + 1, out => rounds a es d (roundL a es out)
def reachL (n : Nat) (es : List (Int × Int)) (a : Int) : List Bool := rounds a es n (List.replicate n false)
theorem getB_set (F : List Bool) (i j : Nat) (x : Bool) : (F.set i x).getD j false = if i = j ∧ i < F.length then x else F.getD j false := by
 rw [List.getD_eq_getElem?_getD, List.getD_eq_getElem?_getD, List.getElem?_set]
 by_cases h : i = j
 ·subst h
  by_cases h2 : i < F.length
  ·simp [h2]
  ·simp [h2]
 ·simp [h]
theorem stepR_len (a : Int) (out : List Bool) (e : Int × Int) : (stepR a out e).length = out.length := by unfold stepR; split <;> simp
theorem stepR_mono (a : Int) (out : List Bool) (e : Int × Int) (v : Nat) (h : out.getD v false = true) : (stepR a out e).getD v false = true := by
 unfold stepR
 split
 ·rw [getB_set]; split
  ·rfl
  ·exact h
 ·exact h
theorem fold_mono (a : Int) (v : Nat) : ∀ (es : List (Int × Int)) (out : List Bool), out.getD v false = true → (es.foldl (stepR a) out).getD v false = true
 | [], out, h => h
 | e :: es, out, h => fold_mono a v es _ (stepR_mono a out e v h)
theorem foldR_len (a : Int) : ∀ (es : List (Int × Int)) (out : List Bool), (es.foldl (stepR a) out).length = out.length
 | [], out => rfl
 | e :: es, out => by rw [List.foldl_cons, foldR_len a es, stepR_len]
theorem fold_edge (a : Int) (n : Nat) : ∀ (es : List (Int × Int)) (out : List Bool), out.length = n → (∀ e ∈ es, 0 ≤ e.2 ∧ e.2 < n) → ∀ e ∈ es, (e.1 = a ∨ out.getD e.1.toNat false = true) → (es.foldl (stepR a) out).getD e.2.toNat false = true
 | [], out, _, _, e, he, _ => by simp at he
 | e0 :: es, out, hl, hin, e, he, h => by
  rw [List.foldl_cons]
  rcases List.mem_cons.1 he with rfl | he
  ·refine fold_mono a _ es _ ?_
   unfold stepR
   have := hin e (by simp)
   rw [if_pos h, getB_set, if_pos ⟨rfl, by omega⟩]
  ·refine fold_edge a n es _ (by rw [stepR_len]; exact hl) (fun e he => hin e (List.mem_cons_of_mem _ he)) e he ?_
   rcases h with h | h
   ·exact .inl h
   ·exact .inr (stepR_mono a out e0 _ h)
theorem fold_sound (a : Int) (es0 : List (Int × Int)) (n : Nat) : ∀ (es : List (Int × Int)) (out : List Bool), (∀ e ∈ es, e ∈ es0) → (∀ e ∈ es, (0 ≤ e.1 ∧ e.1 < n) ∧ 0 ≤ e.2 ∧ e.2 < n) → (∀ v : Nat, out.getD v false = true → Path es0 a (v : Int)) → ∀ v : Nat, (es.foldl (stepR a) out).getD v false = true → Path es0 a (v : Int)
 | [], out, _, _, h, v, hv => h v hv
 | e :: es, out, hs, hin, h, v, hv => by
  rw [List.foldl_cons] at hv
  refine fold_sound a es0 n es _ (fun e he => hs e (List.mem_cons_of_mem _ he)) (fun e he => hin e (List.mem_cons_of_mem _ he)) (fun u hu => ?_) v hv
  unfold stepR at hu
  split at hu
  ·rename_i hc
   rw [getB_set] at hu
   split at hu
   ·rename_i hh
    have hb := hin e (by simp)
    have he := hs e (by simp)
    have hu2 : (u : Int) = e.2 := by omega
    rw [hu2]
    rcases hc with hc | hc
    ·exact .edge (by rw [← hc]; exact he)
    ·have := h _ hc
     rw [show ((e.1.toNat : Nat) : Int) = e.1 by omega] at this
     exact .step this he
   ·exact h u hu
  ·exact h u hu
theorem cnt_lt : ∀ (x y : List Bool), x.length = y.length → (∀ i, x.getD i false = true → y.getD i false = true) → x = y ∨ x.count true < y.count true
 | [], [], _, _ => .inl rfl
 | [], _ :: _, h, _ => by simp at h
 | _ :: _, [], h, _ => by simp at h
 | a :: x, b :: y, h, hm => by
  have ih := cnt_lt x y (by simpa using h) (fun i hi => by have := hm (i + 1) (by simpa using hi); simpa using this)
  have h0 := hm 0
  rw [List.count_cons, List.count_cons]
  cases a <;> cases b
  ·rcases ih with ih | ih
   ·exact .inl (by rw [ih])
   ·exact .inr (by simpa using ih)
  ·refine .inr ?_
   rcases ih with ih | ih
   ·rw [ih]; simp
   ·simp; omega
  ·simp at h0
  ·rcases ih with ih | ih
   ·exact .inl (by rw [ih])
   ·exact .inr (by simpa using ih)
theorem round_or (a : Int) (es : List (Int × Int)) (out : List Bool) : roundL a es out = out ∨ out.count true < (roundL a es out).count true := by
 rcases cnt_lt out (roundL a es out) (foldR_len a es out).symm (fun i h => fold_mono a i es out h) with h | h
 ·exact .inl h.symm
 ·exact .inr h
theorem rounds_fix (a : Int) (es : List (Int × Int)) (out : List Bool) (h : roundL a es out = out) : ∀ d, rounds a es d out = out
 | 0 => rfl
 | d + 1 => by unfold rounds; rw [h]; exact rounds_fix a es out h d
theorem rounds_len (a : Int) (es : List (Int × Int)) : ∀ (d : Nat) (out : List Bool), (rounds a es d out).length = out.length
 | 0, out => rfl
 | d + 1, out => by unfold rounds; rw [rounds_len a es d]; exact foldR_len a es out
theorem rounds_or (a : Int) (es : List (Int × Int)) : ∀ (d : Nat) (out : List Bool), roundL a es (rounds a es d out) = rounds a es d out ∨ out.count true + d ≤ (rounds a es d out).count true
 | 0, out => .inr (Nat.le_refl _)
 | d + 1, out => by
  rcases round_or a es out with h | h
  ·refine .inl ?_
   rw [rounds_fix a es out h (d + 1)]
   exact h
  ·have e : rounds a es (d + 1) out = rounds a es d (roundL a es out) := rfl
   rw [e]
   rcases rounds_or a es d (roundL a es out) with h2 | h2
   ·exact .inl h2
   ·exact .inr (by omega)
theorem reach_closed (n : Nat) (es : List (Int × Int)) (a : Int) : roundL a es (reachL n es a) = reachL n es a := by
 rcases rounds_or a es n (List.replicate n false) with h | h
 ·exact h
 ·rcases round_or a es (reachL n es a) with h2 | h2
  ·exact h2
  ·have hl : (roundL a es (reachL n es a)).length = n := by unfold roundL reachL; rw [foldR_len, rounds_len]; simp
   have := List.count_le_length (a := true) (l := roundL a es (reachL n es a))
   unfold reachL at h2 hl this
   omega
theorem rounds_sound (n : Nat) (es : List (Int × Int)) (a : Int) (hin : ∀ e ∈ es, (0 ≤ e.1 ∧ e.1 < n) ∧ 0 ≤ e.2 ∧ e.2 < n) : ∀ (d : Nat) (out : List Bool), (∀ v : Nat, out.getD v false = true → Path es a (v : Int)) → ∀ v : Nat, (rounds a es d out).getD v false = true → Path es a (v : Int)
 | 0, out, h, v, hv => h v hv
 | d + 1, out, h, v, hv => rounds_sound n es a hin d (roundL a es out) (fun u hu => fold_sound a es n es out (fun _ h => h) hin h u hu) v hv
theorem reach_iff {n : Nat} {es : List (Int × Int)} {a : Int} (hin : ∀ e ∈ es, (0 ≤ e.1 ∧ e.1 < n) ∧ 0 ≤ e.2 ∧ e.2 < n) (v : Int) (hv : 0 ≤ v) : (reachL n es a).getD v.toNat false = true ↔ Path es a v := by
 constructor
 ·intro h
  have := rounds_sound n es a hin n (List.replicate n false) (fun u hu => by
   rw [List.getD_eq_getElem?_getD, List.getElem?_replicate] at hu
   split at hu <;> simp at hu) v.toNat h
  rw [show ((v.toNat : Nat) : Int) = v by omega] at this
  exact this
 ·intro h
  have hl : (reachL n es a).length = n := by unfold reachL; rw [rounds_len]; simp
  have hed : ∀ e ∈ es, (e.1 = a ∨ (reachL n es a).getD e.1.toNat false = true) → (reachL n es a).getD e.2.toNat false = true := fun e he h => by
   have := fold_edge a n es (reachL n es a) hl (fun e he => (hin e he).2) e he h
   have hc := reach_closed n es a
   unfold roundL at hc
   rw [hc] at this
   exact this
  clear hv
  induction h with
  | edge he => exact hed _ he (.inl rfl)
  | step _ he ih => exact hed _ he (.inr ih)
end Go.Proofs.Ytmbhjhanafmidaa
