/- Texts of this work, put into one. -/
import Derived.Test.YtmbhjhanafmidaaTKMDagA
import Derived.Deep.QuietTactic
import Derived.BigQuiet
import Derived.Shelf.Sort.Plain
import Derived.Shelf.Slices.In.SortNone
import Derived.Sort.OwnSortedInts
import Derived.Ground.NamesProg
import Derived.Test.YtmbhjhanafmidaaRows
import Derived.Lib.SmallJoins
import Derived.Deep.SlicePairs
import Derived.OpenShut
import Derived.ChangeOld
import Derived.ProofKit
set_option linter.unusedVariables false
set_option linter.unusedSimpArgs false
namespace Go.Proofs.Ytmbhjhanafmidaa
open Go.RowKit Go.Sort
open Go.Proofs.YtmbhjhanafmidaaW.PrintWords
open DagPlain

end Go.Proofs.Ytmbhjhanafmidaa

set_option linter.unusedVariables false
set_option linter.unusedSimpArgs false
namespace Go.Proofs
open Go.Shelf
def Try.laysSort_ren : Go.Shelf.Ren := ⟨fun | 189 => 59 | 125 => 83 | 257 => 82 | 128 => 101 | 129 => 102 | 294 => 92 | 295 => 93 | 296 => 94 | 297 => 95 | 298 => 96 | 299 => 97 | 216 => 98 | 300 => 99 | 301 => 100 | 328 => 103 | 329 => 104 | 330 => 105 | 331 => 106 | 332 => 107 | 215 => 108 | 343 => 109 | n => n, fun | 28 => 22 | 3 => 3 | 46 => 101 | 0 => 0 | 51 => 118 | 53 => 120 | 4 => 4 | 183 => 111 | 182 => 110 | 131 => 115 | 5 => 5 | 9 => 9 | 218 => 121 | 222 => 125 | 228 => 127 | 229 => 128 | n => n, fun | n => n⟩
theorem Try.laysSort : Go.Proofs.Lays.n189 Try.prog Try.laysSort_ren := {
  mixed := by kernel_rfl
  f125 := Try.func83.trans (congrArg some (by kernel_rfl))
  f128 := Try.func101.trans (congrArg some (by kernel_rfl))
  f129 := Try.func102.trans (congrArg some (by kernel_rfl))
  f189 := Try.func59.trans (congrArg some (by kernel_rfl))
  f215 := Try.func108.trans (congrArg some (by kernel_rfl))
  f216 := Try.func98.trans (congrArg some (by kernel_rfl))
  f257 := Try.func82.trans (congrArg some (by kernel_rfl))
  f294 := Try.func92.trans (congrArg some (by kernel_rfl))
  f295 := Try.func93.trans (congrArg some (by kernel_rfl))
  f296 := Try.func94.trans (congrArg some (by kernel_rfl))
  f297 := Try.func95.trans (congrArg some (by kernel_rfl))
  f298 := Try.func96.trans (congrArg some (by kernel_rfl))
  f299 := Try.func97.trans (congrArg some (by kernel_rfl))
  f300 := Try.func99.trans (congrArg some (by kernel_rfl))
  f301 := Try.func100.trans (congrArg some (by kernel_rfl))
  f328 := Try.func103.trans (congrArg some (by kernel_rfl))
  f329 := Try.func104.trans (congrArg some (by kernel_rfl))
  f330 := Try.func105.trans (congrArg some (by kernel_rfl))
  f331 := Try.func106.trans (congrArg some (by kernel_rfl))
  f332 := Try.func107.trans (congrArg some (by kernel_rfl))
  f343 := Try.func109.trans (congrArg some (by kernel_rfl))
  t0 := Try.underlying0
  a0 := Try.isAgg0
  z0 := Try.sizeOf0
  v0 := Try.zeroValue0
  t3 := Try.underlying3
  a3 := Try.isAgg3
  z3 := Try.sizeOf3
  v3 := Try.zeroValue3
  t4 := Try.underlying4
  a4 := Try.isAgg4
  z4 := Try.sizeOf4
  v4 := Try.zeroValue4
  t5 := Try.underlying5
  a5 := Try.isAgg5
  z5 := Try.sizeOf5
  v5 := Try.zeroValue5
  t9 := Try.underlying9
  a9 := Try.isAgg9
  z9 := Try.sizeOf9
  v9 := Try.zeroValue9
  t28 := Try.underlying22
  a28 := Try.isAgg22
  z28 := Try.sizeOf22
  v28 := Try.zeroValue22
  t46 := Try.underlying101
  a46 := Try.isAgg101
  z46 := Try.sizeOf101
  v46 := Try.zeroValue101
  t51 := Try.underlying118
  a51 := Try.isAgg118
  z51 := Try.sizeOf118
  v51 := Try.zeroValue118
  t53 := Try.underlying120
  a53 := Try.isAgg120
  z53 := Try.sizeOf120
  v53 := Try.zeroValue120
  t131 := Try.underlying115
  a131 := Try.isAgg115
  z131 := Try.sizeOf115
  v131 := Try.zeroValue115
  t182 := Try.underlying110
  a182 := Try.isAgg110
  z182 := Try.sizeOf110
  v182 := Try.zeroValue110
  t183 := Try.underlying111
  a183 := Try.isAgg111
  z183 := Try.sizeOf111
  v183 := Try.zeroValue111
  t218 := Try.underlying121
  a218 := Try.isAgg121
  z218 := Try.sizeOf121
  v218 := Try.zeroValue121
  t222 := Try.underlying125
  a222 := Try.isAgg125
  z222 := Try.sizeOf125
  v222 := Try.zeroValue125
  t228 := Try.underlying127
  a228 := Try.isAgg127
  z228 := Try.sizeOf127
  v228 := Try.zeroValue127
  t229 := Try.underlying128
  a229 := Try.isAgg128
  z229 := Try.sizeOf128
  v229 := Try.zeroValue128 }
end Go.Proofs
namespace Go.Proofs.Ytmbhjhanafmidaa
open Go.RowKit Go.Sort Go.Shelf
theorem sort_int (blk off cap : Nat) (zs : List Int) (w : World) (hH : Holds (Value.int .i64) w blk off zs.toArray) (hblk : blk < w.heap.size) (hsz : zs.length < 4611686018427387904) :
    Calls Try.prog 59 #[.slice (some ⟨blk, off, none⟩) zs.length cap] w fun e w' => e = .returned (.tuple #[]) ∧ ∃ n os, w' = grow (putRow (Value.int .i64) (Sort.ahead w n) blk off (zs.mergeSort fun x y => decide (x ≤ y)).toArray) os := Any.slices_Sort_int Try.laysSort blk off cap zs w hH hblk hsz
theorem sort_none (p : Option Addr) (cap : Nat) (w : World) :
    Calls Try.prog 59 #[.slice p 0 cap] w fun e w' => e = .returned (.tuple #[]) ∧ w' = w := Any.slices_Sort_int_none Try.laysSort p cap w
open Go.Proofs.YtmbhjhanafmidaaW.PrintWords
def sortL (zs : List Int) : List Int := zs.mergeSort fun x y => decide (x ≤ y)
theorem sortL_len (zs : List Int) : (sortL zs).length = zs.length := by unfold sortL; exact List.length_mergeSort _
def SortPost (base : Nat) (w : World) (v : Value) (zs : List Int) (e : Ending) (w' : World) : Prop :=
  e = .returned (.tuple #[]) ∧ w'.ownsRow base 3 1 v (sortL zs).length (encs (Value.int .i64) (sortL zs)) ∧ Below base w w'
theorem sort_own (base : Nat) (v : Value) (zs : List Int) (w : World) (h : w.ownsRow base 3 1 v zs.length (encs (Value.int .i64) zs)) (hsz : zs.length < 4611686018427387904) (hb : base ≤ w.heap.size) :
    Calls Try.prog 59 #[v] w (SortPost base w v zs) := by
  have hown := h
  obtain ⟨hl, ⟨rfl, hn⟩ | ⟨g, cap, cur, rfl, hg1, hg2, hg3, hg4, hg5, hg6⟩⟩ := h
  · refine (sort_none none 0 w).mono ?_
    rintro e w' ⟨rfl, rfl⟩
    refine ⟨rfl, ?_, Below.refl _ _⟩
    obtain rfl : zs = [] := List.length_eq_zero_iff.1 hn
    have : sortL [] = [] := by unfold sortL; simp
    rw [this]
    exact hown
  · have hgl : g < w.heap.size := by
      rcases Nat.lt_or_ge g w.heap.size with h | h
      · exact h
      · rw [Array.getElem?_eq_none h] at hg2; cases hg2
    refine (sort_int g 0 cap zs w (holds_of_blockI hg2 (by rw [Nat.mul_one] at hg6; exact hg6)) hgl hsz).mono ?_
    rintro e w' ⟨rfl, q, os, rfl⟩
    refine ⟨rfl, ?_, (Below.refl _ _).grown (grownBy_sortedI _) hb (fun k h => by cases h; exact hg1)⟩
    have := ownsRow_sortedI (ts := sortL zs) (w := w) (n := q) (os := os) (sortL_len zs) hg1 hg2 hg3 hg4 hg5
    rw [sortL_len]
    exact this
end Go.Proofs.Ytmbhjhanafmidaa

set_option linter.unusedVariables false
set_option linter.unusedSimpArgs false
namespace Go.Proofs.Ytmbhjhanafmidaa
open Go.RowKit Go.Sort
open Go.Proofs.YtmbhjhanafmidaaW.PrintWords
open DagPlain

end Go.Proofs.Ytmbhjhanafmidaa

set_option linter.unusedVariables false
set_option linter.unusedSimpArgs false
namespace Go.Proofs.Ytmbhjhanafmidaa
open Go.RowKit Go.Sort
open Go.Proofs.YtmbhjhanafmidaaW.PrintWords
open DagPlain

end Go.Proofs.Ytmbhjhanafmidaa

set_option linter.unusedVariables false
set_option linter.unusedSimpArgs false
namespace Go.Proofs.Ytmbhjhanafmidaa
open Go.RowKit Go.Sort
open Go.Proofs.YtmbhjhanafmidaaW.PrintWords
open DagPlain

theorem orderGo_in {n : Nat} {es : List (Int × Int)} : ∀ (g : Nat) (out r : List Int), orderGo n es g out = some r → (∀ x ∈ out, 0 ≤ x ∧ x < n) → r.length = out.length + g ∧ ∀ x ∈ r, 0 ≤ x ∧ x < n
  | 0, out, r, h, ho => by
    simp only [orderGo, Option.some.injEq] at h
    subst h
    exact ⟨rfl, ho⟩
  | g + 1, out, r, h, ho => by
    simp only [orderGo] at h
    split at h
    · rename_i v hv
      have hvn : v < n := by
        unfold next at hv
        have := List.mem_of_find?_eq_some hv
        simpa using this
      obtain ⟨h1, h2⟩ := orderGo_in g _ r h (by
        intro x hx
        rw [List.mem_append] at hx
        rcases hx with hx | hx
        · exact ho x hx
        · simp at hx; omega)
      exact ⟨by rw [h1]; simp; omega, h2⟩
    · cases h
/-- A row that is read, not the own one. -/
def RX (g : Nat) (wr : World) (A : Option Addr) (r : List Int) : Prop := ReadsInt wr .i64 A r.length r ∧ ∀ a, A = some a → a.block ≠ g
theorem RX.set {g : Nat} {wr : World} {A : Option Addr} {r : List Int} (h : RX g wr A r) (i : Nat) (x : Value) : RX g (wr.setCell ⟨g, i, none⟩ x) A r := by
  refine ⟨⟨h.1.1, h.1.2.1, fun h0 => ?_⟩, h.2⟩
  obtain ⟨ad, rfl, hc⟩ := h.1.2.2 h0
  refine ⟨ad, rfl, fun j hj => ?_⟩
  rw [World.cell?_setCell_other _ _ _ _ (by intro e; exact h.2 ad rfl ((show (ad.add j).block = ad.block by unfold Addr.add; split <;> rfl).symm.trans (congrArg Addr.block e).symm))]
  exact hc j hj
end Go.Proofs.Ytmbhjhanafmidaa

set_option linter.unusedVariables false
set_option linter.unusedSimpArgs false
namespace Go.Proofs.Ytmbhjhanafmidaa
open Go.RowKit Go.Sort
open Go.Proofs.YtmbhjhanafmidaaW.PrintWords
open DagPlain

end Go.Proofs.Ytmbhjhanafmidaa

set_option linter.unusedVariables false
set_option linter.unusedSimpArgs false
namespace Go.Proofs.Ytmbhjhanafmidaa
open Go.RowKit Go.Sort
open Go.Proofs.YtmbhjhanafmidaaW.PrintWords
open DagPlain

def IdxIPost (w : World) (es : List Int) (x : Int) (e : Ending) (w' : World) : Prop := ∃ i : Int, e = .returned (.int .i64 i) ∧ (0 ≤ i ↔ es.contains x = true) ∧ -1 ≤ i ∧ Below w.heap.size w w'
set_option maxHeartbeats 1000000 in
theorem idxI_any (B : Option Addr) (c : Nat) (es : List Int) (x : Int) (w : World) (hE : ReadsInt w .i64 B es.length es) (hlen : es.length ≤ 1000) :
    Calls Try.prog 75 #[.slice B es.length c, .int .i64 x] w (IdxIPost w es x) := by
  have HE := Lib.hid hE
  clear hE
  go_enter Try.func75, Try.ntmps75
  go_wp2
  go_loopw [8] (fun i wr => ∃ k : Nat, k ≤ es.length ∧ i = .int .i64 k ∧ Hid (∀ j, j < k → es.getD j 0 ≠ x) ∧ Hid (Below w.heap.size w wr)) (fun i _ => es.length - (intOf i).toNat)
  case atStart => exact ⟨0, Nat.zero_le _, rfl, by show ∀ j, j < 0 → _; omega, Below.refl _ _⟩
  case round =>
    obtain ⟨k, hk, rfl, HN, HBW⟩ := hrel
    by_cases hlt : k < es.length
    · obtain ⟨ad, rfl, hcs⟩ := (HE.out.below HBW.out).2.2 (by omega)
      have hr1 := hcs k hlt
      have hmem : es.getD k 0 ∈ es := by rw [List.getD_eq_getElem?_getD, List.getElem?_eq_getElem hlt]; exact List.getElem_mem hlt
      obtain ⟨f, hft⟩ : ∃ p, p = es.getD k 0 := ⟨_, rfl⟩
      rw [← hft] at hr1 hmem
      have HM := Lib.hid hmem
      have HFT := Lib.hid hft
      clear hcs hmem hft
      by_cases he : x = f
      · subst he
        have HC : Hid (es.contains x = true) := by show es.contains x = true; rw [List.contains_iff_mem]; exact HM.out
        go_wp2
        go_ret
        exact ⟨_, rfl, ⟨fun _ => HC.out, fun _ => by omega⟩, by omega, HBW.out⟩
      · have HN2 : Hid (∀ j, j < k + 1 → es.getD j 0 ≠ x) := by
          show ∀ j, j < k + 1 → _
          intro j hj
          by_cases e : j = k
          · rw [e, ← HFT.out]; intro h; exact he h.symm
          · exact HN.out j (by omega)
        go_wp2
        go_roundw
        case rel => exact ⟨k + 1, by omega, by go_num, HN2, HBW.out⟩
        case measure => simp [intOf]; omega
    · obtain rfl : k = es.length := by omega
      have HC : Hid (¬ es.contains x = true) := by
        show ¬ _
        rw [List.contains_iff_mem]
        intro hm
        obtain ⟨j, hj, e⟩ := List.getElem_of_mem hm
        have := HN.out j hj
        rw [List.getD_eq_getElem?_getD, List.getElem?_eq_getElem hj] at this
        exact this e
      clear HN
      go_wp2
      go_ret
      exact ⟨_, rfl, ⟨fun h => by omega, fun h => absurd h HC.out⟩, by omega, HBW.out⟩

set_option maxHeartbeats 400000 in
theorem contI_any (B : Option Addr) (c : Nat) (es : List Int) (x : Int) (w : World) (hE : ReadsInt w .i64 B es.length es) (hlen : es.length ≤ 1000) :
    Calls Try.prog 53 #[.slice B es.length c, .int .i64 x] w fun e w' => e = .returned (.bool (es.contains x)) ∧ Below w.heap.size w w' := by
  have C := Lib.hid (fun w1 h => idxI_any B c es x w1 h hlen)
  have HE := Lib.hid hE
  clear hE
  cases ho : es.contains x with
  | true =>
    have HO := Lib.hid ho
    clear ho
    go_enter Try.func53, Try.ntmps53
    go_wp2_with fail
    refine (C.out _ HE.out).mono ?_
    rintro e w1 ⟨i, rfl, h1, h2, hb⟩
    have h0 : 0 ≤ i := h1.2 HO.out
    have HB := Lib.hid hb
    clear h1 hb
    go_wp2
    go_ret
    exact ⟨by simp [h0], HB.out⟩
  | false =>
    have HO : Hid (¬ es.contains x = true) := by rw [ho]; show ¬ _; simp
    clear ho
    go_enter Try.func53, Try.ntmps53
    go_wp2_with fail
    refine (C.out _ HE.out).mono ?_
    rintro e w1 ⟨i, rfl, h1, h2, hb⟩
    have h0 : ¬ 0 ≤ i := fun h => HO.out (h1.1 h)
    have HB := Lib.hid hb
    clear h1 hb
    go_wp2
    go_ret
    exact ⟨by simp [h0], HB.out⟩

end Go.Proofs.Ytmbhjhanafmidaa

set_option linter.unusedVariables false
set_option linter.unusedSimpArgs false
namespace Go.Proofs.Ytmbhjhanafmidaa
open Go.RowKit Go.Sort
open Go.Proofs.YtmbhjhanafmidaaW.PrintWords
open DagPlain

theorem sortL_id {zs : List Int} (h : zs.Pairwise (fun x y => decide (x ≤ y) = true)) : sortL zs = zs := by unfold sortL; exact List.mergeSort_of_pairwise h
theorem below_alloc (W : World) (o : Obj) : Below W.heap.size W (W.alloc o) := (Below.refl _ _).alloc (Nat.le_refl _) _
end Go.Proofs.Ytmbhjhanafmidaa

set_option linter.unusedVariables false
set_option linter.unusedSimpArgs false
namespace Go.Proofs.Ytmbhjhanafmidaa
open DagPlain

def Good (es : List (Int × Int)) (out : List Int) : Prop := out.Nodup ∧ ∀ j, j < out.length → ∀ e ∈ es, e.2 = out.getD j 0 → ∃ i, i < j ∧ out.getD i 0 = e.1
theorem free_out {es : List (Int × Int)} {out : List Int} {v : Int} (h : free es out v = true) : v ∉ out ∧ ∀ e ∈ es, e.2 = v → e.1 ∈ out := by
  unfold free at h
  rw [Bool.and_eq_true, List.all_eq_true] at h
  refine ⟨by simpa using h.1, fun e he hv => ?_⟩
  have := h.2 e he
  rw [hv] at this
  simpa using this
theorem getD_app_left (a b : List Int) (j : Nat) (h : j < a.length) : (a ++ b).getD j 0 = a.getD j 0 := by
  rw [List.getD_eq_getElem?_getD, List.getD_eq_getElem?_getD, List.getElem?_append_left h]
theorem getD_app_last (a : List Int) (v : Int) : (a ++ [v]).getD a.length 0 = v := by
  rw [List.getD_eq_getElem?_getD, List.getElem?_append_right (Nat.le_refl _)]; simp
theorem mem_getD {a : List Int} {x : Int} (h : x ∈ a) : ∃ i, i < a.length ∧ a.getD i 0 = x := by
  obtain ⟨i, hi, rfl⟩ := List.getElem_of_mem h
  exact ⟨i, hi, by rw [List.getD_eq_getElem?_getD, List.getElem?_eq_getElem hi]; rfl⟩
theorem getD_mem (a : List Int) (i : Nat) (h : i < a.length) : a.getD i 0 ∈ a := by
  rw [List.getD_eq_getElem?_getD, List.getElem?_eq_getElem h]; exact List.getElem_mem h
theorem Good.push {es : List (Int × Int)} {out : List Int} {v : Int} (h : Good es out) (hf : free es out v = true) : Good es (out ++ [v]) := by
  obtain ⟨h1, h2⟩ := free_out hf
  refine ⟨?_, fun j hj e he hv => ?_⟩
  · rw [List.nodup_append]
    refine ⟨h.1, by simp, fun a ha b hb => ?_⟩
    rw [List.mem_singleton] at hb
    subst hb
    intro e
    exact h1 (e ▸ ha)
  · rw [List.length_append] at hj
    by_cases hjl : j < out.length
    · rw [getD_app_left _ _ _ hjl] at hv
      obtain ⟨i, hi, e1⟩ := h.2 j hjl e he hv
      exact ⟨i, hi, by rw [getD_app_left _ _ _ (by omega)]; exact e1⟩
    · obtain rfl : j = out.length := by simp at hj; omega
      rw [getD_app_last] at hv
      obtain ⟨i, hi, e1⟩ := mem_getD (h2 e he hv)
      exact ⟨i, hi, by rw [getD_app_left _ _ _ hi]; exact e1⟩
theorem orderGo_good {n : Nat} {es : List (Int × Int)} : ∀ (g : Nat) (out r : List Int), orderGo n es g out = some r → Good es out → Good es r
  | 0, out, r, h, ho => by
    simp only [orderGo, Option.some.injEq] at h
    subst h
    exact ho
  | g + 1, out, r, h, ho => by
    simp only [orderGo] at h
    split at h
    · rename_i v hv
      unfold next at hv
      have hf := List.find?_some hv
      exact orderGo_good g _ r h (ho.push hf)
    · cases h
theorem nodup_len : ∀ (n : Nat) (r : List Int), r.Nodup → (∀ x ∈ r, 0 ≤ x ∧ x < n) → r.length ≤ n
  | 0, r, _, h => by
    cases r with
    | nil => simp
    | cons a r => have := h a (by simp); omega
  | n + 1, r, hn, h => by
    by_cases hm : (n : Int) ∈ r
    · have h1 := nodup_len n (r.erase (n : Int)) (hn.erase _) (fun x hx => by
        have h2 := (hn.mem_erase_iff).1 hx
        have := h x h2.2
        have := h2.1
        omega)
      rw [List.length_erase_of_mem hm] at h1
      omega
    · have := nodup_len n r hn (fun x hx => by
        have h2 := h x hx
        have : x ≠ (n : Int) := fun e => hm (e ▸ hx)
        omega)
      omega
theorem cover {n : Nat} {r : List Int} (hn : r.Nodup) (h : ∀ x ∈ r, 0 ≤ x ∧ x < n) (hl : r.length = n) (b : Int) (hb : 0 ≤ b ∧ b < n) : b ∈ r := by
  by_cases hm : b ∈ r
  · exact hm
  · have := nodup_len n (b :: r) (List.nodup_cons.2 ⟨hm, hn⟩) (fun x hx => by
      rcases List.mem_cons.1 hx with rfl | hx
      · exact hb
      · exact h x hx)
    rw [List.length_cons] at this
    omega
theorem ordL_good {l : List Int} {es : List (Int × Int)} (hz : checkL l es = 0) : Good es (ordL l es) ∧ (ordL l es).length = l.length ∧ (∀ x ∈ ordL l es, 0 ≤ x ∧ x < l.length) ∧ ∀ b : Int, 0 ≤ b ∧ b < l.length → b ∈ ordL l es := by
  obtain ⟨y1, y2, y3, y4, y5⟩ := ordL_yes hz
  obtain ⟨r, hr⟩ := Option.isSome_iff_exists.1 y5
  have ho : ordL l es = r := by unfold ordL; rw [if_pos hz, hr]; rfl
  rw [ho]
  obtain ⟨h1, h2⟩ := orderGo_in _ _ _ hr (by simp)
  have hg := orderGo_good _ _ _ hr ⟨List.nodup_nil, fun j hj => absurd hj (by simp)⟩
  have hl : r.length = l.length := by simpa using h1
  exact ⟨hg, hl, h2, fun b hb => cover hg.1 h2 hl b hb⟩
end Go.Proofs.Ytmbhjhanafmidaa

set_option linter.unusedVariables false
set_option linter.unusedSimpArgs false
namespace Go.Proofs.Ytmbhjhanafmidaa
open DagPlain

end Go.Proofs.Ytmbhjhanafmidaa

set_option linter.unusedVariables false
set_option linter.unusedSimpArgs false
namespace Go.Proofs.Ytmbhjhanafmidaa
open DagPlain

end Go.Proofs.Ytmbhjhanafmidaa

set_option linter.unusedVariables false
set_option linter.unusedSimpArgs false
namespace Go.Proofs.Ytmbhjhanafmidaa
open DagPlain

end Go.Proofs.Ytmbhjhanafmidaa

set_option linter.unusedVariables false
set_option linter.unusedSimpArgs false
namespace Go.Proofs.Ytmbhjhanafmidaa
open DagPlain

end Go.Proofs.Ytmbhjhanafmidaa

set_option linter.unusedVariables false
set_option linter.unusedSimpArgs false
namespace Go.Proofs.Ytmbhjhanafmidaa
open DagPlain
section
variable {l : List Int} {es : List (Int × Int)}
end
end Go.Proofs.Ytmbhjhanafmidaa

set_option linter.unusedVariables false
set_option linter.unusedSimpArgs false
namespace Go.Proofs.Ytmbhjhanafmidaa
open DagPlain
theorem mem_sortL {zs : List Int} {x : Int} : x ∈ sortL zs ↔ x ∈ zs := (List.mergeSort_perm zs _).mem_iff
section
variable {l : List Int} {es : List (Int × Int)}
end
end Go.Proofs.Ytmbhjhanafmidaa

set_option linter.unusedVariables false
set_option maxRecDepth 100000
set_option linter.unusedSimpArgs false
namespace Go.Proofs.Ytmbhjhanafmidaa
open Go.RowKit Go.Sort Go.Joins Go.Deep
open Go.Proofs.YtmbhjhanafmidaaW.PrintWords

def EdC (w : World) (B : Option Addr) (es : List (Int × Int)) : Prop :=
  0 < es.length → ∃ ad, B = some ad ∧ ∀ i, i < es.length → w.cell? (ad.add (i * 2)) = some (.int .i64 (es.getD i (0, 0)).1) ∧ w.cell? (ad.add (i * 2 + 1)) = some (.int .i64 (es.getD i (0, 0)).2)
theorem cellsDag : Try.prog.cellsOf 25 = 2 := by kernel_rfl
theorem cellsEdge : Try.prog.cellsOf 85 = 2 := by kernel_rfl
def I64 (x : Int) : Prop := (Lit.int .i64 x).wf = true
theorem trod_ints {H : Type} {enc : TypeId × Value → H} {w : World} {base : Nat} {sp : Nat → Bool} {held : Bool} {n : Nat} {v : Value} {y : DataW H × List MemPlace} (h : DataW.trod enc Try.prog w base sp held n 22 [v] = some y) :
    ∃ A c l, v = .slice A l.length c ∧ l.length ≤ c ∧ ReadsInt w .i64 A l.length l ∧ ∀ x ∈ l, I64 x := by
  rcases Go.ChangeShapes.open_ints Try.underlying22 Try.underlying3 (by kernel_rfl) h with ⟨hcs, _⟩ | ⟨a, len, cap, zs, hcs, _, hl, hm, hz, _, hcell, hwz⟩
  · obtain rfl : v = .slice none 0 0 := by simpa using hcs
    exact ⟨none, 0, [], rfl, Nat.le_refl _, ⟨rfl, by simp, fun h => absurd h (by simp)⟩, by simp⟩
  · obtain rfl : v = .slice (some a) len cap := by simpa using hcs
    have hlz : len ≤ zs.length := by rw [hz]; split <;> omega
    refine ⟨some a, cap, zs.take len, by rw [List.length_take, Nat.min_eq_left hlz], by rw [List.length_take]; omega, ⟨rfl, by rw [List.length_take]; unfold maxLen at hm; omega, fun _ => ⟨a, rfl, fun j hj => ?_⟩⟩, fun x hx => hwz x (List.mem_of_mem_take hx)⟩
    rw [List.length_take] at hj
    rw [hcell j (by omega), List.getD_eq_getElem?_getD, List.getD_eq_getElem?_getD, List.getElem?_take_of_lt (by omega)]
theorem trod_edges {H : Type} {enc : TypeId × Value → H} {w : World} {base : Nat} {sp : Nat → Bool} {held : Bool} {n : Nat} {v : Value} {y : DataW H × List MemPlace} (h : DataW.trod enc Try.prog w base sp held n 23 [v] = some y) :
    ∃ B d es, v = .slice B es.length d ∧ es.length ≤ d ∧ es.length ≤ maxLen ∧ EdC w B es ∧ ∀ e ∈ es, I64 e.1 ∧ I64 e.2 := by
  rcases open_slice_pairs Try.underlying23 Try.underlying85 cellsEdge rfl rfl (by kernel_rfl) (by kernel_rfl) h with ⟨hcs, _⟩ | ⟨a, len, cap, m, k, V0, V1, D0, D1, P0, P1, hcs, _, hl, hm, hmm, _, hx⟩
  · obtain rfl : v = .slice none 0 0 := by simpa using hcs
    exact ⟨none, 0, [], rfl, Nat.le_refl _, by simp, fun h => absurd h (by simp), by simp⟩
  · obtain rfl : v = .slice (some a) len cap := by simpa using hcs
    have hlm : len ≤ m := by rw [hmm]; split <;> omega
    have hval : ∀ i, i < len → ∃ p : Int × Int, (V0 i = .int .i64 p.1 ∧ V1 i = .int .i64 p.2) ∧ I64 p.1 ∧ I64 p.2 := by
      intro i hi
      obtain ⟨_, _, h0, h1⟩ := hx i (by omega)
      obtain ⟨x, e0, _, w0⟩ := DataW.trod_int Try.underlying3 h0
      obtain ⟨z, e1, _, w1⟩ := DataW.trod_int Try.underlying3 h1
      exact ⟨(x, z), ⟨by simpa using e0, by simpa using e1⟩, w0, w1⟩
    obtain ⟨q, hq⟩ := choose_lt hval
    refine ⟨some a, cap, (List.range len).map q, by simp, by simpa using hl, by simp; omega, fun _ => ⟨a, rfl, fun i hi => ?_⟩, fun e he => ?_⟩
    · have hi' : i < len := by simpa using hi
      have hg : ((List.range len).map q).getD i (0, 0) = q i := by simp [List.getD_eq_getElem?_getD, hi']
      obtain ⟨h0, h1, _, _⟩ := hx i (by omega)
      rw [hg, h0, h1, (hq i hi').1.1, (hq i hi').1.2]
      exact ⟨rfl, rfl⟩
    · obtain ⟨i, hi, rfl⟩ := List.mem_map.1 he
      exact (hq i (by simpa using hi)).2
/-- What the frame hands on of a graph. -/
def DagIn (w : World) (A : Option Addr) (c : Nat) (l : List Int) (B : Option Addr) (d : Nat) (es : List (Int × Int)) : Prop :=
  l.length ≤ c ∧ ReadsInt w .i64 A l.length l ∧ (∀ x ∈ l, I64 x) ∧ es.length ≤ d ∧ es.length ≤ maxLen ∧ EdC w B es ∧ ∀ e ∈ es, I64 e.1 ∧ I64 e.2
theorem open_dag {H : Type} {enc : TypeId × Value → H} {w : World} {base b0 : Nat} {sp : Nat → Bool} {held : Bool} {v : Value} {d : DataW H} {p : List MemPlace} (hv : Value.okWide Try.prog w .any b0 25 v) (h : DataW.Trod enc Try.prog w base sp held 25 v d p) :
    ∃ A c l B dd es, v = .agg #[.slice A l.length c, .slice B es.length dd] ∧ DagIn w A c l B dd es := by
  obtain ⟨c0, c1, y0, y1, m, rfl, _, _, hy0, hy1⟩ := open_agg2 Try.underlying25 (by kernel_rfl) cellsDag hv h
  obtain ⟨A, c, l, rfl, h1, h2, h3⟩ := trod_ints hy0
  obtain ⟨B, dd, es, rfl, h4, h5, h6, h7⟩ := trod_edges hy1
  exact ⟨A, c, l, B, dd, es, rfl, h1, h2, h3, h4, h5, h6, h7⟩
end Go.Proofs.Ytmbhjhanafmidaa
