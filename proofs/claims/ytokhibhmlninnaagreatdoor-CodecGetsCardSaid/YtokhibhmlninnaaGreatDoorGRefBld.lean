/- The reference's Get, and build: the task of all numbers. -/
import Derived.Test.YtokhibhmlninnaaGreatDoorGCodB
import Derived.Test.YtokhibhmlninnaaGreatDoorGMFl
set_option linter.unusedVariables false
set_option linter.unusedSimpArgs false
namespace Go.Proofs.YtokhibhmlninnaaGreatDoor.GetQ
open Go.RowKit Go.Proofs.YtokhibhmlninnaaGreatDoor.PCodB Go.Proofs.YtokhibhmlninnaaGreatDoorW.PrintWords Go.Proofs.YtokhibhmlninnaaGreatDoorW.PrintLast
open WirePlain
theorem wide_tells (k : Int) : trefoilref02_Wide.f k = some (decide (Wide k)) := by
 unfold trefoilref02_Wide.f Wide
 by_cases h1 : k = 1
 ·simp [h1]
 by_cases h2 : k = 2
 ·simp [h2]
 by_cases h4 : k = 4
 ·simp [h4]
 rw [if_neg h1, if_neg h2, if_neg h4]
 by_cases h8 : k = 8
 ·simp [h8]
 ·simp [h1, h2, h4, h8]
theorem wide_b {k : Int} (h : Wide k) : 1 ≤ k ∧ k ≤ 8 := by rcases h with h | h | h | h <;> omega
theorem le_take_le : ∀ (l : List UInt8) (j : Nat), le (l.take j) ≤ le l
 | [], _ => by rw [List.take_nil]; exact Nat.le_refl _
 | c :: l, 0 => Nat.zero_le _
 | c :: l, j + 1 => by
  have := le_take_le l j
  simp only [List.take_succ_cons, le]; omega
theorem bt_at (s : ByteArray) (a j : Nat) (h : a + j < s.size) : bt s ((a : Int) + j) = (((s.data.toList.drop a).getD j 0).toNat : Int) := by
 unfold bt
 have e : ((a : Int) + j).toNat = a + j := by omega
 rw [dif_pos (by rw [e]; exact h)]
 have hl : s.data.toList.length = s.size := rfl
 rw [List.getD_eq_getElem?_getD, List.getElem?_drop, List.getElem?_eq_getElem (by rw [hl]; exact h)]
 simp only [e, Option.getD_some]
 rfl
theorem wrap_nat {p : Nat} (h : p ≤ 9223372036854775807) : wrap64 (p : Int) = (p : Int) := by unfold wrap64; omega
theorem wrap_sum {x p y : Nat} (h : y = x + p) (hy : y ≤ 9223372036854775807) : wrap64 ((x : Int) + (p : Int)) = (y : Int) := by unfold wrap64; omega
theorem wrap_next {j : Nat} (h : j ≤ 100) : wrap64 ((j : Int) + 1) = ((j + 1 : Nat) : Int) := by unfold wrap64; omega
theorem wrap_mul {x y : Nat} (h : y = x * 256) (hy : y ≤ 9223372036854775807) : wrap64 ((x : Int) * 256) = (y : Int) := by unfold wrap64; omega
theorem get_from (s : ByteArray) (a K : Nat) (hs : s.size ≤ 1000) (hK : K ≤ 8) (ha : a + K ≤ s.size) (hn : le ((s.data.toList.drop a).take K) ≤ 9223372036854775807) : ∀ (d k j : Nat) (t : Int), j + d = K → d < k → (j < K → t = ((256 ^ j : Nat) : Int)) →
  trefoilref02_Get.l0 k s a K ((le ((s.data.toList.drop a).take j) : Nat) : Int) t j = some (((le ((s.data.toList.drop a).take K) : Nat) : Int), 0) := by
 intro d
 induction d with
 | zero =>
  intro k j t hj hk _
  obtain ⟨k, rfl⟩ : ∃ q, k = q + 1 := ⟨k - 1, by omega⟩
  obtain rfl : j = K := by omega
  simp only [trefoilref02_Get.l0]
  rw [if_neg (by omega)]
 | succ d ih =>
  intro k j t hj hk ht
  obtain ⟨k, rfl⟩ : ∃ q, k = q + 1 := ⟨k - 1, by omega⟩
  have ht := ht (by omega)
  simp only [trefoilref02_Get.l0]
  have e1 : wrap64 ((a : Int) + j) = (a : Int) + j := by unfold wrap64; omega
  rw [e1, if_pos (by omega), if_pos (by omega), if_pos (by omega), bt_at s a j (by omega)]
  have hll : j < (s.data.toList.drop a).length := by rw [List.length_drop]; show j < s.size - a; omega
  have hsn : le ((s.data.toList.drop a).take (j + 1)) = le ((s.data.toList.drop a).take j) + ((s.data.toList.drop a).getD j 0).toNat * 256 ^ j := by
   rw [List.take_succ_eq_append_getElem hll, le_snoc, List.length_take, Nat.min_eq_left (by omega), List.getD_eq_getElem?_getD, List.getElem?_eq_getElem hll]; rfl
  have hmono : le ((s.data.toList.drop a).take (j + 1)) ≤ le ((s.data.toList.drop a).take K) := by
   have := le_take_le ((s.data.toList.drop a).take K) (j + 1)
   rwa [List.take_take, Nat.min_eq_left (by omega)] at this
  have hc : ((s.data.toList.drop a).getD j 0).toNat < 256 := UInt8.toNat_lt _
  generalize ((s.data.toList.drop a).getD j 0).toNat = c at *
  have hj7 : (j : Int) < 7 ∨ ¬ (j : Int) < 7 := by omega
  have hj100 : j ≤ 100 := by omega
  have hlast : ¬ (j : Int) < 7 → ¬ j + 1 < K := by omega
  have hjk : j + 1 + d = K := by omega
  have hdk : d < k := by omega
  have hb7 : (j : Int) < 7 → 256 ^ (j + 1) ≤ 9223372036854775807 := fun h => Nat.le_trans (Nat.pow_le_pow_right (by decide) (by omega : j + 1 ≤ 7)) (by decide)
  have hmax := Nat.le_trans hmono hn
  have hpm : c * 256 ^ j ≤ 9223372036854775807 := Nat.le_trans (Nat.le_trans (Nat.le_add_left _ _) (Nat.le_of_eq hsn.symm)) hmax
  have e2 : wrap64 ((c : Nat) : Int) = (c : Int) := wrap_nat (Nat.le_trans (Nat.le_of_lt hc) (by decide))
  have e3 : (c : Int) * t = ((c * 256 ^ j : Nat) : Int) := by rw [ht]; simp
  rw [e2, e3, wrap_nat hpm, wrap_sum hsn hmax, wrap_next hj100]
  rcases hj7 with h7 | h7
  ·rw [if_pos h7]
   exact ih k (j + 1) _ hjk hdk (fun _ => by rw [ht]; exact wrap_mul (Nat.pow_succ _ _) (hb7 h7))
  ·rw [if_neg h7]
   exact ih k (j + 1) _ hjk hdk (fun h => absurd h (hlast h7))
theorem get_tells (s : ByteArray) (a k : Int) (hs : s.size ≤ 1000) (hk : -9223372036854775808 ≤ k ∧ k ≤ 9223372036854775807) : trefoilref02_Get.f 20 s a k = some (getR s a k) := by
 unfold trefoilref02_Get.f
 rw [wide_tells]
 simp only [Option.bind_some]
 by_cases hw : Wide k
 ·rw [if_pos (by simpa using hw)]
  have hkb := wide_b hw
  have hJ : trefoilref02_Get.j0 20 s a k true = some (0, 21) := by simp [trefoilref02_Get.j0]
  by_cases h1 : a < 0
  ·rw [if_pos h1, hJ]; unfold getR; rw [if_pos hw, if_neg (fun h => by have := h.1; omega)]
  rw [if_neg h1]
  by_cases h2 : a > (s.size : Int)
  ·rw [if_pos h2, hJ]; unfold getR; rw [if_pos hw, if_neg (fun h => by have := h.2.2.1; omega)]
  rw [if_neg h2, show wrap64 ((s.size : Int) - a) = (s.size : Int) - a by unfold wrap64; omega]
  by_cases h3 : (s.size : Int) - a < k
  ·rw [decide_eq_true h3, hJ]; unfold getR; rw [if_pos hw, if_neg (fun h => by have := h.2.2.2; omega)]
  rw [decide_eq_false h3]
  have hth : There s.size a k := ⟨by omega, by omega, by omega, by omega⟩
  unfold getR
  rw [if_pos hw, if_pos hth]
  obtain ⟨a, rfl⟩ : ∃ n : Nat, a = n := ⟨a.toNat, by omega⟩
  obtain ⟨K, rfl⟩ : ∃ n : Nat, k = n := ⟨k.toNat, by omega⟩
  have hnum : num s (a : Int) (K : Int) = le ((s.data.toList.drop a).take K) := by simp [num]
  have hlen : ((s.data.toList.drop a).take K).length = K := by
   have : s.data.toList.length = s.size := rfl
   rw [List.length_take, List.length_drop, this]; omega
  have hlt := le_lt ((s.data.toList.drop a).take K)
  rw [hlen] at hlt
  have main : le ((s.data.toList.drop a).take K) ≤ 9223372036854775807 → trefoilref02_Get.l0 18 s (a : Int) (K : Int) 0 1 0 = some (((le ((s.data.toList.drop a).take K) : Nat) : Int), 0) := by
   intro hn
   have := get_from s a K hs (by omega) (by omega) hn K 18 0 1 (by omega) (by omega) (fun _ => by simp)
   simpa [le] using this
  simp only [trefoilref02_Get.j0]
  rw [if_neg (by decide), hnum]
  by_cases h8 : (K : Int) = 8
  ·rw [if_pos h8, show wrap64 ((a : Int) + 7) = (a : Int) + ((7 : Nat) : Int) by unfold wrap64; omega, if_pos (by omega), if_pos (by omega), bt_at s a 7 (by omega)]
   simp only [trefoilref02_Get.j1]
   obtain rfl : K = 8 := by omega
   have hll : 7 < (s.data.toList.drop a).length := by rw [List.length_drop]; show 7 < s.size - a; omega
   have hsn : le ((s.data.toList.drop a).take 8) = le ((s.data.toList.drop a).take 7) + ((s.data.toList.drop a).getD 7 0).toNat * 256 ^ 7 := by
    rw [List.take_succ_eq_append_getElem hll, le_snoc, List.length_take, Nat.min_eq_left (by omega), List.getD_eq_getElem?_getD, List.getElem?_eq_getElem hll]; rfl
   have h7 := le_lt ((s.data.toList.drop a).take 7)
   rw [List.length_take, Nat.min_eq_left (by omega)] at h7
   generalize ((s.data.toList.drop a).getD 7 0).toNat = c at *
   by_cases h9 : ((c : Nat) : Int) ≥ 128
   ·rw [decide_eq_true h9, if_pos rfl, if_neg (by omega)]
   ·rw [decide_eq_false h9, if_neg (by decide), if_pos (by omega)]
    exact main (by omega)
  ·rw [if_neg h8]
   simp only [trefoilref02_Get.j1]
   have hb : 256 ^ K ≤ 256 ^ 7 := Nat.pow_le_pow_right (by decide) (by omega)
   rw [if_neg (by decide), if_pos (by omega)]
   exact main (by omega)
 ·rw [if_neg (by simpa using hw)]
  unfold getR; rw [if_neg hw]
end Go.Proofs.YtokhibhmlninnaaGreatDoor.GetQ
namespace Go.Proofs.YtokhibhmlninnaaGreatDoor
open Go.RowKit Go.Proofs.YtokhibhmlninnaaGreatDoorW.PrintWords Go.Proofs.YtokhibhmlninnaaGreatDoorW.PrintLast WirePlain
theorem refget_any (s : ByteArray) (a k : Int) (w : World) (hs : s.size ≤ 1000) (hk : -9223372036854775808 ≤ k ∧ k ≤ 9223372036854775807) : Calls Tryz.prog 29 #[.string s, .int .i64 a, .int .i64 k] w fun e w' => e = .returned (.tuple #[.int .i64 (getR s a k).1, .int .i64 (getR s a k).2]) ∧ Below w.heap.size w w' :=
 below_of (PCodB.trefoilref02_Get.calls 20 s a k _ _ w (GetQ.get_tells s a k hs hk))
def mkP (x : Int × Int × Int) : PCod.S47 := ⟨x.1, x.2.1, x.2.2⟩
def mkE (x : Int × Int) : PCod.S63 := ⟨x.1, x.2⟩
def mkF (x : Int × Int × Int) : PCod.S65 := ⟨x.1, x.2.1, x.2.2⟩
def mkB (x : List Int × List Int) : PCod.S50 := ⟨x.1, x.2⟩
theorem rd_at (pre t : List Int) (a : Int) (i : Int) (h : i = (pre.length : Int)) : Go.Proofs.YtokhibhmlninnaaGreatDoorW.PrintWords.rd (pre ++ a :: t) i = a := by
 unfold Go.Proofs.YtokhibhmlninnaaGreatDoorW.PrintWords.rd
 rw [h, Int.toNat_natCast, List.getD_eq_getElem?_getD, List.getElem?_append_right (Nat.le_refl _), Nat.sub_self]; rfl
theorem byte_bt {b : ByteArray} {i : Nat} (h : i < b.size) : wrap64 (Go.Proofs.YtokhibhmlninnaaGreatDoorW.PrintWords.bt b (i : Int)) = ((CodPlain.byteN b i : Nat) : Int) := by
 have e := GetQ.bt_at b 0 i (by omega)
 rw [List.drop_zero] at e
 have e2 : ((0 : Nat) : Int) + (i : Int) = (i : Int) := by omega
 rw [e2] at e
 have hc := CodPlain.byteN_lt b i
 unfold CodPlain.byteN at hc ⊢
 rw [e, wrap_in (by omega)]
theorem wr_add {x : Nat} {c : Int} {y : Nat} (h : (y : Int) = (x : Int) + c) (hy : y ≤ 100000) (hc : 0 ≤ c) : wrap64 ((x : Int) + c) = (y : Int) := by rw [wrap_in (by omega)]; omega
theorem cut_mid (pre m post : List Int) (i j : Nat) (hi : i = pre.length) (hj : j = pre.length + m.length) : ((pre ++ (m ++ post)).take j).drop i = m := by
 subst hi; subst hj
 rw [List.take_length_add_append, List.take_append_of_le_length (Nat.le_refl _), List.take_length, List.drop_left]
section
variable {b : ByteArray} {l : List Int} (hb : 17 ≤ b.size) (hl : l.length ≤ 1000) (per dl : Int) {V : Int × Int × List PCod.S47 × List PCod.S63 × List PCod.S65 × List PCod.S50}
include hb hl
theorem build_parts : ∀ (R : List (Int × Int × Int)) (pre post : List Int) (j : Nat) (acc : List PCod.S47), l = pre ++ (R.flatMap CodPlain.pN ++ post) → j + R.length = CodPlain.byteN b 5 → acc.length = j →
  Ev (fun k => PCodB.trefoilref06_build.l1 k b l ((pre ++ R.flatMap CodPlain.pN).length : Nat) 0 per dl (acc ++ R.map mkP) []) V → Ev (fun k => PCodB.trefoilref06_build.l0 k b l (pre.length : Nat) (j : Nat) per dl acc) V := by
 have h5g := byte_bt (b := b) (i := 5) (by omega)
 have h256g := CodPlain.byteN_lt b 5
 generalize CodPlain.byteN b 5 = N5 at *
 have H5 : Hid (wrap64 (Go.Proofs.YtokhibhmlninnaaGreatDoorW.PrintWords.bt b 5) = ((N5 : Nat) : Int)) := h5g
 clear h5g
 intro R
 induction R with
 | nil =>
  intro pre post j acc h hj ha hv
  rw [List.length_nil] at hj
  simp only [List.flatMap_nil, List.append_nil, List.map_nil] at hv
  refine Ev.step (fun k => ?_) hv
  rw [PCodB.trefoilref06_build.l0, if_pos (by omega), H5.out, if_neg (by omega)]
 | cons q R ih =>
  intro pre post j acc h hj ha hv
  rw [List.length_cons] at hj
  obtain ⟨x, y, z⟩ := q
  have h256 := h256g
  have hl1 : l = pre ++ x :: y :: z :: (R.flatMap CodPlain.pN ++ post) := by rw [h, List.flatMap_cons]; rfl
  have hlen : pre.length + 3 ≤ l.length := by rw [hl1]; simp
  have ih := ih (pre ++ [x, y, z]) post (j + 1) (acc ++ [mkP (x, y, z)]) (by rw [hl1]; simp) (by omega) (by simp [ha]) (by
   have e1 : pre ++ [x, y, z] ++ R.flatMap CodPlain.pN = pre ++ ((x, y, z) :: R).flatMap CodPlain.pN := by rw [List.flatMap_cons, List.append_assoc]; rfl
   have e2 : acc ++ [mkP (x, y, z)] ++ R.map mkP = acc ++ ((x, y, z) :: R).map mkP := by rw [List.map_cons, List.append_assoc]; rfl
   rw [e1, e2]; exact hv)
  have r0 : Go.Proofs.YtokhibhmlninnaaGreatDoorW.PrintWords.rd l (pre.length : Nat) = x := by rw [hl1]; exact rd_at pre _ x _ rfl
  have W1 : Hid (wrap64 (((pre.length : Nat) : Int) + 1) = ((pre.length + 1 : Nat) : Int)) := wr_add (by omega) (by omega) (by omega)
  have W2 : Hid (wrap64 (((pre.length : Nat) : Int) + 2) = ((pre.length + 2 : Nat) : Int)) := wr_add (by omega) (by omega) (by omega)
  have W3 : Hid (wrap64 (((pre.length : Nat) : Int) + 3) = ((pre.length + 3 : Nat) : Int)) := wr_add (by omega) (by omega) (by omega)
  have WJ : Hid (wrap64 ((j : Int) + 1) = ((j + 1 : Nat) : Int)) := wr_add (by omega) (by omega) (by omega)
  have r1 : Go.Proofs.YtokhibhmlninnaaGreatDoorW.PrintWords.rd l ((pre.length + 1 : Nat) : Int) = y := by
   have := rd_at (pre ++ [x]) (z :: (R.flatMap CodPlain.pN ++ post)) y ((pre.length + 1 : Nat) : Int) (by simp)
   rw [hl1]; rw [List.append_assoc] at this; exact this
  have r2 : Go.Proofs.YtokhibhmlninnaaGreatDoorW.PrintWords.rd l ((pre.length + 2 : Nat) : Int) = z := by
   have := rd_at (pre ++ [x, y]) (R.flatMap CodPlain.pN ++ post) z ((pre.length + 2 : Nat) : Int) (by simp)
   rw [hl1]; rw [List.append_assoc] at this; exact this
  have hlp : (pre ++ [x, y, z]).length = pre.length + 3 := by simp
  rw [hlp] at ih
  refine Ev.step (fun k => ?_) ih
  rw [PCodB.trefoilref06_build.l0, if_pos (by omega), H5.out, if_pos (by omega), if_pos (by omega), if_pos (by omega), W1.out, if_pos (by omega), if_pos (by omega), W2.out, if_pos (by omega), if_pos (by omega), if_pos (by omega), W3.out, WJ.out, r0, r1, r2]
  rfl
theorem build_edges (P : List PCod.S47) : ∀ (R : List (Int × Int)) (pre post : List Int) (j : Nat) (acc : List PCod.S63), l = pre ++ (R.flatMap CodPlain.eN ++ post) → j + R.length = CodPlain.byteN b 6 → acc.length = j →
  Ev (fun k => PCodB.trefoilref06_build.l2 k b l ((pre ++ R.flatMap CodPlain.eN).length : Nat) 0 per dl P (acc ++ R.map mkE) []) V → Ev (fun k => PCodB.trefoilref06_build.l1 k b l (pre.length : Nat) (j : Nat) per dl P acc) V := by
 have h5g := byte_bt (b := b) (i := 6) (by omega)
 have h256g := CodPlain.byteN_lt b 6
 generalize CodPlain.byteN b 6 = N5 at *
 have H5 : Hid (wrap64 (Go.Proofs.YtokhibhmlninnaaGreatDoorW.PrintWords.bt b 6) = ((N5 : Nat) : Int)) := h5g
 clear h5g
 intro R
 induction R with
 | nil =>
  intro pre post j acc h hj ha hv
  rw [List.length_nil] at hj
  simp only [List.flatMap_nil, List.append_nil, List.map_nil] at hv
  refine Ev.step (fun k => ?_) hv
  rw [PCodB.trefoilref06_build.l1, if_pos (by omega), H5.out, if_neg (by omega)]
 | cons q R ih =>
  intro pre post j acc h hj ha hv
  rw [List.length_cons] at hj
  obtain ⟨x, y⟩ := q
  have h256 := h256g
  have hl1 : l = pre ++ x :: y :: (R.flatMap CodPlain.eN ++ post) := by rw [h, List.flatMap_cons]; rfl
  have hlen : pre.length + 2 ≤ l.length := by rw [hl1]; simp
  have ih := ih (pre ++ [x, y]) post (j + 1) (acc ++ [mkE (x, y)]) (by rw [hl1]; simp) (by omega) (by simp [ha]) (by
   have e1 : pre ++ [x, y] ++ R.flatMap CodPlain.eN = pre ++ ((x, y) :: R).flatMap CodPlain.eN := by rw [List.flatMap_cons, List.append_assoc]; rfl
   have e2 : acc ++ [mkE (x, y)] ++ R.map mkE = acc ++ ((x, y) :: R).map mkE := by rw [List.map_cons, List.append_assoc]; rfl
   rw [e1, e2]; exact hv)
  have r0 : Go.Proofs.YtokhibhmlninnaaGreatDoorW.PrintWords.rd l (pre.length : Nat) = x := by rw [hl1]; exact rd_at pre _ x _ rfl
  have W1 : Hid (wrap64 (((pre.length : Nat) : Int) + 1) = ((pre.length + 1 : Nat) : Int)) := wr_add (by omega) (by omega) (by omega)
  have W2 : Hid (wrap64 (((pre.length : Nat) : Int) + 2) = ((pre.length + 2 : Nat) : Int)) := wr_add (by omega) (by omega) (by omega)
  have WJ : Hid (wrap64 ((j : Int) + 1) = ((j + 1 : Nat) : Int)) := wr_add (by omega) (by omega) (by omega)
  have r1 : Go.Proofs.YtokhibhmlninnaaGreatDoorW.PrintWords.rd l ((pre.length + 1 : Nat) : Int) = y := by
   have := rd_at (pre ++ [x]) (R.flatMap CodPlain.eN ++ post) y ((pre.length + 1 : Nat) : Int) (by simp)
   rw [hl1]; rw [List.append_assoc] at this; exact this
  have hlp : (pre ++ [x, y]).length = pre.length + 2 := by simp
  rw [hlp] at ih
  refine Ev.step (fun k => ?_) ih
  rw [PCodB.trefoilref06_build.l1, if_pos (by omega), H5.out, if_pos (by omega), if_pos (by omega), if_pos (by omega), W1.out, if_pos (by omega), if_pos (by omega), if_pos (by omega), W2.out, WJ.out, r0, r1]
  rfl
theorem build_futs (P : List PCod.S47) (E : List PCod.S63) : ∀ (R : List (Int × Int × Int)) (pre post : List Int) (j : Nat) (acc : List PCod.S65), l = pre ++ (R.flatMap CodPlain.pN ++ post) → j + R.length = CodPlain.byteN b 7 → acc.length = j →
  Ev (fun k => PCodB.trefoilref06_build.l3 k b l ((pre ++ R.flatMap CodPlain.pN).length : Nat) 0 per dl P E (acc ++ R.map mkF) []) V → Ev (fun k => PCodB.trefoilref06_build.l2 k b l (pre.length : Nat) (j : Nat) per dl P E acc) V := by
 have h5g := byte_bt (b := b) (i := 7) (by omega)
 have h256g := CodPlain.byteN_lt b 7
 generalize CodPlain.byteN b 7 = N5 at *
 have H5 : Hid (wrap64 (Go.Proofs.YtokhibhmlninnaaGreatDoorW.PrintWords.bt b 7) = ((N5 : Nat) : Int)) := h5g
 clear h5g
 intro R
 induction R with
 | nil =>
  intro pre post j acc h hj ha hv
  rw [List.length_nil] at hj
  simp only [List.flatMap_nil, List.append_nil, List.map_nil] at hv
  refine Ev.step (fun k => ?_) hv
  rw [PCodB.trefoilref06_build.l2, if_pos (by omega), H5.out, if_neg (by omega)]
 | cons q R ih =>
  intro pre post j acc h hj ha hv
  rw [List.length_cons] at hj
  obtain ⟨x, y, z⟩ := q
  have h256 := h256g
  have hl1 : l = pre ++ x :: y :: z :: (R.flatMap CodPlain.pN ++ post) := by rw [h, List.flatMap_cons]; rfl
  have hlen : pre.length + 3 ≤ l.length := by rw [hl1]; simp
  have ih := ih (pre ++ [x, y, z]) post (j + 1) (acc ++ [mkF (x, y, z)]) (by rw [hl1]; simp) (by omega) (by simp [ha]) (by
   have e1 : pre ++ [x, y, z] ++ R.flatMap CodPlain.pN = pre ++ ((x, y, z) :: R).flatMap CodPlain.pN := by rw [List.flatMap_cons, List.append_assoc]; rfl
   have e2 : acc ++ [mkF (x, y, z)] ++ R.map mkF = acc ++ ((x, y, z) :: R).map mkF := by rw [List.map_cons, List.append_assoc]; rfl
   rw [e1, e2]; exact hv)
  have r0 : Go.Proofs.YtokhibhmlninnaaGreatDoorW.PrintWords.rd l (pre.length : Nat) = x := by rw [hl1]; exact rd_at pre _ x _ rfl
  have W1 : Hid (wrap64 (((pre.length : Nat) : Int) + 1) = ((pre.length + 1 : Nat) : Int)) := wr_add (by omega) (by omega) (by omega)
  have W2 : Hid (wrap64 (((pre.length : Nat) : Int) + 2) = ((pre.length + 2 : Nat) : Int)) := wr_add (by omega) (by omega) (by omega)
  have W3 : Hid (wrap64 (((pre.length : Nat) : Int) + 3) = ((pre.length + 3 : Nat) : Int)) := wr_add (by omega) (by omega) (by omega)
  have WJ : Hid (wrap64 ((j : Int) + 1) = ((j + 1 : Nat) : Int)) := wr_add (by omega) (by omega) (by omega)
  have r1 : Go.Proofs.YtokhibhmlninnaaGreatDoorW.PrintWords.rd l ((pre.length + 1 : Nat) : Int) = y := by
   have := rd_at (pre ++ [x]) (z :: (R.flatMap CodPlain.pN ++ post)) y ((pre.length + 1 : Nat) : Int) (by simp)
   rw [hl1]; rw [List.append_assoc] at this; exact this
  have r2 : Go.Proofs.YtokhibhmlninnaaGreatDoorW.PrintWords.rd l ((pre.length + 2 : Nat) : Int) = z := by
   have := rd_at (pre ++ [x, y]) (R.flatMap CodPlain.pN ++ post) z ((pre.length + 2 : Nat) : Int) (by simp)
   rw [hl1]; rw [List.append_assoc] at this; exact this
  have hlp : (pre ++ [x, y, z]).length = pre.length + 3 := by simp
  rw [hlp] at ih
  refine Ev.step (fun k => ?_) ih
  rw [PCodB.trefoilref06_build.l2, if_pos (by omega), H5.out, if_pos (by omega), if_pos (by omega), if_pos (by omega), W1.out, if_pos (by omega), if_pos (by omega), W2.out, if_pos (by omega), if_pos (by omega), if_pos (by omega), W3.out, WJ.out, r0, r1, r2]
  rfl
theorem build_bars (P : List PCod.S47) (E : List PCod.S63) (F : List PCod.S65) : ∀ (R : List (List Int × List Int)) (pre : List Int) (j : Nat) (acc : List PCod.S50), l = pre ++ R.flatMap CodPlain.bN → j + R.length = CodPlain.byteN b 8 → acc.length = j →
  V = (per, dl, P, E, F, acc ++ R.map mkB) → Ev (fun k => PCodB.trefoilref06_build.l3 k b l (pre.length : Nat) (j : Nat) per dl P E F acc) V := by
 have h5g := byte_bt (b := b) (i := 8) (by omega)
 have h256g := CodPlain.byteN_lt b 8
 generalize CodPlain.byteN b 8 = N5 at *
 have H5 : Hid (wrap64 (Go.Proofs.YtokhibhmlninnaaGreatDoorW.PrintWords.bt b 8) = ((N5 : Nat) : Int)) := h5g
 clear h5g
 intro R
 induction R with
 | nil =>
  intro pre j acc h hj ha hv
  rw [List.length_nil] at hj
  rw [hv, List.map_nil, List.append_nil]
  refine Ev.step (fun k => ?_) (Ev.now _)
  rw [PCodB.trefoilref06_build.l3, if_pos (by omega), H5.out, if_neg (by omega)]
 | cons q R ih =>
  intro pre j acc h hj ha hv
  rw [List.length_cons] at hj
  obtain ⟨x, y⟩ := q
  have h256 := h256g
  have hl1 : l = pre ++ (x.length : Int) :: (y.length : Int) :: (x ++ (y ++ R.flatMap CodPlain.bN)) := by
   rw [h, List.flatMap_cons]
   show pre ++ ((x.length : Int) :: (y.length : Int) :: (x ++ y) ++ _) = _
   simp
  have hlen : pre.length + 2 + x.length + y.length ≤ l.length := by rw [hl1]; simp; omega
  have ih := ih (pre ++ CodPlain.bN (x, y)) (j + 1) (acc ++ [mkB (x, y)]) (by rw [h, List.flatMap_cons, List.append_assoc]) (by omega) (by simp [ha]) (by rw [hv, List.map_cons, List.append_assoc]; rfl)
  have r0 : Go.Proofs.YtokhibhmlninnaaGreatDoorW.PrintWords.rd l (pre.length : Nat) = (x.length : Int) := by rw [hl1]; exact rd_at pre _ _ _ rfl
  have W1 : Hid (wrap64 (((pre.length : Nat) : Int) + 1) = ((pre.length + 1 : Nat) : Int)) := wr_add (by omega) (by omega) (by omega)
  have W2 : Hid (wrap64 (((pre.length : Nat) : Int) + 2) = ((pre.length + 2 : Nat) : Int)) := wr_add (by omega) (by omega) (by omega)
  have W3 : Hid (wrap64 (((pre.length + 2 : Nat) : Int) + (x.length : Int)) = ((pre.length + 2 + x.length : Nat) : Int)) := wr_add (by omega) (by omega) (by omega)
  have W4 : Hid (wrap64 (((pre.length + 2 + x.length : Nat) : Int) + (y.length : Int)) = ((pre.length + 2 + x.length + y.length : Nat) : Int)) := wr_add (by omega) (by omega) (by omega)
  have WJ : Hid (wrap64 ((j : Int) + 1) = ((j + 1 : Nat) : Int)) := wr_add (by omega) (by omega) (by omega)
  have r1 : Go.Proofs.YtokhibhmlninnaaGreatDoorW.PrintWords.rd l ((pre.length + 1 : Nat) : Int) = (y.length : Int) := by
   have := rd_at (pre ++ [(x.length : Int)]) (x ++ (y ++ R.flatMap CodPlain.bN)) (y.length : Int) ((pre.length + 1 : Nat) : Int) (by simp)
   rw [hl1]; rw [List.append_assoc] at this; exact this
  have c1 : ((l.take (pre.length + 2 + x.length)).drop (pre.length + 2)) = x := by
   have := cut_mid (pre ++ [(x.length : Int), (y.length : Int)]) x (y ++ R.flatMap CodPlain.bN) (pre.length + 2) (pre.length + 2 + x.length) (by simp) (by simp)
   rw [hl1]; rw [List.append_assoc] at this; exact this
  have c2 : ((l.take (pre.length + 2 + x.length + y.length)).drop (pre.length + 2 + x.length)) = y := by
   have := cut_mid (pre ++ ([(x.length : Int), (y.length : Int)] ++ x)) y (R.flatMap CodPlain.bN) (pre.length + 2 + x.length) (pre.length + 2 + x.length + y.length) (by simp; omega) (by simp; omega)
   rw [hl1]; rw [List.append_assoc, List.append_assoc] at this; exact this
  have hlp : (pre ++ CodPlain.bN (x, y)).length = pre.length + 2 + x.length + y.length := by
   show (pre ++ ((x.length : Int) :: (y.length : Int) :: (x ++ y))).length = _
   simp; omega
  rw [hlp] at ih
  refine Ev.step (fun k => ?_) ih
  rw [PCodB.trefoilref06_build.l3, if_pos (by omega), H5.out, if_pos (by omega), if_pos (by omega), if_pos (by omega), W1.out, if_pos (by omega), if_pos (by omega), W2.out, r0, r1, if_pos (by omega), W3.out, if_pos (by omega), if_pos (by omega), if_pos (by omega), W4.out, if_pos (by omega), if_pos (by omega), if_pos (by omega), WJ.out, Int.toNat_natCast, Int.toNat_natCast, Int.toNat_natCast, c1, c2]
  rfl
end
theorem build_ev {b : ByteArray} {l : List Int} (hb : 17 ≤ b.size) (hb2 : b.size ≤ 1000) (hl : l.length ≤ 1000) (P F : List (Int × Int × Int)) (E : List (Int × Int)) (B : List (List Int × List Int)) (h : l = P.flatMap CodPlain.pN ++ E.flatMap CodPlain.eN ++ F.flatMap CodPlain.pN ++ B.flatMap CodPlain.bN)
  (h1 : P.length = CodPlain.byteN b 5) (h2 : E.length = CodPlain.byteN b 6) (h3 : F.length = CodPlain.byteN b 7) (h4 : B.length = CodPlain.byteN b 8) :
  ∃ k, PCodB.trefoilref06_build.f k b l = some (((num b 9 4 : Nat) : Int), ((num b 13 4 : Nat) : Int), P.map mkP, E.map mkE, F.map mkF, B.map mkB) := by
 have g9 : getR b 9 4 = (((num b 9 4 : Nat) : Int), 0) := by
  have := CodPlain.num_there (b := b) (k := 4) (i := 9) (.inr (.inr (.inl rfl))) (by omega) (by omega)
  unfold CodPlain.numS at this
  rw [if_neg (by simp)] at this
  by_cases hg : (getR b (9 : Nat) (4 : Nat)).2 = 0
  ·rw [if_pos hg] at this
   exact Prod.ext (congrArg (fun q => q.1) this) hg
  ·rw [if_neg hg] at this
   have := congrArg (fun q : Int × CodPlain.St => q.2.2) this
   cases this
 have g13 : getR b 13 4 = (((num b 13 4 : Nat) : Int), 0) := by
  have := CodPlain.num_there (b := b) (k := 4) (i := 13) (.inr (.inr (.inl rfl))) (by omega) (by omega)
  unfold CodPlain.numS at this
  rw [if_neg (by simp)] at this
  by_cases hg : (getR b (13 : Nat) (4 : Nat)).2 = 0
  ·rw [if_pos hg] at this
   exact Prod.ext (congrArg (fun q => q.1) this) hg
  ·rw [if_neg hg] at this
   have := congrArg (fun q : Int × CodPlain.St => q.2.2) this
   cases this
 have e9 : Ev (fun k => PCodB.trefoilref02_Get.f k b 9 4) (((num b 9 4 : Nat) : Int), 0) := Ev.of (fun k => PCodB.trefoilref02_Get.mono b 9 4 k) (by rw [GetQ.get_tells b 9 4 hb2 (by omega), g9])
 have e13 : Ev (fun k => PCodB.trefoilref02_Get.f k b 13 4) (((num b 13 4 : Nat) : Int), 0) := Ev.of (fun k => PCodB.trefoilref02_Get.mono b 13 4 k) (by rw [GetQ.get_tells b 13 4 hb2 (by omega), g13])
 refine Ev.rounds (g := fun k => PCodB.trefoilref06_build.f k b l) ?_
 unfold PCodB.trefoilref06_build.f
 refine Ev.bind e9 (Ev.bind e13 ?_)
 refine build_parts hb hl _ _ P [] (E.flatMap CodPlain.eN ++ F.flatMap CodPlain.pN ++ B.flatMap CodPlain.bN) 0 [] (by rw [h]; simp only [List.nil_append, List.append_assoc]) (by omega) rfl ?_
 refine build_edges hb hl _ _ _ E _ (F.flatMap CodPlain.pN ++ B.flatMap CodPlain.bN) 0 [] (by rw [h]; simp only [List.nil_append, List.append_assoc]) (by omega) rfl ?_
 refine build_futs hb hl _ _ _ _ F _ (B.flatMap CodPlain.bN) 0 [] (by rw [h]; simp only [List.nil_append, List.append_assoc]) (by omega) rfl ?_
 exact build_bars hb hl _ _ _ _ _ B _ 0 [] (by rw [h]; simp only [List.nil_append, List.append_assoc]) (by omega) rfl rfl
end Go.Proofs.YtokhibhmlninnaaGreatDoor
