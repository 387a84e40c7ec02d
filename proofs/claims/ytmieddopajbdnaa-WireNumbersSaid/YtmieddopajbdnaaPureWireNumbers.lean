/- The statement WireNumbers over numbers and bytes alone: Put and Get tell what the document's answer tells; for all arguments. -/
import Derived.Test.YtmieddopajbdnaaPWireNumbersx2
import Derived.Test.YtmieddopajbdnaaWireFacts
namespace Go.Proofs.Ytmieddopajbdnaa.Pure
open Go.RowKit Go.Proofs.Ytmieddopajbdnaa.PWireNumbers Go.Proofs.YtmieddopajbdnaaW.PrintWords Go.Proofs.YtmieddopajbdnaaW.PrintLast
open WirePlain

theorem wide_tells (k : Int) : trefoilref02_Wide.f k = some (decide (Wide k)) := by
  unfold trefoilref02_Wide.f Wide
  by_cases h1 : k = 1
  · simp [h1]
  by_cases h2 : k = 2
  · simp [h2]
  by_cases h4 : k = 4
  · simp [h4]
  rw [if_neg h1, if_neg h2, if_neg h4]
  by_cases h8 : k = 8
  · simp [h8]
  · simp [h1, h2, h4, h8]

theorem str_one (c : Nat) : strOfNums [(c : Int)] = ⟨[UInt8.ofNat c].toArray⟩ := by
  apply ByteArray.ext
  simp [strOfNums]

theorem putB_size (m j : Nat) : (⟨(put m j).toArray⟩ : ByteArray).size = j := by
  have := put_len j m
  show (put m j).toArray.size = j
  simpa using this

theorem put_from (m K : Nat) (hm : m ≤ 9223372036854775807) (hK : K ≤ 8) : ∀ (d k j : Nat), j + d = K → d < k →
    trefoilref02_Put.l0 k ((m / 256 ^ j : Nat) : Int) K ⟨(put m j).toArray⟩ j = some (if m / 256 ^ K = 0 then (⟨(put m K).toArray⟩, 0) else (⟨#[]⟩, 20)) := by
  intro d
  induction d with
  | zero =>
    intro k j hj hk
    obtain ⟨k, rfl⟩ : ∃ q, k = q + 1 := ⟨k - 1, by omega⟩
    obtain rfl : j = K := by omega
    simp only [trefoilref02_Put.l0]
    rw [if_neg (by omega)]
    by_cases h : m / 256 ^ j = 0
    · rw [if_pos h, if_pos (by omega)]
    · rw [if_neg h, if_neg (by omega)]
  | succ d ih =>
    intro k j hj hk
    obtain ⟨k, rfl⟩ : ∃ q, k = q + 1 := ⟨k - 1, by omega⟩
    simp only [trefoilref02_Put.l0]
    rw [if_pos (by omega)]
    have hj8 : j ≤ 8 := by omega
    have hle : m / 256 ^ j ≤ m := Nat.div_le_self _ _
    have hnext : m / 256 ^ (j + 1) = m / 256 ^ j / 256 := by rw [Nat.pow_succ, ← Nat.div_div_eq_div_mul]
    have hsn := put_snoc j m
    obtain ⟨q, hq⟩ : ∃ q, q = m / 256 ^ j := ⟨_, rfl⟩
    have ihh := ih k (j + 1) (by omega) (by omega)
    rw [hnext, ← hq] at ihh
    rw [← hq] at hle hsn ⊢
    clear hq hnext ih
    have e1 : Int.tmod (q : Int) 256 % 256 = ((q % 256 : Nat) : Int) := by
      rw [Int.tmod_eq_emod_of_nonneg (by omega)]; omega
    have e2 : wrap64 (Int.tdiv (q : Int) 256) = ((q / 256 : Nat) : Int) := by
      rw [Int.tdiv_eq_ediv_of_nonneg (by omega)]
      unfold wrap64; omega
    have e3 : wrap64 ((j : Int) + 1) = ((j + 1 : Nat) : Int) := by unfold wrap64; omega
    rw [e1, e2, e3]
    simp only [Option.bind_some]
    rw [str_one]
    have e4 : (⟨(put m j).toArray⟩ : ByteArray) ++ ⟨[UInt8.ofNat (q % 256)].toArray⟩ = ⟨(put m (j + 1)).toArray⟩ := by
      apply ByteArray.ext
      rw [hsn]; simp
    have hsz : (⟨(put m j).toArray⟩ : ByteArray).size ≤ 8 := by rw [putB_size]; exact hj8
    have hs1 : (⟨[UInt8.ofNat (q % 256)].toArray⟩ : ByteArray).size = 1 := rfl
    have hss : (⟨(put m j).toArray⟩ : ByteArray).size + (⟨[UInt8.ofNat (q % 256)].toArray⟩ : ByteArray).size ≤ 9223372036854775807 := by
      rw [hs1]; exact Nat.le_trans (Nat.add_le_add_right hsz 1) (by decide)
    rw [if_pos hss, e4]
    exact ihh

theorem put_tells (n k : Int) (hn : -9223372036854775808 ≤ n ∧ n ≤ 9223372036854775807) : trefoilref02_Put.f 10 n k = some (putR n k) := by
  unfold trefoilref02_Put.f
  rw [wide_tells]
  simp only [Option.bind_some]
  by_cases hw : Wide k
  · rw [if_pos (by simpa using hw)]
    have hkb := wide_b hw
    by_cases h0 : n < 0
    · rw [if_pos h0]; unfold putR; rw [if_pos hw, if_neg (fun h => by have := h.1; omega)]
    rw [if_neg h0]
    obtain ⟨m, rfl⟩ : ∃ m : Nat, n = m := ⟨n.toNat, by omega⟩
    obtain ⟨K, rfl⟩ : ∃ K : Nat, k = K := ⟨k.toNat, by omega⟩
    have := put_from m K (by omega) (by omega) K 10 0 (Nat.zero_add _) (by omega)
    simp only [Nat.pow_zero, Nat.div_one, put] at this
    rw [show ((⟨#[]⟩ : ByteArray)) = ⟨([] : List UInt8).toArray⟩ from rfl, show (0 : Int) = ((0 : Nat) : Int) from rfl, this]
    unfold putR
    rw [if_pos hw]
    have hiff : m / 256 ^ K = 0 ↔ fits (m : Int) (K : Int) := by
      rw [Nat.div_eq_zero_iff_lt (Nat.pow_pos (by decide))]
      constructor
      · intro h
        refine ⟨by omega, fun _ => ?_⟩
        rw [Int.toNat_natCast]
        have h2 : ((m : Nat) : Int) < ((256 ^ K : Nat) : Int) := Int.ofNat_lt.2 h
        rw [Int.natCast_pow] at h2
        exact h2
      · intro h
        have h2 := fits_lt hw h hn.2
        rw [Int.toNat_natCast, Int.toNat_natCast] at h2
        exact h2
    by_cases h : m / 256 ^ K = 0
    · rw [if_pos h, if_pos (hiff.1 h)]; simp
    · rw [if_neg h, if_neg (fun h2 => h (hiff.2 h2))]
  · rw [if_neg (by simpa using hw)]
    unfold putR; rw [if_neg hw]

theorem le_take_le : ∀ (l : List UInt8) (j : Nat), le (l.take j) ≤ le l
  | [], _ => by rw [List.take_nil]; exact Nat.le_refl _
  | c :: l, 0 => Nat.zero_le _
  | c :: l, j + 1 => by
    have := le_take_le l j
    simp only [List.take_succ_cons, le]; omega
theorem bt_at (s : ByteArray) (a j : Nat) (h : a + j < s.size) : bt s ((a : Int) + j) = (((s.data.toList.drop a).getD j 0).toNat : Int) := by
  unfold bt
  have e : ((a : Int) + j).toNat = a + j := by omega
  rw [dif_pos (by rw [e]; exact h)]
  have hl : s.data.toList.length = s.size := rfl
  rw [List.getD_eq_getElem?_getD, List.getElem?_drop, List.getElem?_eq_getElem (by rw [hl]; exact h)]
  simp only [e, Option.getD_some]
  rfl

theorem wrap_nat {p : Nat} (h : p ≤ 9223372036854775807) : wrap64 (p : Int) = (p : Int) := by unfold wrap64; omega
theorem wrap_sum {x p y : Nat} (h : y = x + p) (hy : y ≤ 9223372036854775807) : wrap64 ((x : Int) + (p : Int)) = (y : Int) := by unfold wrap64; omega
theorem wrap_next {j : Nat} (h : j ≤ 100) : wrap64 ((j : Int) + 1) = ((j + 1 : Nat) : Int) := by unfold wrap64; omega
theorem wrap_mul {x y : Nat} (h : y = x * 256) (hy : y ≤ 9223372036854775807) : wrap64 ((x : Int) * 256) = (y : Int) := by unfold wrap64; omega

theorem get_from (s : ByteArray) (a K : Nat) (hs : s.size ≤ 200) (hK : K ≤ 8) (ha : a + K ≤ s.size) (hn : le ((s.data.toList.drop a).take K) ≤ 9223372036854775807) : ∀ (d k j : Nat) (t : Int), j + d = K → d < k → (j < K → t = ((256 ^ j : Nat) : Int)) →
    trefoilref02_Get.l0 k s a K ((le ((s.data.toList.drop a).take j) : Nat) : Int) t j = some (((le ((s.data.toList.drop a).take K) : Nat) : Int), 0) := by
  intro d
  induction d with
  | zero =>
    intro k j t hj hk _
    obtain ⟨k, rfl⟩ : ∃ q, k = q + 1 := ⟨k - 1, by omega⟩
    obtain rfl : j = K := by omega
    simp only [trefoilref02_Get.l0]
    rw [if_neg (by omega)]
  | succ d ih =>
    intro k j t hj hk ht
    obtain ⟨k, rfl⟩ : ∃ q, k = q + 1 := ⟨k - 1, by omega⟩
    have ht := ht (by omega)
    simp only [trefoilref02_Get.l0]
    have e1 : wrap64 ((a : Int) + j) = (a : Int) + j := by unfold wrap64; omega
    rw [e1, if_pos (by omega), if_pos (by omega), if_pos (by omega), bt_at s a j (by omega)]
    have hll : j < (s.data.toList.drop a).length := by rw [List.length_drop]; show j < s.size - a; omega
    have hsn : le ((s.data.toList.drop a).take (j + 1)) = le ((s.data.toList.drop a).take j) + ((s.data.toList.drop a).getD j 0).toNat * 256 ^ j := by
      rw [List.take_succ_eq_append_getElem hll, le_snoc, List.length_take, Nat.min_eq_left (by omega), List.getD_eq_getElem?_getD, List.getElem?_eq_getElem hll]; rfl
    have hmono : le ((s.data.toList.drop a).take (j + 1)) ≤ le ((s.data.toList.drop a).take K) := by
      have := le_take_le ((s.data.toList.drop a).take K) (j + 1)
      rwa [List.take_take, Nat.min_eq_left (by omega)] at this
    have hc : ((s.data.toList.drop a).getD j 0).toNat < 256 := UInt8.toNat_lt _
    generalize ((s.data.toList.drop a).getD j 0).toNat = c at *
    have hj7 : (j : Int) < 7 ∨ ¬ (j : Int) < 7 := by omega
    have hj100 : j ≤ 100 := by omega
    have hlast : ¬ (j : Int) < 7 → ¬ j + 1 < K := by omega
    have hjk : j + 1 + d = K := by omega
    have hdk : d < k := by omega
    have hb7 : (j : Int) < 7 → 256 ^ (j + 1) ≤ 9223372036854775807 := fun h => Nat.le_trans (Nat.pow_le_pow_right (by decide) (by omega : j + 1 ≤ 7)) (by decide)
    have hmax := Nat.le_trans hmono hn
    have hpm : c * 256 ^ j ≤ 9223372036854775807 := Nat.le_trans (Nat.le_trans (Nat.le_add_left _ _) (Nat.le_of_eq hsn.symm)) hmax
    have e2 : wrap64 ((c : Nat) : Int) = (c : Int) := wrap_nat (Nat.le_trans (Nat.le_of_lt hc) (by decide))
    have e3 : (c : Int) * t = ((c * 256 ^ j : Nat) : Int) := by rw [ht]; simp
    rw [e2, e3, wrap_nat hpm, wrap_sum hsn hmax, wrap_next hj100]
    rcases hj7 with h7 | h7
    · rw [if_pos h7]
      exact ih k (j + 1) _ hjk hdk (fun _ => by rw [ht]; exact wrap_mul (Nat.pow_succ _ _) (hb7 h7))
    · rw [if_neg h7]
      exact ih k (j + 1) _ hjk hdk (fun h => absurd h (hlast h7))

theorem get_tells (s : ByteArray) (a k : Int) (hs : s.size ≤ 200) (hk : -9223372036854775808 ≤ k ∧ k ≤ 9223372036854775807) : trefoilref02_Get.f 20 s a k = some (getR s a k) := by
  unfold trefoilref02_Get.f
  rw [wide_tells]
  simp only [Option.bind_some]
  by_cases hw : Wide k
  · rw [if_pos (by simpa using hw)]
    have hkb := wide_b hw
    have hJ : trefoilref02_Get.j0 20 s a k true = some (0, 21) := by simp [trefoilref02_Get.j0]
    by_cases h1 : a < 0
    · rw [if_pos h1, hJ]; unfold getR; rw [if_pos hw, if_neg (fun h => by have := h.1; omega)]
    rw [if_neg h1]
    by_cases h2 : a > (s.size : Int)
    · rw [if_pos h2, hJ]; unfold getR; rw [if_pos hw, if_neg (fun h => by have := h.2.2.1; omega)]
    rw [if_neg h2, show wrap64 ((s.size : Int) - a) = (s.size : Int) - a by unfold wrap64; omega]
    by_cases h3 : (s.size : Int) - a < k
    · rw [decide_eq_true h3, hJ]; unfold getR; rw [if_pos hw, if_neg (fun h => by have := h.2.2.2; omega)]
    rw [decide_eq_false h3]
    have hth : There s.size a k := ⟨by omega, by omega, by omega, by omega⟩
    unfold getR
    rw [if_pos hw, if_pos hth]
    obtain ⟨a, rfl⟩ : ∃ n : Nat, a = n := ⟨a.toNat, by omega⟩
    obtain ⟨K, rfl⟩ : ∃ n : Nat, k = n := ⟨k.toNat, by omega⟩
    have hnum : num s (a : Int) (K : Int) = le ((s.data.toList.drop a).take K) := by simp [num]
    have hlen : ((s.data.toList.drop a).take K).length = K := by
      have : s.data.toList.length = s.size := rfl
      rw [List.length_take, List.length_drop, this]; omega
    have hlt := le_lt ((s.data.toList.drop a).take K)
    rw [hlen] at hlt
    have main : le ((s.data.toList.drop a).take K) ≤ 9223372036854775807 → trefoilref02_Get.l0 18 s (a : Int) (K : Int) 0 1 0 = some (((le ((s.data.toList.drop a).take K) : Nat) : Int), 0) := by
      intro hn
      have := get_from s a K hs (by omega) (by omega) hn K 18 0 1 (by omega) (by omega) (fun _ => by simp)
      simpa [le] using this
    simp only [trefoilref02_Get.j0]
    rw [if_neg (by decide), hnum]
    by_cases h8 : (K : Int) = 8
    · rw [if_pos h8, show wrap64 ((a : Int) + 7) = (a : Int) + ((7 : Nat) : Int) by unfold wrap64; omega, if_pos (by omega), if_pos (by omega), bt_at s a 7 (by omega)]
      simp only [trefoilref02_Get.j1]
      obtain rfl : K = 8 := by omega
      have hll : 7 < (s.data.toList.drop a).length := by rw [List.length_drop]; show 7 < s.size - a; omega
      have hsn : le ((s.data.toList.drop a).take 8) = le ((s.data.toList.drop a).take 7) + ((s.data.toList.drop a).getD 7 0).toNat * 256 ^ 7 := by
        rw [List.take_succ_eq_append_getElem hll, le_snoc, List.length_take, Nat.min_eq_left (by omega), List.getD_eq_getElem?_getD, List.getElem?_eq_getElem hll]; rfl
      have h7 := le_lt ((s.data.toList.drop a).take 7)
      rw [List.length_take, Nat.min_eq_left (by omega)] at h7
      generalize ((s.data.toList.drop a).getD 7 0).toNat = c at *
      by_cases h9 : ((c : Nat) : Int) ≥ 128
      · rw [decide_eq_true h9, if_pos rfl, if_neg (by omega)]
      · rw [decide_eq_false h9, if_neg (by decide), if_pos (by omega)]
        exact main (by omega)
    · rw [if_neg h8]
      simp only [trefoilref02_Get.j1]
      have hb : 256 ^ K ≤ 256 ^ 7 := Nat.pow_le_pow_right (by decide) (by omega)
      rw [if_neg (by decide), if_pos (by omega)]
      exact main (by omega)
  · rw [if_neg (by simpa using hw)]
    unfold getR; rw [if_neg hw]

theorem WireNumbers : trefoillaw02_WireNumbers.Pure := by
  intro n s a k hn hs ha hk
  have hn := bounds_i64 hn
  have hk := bounds_i64 hk
  refine ⟨21, ?_⟩
  unfold trefoillaw02_WireNumbers.f trefoillaw02_awake.f
  simp only [Option.bind_some, if_true]
  by_cases h1 : (s.size : Int) > 200
  · rw [decide_eq_true h1]; simp [trefoillaw02_WireNumbers.j0, trefoillaw02_awake.f]
  rw [decide_eq_false h1]
  simp only [trefoillaw02_WireNumbers.j0, wire_Put.f, wire_Get.f]
  have hput : trefoilref02_Put.f 20 n k = some (putR n k) := at_rounds (trefoilref02_Put.mono n k) (by decide : 10 ≤ 20) (put_tells n k hn)
  rw [if_neg (by decide), if_pos hn, hput, if_pos (by omega), get_tells s a k (by omega) hk]
  simp
end Go.Proofs.Ytmieddopajbdnaa.Pure
