/- Plain facts on Put, Get and Row: what is put is got, what is got is put; no condition but those that each states. -/
import Derived.Test.YtmieddopajbdnaaWireCut
import Derived.OpenShut
namespace WirePlain
open Go
theorem wide_b {k : Int} (h : Wide k) : 1 ≤ k ∧ k ≤ 8 := by rcases h with h | h | h | h <;> omega
theorem putR_cases (n k : Int) : (Wide k ∧ fits n k ∧ putR n k = (⟨(put n.toNat k.toNat).toArray⟩, 0)) ∨ ∃ x, x ≠ 0 ∧ putR n k = (⟨#[]⟩, x) := by
  unfold putR
  by_cases hw : Wide k
  · by_cases hf : fits n k
    · exact .inl ⟨hw, hf, by rw [if_pos hw, if_pos hf]⟩
    · exact .inr ⟨20, by decide, by rw [if_pos hw, if_neg hf]⟩
  · exact .inr ⟨22, by decide, by rw [if_neg hw]⟩
theorem fits_lt {n k : Int} (hw : Wide k) (hf : fits n k) (hn : n ≤ 9223372036854775807) : n.toNat < 256 ^ k.toNat := by
  have h0 := hf.1
  rcases hw with rfl | rfl | rfl | rfl
  · have := hf.2 (by decide); simp at this ⊢; omega
  · have := hf.2 (by decide); simp at this ⊢; omega
  · have := hf.2 (by decide); simp at this ⊢; omega
  · simp; omega
theorem num_put (a b : ByteArray) (n k : Int) : num ((a ++ ⟨(put n.toNat k.toNat).toArray⟩) ++ b) a.size k = le (put n.toNat k.toNat) := by
  unfold num
  congr 1
  have hl := put_len k.toNat n.toNat
  have ha : a.data.toList.length = a.size := rfl
  rw [Int.toNat_natCast, ← ha]
  simp only [ByteArray.data_append, Array.toList_append, List.append_assoc]
  rw [List.drop_left, List.take_append_of_le_length (by simp [hl]), List.take_of_length_le (by simp [hl])]
theorem get_put (a b : ByteArray) (n k : Int) (hw : Wide k) (hf : fits n k) (hn : n ≤ 9223372036854775807) : getR ((a ++ ⟨(put n.toNat k.toNat).toArray⟩) ++ b) (a.size : Int) k = (n, 0) := by
  have hkb := wide_b hw
  have hps : (⟨(put n.toNat k.toNat).toArray⟩ : ByteArray).size = k.toNat := by
    have := put_len k.toNat n.toNat
    show (put n.toNat k.toNat).toArray.size = _
    simpa using this
  unfold getR
  rw [num_put a b n k, le_put _ _ (fits_lt hw hf hn), if_pos hw, if_pos, if_pos (by omega)]
  · have := hf.1
    rw [show ((n.toNat : Nat) : Int) = n by omega]
  · refine ⟨by omega, by omega, ?_, ?_⟩ <;> rw [ByteArray.size_append, ByteArray.size_append, hps] <;> omega
theorem getR_cases (s : ByteArray) (a k : Int) : (Wide k ∧ There s.size a k ∧ num s a k ≤ 9223372036854775807 ∧ getR s a k = ((num s a k : Int), 0)) ∨ ∃ x, x ≠ 0 ∧ getR s a k = (0, x) := by
  unfold getR
  by_cases hw : Wide k
  · by_cases ht : There s.size a k
    · by_cases hn : num s a k ≤ 9223372036854775807
      · exact .inl ⟨hw, ht, hn, by rw [if_pos hw, if_pos ht, if_pos hn]⟩
      · exact .inr ⟨20, by decide, by rw [if_pos hw, if_pos ht, if_neg hn]⟩
    · exact .inr ⟨21, by decide, by rw [if_pos hw, if_neg ht]⟩
  · exact .inr ⟨22, by decide, by rw [if_neg hw]⟩
theorem put_num (s : ByteArray) (a k : Int) (hw : Wide k) (ht : There s.size a k) (hn : num s a k ≤ 9223372036854775807) : putR (num s a k : Int) k = (s.extract a.toNat (a + k).toNat, 0) := by
  obtain ⟨h1, h2, h3, h4⟩ := ht
  have hl : ((s.data.toList.drop a.toNat).take k.toNat).length = k.toNat := by
    have : s.data.toList.length = s.size := rfl
    rw [List.length_take, List.length_drop, this]; omega
  have hlt : num s a k < 256 ^ k.toNat := by have := le_lt ((s.data.toList.drop a.toNat).take k.toNat); rw [hl] at this; exact this
  have hf : fits (num s a k : Int) k := by
    refine ⟨by omega, fun _ => ?_⟩
    have : ((num s a k : Nat) : Int) < ((256 ^ k.toNat : Nat) : Int) := by exact_mod_cast hlt
    simpa using this
  unfold putR
  rw [if_pos hw, if_pos hf]
  congr 1
  have := put_le ((s.data.toList.drop a.toNat).take k.toNat)
  rw [hl] at this
  show (⟨(put (num s a k) k.toNat).toArray⟩ : ByteArray) = _
  unfold num
  rw [this]
  apply ByteArray.ext
  apply Array.toList_inj.mp
  simp only [ByteArray.data_extract, Array.toList_extract, List.extract_eq_take_drop]
  rw [show (a + k).toNat - a.toNat = k.toNat by omega]
end WirePlain
namespace Go.Proofs.Ytmieddopajbdnaa
open WirePlain
theorem rowR_cases (l : List Int) (k : Int) : (Wide k ∧ (∀ n ∈ l, fits n k) ∧ rowR l k = (⟨(rowL l k).toArray⟩, 0)) ∨ ∃ x, x ≠ 0 ∧ rowR l k = (⟨#[]⟩, x) := by
  unfold rowR
  by_cases hw : Wide k
  · by_cases hf : ∀ n ∈ l, fits n k
    · exact .inl ⟨hw, hf, by rw [if_pos hw, if_pos hf]⟩
    · exact .inr ⟨20, by decide, by rw [if_pos hw, if_neg hf]⟩
  · exact .inr ⟨22, by decide, by rw [if_neg hw]⟩
theorem rowL_inj (k : Int) (hw : Wide k) : ∀ (l m : List Int), (∀ n ∈ l, fits n k ∧ n ≤ 9223372036854775807) → (∀ n ∈ m, fits n k ∧ n ≤ 9223372036854775807) → rowL l k = rowL m k → l = m
  | [], [], _, _, _ => rfl
  | [], n :: m, _, _, h => by
    have := congrArg List.length h
    rw [rowL_len, rowL_len] at this
    have hb := wide_b hw
    simp only [List.length_nil, List.length_cons, Nat.zero_mul, Nat.add_mul, Nat.one_mul] at this
    omega
  | n :: l, [], _, _, h => by
    have := congrArg List.length h
    rw [rowL_len, rowL_len] at this
    have hb := wide_b hw
    simp only [List.length_nil, List.length_cons, Nat.zero_mul, Nat.add_mul, Nat.one_mul] at this
    omega
  | n :: l, q :: m, hl, hm, h => by
    have h2 : put n.toNat k.toNat ++ rowL l k = put q.toNat k.toNat ++ rowL m k := h
    obtain ⟨h3, h4⟩ := List.append_inj h2 (by rw [put_len, put_len])
    obtain ⟨f1, g1⟩ := hl n (by simp)
    obtain ⟨f2, g2⟩ := hm q (by simp)
    have h5 := put_inj (fits_lt hw f1 g1) (fits_lt hw f2 g2) h3
    have := f1.1; have := f2.1
    rw [show n = q by omega, rowL_inj k hw l m (fun x hx => hl x (by simp [hx])) (fun x hx => hm x (by simp [hx])) h4]
end Go.Proofs.Ytmieddopajbdnaa
