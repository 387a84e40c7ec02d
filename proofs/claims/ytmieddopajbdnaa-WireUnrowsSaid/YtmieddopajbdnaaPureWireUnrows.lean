/- The statement WireUnrows over numbers and bytes alone: a row is read again, whatever stands around it, and one number more isn't there; for all arguments. -/
import Derived.Test.YtmieddopajbdnaaPWireUnrowsx1
import Derived.Test.YtmieddopajbdnaaWireFacts
namespace Go.Proofs.Ytmieddopajbdnaa.Pure
open Go.RowKit Go.Proofs.Ytmieddopajbdnaa.PWireUnrows Go.Proofs.YtmieddopajbdnaaW.PrintWords Go.Proofs.YtmieddopajbdnaaW.PrintLast
open WirePlain

theorem ints_from (l m : List Int) (hl : l.length = m.length) (hb : l.length ≤ 1000) : ∀ (d k i : Nat), i + d = l.length → d < k → l.take i = m.take i → trefoilref02_Ints.l0 k l m i = some (decide (l = m)) := by
  intro d
  induction d with
  | zero =>
    intro k i hi hk he
    obtain ⟨k, rfl⟩ : ∃ q, k = q + 1 := ⟨k - 1, by omega⟩
    simp only [trefoilref02_Ints.l0]
    rw [if_neg (by omega)]
    rw [List.take_of_length_le (by omega), List.take_of_length_le (by omega)] at he
    rw [decide_eq_true he]
  | succ d ih =>
    intro k i hi hk he
    obtain ⟨k, rfl⟩ : ∃ q, k = q + 1 := ⟨k - 1, by omega⟩
    simp only [trefoilref02_Ints.l0]
    rw [if_pos (by omega), if_pos (by omega), if_pos (by omega)]
    have h1 : i < l.length := by omega
    have h2 : i < m.length := by omega
    have e1 : rd l (i : Int) = l[i] := by unfold rd; rw [Int.toNat_natCast, List.getD_eq_getElem?_getD, List.getElem?_eq_getElem h1]; rfl
    have e2 : rd m (i : Int) = m[i] := by unfold rd; rw [Int.toNat_natCast, List.getD_eq_getElem?_getD, List.getElem?_eq_getElem h2]; rfl
    rw [e1, e2]
    by_cases h : l[i] = m[i]
    · rw [if_pos h, show wrap64 ((i : Int) + 1) = ((i + 1 : Nat) : Int) by unfold wrap64; omega]
      exact ih k (i + 1) (by omega) (by omega) (by rw [List.take_succ_eq_append_getElem h1, List.take_succ_eq_append_getElem h2, he, h])
    · rw [if_neg h, decide_eq_false]
      rintro rfl
      exact h rfl
theorem ints_tells (l m : List Int) (k : Nat) (hk : l.length < k) (hb : l.length ≤ 1000) : trefoilref02_Ints.f k l m = some (decide (l = m)) := by
  unfold trefoilref02_Ints.f
  by_cases h : l.length = m.length
  · rw [if_pos (by omega)]
    exact ints_from l m h hb l.length k 0 (by omega) hk (by simp)
  · rw [if_neg (by omega), decide_eq_false]
    rintro rfl
    exact h rfl

theorem rowL_mid (x y : List Int) (n : Int) (k : Nat) : rowL (x ++ n :: y) k = rowL x k ++ (put n.toNat k ++ rowL y k) := by simp [rowL]
theorem num_row (l : List Int) (k : Nat) (a b : ByteArray) (i : Nat) (hi : i < l.length) (hw : Wide (k : Int)) (hf : ∀ n ∈ l, fits n (k : Int)) (hb : ∀ n ∈ l, n ≤ 9223372036854775807) :
    ((num ((a ++ ⟨(rowL l k).toArray⟩) ++ b) ((a.size : Int) + (i : Nat) * (k : Int)) k : Nat) : Int) = l[i] := by
  have hs : l = l.take i ++ l[i] :: l.drop (i + 1) := by rw [← List.drop_eq_getElem_cons hi, List.take_append_drop]
  have hr : rowL l k = rowL (l.take i) k ++ (put (l[i]).toNat k ++ rowL (l.drop (i + 1)) k) := by
    exact (congrArg (fun m => rowL m (k : Int)) hs).trans (rowL_mid _ _ _ _)
  have hlen : (rowL (l.take i) k).length = i * k := by rw [rowL_len, List.length_take, Nat.min_eq_left (by omega), Int.toNat_natCast]
  have ha : a.data.toList.length = a.size := rfl
  have e : ((a.size : Int) + (i : Nat) * (k : Int)).toNat = a.data.toList.length + (rowL (l.take i) k).length := by
    rw [hlen, ha]
    have : ((i : Nat) : Int) * (k : Int) = ((i * k : Nat) : Int) := by simp
    rw [this]; omega
  have hmem : l[i] ∈ l := List.getElem_mem hi
  unfold num
  rw [e, Int.toNat_natCast]
  have hd : ((a ++ ⟨(rowL l k).toArray⟩) ++ b).data.toList = a.data.toList ++ (rowL (l.take i) k ++ (put (l[i]).toNat k ++ (rowL (l.drop (i + 1)) k ++ b.data.toList))) := by
    rw [hr]; simp
  rw [hd, ← List.drop_drop, List.drop_left, List.drop_left, List.take_append_of_le_length (by rw [put_len]; exact Nat.le_refl _), List.take_of_length_le (by rw [put_len]; exact Nat.le_refl _)]
  have h1 := fits_lt hw (hf _ hmem) (hb _ hmem)
  rw [Int.toNat_natCast] at h1
  rw [le_put _ _ h1]
  have := (hf _ hmem).1
  omega

theorem row_size (l : List Int) (K : Nat) : (⟨(rowL l (K : Int)).toArray⟩ : ByteArray).size = l.length * K := by
  have := rowL_len l (K : Int)
  rw [Int.toNat_natCast] at this
  show (rowL l (K : Int)).toArray.size = _
  rw [List.size_toArray, this]
theorem cast_mul (n K : Nat) : (n : Int) * (K : Int) = ((n * K : Nat) : Int) := by simp
theorem unrow_row (l : List Int) (K : Nat) (a b : ByteArray) (hw : Wide (K : Int)) (hK : 1 ≤ K) (hf : ∀ n ∈ l, fits n (K : Int)) (hb : ∀ n ∈ l, n ≤ 9223372036854775807) :
    unrowR ((a ++ ⟨(rowL l (K : Int)).toArray⟩) ++ b) a.size l.length K = (l, (a.size : Int) + ((l.length * K : Nat) : Int), 0) := by
  have hmul : l.length ≤ l.length * K := Nat.le_mul_of_pos_right _ hK
  have hAB : ((a ++ ⟨(rowL l (K : Int)).toArray⟩) ++ b : ByteArray).size = a.size + l.length * K + b.size := by rw [ByteArray.size_append, ByteArray.size_append, row_size]
  unfold unrowR
  rw [if_pos hw, hAB, cast_mul, if_pos ⟨by omega, by omega, by omega, by omega, by omega⟩, if_pos]
  · congr 1
    unfold numsL
    apply List.ext_getElem
    · simp
    · intro i h1 h2
      rw [List.getElem_map, List.getElem_range]
      exact num_row l K a b i h2 hw hf hb
  · intro i hi
    have := num_row l K a b i hi hw hf hb
    have h5 := hb _ (List.getElem_mem hi)
    rw [← this] at h5
    exact Int.ofNat_le.1 h5
theorem unrow_more (l : List Int) (K : Nat) (a : ByteArray) (hw : Wide (K : Int)) (hK : 1 ≤ K) : (unrowR (a ++ ⟨(rowL l (K : Int)).toArray⟩) a.size (l.length + 1) K).2.2 = 21 := by
  have hA : (a ++ ⟨(rowL l (K : Int)).toArray⟩ : ByteArray).size = a.size + l.length * K := by rw [ByteArray.size_append, row_size]
  have hc : ((l.length + 1 : Nat) : Int) * (K : Int) = ((l.length * K : Nat) : Int) + K := by rw [Int.natCast_add, Int.add_mul, cast_mul]; simp
  unfold unrowR
  rw [if_pos hw, hA, hc, if_neg]
  rintro ⟨_, _, _, _, h5⟩
  omega
theorem small {n : Nat} (h : n ≤ 1000) : n ≤ 9223372036854775807 := Nat.le_trans h (by decide)
theorem wrap_small {n : Nat} (h : n ≤ 1000) : wrap64 ((n : Nat) : Int) = (n : Int) := by unfold wrap64; omega
theorem wrap_small2 {m n : Nat} (h : m ≤ 1000) (h2 : n ≤ 1000) : wrap64 ((m : Int) + (n : Int)) = (m : Int) + (n : Int) := by unfold wrap64; omega
theorem cond {s : ByteArray} {a many : Nat} (h : s.size ≤ 1000) (h2 : a ≤ 1000) (h3 : many ≤ 1000) : s.size ≤ 100000 ∧ (-9223372036854775808 ≤ (a : Int) ∧ (a : Int) ≤ 9223372036854775807) ∧ 0 ≤ (many : Int) ∧ (many : Int) ≤ 100000 := by omega

theorem main (l : List Int) (K : Nat) (a b : ByteArray) (hw : Wide (K : Int)) (hK : 1 ≤ K ∧ K ≤ 8) (hf : ∀ n ∈ l, fits n (K : Int)) (hb : ∀ n ∈ l, n ≤ 9223372036854775807) (h1 : l.length ≤ 60) (h2 : a.size ≤ 100) (h3 : b.size ≤ 100) (q : Nat) (hq : l.length < q) :
    (if a.size + (⟨(rowL l (K : Int)).toArray⟩ : ByteArray).size ≤ 9223372036854775807 then if (a ++ ⟨(rowL l (K : Int)).toArray⟩).size + b.size ≤ 9223372036854775807 then
      (wire_Unrow.f ((a ++ ⟨(rowL l (K : Int)).toArray⟩) ++ b) (a.size : Int) (l.length : Int) K).bind fun bt115 => ((wire_Unrow.f (a ++ ⟨(rowL l (K : Int)).toArray⟩) (a.size : Int) (wrap64 ((l.length : Int) + 1)) K).bind fun bt120 => ((trefoilref02_Ints.f q l bt115.1).bind fun t125 => (if t125 = true then (if bt115.2.1 = (wrap64 ((a.size : Int) + ((⟨(rowL l (K : Int)).toArray⟩ : ByteArray).size : Int))) then (if bt115.2.2 = 0 then (if bt120.2.2 = 21 then (some (((⟨(rowL l (K : Int)).toArray⟩ : ByteArray).size : Int) == (wrap64 ((l.length : Int) * K)))) else (some false)) else (some false)) else (some false)) else (some false)))) else none else none) = some true := by
  have hmul2 : l.length * K ≤ 60 * 8 := Nat.mul_le_mul h1 hK.2
  have hA : (a ++ ⟨(rowL l (K : Int)).toArray⟩ : ByteArray).size = a.size + l.length * K := by rw [ByteArray.size_append, row_size]
  have hAB : ((a ++ ⟨(rowL l (K : Int)).toArray⟩) ++ b : ByteArray).size = a.size + l.length * K + b.size := by rw [ByteArray.size_append, hA]
  have hu1 := unrow_row l K a b hw hK.1 hf hb
  have hu2 := unrow_more l K a hw hK.1
  have c1 := cond (s := (a ++ ⟨(rowL l (K : Int)).toArray⟩) ++ b) (a := a.size) (many := l.length) (by rw [hAB]; omega) (by omega) (by omega)
  have c2 := cond (s := a ++ ⟨(rowL l (K : Int)).toArray⟩) (a := a.size) (many := l.length + 1) (by rw [hA]; omega) (by omega) (by omega)
  have w1 : wrap64 ((l.length : Int) + 1) = ((l.length + 1 : Nat) : Int) := wrap_small2 (n := 1) (by omega) (by decide)
  rw [w1, row_size, cast_mul, wrap_small (by omega), wrap_small2 (by omega) (by omega), if_pos (small (by omega)), if_pos (small (by rw [hA]; omega))]
  unfold wire_Unrow.f
  rw [if_pos c1, if_pos c2, Int.toNat_natCast, Int.toNat_natCast, hu1]
  simp only [Option.bind_some]
  rw [ints_tells l l q hq (by omega), hu2]
  simp

theorem WireUnrows : trefoillaw02_WireUnrows.Pure := by
  intro l k a b _ _ h3 _ _ _
  refine ⟨l.length + 3, ?_⟩
  unfold trefoillaw02_WireUnrows.f trefoillaw02_awake.f
  simp only [Option.bind_some, if_true]
  have hT : trefoillaw02_WireUnrows.j0 (l.length + 3) l k a b true = some true := by simp [trefoillaw02_WireUnrows.j0, trefoillaw02_awake.f]
  by_cases c1 : (l.length : Int) > 60
  · rw [if_pos c1]; exact hT
  rw [if_neg c1]
  by_cases c2 : (a.size : Int) > 100
  · rw [if_pos c2]; exact hT
  rw [if_neg c2]
  by_cases c3 : (b.size : Int) > 100
  · rw [decide_eq_true c3]; exact hT
  rw [decide_eq_false c3]
  clear hT
  have b1 : ∀ n ∈ l, -9223372036854775808 ≤ n ∧ n ≤ 9223372036854775807 := fun n hn => bounds_i64 (h3 n hn)
  have d1 : l.length ≤ 60 := by omega
  have d2 : a.size ≤ 100 := by omega
  have d3 : b.size ≤ 100 := by omega
  simp only [trefoillaw02_WireUnrows.j0, wire_Row.f, Option.bind_some, List.nil_append, List.length_nil]
  rw [if_neg (by decide), if_pos (by omega), if_pos ⟨by omega, b1⟩]
  simp only [Option.bind_some]
  rcases rowR_cases l k with ⟨hw, f1, e1⟩ | ⟨x, hx, e1⟩
  · rw [e1]
    simp only [if_true]
    have hkb := wide_b hw
    obtain ⟨K, rfl⟩ : ∃ n : Nat, k = n := ⟨k.toNat, by omega⟩
    exact main l K a b hw (by omega) f1 (fun n hn => (b1 n hn).2) d1 d2 d3 _ (by omega)
  · rw [e1]
    simp only
    rw [if_neg hx, ByteArray.toList_eq]
    rfl
end Go.Proofs.Ytmieddopajbdnaa.Pure
