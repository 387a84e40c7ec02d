/- The statement WireApart over numbers and bytes alone: two rows of numbers are put alike just if they are the same; for all arguments. -/
import Derived.Test.YtmieddopajbdnaaPWireApartx1
import Derived.Test.YtmieddopajbdnaaWireFacts
namespace Go.Proofs.Ytmieddopajbdnaa.Pure
open Go.RowKit Go.Proofs.Ytmieddopajbdnaa.PWireApart Go.Proofs.YtmieddopajbdnaaW.PrintWords Go.Proofs.YtmieddopajbdnaaW.PrintLast
open WirePlain

theorem ints_from (l m : List Int) (hl : l.length = m.length) (hb : l.length ≤ 1000) : ∀ (d k i : Nat), i + d = l.length → d < k → l.take i = m.take i → trefoilref02_Ints.l0 k l m i = some (decide (l = m)) := by
  intro d
  induction d with
  | zero =>
    intro k i hi hk he
    obtain ⟨k, rfl⟩ : ∃ q, k = q + 1 := ⟨k - 1, by omega⟩
    simp only [trefoilref02_Ints.l0]
    rw [if_neg (by omega)]
    rw [List.take_of_length_le (by omega), List.take_of_length_le (by omega)] at he
    rw [decide_eq_true he]
  | succ d ih =>
    intro k i hi hk he
    obtain ⟨k, rfl⟩ : ∃ q, k = q + 1 := ⟨k - 1, by omega⟩
    simp only [trefoilref02_Ints.l0]
    rw [if_pos (by omega), if_pos (by omega), if_pos (by omega)]
    have h1 : i < l.length := by omega
    have h2 : i < m.length := by omega
    have e1 : rd l (i : Int) = l[i] := by unfold rd; rw [Int.toNat_natCast, List.getD_eq_getElem?_getD, List.getElem?_eq_getElem h1]; rfl
    have e2 : rd m (i : Int) = m[i] := by unfold rd; rw [Int.toNat_natCast, List.getD_eq_getElem?_getD, List.getElem?_eq_getElem h2]; rfl
    rw [e1, e2]
    by_cases h : l[i] = m[i]
    · rw [if_pos h, show wrap64 ((i : Int) + 1) = ((i + 1 : Nat) : Int) by unfold wrap64; omega]
      exact ih k (i + 1) (by omega) (by omega) (by rw [List.take_succ_eq_append_getElem h1, List.take_succ_eq_append_getElem h2, he, h])
    · rw [if_neg h, decide_eq_false]
      rintro rfl
      exact h rfl
theorem ints_tells (l m : List Int) (k : Nat) (hk : l.length < k) (hb : l.length ≤ 1000) : trefoilref02_Ints.f k l m = some (decide (l = m)) := by
  unfold trefoilref02_Ints.f
  by_cases h : l.length = m.length
  · rw [if_pos (by omega)]
    exact ints_from l m h hb l.length k 0 (by omega) hk (by simp)
  · rw [if_neg (by omega), decide_eq_false]
    rintro rfl
    exact h rfl

theorem WireApart : trefoillaw02_WireApart.Pure := by
  intro l m k h1 h2 h3 h4 h5 h6 hk
  refine ⟨l.length + 3, ?_⟩
  unfold trefoillaw02_WireApart.f trefoillaw02_awake.f
  simp only [Option.bind_some, if_true]
  have hT : trefoillaw02_WireApart.j0 (l.length + 3) l m k true = some true := by simp [trefoillaw02_WireApart.j0, trefoillaw02_awake.f]
  by_cases c1 : (l.length : Int) > 60
  · rw [if_pos c1]; exact hT
  rw [if_neg c1]
  by_cases c2 : (m.length : Int) > 60
  · rw [decide_eq_true c2]; exact hT
  rw [decide_eq_false c2]
  simp only [trefoillaw02_WireApart.j0, wire_Row.f, Option.bind_some, List.nil_append, List.length_nil]
  have b1 : ∀ n ∈ l, -9223372036854775808 ≤ n ∧ n ≤ 9223372036854775807 := fun n hn => bounds_i64 (h3 n hn)
  have b2 : ∀ n ∈ m, -9223372036854775808 ≤ n ∧ n ≤ 9223372036854775807 := fun n hn => bounds_i64 (h6 n hn)
  rw [if_neg (by decide), if_pos (by omega), if_pos ⟨by omega, b1⟩]
  simp only [Option.bind_some]
  rw [if_pos (by omega), if_pos ⟨by omega, b2⟩]
  simp only [Option.bind_some]
  rcases rowR_cases l k with ⟨hw, f1, e1⟩ | ⟨x, hx, e1⟩
  · rcases rowR_cases m k with ⟨_, f2, e2⟩ | ⟨x, hx, e2⟩
    · rw [e1, e2]
      simp only [if_true]
      rw [ints_tells l m _ (by omega) (by omega)]
      simp only [Option.bind_some, Option.some.injEq, beq_iff_eq]
      rw [Bool.eq_iff_iff, beq_iff_eq, decide_eq_true_eq, ByteArray.toList_eq, ByteArray.toList_eq]
      simp only
      exact ⟨fun h => rowL_inj k hw l m (fun n hn => ⟨f1 n hn, (b1 n hn).2⟩) (fun n hn => ⟨f2 n hn, (b2 n hn).2⟩) h, fun h => by rw [h]⟩
    · rw [e1, e2]
      simp only [if_true]
      rw [if_neg hx]
  · rw [e1]
    simp only
    rw [if_neg hx]
end Go.Proofs.Ytmieddopajbdnaa.Pure
