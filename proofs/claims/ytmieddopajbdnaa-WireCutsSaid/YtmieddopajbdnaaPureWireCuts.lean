/- The statement WireCuts over numbers and bytes alone: the parts, one behind the other, and what is left, are all of it; for all arguments. -/
import Derived.Test.YtmieddopajbdnaaPWireCutsx2
import Derived.Test.YtmieddopajbdnaaWireFacts
namespace Go.Proofs.Ytmieddopajbdnaa.Pure
open Go.RowKit Go.Proofs.Ytmieddopajbdnaa.PWireCuts Go.Proofs.YtmieddopajbdnaaW.PrintWords Go.Proofs.YtmieddopajbdnaaW.PrintLast
open WirePlain

/-- The parts are as long as was told, and they and what is left are all. -/
theorem cutL_all : ∀ (l : List Int) (s : List UInt8) (ps : List ByteArray) (r : List UInt8), cutL l s = some (ps, r) → ps.length = l.length ∧ (∀ i, i < ps.length → ((ps.getD i ByteArray.empty).size : Int) = l.getD i 0) ∧ ps.flatMap (·.data.toList) ++ r = s
  | [], s, ps, r, h => by
    simp only [cutL, Option.some.injEq, Prod.mk.injEq] at h
    obtain ⟨rfl, rfl⟩ := h
    exact ⟨rfl, fun i hi => absurd hi (Nat.not_lt_zero _), rfl⟩
  | n :: l, s, ps, r, h => by
    simp only [cutL] at h
    split at h
    · rename_i hc
      obtain ⟨⟨ps1, r1⟩, hq, he⟩ := Option.map_eq_some_iff.1 h
      simp only [Prod.mk.injEq] at he
      obtain ⟨rfl, rfl⟩ := he
      obtain ⟨h1, h2, h3⟩ := cutL_all l _ _ _ hq
      refine ⟨by simp [h1], fun i hi => ?_, ?_⟩
      · cases i with
        | zero =>
          simp only [List.getD_cons_zero]
          show (((s.take n.toNat).toArray.size : Nat) : Int) = n
          rw [List.size_toArray, List.length_take]; omega
        | succ i =>
          simp only [List.getD_cons_succ]
          exact h2 i (by simpa using hi)
      · simp only [List.flatMap_cons, List.append_assoc, h3]
        exact List.take_append_drop _ _
    · cases h

theorem sum_size (ps : List ByteArray) (i : Nat) : ((ps.take i).flatMap (·.data.toList)).length ≤ (ps.flatMap (·.data.toList)).length := by
  have h : ps.flatMap (·.data.toList) = (ps.take i).flatMap (·.data.toList) ++ (ps.drop i).flatMap (·.data.toList) := by rw [← List.flatMap_append, List.take_append_drop]
  rw [h, List.length_append]
  exact Nat.le_add_right _ _
theorem small {n : Nat} (h : n ≤ 1000) : n ≤ 9223372036854775807 := Nat.le_trans h (by decide)
theorem wrap_next {j : Nat} (h : j ≤ 100) : wrap64 ((j : Int) + 1) = ((j + 1 : Nat) : Int) := by unfold wrap64; omega

theorem cuts_from (s : ByteArray) (l : List Int) (ps : List ByteArray) (r : List UInt8) (hl : l.length ≤ 60) (hs : s.size ≤ 200) (h1 : ps.length = l.length) (h2 : ∀ i, i < ps.length → ((ps.getD i ByteArray.empty).size : Int) = l.getD i 0) (h3 : ps.flatMap (·.data.toList) ++ r = s.data.toList) :
    ∀ (d k i : Nat), i + d = ps.length → 2 * d + 1 < k → trefoillaw02_WireCuts.l0 k s l ps ⟨r.toArray⟩ ⟨((ps.take i).flatMap (·.data.toList)).toArray⟩ i = some true := by
  have htot : (ps.flatMap (·.data.toList)).length + r.length ≤ 200 := by
    have := congrArg List.length h3
    rw [List.length_append] at this
    have hq : s.data.toList.length = s.size := rfl
    omega
  intro d
  induction d with
  | zero =>
    intro k i hi hk
    obtain ⟨k, rfl⟩ : ∃ q, k = q + 2 := ⟨k - 2, by omega⟩
    simp only [trefoillaw02_WireCuts.l0]
    rw [if_neg (by omega)]
    simp only [trefoillaw02_WireCuts.j2]
    have hz : (⟨((ps.take i).flatMap (·.data.toList)).toArray⟩ : ByteArray).size + (⟨r.toArray⟩ : ByteArray).size ≤ 1000 := by
      have := sum_size ps i
      show ((ps.take i).flatMap (·.data.toList)).toArray.size + r.toArray.size ≤ 1000
      rw [List.size_toArray, List.size_toArray]; omega
    rw [if_neg (by decide), if_pos (by omega), if_pos (small hz)]
    simp only [Option.some.injEq, beq_iff_eq]
    rw [ByteArray.toList_eq, ByteArray.toList_eq, List.take_of_length_le (by omega), ← h3]
    simp
  | succ d ih =>
    intro k i hi hk
    obtain ⟨k, rfl⟩ : ∃ q, k = q + 2 := ⟨k - 2, by omega⟩
    have hi2 : i < ps.length := by omega
    have hp := h2 i hi2
    simp only [trefoillaw02_WireCuts.l0]
    rw [if_pos (by omega), decide_eq_true (by omega)]
    simp only [trefoillaw02_WireCuts.j2]
    rw [if_pos trivial, if_pos (by omega), if_pos (by omega), if_pos (by omega)]
    have e1 : rdOf ByteArray.empty ps (i : Int) = ps.getD i ByteArray.empty := rfl
    have e2 : rd l (i : Int) = l.getD i 0 := rfl
    have hstep : (⟨((ps.take i).flatMap (·.data.toList)).toArray⟩ : ByteArray) ++ ps.getD i ByteArray.empty = ⟨((ps.take (i + 1)).flatMap (·.data.toList)).toArray⟩ := by
      have hf : (ps.take (i + 1)).flatMap (·.data.toList) = (ps.take i).flatMap (·.data.toList) ++ (ps.getD i ByteArray.empty).data.toList := by
        rw [List.take_succ_eq_append_getElem hi2, List.flatMap_append, List.getD_eq_getElem?_getD, List.getElem?_eq_getElem hi2]
        simp only [List.flatMap_cons, List.flatMap_nil, List.append_nil, Option.getD_some]
      apply ByteArray.ext
      rw [hf]
      generalize (ps.take i).flatMap (·.data.toList) = X
      simp
    have hz : (⟨((ps.take i).flatMap (·.data.toList)).toArray⟩ : ByteArray).size + (ps.getD i ByteArray.empty).size ≤ 1000 := by
      have h5 := congrArg ByteArray.size hstep
      rw [ByteArray.size_append] at h5
      have := sum_size ps (i + 1)
      have h6 : (⟨((ps.take (i + 1)).flatMap (·.data.toList)).toArray⟩ : ByteArray).size = ((ps.take (i + 1)).flatMap (·.data.toList)).length := by
        show ((ps.take (i + 1)).flatMap (·.data.toList)).toArray.size = _
        rw [List.size_toArray]
      omega
    rw [e1, e2, if_pos hp, if_pos (small hz), hstep, wrap_next (by omega)]
    exact ih k (i + 1) (by omega) (by omega)

theorem WireCuts : trefoillaw02_WireCuts.Pure := by
  intro s l _ _ _ h3
  refine ⟨2 * l.length + 4, ?_⟩
  unfold trefoillaw02_WireCuts.f trefoillaw02_awake.f
  simp only [Option.bind_some, if_true]
  have hT : trefoillaw02_WireCuts.j0 (2 * l.length + 4) s l true = some true := by simp [trefoillaw02_WireCuts.j0, trefoillaw02_awake.f]
  by_cases c1 : (s.size : Int) > 200
  · rw [if_pos c1]; exact hT
  rw [if_neg c1]
  by_cases c2 : (l.length : Int) > 60
  · rw [decide_eq_true c2]; exact hT
  rw [decide_eq_false c2]
  clear hT
  have b1 : ∀ n ∈ l, -9223372036854775808 ≤ n ∧ n ≤ 9223372036854775807 := fun n hn => bounds_i64 (h3 n hn)
  simp only [trefoillaw02_WireCuts.j0, wire_Cut.f, Option.bind_some, List.nil_append, List.length_nil]
  rw [if_neg (by decide), if_pos (by omega), if_pos ⟨by omega, by omega, b1⟩]
  simp only [Option.bind_some]
  unfold cutR
  cases hc : cutL l s.data.toList with
  | none => simp only; rw [if_neg (by decide), if_pos (by decide), ByteArray.toList_eq]; rfl
  | some r =>
    obtain ⟨ps, r⟩ := r
    obtain ⟨q1, q2, q3⟩ := cutL_all l _ _ _ hc
    simp only [if_true]
    have := cuts_from s l ps r (by omega) (by omega) q1 q2 q3 ps.length (2 * l.length + 3) 0 (Nat.zero_add _) (by omega)
    simpa using this
end Go.Proofs.Ytmieddopajbdnaa.Pure
