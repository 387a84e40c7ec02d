/- A graph with an edge less: it may be, too. -/
import Derived.Test.YtjkindoedkjnbaaDagCycle
import Derived.Test.YtjkindoedkjnbaaDagFar
set_option linter.unusedVariables false
set_option linter.unusedSimpArgs false
namespace Go.Proofs.Ytjkindoedkjnbaa
open DagPlain

theorem oddE_spec {n : Nat} {es : List (Int × Int)} {k : Nat} (hk : k < es.length) : oddE n es k = false ↔ ((0 ≤ es[k].1 ∧ es[k].1 < n) ∧ (0 ≤ es[k].2 ∧ es[k].2 < n) ∧ es[k].1 ≠ es[k].2) ∧ es[k] ∉ es.take k := by
  have hd : es.getD k (0, 0) = es[k] := by rw [List.getD_eq_getElem?_getD, List.getElem?_eq_getElem hk]; rfl
  unfold oddE thereB
  rw [hd]
  simp only [Bool.or_eq_false_iff, Bool.not_eq_false', Bool.and_eq_true, decide_eq_true_eq, decide_eq_false_iff_not, List.contains_eq_mem]
  constructor
  · rintro ⟨h1, h2, h3, h4⟩; exact ⟨⟨h1, h2, h3⟩, h4⟩
  · rintro ⟨⟨h1, h2, h3⟩, h4⟩; exact ⟨h1, h2, h3, h4⟩
theorem oddEs_all {n : Nat} {es : List (Int × Int)} (h : oddEs n es = false) : ∀ k (hk : k < es.length), ((0 ≤ es[k].1 ∧ es[k].1 < n) ∧ (0 ≤ es[k].2 ∧ es[k].2 < n) ∧ es[k].1 ≠ es[k].2) ∧ es[k] ∉ es.take k := by
  intro k hk
  unfold oddEs at h
  rw [List.any_eq_false] at h
  exact (oddE_spec hk).1 (by simpa using h k (by simpa using hk))
theorem nodup_take {α : Type} {es : List α} (h : ∀ k (hk : k < es.length), es[k] ∉ es.take k) : es.Nodup := by
  rw [List.nodup_iff_pairwise_ne, List.pairwise_iff_getElem]
  intro i j hi hj hij e
  refine h j hj ?_
  rw [← e]
  exact List.mem_take_iff_getElem.2 ⟨i, by omega, rfl⟩
theorem take_nodup {α : Type} {es : List α} (h : es.Nodup) : ∀ k (hk : k < es.length), es[k] ∉ es.take k := by
  intro k hk hm
  obtain ⟨i, hi, e⟩ := List.mem_take_iff_getElem.1 hm
  rw [List.nodup_iff_pairwise_ne, List.pairwise_iff_getElem] at h
  exact h i k (by omega) hk (by omega) e
theorem oddEs_sub {n : Nat} {es es' : List (Int × Int)} (h : oddEs n es = false) (hs : List.Sublist es' es) : oddEs n es' = false := by
  have ha := oddEs_all h
  have hn : es'.Nodup := (nodup_take fun k hk => (ha k hk).2).sublist hs
  refine oddEs_no fun j hj => (oddE_spec hj).2 ⟨?_, take_nodup hn j hj⟩
  obtain ⟨k, hk, e⟩ := List.getElem_of_mem (hs.subset (List.getElem_mem hj))
  rw [← e]
  exact (ha k hk).1
theorem check_sub {l : List Int} {es es' : List (Int × Int)} (hz : checkL l es = 0) (hs : List.Sublist es' es) : checkL l es' = 0 := by
  obtain ⟨y1, y2, y3, y4, y5⟩ := ordL_yes hz
  have ho := oddEs_sub y3 hs
  have hl := hs.length_le
  unfold checkL
  rw [if_neg (by omega), if_neg (by rw [y4]; simp), if_neg (by rw [ho]; simp)]
  by_cases hc : (orderL l.length es').isSome = true
  · rw [if_pos hc]
  · exfalso
    obtain ⟨v, hv⟩ := order_none (oddEs_in ho) (by simpa using hc)
    exact no_round hz v (hv.mono fun e he => hs.subset he)
def lessE (es : List (Int × Int)) (at_ : Nat) : List (Int × Int) := es.take at_ ++ es.drop (at_ + 1)
theorem lessE_sub (es : List (Int × Int)) (k : Nat) : List.Sublist (lessE es k) es := by
  unfold lessE
  rw [← List.eraseIdx_eq_take_drop_succ]
  exact List.eraseIdx_sublist _ _
theorem lessE_len (es : List (Int × Int)) (k : Nat) (h : k < es.length) : (lessE es k).length = es.length - 1 := by unfold lessE; simp; omega
theorem less_check {l : List Int} {es : List (Int × Int)} (hz : checkL l es = 0) (k : Nat) : checkL l (lessE es k) = 0 := check_sub hz (lessE_sub es k)
theorem less_long {l : List Int} {es : List (Int × Int)} (hz : checkL l es = 0) (k : Nat) : longL l (lessE es k) ≤ longL l es := long_mono (less_check hz k) hz fun e he => (lessE_sub es k).subset he
theorem less_total {l : List Int} {es : List (Int × Int)} (hz : checkL l es = 0) (k : Nat) : totL l (lessE es k) = totL l es := by unfold totL; rw [if_pos hz, if_pos (less_check hz k)]
theorem less_ne {es : List (Int × Int)} {k : Nat} (h : k < es.length) : lessE es k ≠ es := fun e => by
  have := lessE_len es k h
  rw [e] at this
  omega
end Go.Proofs.Ytjkindoedkjnbaa
