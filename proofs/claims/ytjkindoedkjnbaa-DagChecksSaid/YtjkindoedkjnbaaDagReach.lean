/- All nodes to which a way leads, by rounds over the edges. Plain Lean. -/
import Derived.Test.YtjkindoedkjnbaaDagCycle
set_option linter.unusedVariables false
set_option linter.unusedSimpArgs false
namespace Go.Proofs.Ytjkindoedkjnbaa
open DagPlain

def stepR (a : Int) (out : List Bool) (e : Int × Int) : List Bool := if e.1 = a ∨ out.getD e.1.toNat false = true then out.set e.2.toNat true else out
def roundL (a : Int) (es : List (Int × Int)) (out : List Bool) : List Bool := es.foldl (stepR a) out
def rounds (a : Int) (es : List (Int × Int)) : Nat → List Bool → List Bool
  | 0, out => out
  | d + 1, out => rounds a es d (roundL a es out)
def reachL (n : Nat) (es : List (Int × Int)) (a : Int) : List Bool := rounds a es n (List.replicate n false)
theorem getB_set (F : List Bool) (i j : Nat) (x : Bool) : (F.set i x).getD j false = if i = j ∧ i < F.length then x else F.getD j false := by
  rw [List.getD_eq_getElem?_getD, List.getD_eq_getElem?_getD, List.getElem?_set]
  by_cases h : i = j
  · subst h
    by_cases h2 : i < F.length
    · simp [h2]
    · simp [h2]
  · simp [h]
theorem stepR_len (a : Int) (out : List Bool) (e : Int × Int) : (stepR a out e).length = out.length := by unfold stepR; split <;> simp
theorem stepR_mono (a : Int) (out : List Bool) (e : Int × Int) (v : Nat) (h : out.getD v false = true) : (stepR a out e).getD v false = true := by
  unfold stepR
  split
  · rw [getB_set]; split
    · rfl
    · exact h
  · exact h
theorem fold_mono (a : Int) (v : Nat) : ∀ (es : List (Int × Int)) (out : List Bool), out.getD v false = true → (es.foldl (stepR a) out).getD v false = true
  | [], out, h => h
  | e :: es, out, h => fold_mono a v es _ (stepR_mono a out e v h)
theorem foldR_len (a : Int) : ∀ (es : List (Int × Int)) (out : List Bool), (es.foldl (stepR a) out).length = out.length
  | [], out => rfl
  | e :: es, out => by rw [List.foldl_cons, foldR_len a es, stepR_len]
theorem fold_edge (a : Int) (n : Nat) : ∀ (es : List (Int × Int)) (out : List Bool), out.length = n → (∀ e ∈ es, 0 ≤ e.2 ∧ e.2 < n) → ∀ e ∈ es, (e.1 = a ∨ out.getD e.1.toNat false = true) → (es.foldl (stepR a) out).getD e.2.toNat false = true
  | [], out, _, _, e, he, _ => by simp at he
  | e0 :: es, out, hl, hin, e, he, h => by
    rw [List.foldl_cons]
    rcases List.mem_cons.1 he with rfl | he
    · refine fold_mono a _ es _ ?_
      unfold stepR
      have := hin e (by simp)
      rw [if_pos h, getB_set, if_pos ⟨rfl, by omega⟩]
    · refine fold_edge a n es _ (by rw [stepR_len]; exact hl) (fun e he => hin e (List.mem_cons_of_mem _ he)) e he ?_
      rcases h with h | h
      · exact .inl h
      · exact .inr (stepR_mono a out e0 _ h)
theorem fold_sound (a : Int) (es0 : List (Int × Int)) (n : Nat) : ∀ (es : List (Int × Int)) (out : List Bool), (∀ e ∈ es, e ∈ es0) → (∀ e ∈ es, (0 ≤ e.1 ∧ e.1 < n) ∧ 0 ≤ e.2 ∧ e.2 < n) → (∀ v : Nat, out.getD v false = true → Path es0 a (v : Int)) → ∀ v : Nat, (es.foldl (stepR a) out).getD v false = true → Path es0 a (v : Int)
  | [], out, _, _, h, v, hv => h v hv
  | e :: es, out, hs, hin, h, v, hv => by
    rw [List.foldl_cons] at hv
    refine fold_sound a es0 n es _ (fun e he => hs e (List.mem_cons_of_mem _ he)) (fun e he => hin e (List.mem_cons_of_mem _ he)) (fun u hu => ?_) v hv
    unfold stepR at hu
    split at hu
    · rename_i hc
      rw [getB_set] at hu
      split at hu
      · rename_i hh
        have hb := hin e (by simp)
        have he := hs e (by simp)
        have hu2 : (u : Int) = e.2 := by omega
        rw [hu2]
        rcases hc with hc | hc
        · exact .edge (by rw [← hc]; exact he)
        · have := h _ hc
          rw [show ((e.1.toNat : Nat) : Int) = e.1 by omega] at this
          exact .step this he
      · exact h u hu
    · exact h u hu
theorem cnt_lt : ∀ (x y : List Bool), x.length = y.length → (∀ i, x.getD i false = true → y.getD i false = true) → x = y ∨ x.count true < y.count true
  | [], [], _, _ => .inl rfl
  | [], _ :: _, h, _ => by simp at h
  | _ :: _, [], h, _ => by simp at h
  | a :: x, b :: y, h, hm => by
    have ih := cnt_lt x y (by simpa using h) (fun i hi => by have := hm (i + 1) (by simpa using hi); simpa using this)
    have h0 := hm 0
    rw [List.count_cons, List.count_cons]
    cases a <;> cases b
    · rcases ih with ih | ih
      · exact .inl (by rw [ih])
      · exact .inr (by simpa using ih)
    · refine .inr ?_
      rcases ih with ih | ih
      · rw [ih]; simp
      · simp; omega
    · simp at h0
    · rcases ih with ih | ih
      · exact .inl (by rw [ih])
      · exact .inr (by simpa using ih)
theorem round_or (a : Int) (es : List (Int × Int)) (out : List Bool) : roundL a es out = out ∨ out.count true < (roundL a es out).count true := by
  rcases cnt_lt out (roundL a es out) (foldR_len a es out).symm (fun i h => fold_mono a i es out h) with h | h
  · exact .inl h.symm
  · exact .inr h
theorem rounds_fix (a : Int) (es : List (Int × Int)) (out : List Bool) (h : roundL a es out = out) : ∀ d, rounds a es d out = out
  | 0 => rfl
  | d + 1 => by unfold rounds; rw [h]; exact rounds_fix a es out h d
theorem rounds_len (a : Int) (es : List (Int × Int)) : ∀ (d : Nat) (out : List Bool), (rounds a es d out).length = out.length
  | 0, out => rfl
  | d + 1, out => by unfold rounds; rw [rounds_len a es d]; exact foldR_len a es out
theorem rounds_or (a : Int) (es : List (Int × Int)) : ∀ (d : Nat) (out : List Bool), roundL a es (rounds a es d out) = rounds a es d out ∨ out.count true + d ≤ (rounds a es d out).count true
  | 0, out => .inr (Nat.le_refl _)
  | d + 1, out => by
    rcases round_or a es out with h | h
    · refine .inl ?_
      rw [rounds_fix a es out h (d + 1)]
      exact h
    · have e : rounds a es (d + 1) out = rounds a es d (roundL a es out) := rfl
      rw [e]
      rcases rounds_or a es d (roundL a es out) with h2 | h2
      · exact .inl h2
      · exact .inr (by omega)
theorem reach_closed (n : Nat) (es : List (Int × Int)) (a : Int) : roundL a es (reachL n es a) = reachL n es a := by
  rcases rounds_or a es n (List.replicate n false) with h | h
  · exact h
  · rcases round_or a es (reachL n es a) with h2 | h2
    · exact h2
    · have hl : (roundL a es (reachL n es a)).length = n := by unfold roundL reachL; rw [foldR_len, rounds_len]; simp
      have := List.count_le_length (a := true) (l := roundL a es (reachL n es a))
      unfold reachL at h2 hl this
      omega
theorem rounds_sound (n : Nat) (es : List (Int × Int)) (a : Int) (hin : ∀ e ∈ es, (0 ≤ e.1 ∧ e.1 < n) ∧ 0 ≤ e.2 ∧ e.2 < n) : ∀ (d : Nat) (out : List Bool), (∀ v : Nat, out.getD v false = true → Path es a (v : Int)) → ∀ v : Nat, (rounds a es d out).getD v false = true → Path es a (v : Int)
  | 0, out, h, v, hv => h v hv
  | d + 1, out, h, v, hv => rounds_sound n es a hin d (roundL a es out) (fun u hu => fold_sound a es n es out (fun _ h => h) hin h u hu) v hv
theorem reach_iff {n : Nat} {es : List (Int × Int)} {a : Int} (hin : ∀ e ∈ es, (0 ≤ e.1 ∧ e.1 < n) ∧ 0 ≤ e.2 ∧ e.2 < n) (v : Int) (hv : 0 ≤ v) : (reachL n es a).getD v.toNat false = true ↔ Path es a v := by
  constructor
  · intro h
    have := rounds_sound n es a hin n (List.replicate n false) (fun u hu => by
      rw [List.getD_eq_getElem?_getD, List.getElem?_replicate] at hu
      split at hu <;> simp at hu) v.toNat h
    rw [show ((v.toNat : Nat) : Int) = v by omega] at this
    exact this
  · intro h
    have hl : (reachL n es a).length = n := by unfold reachL; rw [rounds_len]; simp
    have hed : ∀ e ∈ es, (e.1 = a ∨ (reachL n es a).getD e.1.toNat false = true) → (reachL n es a).getD e.2.toNat false = true := fun e he h => by
      have := fold_edge a n es (reachL n es a) hl (fun e he => (hin e he).2) e he h
      have hc := reach_closed n es a
      unfold roundL at hc
      rw [hc] at this
      exact this
    clear hv
    induction h with
    | edge he => exact hed _ he (.inl rfl)
    | step _ he ih => exact hed _ he (.inr ih)
end Go.Proofs.Ytjkindoedkjnbaa
