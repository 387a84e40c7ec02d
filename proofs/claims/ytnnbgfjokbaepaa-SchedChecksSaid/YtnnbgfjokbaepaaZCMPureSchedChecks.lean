/- The law SchedChecks comes to true. Plain Lean over the printed functions. -/
import Derived.Test.YtnnbgfjokbaepaaZCNSchC
import Derived.Test.YtnnbgfjokbaepaaZCNSchD
import Derived.Test.YtnnbgfjokbaepaaZCMDagB
import Derived.Test.YtnnbgfjokbaepaaZCPSchedChecksx18
set_option linter.unusedVariables false
set_option linter.unusedSimpArgs false
set_option linter.unusedSectionVars false
namespace Go.Proofs.Ytnnbgfjokbaepaa.PSchedChecks
open Go.RowKit Go.Proofs.YtnnbgfjokbaepaaW.PrintWords Go.Proofs.YtnnbgfjokbaepaaW.PrintLast
open Go.Proofs.Ytnnbgfjokbaepaa DagPlain SchPlain

def pr (x : S45) : Int × Int := (x.f0, x.f1)
theorem wrap_small {x : Int} (h : 0 ≤ x ∧ x ≤ 1000) : wrap64 x = x := by unfold wrap64; omega
theorem rd_at (es : List S45) (x : Nat) (h : x < es.length) : rd_T45 es (x : Int) = es[x] := by unfold rd_T45; simp [List.getD_eq_getElem?_getD, h]
theorem own_f (l : List Int) (es : List S45) (hl : l.length ≤ 1000) (he : es.length ≤ 1000) : trefoillaw04_Own.f l es = some (l, es) := by
  unfold trefoillaw04_Own.f
  simp only [Option.bind_some, List.length_nil, List.nil_append]
  rw [if_pos (by omega), if_pos (by omega)]
theorem few_f (l : List Int) (es : List S45) : trefoillaw04_Few.f l es = some (decide (l.length ≤ 70 ∧ es.length ≤ 300)) := by
  unfold trefoillaw04_Few.f
  split
  · rw [Option.some.injEq]
    exact decide_eq_decide.2 (by omega)
  · rw [Option.some.injEq]
    exact (decide_eq_false (by omega)).symm
theorem node_f (l : List Int) (es : List S45) (a : Int) : trefoilref04_node.f l es a = some (thereB l.length a) := by
  unfold trefoilref04_node.f thereB
  by_cases h : a ≥ 0
  · rw [if_pos h, decide_eq_true (show (0 : Int) ≤ a from h), Bool.true_and]
  · rw [if_neg h, decide_eq_false (show ¬ (0 : Int) ≤ a by omega), Bool.false_and]
theorem pr_take (es : List S45) (x : Nat) (p : Int × Int) : (((es.map pr).take x).contains p) = true ↔ ∃ j, ∃ h : j < es.length, j < x ∧ pr es[j] = p := by
  rw [List.contains_iff_mem, List.mem_iff_getElem]
  constructor
  · rintro ⟨j, hj, e⟩
    have hj1 : j < min x es.length := by simpa using hj
    have hj2 : j < x ∧ j < es.length := by omega
    exact ⟨j, hj2.2, hj2.1, by simpa using e⟩
  · rintro ⟨j, hj, hx, e⟩
    exact ⟨j, by simp; omega, by simpa using e⟩
theorem l2_run (l : List Int) (es : List S45) (f t : Int) (y : Nat) (hy : y ≤ es.length) (he : es.length ≤ 300) : ∀ (m x : Nat), x + m = y → (∀ j, ∀ h : j < es.length, j < x → pr es[j] ≠ (f, t)) → ∀ k, trefoilref04_Plain.l2 (k + m + 1) (y : Int) (x : Int) l es f t = if (((es.map pr).take y).contains (f, t)) = true then some 42 else trefoilref04_Plain.l1 k (wrap64 ((y : Int) + 1)) l es := by
  intro m
  induction m with
  | zero =>
    intro x hx hno k
    rw [show k + 0 + 1 = k + 1 by omega, trefoilref04_Plain.l2, if_neg (by omega), if_neg]
    rw [pr_take]
    rintro ⟨j, h, hj, e⟩
    exact hno j h (by omega) e
  | succ m ihm =>
    intro x hx hno k
    have hxl : x < es.length := by omega
    have e : wrap64 ((x : Int) + 1) = ((x + 1 : Nat) : Int) := by rw [wrap_small (by omega)]; omega
    rw [show k + (m + 1) + 1 = (k + m + 1) + 1 by omega, trefoilref04_Plain.l2, if_pos (by omega), if_pos (by omega), if_pos (by omega), rd_at es x hxl, e]
    by_cases h : pr es[x] = (f, t)
    · have h1 : es[x].f0 = f := congrArg Prod.fst h
      have h2 : es[x].f1 = t := congrArg Prod.snd h
      rw [h1, h2, if_pos (by simp), if_pos ((pr_take es y (f, t)).2 ⟨x, hxl, by omega, h⟩)]
    · rw [if_neg]
      · exact ihm (x + 1) (by omega) (fun j hj hjx => by
          by_cases ej : j = x
          · subst ej; exact h
          · exact hno j hj (by omega)) k
      · intro hc
        rw [Bool.and_eq_true, beq_iff_eq, beq_iff_eq] at hc
        exact h (by unfold pr; rw [hc.1, hc.2])
def FL : Nat → Nat → Nat
  | 0, _ => 1
  | m + 1, x => FL m (x + 1) + x + 3
theorem l1_run (l : List Int) (es : List S45) (he : es.length ≤ 300) : ∀ (m x : Nat), x + m = es.length → (∀ j, j < x → oddE l.length (es.map pr) j = false) → ∀ k, trefoilref04_Plain.l1 (k + FL m x) (x : Int) l es = some (if oddEs l.length (es.map pr) = true then 42 else 0) := by
  intro m
  induction m with
  | zero =>
    intro x hx hno k
    have h := oddEs_no (n := l.length) (es := es.map pr) (fun j hj => hno j (by rw [List.length_map] at hj; omega))
    rw [show k + FL 0 x = k + 1 from rfl, trefoilref04_Plain.l1, if_neg (by omega), h, if_neg (by simp)]
  | succ m ihm =>
    intro x hx hno k
    have hxl : x < es.length := by omega
    have e : wrap64 ((x : Int) + 1) = ((x + 1 : Nat) : Int) := by rw [wrap_small (by omega)]; omega
    have hg : (es.map pr).getD x (0, 0) = pr es[x] := by simp [List.getD_eq_getElem?_getD, hxl]
    have hodd : oddE l.length (es.map pr) x = (!thereB l.length es[x].f0 || (!thereB l.length es[x].f1 || (decide (es[x].f0 = es[x].f1) || ((es.map pr).take x).contains (es[x].f0, es[x].f1)))) := by
      unfold oddE; rw [hg]; rfl
    have h42 : oddE l.length (es.map pr) x = true → (some (if oddEs l.length (es.map pr) = true then (42 : Int) else 0)) = some 42 := fun h => by
      rw [if_pos (oddEs_yes (by rw [List.length_map]; exact hxl) h)]
    rw [show k + FL (m + 1) x = (k + FL m (x + 1) + x + 1 + 1) + 1 by show k + (FL m (x + 1) + x + 3) = _; omega, trefoilref04_Plain.l1, if_pos (by omega), if_pos (by omega), rd_at es x hxl, node_f, Option.bind_some]
    cases h1 : thereB l.length es[x].f0 with
    | false =>
      rw [if_neg (by simp), trefoilref04_Plain.j3, if_pos rfl, h42 (by rw [hodd, h1]; rfl)]
    | true =>
      rw [if_pos rfl, node_f, Option.bind_some]
      cases h2 : thereB l.length es[x].f1 with
      | false => rw [if_neg (by simp), trefoilref04_Plain.j3, if_pos rfl, h42 (by rw [hodd, h1, h2]; rfl)]
      | true =>
        rw [if_pos rfl, trefoilref04_Plain.j3]
        by_cases h3 : es[x].f0 = es[x].f1
        · rw [if_pos (by rw [beq_iff_eq]; exact h3), h42 (by rw [hodd, h1, h2, decide_eq_true h3]; rfl)]
        · rw [if_neg (by rw [beq_iff_eq]; exact h3)]
          have hl2 := l2_run l es es[x].f0 es[x].f1 x (by omega) he x 0 (by omega) (fun j _ hj => absurd hj (by omega)) (k + FL m (x + 1))
          rw [show ((0 : Nat) : Int) = 0 from rfl] at hl2
          rw [hl2]
          cases h4 : ((es.map pr).take x).contains (es[x].f0, es[x].f1) with
          | true => rw [if_pos rfl, h42 (by rw [hodd, h1, h2, decide_eq_false h3, h4]; rfl)]
          | false =>
            rw [if_neg (by simp), e]
            exact ihm (x + 1) (by omega) (fun j hj => by
              by_cases ej : j = x
              · subst ej; rw [hodd, h1, h2, decide_eq_false h3, h4]; rfl
              · exact hno j (by omega)) k
theorem l0_run (l : List Int) (es : List S45) (hl : l.length ≤ 70) : ∀ (m x : Nat), x + m = l.length → (∀ j, j < x → oddW (l.getD j 0) = false) → ∀ k, trefoilref04_Plain.l0 (k + m + 1) (x : Int) l es = if l.any oddW = true then some 41 else trefoilref04_Plain.l1 k 0 l es := by
  intro m
  induction m with
  | zero =>
    intro x hx hno k
    rw [show k + 0 + 1 = k + 1 by omega, trefoilref04_Plain.l0, if_neg (by omega), if_neg]
    rw [List.any_eq_true]
    rintro ⟨w, hw, ho⟩
    obtain ⟨j, hj, rfl⟩ := List.getElem_of_mem hw
    have := hno j (by omega)
    rw [List.getD_eq_getElem?_getD, List.getElem?_eq_getElem hj] at this
    simp only [Option.getD_some] at this
    rw [this] at ho
    cases ho
  | succ m ihm =>
    intro x hx hno k
    have hxl : x < l.length := by omega
    have e : wrap64 ((x : Int) + 1) = ((x + 1 : Nat) : Int) := by rw [wrap_small (by omega)]; omega
    have hr : rd l (x : Int) = l.getD x 0 := by unfold rd; simp
    have hmem : l.getD x 0 ∈ l := getD_mem l x hxl
    have hany : oddW (l.getD x 0) = true → l.any oddW = true := fun h => List.any_eq_true.2 ⟨_, hmem, h⟩
    rw [show k + (m + 1) + 1 = (k + m + 1) + 1 by omega, trefoilref04_Plain.l0, if_pos (by omega), if_pos (by omega), hr, e]
    by_cases h1 : l.getD x 0 < 0
    · rw [if_pos h1, if_pos (hany (by unfold oddW; rw [decide_eq_true h1]; rfl))]
    · rw [if_neg h1]
      by_cases h2 : l.getD x 0 > 1000
      · rw [if_pos h2, if_pos (hany (by unfold oddW; rw [decide_eq_true (show (1000 : Int) < l.getD x 0 from h2)]; simp))]
      · rw [if_neg h2]
        exact ihm (x + 1) (by omega) (fun j hj => by
          by_cases ej : j = x
          · subst ej; unfold oddW; rw [decide_eq_false h1, decide_eq_false (show ¬ (1000 : Int) < l.getD j 0 from h2)]; rfl
          · exact hno j (by omega)) k
def plainL (l : List Int) (es : List (Int × Int)) : Int := if 64 < l.length ∨ 256 < es.length then 40 else if l.any oddW = true then 41 else if oddEs l.length es = true then 42 else 0
theorem plain_f (l : List Int) (es : List S45) (hl : l.length ≤ 70) (he : es.length ≤ 300) : ∃ K, ∀ k, trefoilref04_Plain.f (k + K) l es = some (plainL l (es.map pr)) := by
  refine ⟨(FL es.length 0 + l.length + 1) + 1, fun k => ?_⟩
  rw [show k + ((FL es.length 0 + l.length + 1) + 1) = (k + FL es.length 0 + l.length + 1) + 1 by omega]
  unfold trefoilref04_Plain.f plainL
  by_cases h1 : (l.length : Int) > 64
  · rw [if_pos h1, trefoilref04_Plain.j0, if_pos rfl, if_pos (by omega)]
  · rw [if_neg h1]
    by_cases h2 : (es.length : Int) > 256
    · rw [decide_eq_true h2, trefoilref04_Plain.j0, if_pos rfl, if_pos (by rw [List.length_map]; omega)]
    · rw [decide_eq_false h2, trefoilref04_Plain.j0, if_neg (by simp), if_neg (by rw [List.length_map]; omega)]
      have h0 := l0_run l es hl l.length 0 (by omega) (fun j hj => absurd hj (by omega)) (k + FL es.length 0)
      rw [show ((0 : Nat) : Int) = 0 from rfl] at h0
      rw [h0]
      by_cases h3 : l.any oddW = true
      · rw [if_pos h3, if_pos h3]
      · rw [if_neg h3, if_neg h3]
        have h4 := l1_run l es he es.length 0 (by omega) (fun j hj => absurd hj (by omega)) k
        exact h4
theorem rdB (out : List Bool) (v : Int) : rdOf false out v = out.getD v.toNat false := rfl
theorem rl1_run (l : List Int) (es : List S45) (a i : Int) (he : es.length ≤ 300) (n : Nat) (hin : ∀ e ∈ es.map pr, (0 ≤ e.1 ∧ e.1 < n) ∧ 0 ≤ e.2 ∧ e.2 < n) : ∀ (m x : Nat) (out : List Bool), x + m = es.length → out.length = n → ∀ k, trefoilref04_Reach.l1 (k + m + 1) a out i (x : Int) l es = trefoilref04_Reach.l0 k a (((es.map pr).drop x).foldl (stepR a) out) (wrap64 (i + 1)) l es := by
  intro m
  induction m with
  | zero =>
    intro x out hx ho k
    rw [show k + 0 + 1 = k + 1 by omega, trefoilref04_Reach.l1, if_neg (by omega), List.drop_of_length_le (by rw [List.length_map]; omega)]
    rfl
  | succ m ihm =>
    intro x out hx ho k
    have hxl : x < es.length := by omega
    have e : wrap64 ((x : Int) + 1) = ((x + 1 : Nat) : Int) := by rw [wrap_small (by omega)]; omega
    have hmem : pr es[x] ∈ es.map pr := List.mem_map.2 ⟨_, List.getElem_mem hxl, rfl⟩
    have hft := hin _ hmem
    have hf : 0 ≤ es[x].f0 ∧ es[x].f0 < n := hft.1
    have ht : 0 ≤ es[x].f1 ∧ es[x].f1 < n := hft.2
    have hd : (es.map pr).drop x = pr es[x] :: (es.map pr).drop (x + 1) := by
      rw [List.drop_eq_getElem_cons (by rw [List.length_map]; exact hxl)]; simp
    have ih := fun out' ho' => ihm (x + 1) out' (by omega) ho' k
    rw [show k + (m + 1) + 1 = (k + m + 1) + 1 by omega, trefoilref04_Reach.l1, if_pos (by omega), if_pos (by omega), rd_at es x hxl, hd, List.foldl_cons, e]
    have hset : (out.set es[x].f1.toNat true).length = n := by rw [List.length_set]; exact ho
    by_cases h1 : es[x].f0 = a
    · rw [if_pos h1, if_pos ht.1, if_pos (by rw [ho]; exact ht.2), ih _ hset]
      have hs : stepR a out (pr es[x]) = out.set es[x].f1.toNat true := by unfold stepR; rw [if_pos (.inl h1)]; rfl
      rw [hs]
    · rw [if_neg h1, if_pos hf.1, if_pos (by rw [ho]; exact hf.2), rdB]
      by_cases h2 : out.getD es[x].f0.toNat false = true
      · rw [if_pos h2, if_pos ht.1, if_pos (by rw [ho]; exact ht.2), ih _ hset]
        have hs : stepR a out (pr es[x]) = out.set es[x].f1.toNat true := by unfold stepR; rw [if_pos (.inr h2)]; rfl
        rw [hs]
      · rw [if_neg h2, ih _ ho]
        have hs : stepR a out (pr es[x]) = out := by
          unfold stepR
          rw [if_neg]
          rintro (h | h)
          · exact h1 h
          · exact h2 h
        rw [hs]
def RF (m : Nat) : Nat → Nat
  | 0 => 1
  | d + 1 => RF m d + m + 1 + 1
theorem rl0_run (l : List Int) (es : List S45) (a : Int) (hl : l.length ≤ 70) (he : es.length ≤ 300) (hin : ∀ e ∈ es.map pr, (0 ≤ e.1 ∧ e.1 < l.length) ∧ 0 ≤ e.2 ∧ e.2 < l.length) : ∀ (d x : Nat) (out : List Bool), x + d = l.length → out.length = l.length → ∀ k, trefoilref04_Reach.l0 (k + RF es.length d) a out (x : Int) l es = some (rounds a (es.map pr) d out) := by
  intro d
  induction d with
  | zero =>
    intro x out hx ho k
    rw [show k + RF es.length 0 = k + 1 from rfl, trefoilref04_Reach.l0, if_neg (by omega)]
    rfl
  | succ d ihd =>
    intro x out hx ho k
    have e : wrap64 ((x : Int) + 1) = ((x + 1 : Nat) : Int) := by rw [wrap_small (by omega)]; omega
    have h1 := rl1_run l es a (x : Int) he l.length hin es.length 0 out (by omega) ho (k + RF es.length d)
    rw [show ((0 : Nat) : Int) = 0 from rfl, List.drop_zero, e] at h1
    rw [show k + RF es.length (d + 1) = (k + RF es.length d + es.length + 1) + 1 by show k + (RF es.length d + es.length + 1 + 1) = _; omega, trefoilref04_Reach.l0, if_pos (by omega), h1]
    exact ihd (x + 1) _ (by omega) (by rw [foldR_len]; exact ho) k
theorem reach_f (l : List Int) (es : List S45) (a : Int) (hl : l.length ≤ 70) (he : es.length ≤ 300) (hin : ∀ e ∈ es.map pr, (0 ≤ e.1 ∧ e.1 < l.length) ∧ 0 ≤ e.2 ∧ e.2 < l.length) (k : Nat) : trefoilref04_Reach.f (k + RF es.length l.length) l es a = some (reachL l.length (es.map pr) a) := by
  unfold trefoilref04_Reach.f
  have h := rl0_run l es a hl he hin l.length 0 (List.replicate l.length false) (by omega) (by simp) k
  rw [if_pos (by omega), if_pos (by omega)]
  exact h
theorem cl0_run (l : List Int) (es : List S45) (hl : l.length ≤ 70) (he : es.length ≤ 300) (hin : ∀ e ∈ es.map pr, (0 ≤ e.1 ∧ e.1 < l.length) ∧ 0 ≤ e.2 ∧ e.2 < l.length) (z : Int)
    (h43 : ∀ v : Nat, v < l.length → Path (es.map pr) (v : Int) (v : Int) → z = 43) (h0 : (∀ v : Nat, v < l.length → ¬ Path (es.map pr) (v : Int) (v : Int)) → z = 0) :
    ∀ (m x : Nat), x + m = l.length → (∀ j : Nat, j < x → ¬ Path (es.map pr) (j : Int) (j : Int)) → ∀ k, trefoilref04_Check.l0 (k + RF es.length l.length + m + 1) (x : Int) l es = some z := by
  intro m
  induction m with
  | zero =>
    intro x hx hno k
    rw [show k + RF es.length l.length + 0 + 1 = (k + RF es.length l.length) + 1 by omega, trefoilref04_Check.l0, if_neg (by omega), h0 (fun v hv => hno v (by omega))]
  | succ m ihm =>
    intro x hx hno k
    have hxl : x < l.length := by omega
    have e : wrap64 ((x : Int) + 1) = ((x + 1 : Nat) : Int) := by rw [wrap_small (by omega)]; omega
    have hlen : (reachL l.length (es.map pr) (x : Int)).length = l.length := by unfold reachL; rw [rounds_len]; simp
    have hr := reach_f l es (x : Int) hl he hin (k + m + 1)
    rw [show k + m + 1 + RF es.length l.length = k + RF es.length l.length + m + 1 by omega] at hr
    rw [show k + RF es.length l.length + (m + 1) + 1 = (k + RF es.length l.length + m + 1) + 1 by omega, trefoilref04_Check.l0, if_pos (by omega), hr, Option.bind_some, if_pos (by omega), if_pos (by rw [hlen]; omega), rdB, e]
    have hiff := reach_iff hin (a := (x : Int)) (x : Int) (by omega)
    by_cases hp : Path (es.map pr) (x : Int) (x : Int)
    · rw [if_pos (hiff.2 hp), h43 x hxl hp]
    · rw [if_neg (fun h => hp (hiff.1 h))]
      exact ihm (x + 1) (by omega) (fun j hj => by
        by_cases ej : j = x
        · subst ej; exact hp
        · exact hno j (by omega)) k
theorem path_range {es : List (Int × Int)} {n : Nat} (hin : ∀ e ∈ es, (0 ≤ e.1 ∧ e.1 < n) ∧ 0 ≤ e.2 ∧ e.2 < n) {a b : Int} (h : Path es a b) : 0 ≤ b ∧ b < n := by
  obtain ⟨p, he, _⟩ := h.last
  exact (hin _ he).2
theorem refcheck_f (l : List Int) (es : List S45) (hl : l.length ≤ 70) (he : es.length ≤ 300) : ∃ K, ∀ k, trefoilref04_Check.f (k + K) l es = some (checkL l (es.map pr)) := by
  obtain ⟨K, hK⟩ := plain_f l es hl he
  refine ⟨K + RF es.length l.length + l.length + 1, fun k => ?_⟩
  have h1 := hK (k + RF es.length l.length + l.length + 1)
  rw [show k + RF es.length l.length + l.length + 1 + K = k + (K + RF es.length l.length + l.length + 1) by omega] at h1
  unfold trefoilref04_Check.f
  rw [h1, Option.bind_some]
  unfold plainL
  by_cases g1 : 64 < l.length ∨ 256 < (es.map pr).length
  · rw [if_pos g1, if_neg (by decide)]; unfold checkL; rw [if_pos g1]
  · rw [if_neg g1]
    by_cases g2 : l.any oddW = true
    · rw [if_pos g2, if_neg (by decide)]; unfold checkL; rw [if_neg g1, if_pos g2]
    · rw [if_neg g2]
      by_cases g3 : oddEs l.length (es.map pr) = true
      · rw [if_pos g3, if_neg (by decide)]; unfold checkL; rw [if_neg g1, if_neg g2, if_pos g3]
      · rw [if_neg g3, if_pos rfl]
        have hin := oddEs_in (n := l.length) (es := es.map pr) (by simpa using g3)
        have hc : checkL l (es.map pr) = if (orderL l.length (es.map pr)).isSome = true then 0 else 43 := by unfold checkL; rw [if_neg g1, if_neg g2, if_neg g3]
        have hrun := cl0_run l es hl he hin (checkL l (es.map pr)) (fun v hv hp => by
          by_cases hs : (orderL l.length (es.map pr)).isSome = true
          · exact absurd hp (no_round (by rw [hc, if_pos hs]) _)
          · rw [hc, if_neg hs]) (fun hno => by
          by_cases hs : (orderL l.length (es.map pr)).isSome = true
          · rw [hc, if_pos hs]
          · obtain ⟨v, hv⟩ := order_none hin (by simpa using hs)
            have hb := path_range hin hv
            exact absurd (show Path (es.map pr) ((v.toNat : Nat) : Int) ((v.toNat : Nat) : Int) by rw [show ((v.toNat : Nat) : Int) = v by omega]; exact hv) (hno v.toNat (by omega))) l.length 0 (by omega) (fun j hj => absurd hj (by omega)) (k + K)
        rw [show k + (K + RF es.length l.length + l.length + 1) = k + K + RF es.length l.length + l.length + 1 by omega]
        exact hrun
theorem oddN_t {v : Int} (h : v < 1 ∨ 1000 < v) : oddN v = true := by
  unfold oddN
  rcases h with h | h
  · rw [decide_eq_true h]; rfl
  · rw [decide_eq_true h]; simp
theorem oddN_f {v : Int} (h : 1 ≤ v ∧ v ≤ 1000) : oddN v = false := by
  unfold oddN
  rw [decide_eq_false (by omega), decide_eq_false (by omega)]; rfl
theorem form_run (l : List Int) (es : List S45) (need : List Int) (c : Int) (hn : need.length ≤ 70) : ∀ (m x : Nat), x + m = need.length → (∀ j, j < x → oddN (need.getD j 0) = false) → ∀ k, trefoilref10_Form.l0 (k + m + 1) need c (x : Int) l es = some (rightB l need c) := by
  intro m
  induction m with
  | zero =>
    intro x hx hj k
    have ha : need.any oddN = false := by
      rw [List.any_eq_false]
      intro y hy
      obtain ⟨j, hj2, rfl⟩ := List.mem_iff_getElem.1 hy
      have := hj j (by omega)
      rw [List.getD_eq_getElem?_getD, List.getElem?_eq_getElem hj2] at this
      simpa using this
    rw [show k + 0 + 1 = k + 1 by omega, trefoilref10_Form.l0, if_neg (by omega)]
    unfold rightB
    rw [ha]
    by_cases h1 : need.length = l.length
    · by_cases h2 : c ≥ 1
      · rw [if_pos (by omega), if_pos h2, decide_eq_true h1, decide_eq_true (show (1 : Int) ≤ c from h2)]; rfl
      · rw [if_pos (by omega), if_neg h2, decide_eq_false (show ¬ (1 : Int) ≤ c by omega)]; simp
    · rw [if_neg (by omega), decide_eq_false h1]; rfl
  | succ m ih =>
    intro x hx hj k
    have hxl : x < need.length := by omega
    have e : wrap64 ((x : Int) + 1) = ((x + 1 : Nat) : Int) := by rw [wrap_small (by omega)]; omega
    have hr : rd need (x : Int) = need.getD x 0 := by unfold rd; simp
    have hodd : oddN (need.getD x 0) = true → rightB l need c = false := by
      intro h
      have : need.any oddN = true := List.any_eq_true.2 ⟨need.getD x 0, by rw [List.getD_eq_getElem?_getD, List.getElem?_eq_getElem hxl]; exact List.getElem_mem hxl, h⟩
      unfold rightB; rw [this]; simp
    rw [show k + (m + 1) + 1 = (k + m + 1) + 1 by omega, trefoilref10_Form.l0, if_pos (by omega), if_pos (by omega), hr]
    by_cases h1 : need.getD x 0 < 1
    · rw [if_pos h1, hodd (oddN_t (by omega))]
    · by_cases h2 : need.getD x 0 > 1000
      · rw [if_neg h1, if_pos h2, hodd (oddN_t (by omega))]
      · rw [if_neg h1, if_neg h2, e]
        refine ih (x + 1) (by omega) (fun j hj2 => ?_) k
        by_cases h3 : j = x
        · subst h3; exact oddN_f (by omega)
        · exact hj j (by omega)
theorem ev_of {α : Type} {g : Nat → Option α} {r : α} {K : Nat} (h : ∀ k, g (k + K) = some r) : Ev g r := ⟨K, fun k hk => by
  have := h (k - K)
  rw [show k - K + K = k by omega] at this
  exact this⟩
theorem ev_add {α : Type} {g : Nat → Option α} {r : α} (h : ∃ K, ∀ k, g (k + K) = some r) : Ev g r := by
  obtain ⟨K, h⟩ := h
  exact ev_of h
theorem refcheck_ev (l : List Int) (es : List S45) (hl : l.length ≤ 70) (he : es.length ≤ 300) : Ev (fun k => trefoilref04_Check.f k l es) (checkL l (es.map pr)) := ev_add (refcheck_f l es hl he)
theorem form_ev (l : List Int) (es : List S45) (need : List Int) (c : Int) (hn : need.length ≤ 70) : Ev (fun k => trefoilref10_Form.f k l es need c) (rightB l need c) :=
  ev_of (K := need.length + 1) (fun k => form_run l es need c hn need.length 0 (by omega) (fun j hj => absurd hj (by omega)) k)
theorem right_c {l need : List Int} {c : Int} (h : rightB l need c = true) : (1 ≤ c ∧ c ≤ 8) ∧ ∀ x ∈ need, 0 ≤ x ∧ x ≤ 1000 := by
  unfold rightB at h
  simp only [Bool.and_eq_true, decide_eq_true_eq, Bool.not_eq_true', List.any_eq_false] at h
  refine ⟨⟨h.1.2, h.2⟩, fun x hx => ?_⟩
  have := h.1.1.2 x hx
  unfold oddN at this
  simp at this
  omega
theorem right_pos {l need : List Int} {c : Int} (h : rightB l need c = true) : ∀ x ∈ need, 1 ≤ x := by
  unfold rightB at h
  simp only [Bool.and_eq_true, decide_eq_true_eq, Bool.not_eq_true', List.any_eq_false] at h
  intro x hx
  have := h.1.1.2 x hx
  unfold oddN at this
  simp at this
  omega
theorem wrap_up {x : Nat} (h : x ≤ 1000000) : wrap64 ((x : Int) + 1) = ((x + 1 : Nat) : Int) := by unfold wrap64; omega
def fewB (need : List Int) (ts : List (List Int)) : Bool := (ts.take 121).all (fun r => decide (r.length ≤ 12)) && decide (need.length ≤ 70) && decide (ts.length ≤ 120)
theorem few_in {need : List Int} {ts : List (List Int)} (h : fewB need ts = true) : need.length ≤ 70 ∧ ts.length ≤ 120 ∧ ∀ r ∈ ts, r.length ≤ 12 := by
  unfold fewB at h
  simp only [Bool.and_eq_true, decide_eq_true_eq, List.all_eq_true] at h
  refine ⟨h.1.2, h.2, fun r hr => ?_⟩
  have := h.1.1 r (by rw [List.take_of_length_le (by omega)]; exact hr)
  exact this
theorem few_run (need : List Int) (ts : List (List Int)) : ∀ (m x : Nat), x + m = min ts.length 121 → ∀ k, trefoilref10_Few.l0 (k + (2 * m + 2)) need ts (x : Int) = some (((ts.take 121).drop x).all (fun r => decide (r.length ≤ 12)) && decide (need.length ≤ 70) && decide (ts.length ≤ 120))
  | 0, x, h, k => by
    have hd : (ts.take 121).drop x = [] := List.drop_eq_nil_of_le (by rw [List.length_take]; omega)
    have hj : trefoilref10_Few.j1 (k + 1) need ts (x : Int) false = some (decide (need.length ≤ 70) && decide (ts.length ≤ 120)) := by
      rw [trefoilref10_Few.j1, if_neg (by simp)]
      by_cases h70 : need.length ≤ 70
      · rw [if_pos (by omega), decide_eq_true h70, Bool.true_and, show decide ((ts.length : Int) ≤ 120) = decide (ts.length ≤ 120) from decide_eq_decide.2 (by omega)]
      · rw [if_neg (by omega), decide_eq_false h70]; rfl
    rw [hd, show k + (2 * 0 + 2) = (k + 1) + 1 by omega, trefoilref10_Few.l0]
    by_cases hx : (x : Int) < ts.length
    · rw [if_pos hx, decide_eq_false (by omega), hj]; simp
    · rw [if_neg hx, hj]; simp
  | m + 1, x, h, k => by
    have hx : x < ts.length := by omega
    have hx2 : x < (ts.take 121).length := by rw [List.length_take]; omega
    have e : rd_L2 ts (x : Int) = ts.getD x [] := rfl
    have hd : (ts.take 121).drop x = ts.getD x [] :: (ts.take 121).drop (x + 1) := by
      rw [List.drop_eq_getElem_cons hx2, List.getElem_take, List.getD_eq_getElem?_getD, List.getElem?_eq_getElem hx]; rfl
    rw [show k + (2 * (m + 1) + 2) = (k + (2 * m + 2)) + 1 + 1 by omega, trefoilref10_Few.l0, if_pos (by omega), decide_eq_true (by omega), trefoilref10_Few.j1, if_pos rfl, if_pos (by omega), if_pos (by omega), e, hd, List.all_cons]
    by_cases h12 : (ts.getD x []).length ≤ 12
    · rw [if_neg (by omega), wrap_up (by omega), few_run need ts m (x + 1) (by omega) k, decide_eq_true h12, Bool.true_and]
    · rw [if_pos (by omega), decide_eq_false h12]; simp
theorem few10_ev (need : List Int) (ts : List (List Int)) : Ev (fun k => trefoilref10_Few.f k need ts) (fewB need ts) :=
  ev_of (K := 2 * min ts.length 121 + 2) (fun k => few_run need ts _ 0 (by omega) k)
theorem own_run (ts : List (List Int)) (hm : ts.length ≤ 5000) (hr : ∀ r ∈ ts, r.length ≤ 100000) : ∀ (m x : Nat), x + m = ts.length → ∀ k, trefoillaw10_Own.l0 (k + (m + 1)) ts (ts.take x) (x : Int) = some ts
  | 0, x, h, k => by
    rw [show k + (0 + 1) = k + 1 by omega, trefoillaw10_Own.l0, if_neg (by omega), List.take_of_length_le (by omega)]
  | m + 1, x, h, k => by
    have hx : x < ts.length := by omega
    have hl := hr _ (mem_getDL hx)
    have e : rd_L2 ts (x : Int) = ts.getD x [] := rfl
    have hn : ts.take (x + 1) = ts.take x ++ [ts.getD x []] := by rw [List.take_add_one, List.getD_eq_getElem?_getD, List.getElem?_eq_getElem hx]; rfl
    rw [show k + (m + 1 + 1) = (k + (m + 1)) + 1 by omega, trefoillaw10_Own.l0, if_pos (by omega), Option.bind_some, if_pos (by omega), e, List.nil_append, if_pos (by rw [List.length_nil]; omega), if_pos (by rw [List.length_take]; omega), wrap_up (by omega), ← hn]
    exact own_run ts hm hr m (x + 1) (by omega) k
theorem ownT_ev (ts : List (List Int)) (hm : ts.length ≤ 5000) (hr : ∀ r ∈ ts, r.length ≤ 100000) : Ev (fun k => trefoillaw10_Own.f k ts) ts :=
  ev_of (K := ts.length + 1) (fun k => own_run ts hm hr ts.length 0 (by omega) k)
theorem ints_f (l : List Int) (hl : l.length ≤ 1000) : trefoillaw10_ints.f l = some l := by
  unfold trefoillaw10_ints.f
  simp only [Option.bind_some, List.length_nil, List.nil_append]
  rw [if_pos (by omega)]
theorem awake_f : trefoillaw10_awake.f = some true := rfl
theorem rd_nat (l : List Int) (z : Nat) (h : z < l.length) : rd l (z : Int) = l[z] := by unfold rd; simp [List.getD_eq_getElem?_getD, h]
theorem ints_ev (a b : List Int) (ha : a.length ≤ 1000) : Ev (fun k => trefoilref02_Ints.f k a b) (decide (a = b)) := by
  unfold trefoilref02_Ints.f
  by_cases hl : a.length = b.length
  · have hl' : (a.length : Int) = (b.length : Int) := by omega
    simp only [if_pos hl']
    have key : ∀ (m x : Nat), x + m = a.length → a.take x = b.take x → Ev (fun k => trefoilref02_Ints.l0 k a b (x : Int)) (decide (a = b)) := by
      intro m
      induction m with
      | zero =>
        intro x hx ht
        have : a = b := by rw [List.take_of_length_le (by omega), List.take_of_length_le (by omega)] at ht; exact ht
        refine Ev.step (f := fun _ => some true) (fun k => by rw [trefoilref02_Ints.l0, if_neg (by omega)]) ?_
        rw [decide_eq_true this]
        exact Ev.now _
      | succ m ih =>
        intro x hx ht
        have r1 : rd a (x : Int) = a[x] := by unfold rd; simp [List.getD_eq_getElem?_getD, show x < a.length by omega]
        have r2 : rd b (x : Int) = b[x] := by unfold rd; simp [List.getD_eq_getElem?_getD, show x < b.length by omega]
        by_cases hc : a[x] = b[x]
        · refine Ev.step (fun k => ?_) (ih (x + 1) (by omega) (by rw [List.take_succ_eq_append_getElem (by omega), List.take_succ_eq_append_getElem (by omega), ht, hc]))
          rw [trefoilref02_Ints.l0, if_pos (by omega), if_pos (by omega), if_pos (by omega), r1, r2, if_pos hc, wrap_up (by omega)]
        · have : a ≠ b := fun e => hc (by subst e; rfl)
          refine Ev.step (f := fun _ => some false) (fun k => by rw [trefoilref02_Ints.l0, if_pos (by omega), if_pos (by omega), if_pos (by omega), r1, r2, if_neg hc]) ?_
          rw [decide_eq_false this]
          exact Ev.now _
    exact key a.length 0 (by omega) rfl
  · have hl' : ¬ (a.length : Int) = (b.length : Int) := by omega
    simp only [if_neg hl']
    rw [decide_eq_false (fun e => hl (by rw [e]))]
    exact Ev.now _
theorem has_ev (a : List Int) (n : Int) (ha : a.length ≤ 1000) : Ev (fun k => trefoilref04_Has.f k a n) (a.contains n) := by
  unfold trefoilref04_Has.f
  have key : ∀ (m x : Nat), x + m = a.length → Ev (fun k => trefoilref04_Has.l0 k a n (x : Int)) ((a.drop x).contains n) := by
    intro m
    induction m with
    | zero =>
      intro x hx
      rw [List.drop_of_length_le (by omega)]
      exact Ev.step (f := fun _ => some false) (fun k => by rw [trefoilref04_Has.l0, if_neg (by omega)]) (Ev.now _)
    | succ m ih =>
      intro x hx
      have r1 : rd a (x : Int) = a[x] := by unfold rd; simp [List.getD_eq_getElem?_getD, show x < a.length by omega]
      rw [List.drop_eq_getElem_cons (by omega), List.contains_cons]
      by_cases hc : a[x] = n
      · rw [hc, beq_self_eq_true, Bool.true_or]
        exact Ev.step (f := fun _ => some true) (fun k => by rw [trefoilref04_Has.l0, if_pos (by omega), if_pos (by omega), r1, if_pos hc]) (Ev.now _)
      · rw [show (n == a[x]) = false by simpa using fun e => hc e.symm, Bool.false_or]
        refine Ev.step (fun k => ?_) (ih (x + 1) (by omega))
        rw [trefoilref04_Has.l0, if_pos (by omega), if_pos (by omega), r1, if_neg hc, wrap_up (by omega)]
  exact key a.length 0 (by omega)
section
variable {ts : List (List Int)} (ht : ts.length ≤ 120) (hr : ∀ r ∈ ts, r.length ≤ 12)
include ht hr
theorem ran1_ev (n : Int) (tick x : Nat) (hx : x < ts.length) {r : Int} (h : Ev (fun k => trefoilref10_Ran.l0 k ts n (tick : Int) (ranL ts n (x + 1)) ((x + 1 : Nat) : Int)) r) :
    ∀ (m y : Nat), y + m = (ts.getD x []).length → Ev (fun k => trefoilref10_Ran.l1 k ts n (tick : Int) (ranL ts n x + (((ts.getD x []).take y).count n : Int)) (x : Int) (y : Int)) r := by
  have hrl := hr _ (mem_getDL hx)
  have e : rd_L2 ts (x : Int) = ts.getD x [] := rfl
  have hb1 := ranL_le ts n hr x (by omega)
  intro m
  induction m with
  | zero =>
    intro y hy
    have hb : ranL ts n x + (((ts.getD x []).take y).count n : Int) = ranL ts n (x + 1) := by rw [ranL_next ts n x hx, List.take_of_length_le (l := ts.getD x []) (by omega)]
    refine Ev.step (fun k => ?_) h
    rw [trefoilref10_Ran.l1, if_pos (by omega), if_pos (by omega), e, if_neg (by omega), hb, wrap_up (by omega)]
  | succ m ih =>
    intro y hy
    have hyl : y < (ts.getD x []).length := by omega
    have hn := count_take_next (ts.getD x []) n y hyl
    have hb2 : ((ts.getD x []).take y).count n ≤ ((ts.getD x []).take y).length := List.count_le_length
    rw [List.length_take] at hb2
    refine Ev.step (fun k => ?_) (ih (y + 1) (by omega))
    have r1 : rd (ts.getD x []) (y : Int) = (ts.getD x []).getD y 0 := rfl
    rw [trefoilref10_Ran.l1, if_pos (by omega), if_pos (by omega), e, if_pos (by omega), if_pos (by omega), r1, wrap_up (by omega), hn]
    by_cases hc : (ts.getD x []).getD y 0 = n
    · rw [if_pos hc, if_pos hc, show wrap64 (ranL ts n x + (((ts.getD x []).take y).count n : Int) + 1) = ranL ts n x + ((((ts.getD x []).take y).count n : Int) + 1) by unfold wrap64; omega]
    · rw [if_neg hc, if_neg hc, Int.add_zero]
theorem ran0_ev (n : Int) (tick : Nat) (htk : tick ≤ ts.length) : ∀ (m x : Nat), x + m = tick → Ev (fun k => trefoilref10_Ran.l0 k ts n (tick : Int) (ranL ts n x) (x : Int)) (ranL ts n tick) := by
  intro m
  induction m with
  | zero =>
    intro x hx
    obtain rfl : x = tick := by omega
    refine Ev.step (f := fun k => trefoilref10_Ran.j1 k ts n (x : Int) (ranL ts n x) (x : Int) false) (fun k => by rw [trefoilref10_Ran.l0, if_neg (by omega)]) ?_
    exact Ev.step (f := fun _ => some (ranL ts n x)) (fun k => by rw [trefoilref10_Ran.j1, if_neg (by simp)]) (Ev.now _)
  | succ m ih =>
    intro x hx
    refine Ev.step (f := fun k => trefoilref10_Ran.j1 k ts n (tick : Int) (ranL ts n x) (x : Int) true) (fun k => by rw [trefoilref10_Ran.l0, if_pos (by omega), decide_eq_true (by omega)]) ?_
    refine Ev.step (f := fun k => trefoilref10_Ran.l1 k ts n (tick : Int) (ranL ts n x + (((ts.getD x []).take 0).count n : Int)) (x : Int) ((0 : Nat) : Int)) (fun k => ?_) (ran1_ev ht hr n tick x (by omega) (ih (x + 1) (by omega)) (ts.getD x []).length 0 (by omega))
    rw [trefoilref10_Ran.j1, if_pos rfl, List.take_zero, List.count_nil, show ((0 : Nat) : Int) = 0 from rfl, Int.add_zero]
theorem ran_ev (n : Int) (tick : Nat) (htk : tick ≤ ts.length) : Ev (fun k => trefoilref10_Ran.f k ts n (tick : Int)) (ranL ts n tick) := by
  unfold trefoilref10_Ran.f
  have := ran0_ev ht hr n tick htk tick 0 (by omega)
  rw [show ranL ts n 0 = 0 by simp [ranL]] at this
  exact this
theorem free_ev (l : List Int) (es : List S45) (need : List Int) (he : es.length ≤ 300) (hin : ∀ e ∈ es.map pr, 0 ≤ e.1 ∧ e.1 < need.length) (n : Int) (tick : Nat) (htk : tick ≤ ts.length) : Ev (fun k => trefoilref10_free.f k l es need ts n (tick : Int)) (freeR (es.map pr) need ts n tick) := by
  unfold trefoilref10_free.f freeR
  have key : ∀ (m x : Nat), x + m = es.length → Ev (fun k => trefoilref10_free.l0 k need ts n (tick : Int) (x : Int) l es) (!((es.map pr).drop x).any (blk need ts n tick)) := by
    intro m
    induction m with
    | zero =>
      intro x hx
      rw [List.drop_of_length_le (by rw [List.length_map]; omega)]
      exact Ev.step (f := fun _ => some true) (fun k => by rw [trefoilref10_free.l0, if_neg (by omega)]) (Ev.now _)
    | succ m ih =>
      intro x hx
      have hxl : x < es.length := by omega
      have hd : (es.map pr).drop x = pr es[x] :: (es.map pr).drop (x + 1) := by
        rw [List.drop_eq_getElem_cons (by rw [List.length_map]; exact hxl)]; simp
      have hmem : pr es[x] ∈ es.map pr := List.mem_map.2 ⟨_, List.getElem_mem hxl, rfl⟩
      have hf : 0 ≤ es[x].f0 ∧ es[x].f0 < need.length := hin _ hmem
      rw [hd, List.any_cons]
      have ih' := ih (x + 1) (by omega)
      by_cases h1 : es[x].f1 = n
      · refine Ev.step (f := fun k => (trefoilref10_Ran.f k ts es[x].f0 (tick : Int)).bind fun t280 => (if 0 ≤ es[x].f0 then (if es[x].f0 < (need.length : Int) then (if t280 < (rd need es[x].f0) then (some false) else (trefoilref10_free.l0 k need ts n (tick : Int) ((x + 1 : Nat) : Int) l es)) else (none)) else (none))) (fun k => ?_) (Ev.bind (ran_ev ht hr es[x].f0 tick htk) ?_)
        · rw [trefoilref10_free.l0, if_pos (by omega), if_pos (by omega), rd_at es x hxl, if_pos h1, wrap_up (by omega)]
        · have r1 : rd need es[x].f0 = need.getD es[x].f0.toNat 0 := rfl
          simp only [if_pos hf.1, if_pos hf.2, r1]
          have hb : blk need ts n tick (pr es[x]) = decide (ranL ts es[x].f0 tick < need.getD es[x].f0.toNat 0) := by unfold blk pr; simp [h1]
          rw [hb]
          by_cases h2 : ranL ts es[x].f0 tick < need.getD es[x].f0.toNat 0
          · simp only [if_pos h2, decide_eq_true h2, Bool.true_or, Bool.not_true]
            exact Ev.now _
          · simp only [if_neg h2, decide_eq_false h2, Bool.false_or]
            exact ih'
      · have hb : blk need ts n tick (pr es[x]) = false := by unfold blk pr; simp [h1]
        rw [hb, Bool.false_or]
        refine Ev.step (fun k => ?_) ih'
        rw [trefoilref10_free.l0, if_pos (by omega), if_pos (by omega), rd_at es x hxl, if_neg h1, wrap_up (by omega)]
  exact key es.length 0 (by omega)
theorem one_ev (l : List Int) (es : List S45) (need : List Int) (he : es.length ≤ 300) (hin : ∀ e ∈ es.map pr, 0 ≤ e.1 ∧ e.1 < need.length) {w : Nat} (hw : ∀ r ∈ ts, r.length = w) (x y : Nat) (hx : x < ts.length) (hy : y < w) : Ev (fun k => trefoilref10_One.f k l es need ts (x : Int) (y : Int)) (oneR (es.map pr) need ts x y) := by
  have hwj : ∀ j, j < ts.length → (ts.getD j []).length = w := fun j hj => hw _ (mem_getDL hj)
  have hx1 := hwj x hx
  have hrl := hr _ (mem_getDL hx)
  have e : rd_L2 ts (x : Int) = ts.getD x [] := rfl
  have r1 : rd (ts.getD x []) (y : Int) = (ts.getD x []).getD y 0 := rfl
  unfold trefoilref10_One.f oneR
  simp only [e, r1, if_pos (show (0 : Int) ≤ (x : Int) by omega), if_pos (show (x : Int) < (ts.length : Int) by omega), if_pos (show (0 : Int) ≤ (y : Int) by omega), if_pos (show (y : Int) < ((ts.getD x []).length : Int) by omega)]
  generalize hn : (ts.getD x []).getD y 0 = n
  by_cases h0 : n = -1
  · simp only [if_pos h0]
    exact Ev.now _
  · simp only [if_neg h0]
    by_cases h1 : n < 0 ∨ (need.length : Int) ≤ n
    · rw [if_pos h1]
      by_cases h2 : n < 0
      · simp only [if_pos h2]
        exact Ev.step (f := fun _ => some 101) (fun k => by rw [trefoilref10_One.j0, if_pos rfl]) (Ev.now _)
      · simp only [if_neg h2, decide_eq_true (show n ≥ (need.length : Int) by omega)]
        exact Ev.step (f := fun _ => some 101) (fun k => by rw [trefoilref10_One.j0, if_pos rfl]) (Ev.now _)
    · rw [if_neg h1]
      simp only [if_neg (show ¬ n < 0 by omega), decide_eq_false (show ¬ n ≥ (need.length : Int) by omega)]
      refine Ev.step (f := fun k => trefoilref10_One.l0 k need ts (x : Int) (y : Int) n ((0 : Nat) : Int) l es) (fun k => by rw [trefoilref10_One.j0, if_neg (by simp)]; rfl) ?_
      have key : ∀ (m z : Nat), z + m = y → Ev (fun k => trefoilref10_One.l0 k need ts (x : Int) (y : Int) n (z : Int) l es) (if ((((ts.getD x []).take y).drop z).contains n) = true then (102 : Int) else if need.getD n.toNat 0 ≤ ranL ts n x then 105 else if 0 < ranL ts n x ∧ (ts.getD (x - 1) []).getD y 0 ≠ n then 104 else if ranL ts n x = 0 ∧ freeR (es.map pr) need ts n x = false then 103 else 0) := by
        intro m
        induction m with
        | zero =>
          intro z hz
          rw [List.drop_of_length_le (by rw [List.length_take]; omega), if_neg (by simp)]
          have r2 : rd need n = need.getD n.toNat 0 := rfl
          have hrn := ranL_le ts n hr x (by omega)
          refine Ev.step (fun k => by rw [trefoilref10_One.l0, if_neg (by omega)]) (Ev.bind (ran_ev ht hr n x (by omega)) ?_)
          simp only [if_pos (show 0 ≤ n by omega), if_pos (show n < (need.length : Int) by omega), r2]
          by_cases h3 : need.getD n.toNat 0 ≤ ranL ts n x
          · simp only [if_pos h3, if_pos (show ranL ts n x ≥ need.getD n.toNat 0 from h3)]
            exact Ev.now _
          · simp only [if_neg h3, if_neg (show ¬ ranL ts n x ≥ need.getD n.toNat 0 from h3)]
            have hj2 : ∀ b : Bool, Ev (fun k => trefoilref10_One.j2 k need ts (x : Int) n (ranL ts n x) b l es) (if b = true then 104 else if ranL ts n x = 0 ∧ freeR (es.map pr) need ts n x = false then 103 else 0) := by
              intro b
              cases b with
              | true => exact Ev.step (f := fun _ => some 104) (fun k => by rw [trefoilref10_One.j2, if_pos rfl]) (Ev.now _)
              | false =>
                rw [if_neg (by simp)]
                by_cases h4 : ranL ts n x = 0
                · refine Ev.step (fun k => by rw [trefoilref10_One.j2, if_neg (by simp), if_pos h4]) (Ev.bind (free_ev ht hr l es need he hin n x (by omega)) ?_)
                  cases hfr : freeR (es.map pr) need ts n x with
                  | true => rw [show (if ranL ts n x = 0 ∧ true = false then (103 : Int) else 0) = 0 from if_neg (fun h => by cases h.2)]; exact Ev.now _
                  | false => rw [show (if ranL ts n x = 0 ∧ false = false then (103 : Int) else 0) = 103 from if_pos ⟨h4, rfl⟩]; exact Ev.now _
                · rw [if_neg (fun h => h4 h.1)]
                  exact Ev.step (f := fun _ => some 0) (fun k => by rw [trefoilref10_One.j2, if_neg (by simp), if_neg h4]) (Ev.now _)
            by_cases h5 : ranL ts n x > 0
            · have hx0 : 0 < x := by
                rcases Nat.eq_zero_or_pos x with e0 | e0
                · subst e0; simp [ranL] at h5
                · exact e0
              have hwx : wrap64 ((x : Int) - 1) = ((x - 1 : Nat) : Int) := by unfold wrap64; omega
              have e2 : rd_L2 ts ((x - 1 : Nat) : Int) = ts.getD (x - 1) [] := rfl
              have r3 : rd (ts.getD (x - 1) []) (y : Int) = (ts.getD (x - 1) []).getD y 0 := rfl
              have hl1 := hwj (x - 1) (by omega)
              simp only [if_pos h5, hwx, e2, r3, if_pos (show (0 : Int) ≤ ((x - 1 : Nat) : Int) by omega), if_pos (show ((x - 1 : Nat) : Int) < (ts.length : Int) by omega), if_pos (show (0 : Int) ≤ (y : Int) by omega), if_pos (show (y : Int) < ((ts.getD (x - 1) []).length : Int) by omega)]
              have h := hj2 ((ts.getD (x - 1) []).getD y 0 != n)
              by_cases h6 : (ts.getD (x - 1) []).getD y 0 = n
              · rw [if_neg (fun h => h.2 h6)]
                rw [show ((ts.getD (x - 1) []).getD y 0 != n) = false by simpa using h6] at h ⊢
                exact h
              · rw [if_pos ⟨h5, h6⟩]
                rw [show ((ts.getD (x - 1) []).getD y 0 != n) = true by simpa using h6] at h ⊢
                exact h
            · simp only [if_neg h5]
              rw [if_neg (fun h => h5 h.1)]
              exact hj2 false
        | succ m ih =>
          intro z hz
          have hzl : z < ((ts.getD x []).take y).length := by rw [List.length_take]; omega
          have r2 : rd (ts.getD x []) (z : Int) = ((ts.getD x []).take y)[z] := by rw [rd_nat _ z (by rw [List.length_take] at hzl; omega), List.getElem_take]
          rw [List.drop_eq_getElem_cons hzl, List.contains_cons]
          by_cases hc : ((ts.getD x []).take y)[z] = n
          · rw [if_pos (by rw [hc]; simp)]
            exact Ev.step (f := fun _ => some 102) (fun k => by rw [trefoilref10_One.l0, if_pos (by omega), if_pos (by omega), if_pos (by omega), if_pos (by omega), e, if_pos (by omega), r2, if_pos hc]) (Ev.now _)
          · rw [show (n == ((ts.getD x []).take y)[z]) = false by rw [beq_eq_false_iff_ne]; exact fun e => hc e.symm, Bool.false_or]
            refine Ev.step (fun k => ?_) (ih (z + 1) (by omega))
            rw [trefoilref10_One.l0, if_pos (by omega), if_pos (by omega), if_pos (by omega), if_pos (by omega), e, if_pos (by omega), r2, if_neg hc, wrap_up (by omega)]
      have h := key y 0 (by omega)
      rw [List.drop_zero] at h
      exact h
section
variable {l : List Int} {es : List S45} {need : List Int} {w : Nat} (he : es.length ≤ 300) (hnl : need.length ≤ 70) (hin : ∀ e ∈ es.map pr, 0 ≤ e.1 ∧ e.1 < need.length) (hpos : ∀ n : Nat, n < need.length → 1 ≤ need.getD n 0) (hw : ∀ r ∈ ts, r.length = w)
include he hin hpos hw
theorem chk2_ev {x : Nat} (hx : x < ts.length) (hv : ∀ j, j < x → rowErr (es.map pr) need ts j = 0) (hnx : rowErr (es.map pr) need ts x = 0 → Ev (fun k => trefoilref10_Check.l1 k need (w : Int) ts ((x + 1 : Nat) : Int) l es) (lookE (es.map pr) need ts)) :
    ∀ (m y : Nat), y + m = w → (∀ j, j < y → badC (es.map pr) need (stAt need ts x) (ts.getD x []) x j = false) → Ev (fun k => trefoilref10_Check.l2 k need (w : Int) ts (x : Int) (y : Int) l es) (lookE (es.map pr) need ts) := by
  have hrw : (ts.getD x []).length = w := hw _ (mem_getDL hx)
  have hrl := hr _ (mem_getDL hx)
  intro m
  induction m with
  | zero =>
    intro y hy hb
    have h0 : rowErr (es.map pr) need ts x = 0 := rowE_none (fun j hj => hb j (by omega))
    refine Ev.step (fun k => ?_) (hnx h0)
    rw [trefoilref10_Check.l2, if_neg (by omega), wrap_up (by omega)]
  | succ m ih =>
    intro y hy hb
    obtain ⟨b1, b2⟩ := bad_eq hin hpos hx hv hw (c := y) (by omega)
    refine Ev.step (fun k => by rw [trefoilref10_Check.l2, if_pos (by omega)]) (Ev.bind (one_ev ht hr l es need he hin hw x y hx (by omega)) ?_)
    by_cases h0 : oneR (es.map pr) need ts x y = 0
    · simp only [if_pos h0]
      have hbn := b1 h0
      have := ih (y + 1) (by omega) (fun j hj => by
        by_cases e : j = y
        · rw [e]; exact hbn
        · exact hb j (by omega))
      rw [show wrap64 ((y : Int) + 1) = ((y + 1 : Nat) : Int) from wrap_up (by omega)]
      exact this
    · simp only [if_neg h0]
      obtain ⟨b3, b4⟩ := b2 h0
      have h1 : rowErr (es.map pr) need ts x = oneR (es.map pr) need ts x y := by rw [b4]; exact rowE_some (by omega) hb b3
      rw [lookE_some hx hv (by rw [h1]; exact h0), h1]
      exact Ev.now _
theorem chk1_ev : ∀ (m x : Nat), x + m = ts.length → (∀ j, j < x → rowErr (es.map pr) need ts j = 0) → Ev (fun k => trefoilref10_Check.l1 k need (w : Int) ts (x : Int) l es) (lookE (es.map pr) need ts) := by
  intro m
  induction m with
  | zero =>
    intro x hx hv
    rw [lookE_none (fun j hj => hv j (by omega))]
    exact Ev.step (f := fun _ => some 0) (fun k => by rw [trefoilref10_Check.l1, if_neg (by omega)]) (Ev.now _)
  | succ m ih =>
    intro x hx hv
    refine Ev.step (f := fun k => trefoilref10_Check.l2 k need (w : Int) ts (x : Int) ((0 : Nat) : Int) l es) (fun k => by rw [trefoilref10_Check.l1, if_pos (by omega)]; rfl) ?_
    refine chk2_ev ht hr he hin hpos hw (by omega) hv (fun h0 => ih (x + 1) (by omega) (fun j hj => ?_)) w 0 (by omega) (fun j hj => absurd hj (by omega))
    by_cases e : j = x
    · rw [e]; exact h0
    · exact hv j (by omega)
theorem chk0_ev : Ev (fun k => trefoilref10_Check.l0 k need (w : Int) ts 0 l es) (lookE (es.map pr) need ts) := by
  have key : ∀ (m x : Nat), x + m = ts.length → Ev (fun k => trefoilref10_Check.l0 k need (w : Int) ts (x : Int) l es) (lookE (es.map pr) need ts) := by
    intro m
    induction m with
    | zero =>
      intro x hx
      refine Ev.step (f := fun k => trefoilref10_Check.l1 k need (w : Int) ts ((0 : Nat) : Int) l es) (fun k => by rw [trefoilref10_Check.l0, if_neg (by omega)]; rfl) ?_
      exact chk1_ev ht hr he hin hpos hw ts.length 0 (by omega) (fun j hj => absurd hj (by omega))
    | succ m ih =>
      intro x hx
      have hrw : (ts.getD x []).length = w := hw _ (mem_getDL (by omega))
      have e : rd_L2 ts (x : Int) = ts.getD x [] := rfl
      refine Ev.step (fun k => ?_) (ih (x + 1) (by omega))
      rw [trefoilref10_Check.l0, if_pos (by omega), if_pos (by omega), e, if_pos (by omega), wrap_up (by omega)]
  exact key ts.length 0 (by omega)
variable (hv : ∀ j, j < ts.length → rowErr (es.map pr) need ts j = 0)
include hv hnl
theorem ends_ev : Ev (fun k => trefoilref10_Ends.f k need ts) (stAt need ts ts.length).fin := by
  unfold trefoilref10_Ends.f
  have hfl := (stAt_len need ts ts.length).2.2
  have h1 : ∀ (out : List Int) (n : Nat) (r : List Int), out.length ≤ 100 → n < need.length → ∀ (m : Nat) (e : Int), m ≤ ts.length + 1 → Ev (fun k => trefoilref10_Ends.l0 k need ts (out ++ [downF (endG need ts n) e m]) ((n + 1 : Nat) : Int)) r → Ev (fun k => trefoilref10_Ends.l1 k need ts out (n : Int) e ((m : Int) - 1)) r := by
    intro out n r ho hn m
    induction m with
    | zero =>
      intro e hm h
      refine Ev.step (fun k => ?_) h
      rw [trefoilref10_Ends.l1, if_neg (by omega), if_pos (by omega), wrap_up (by omega)]
      rfl
    | succ m ih =>
      intro e hm h
      have hm1 : ((m + 1 : Nat) : Int) - 1 = (m : Int) := by omega
      have hwm : wrap64 ((m : Int) - 1) = (m : Int) - 1 := by unfold wrap64; omega
      have r1 : rd need (n : Int) = need.getD n 0 := rfl
      rw [hm1]
      refine Ev.step (fun k => by rw [trefoilref10_Ends.l1, if_pos (by omega)]) (Ev.bind (ran_ev ht hr (n : Int) m (by omega)) ?_)
      simp only [if_pos (show (0 : Int) ≤ (n : Int) by omega), if_pos (show (n : Int) < (need.length : Int) by omega), r1, hwm]
      have h' : Ev (fun k => trefoilref10_Ends.l0 k need ts (out ++ [downF (endG need ts n) (if endG need ts n m = true then (m : Int) else e) m]) ((n + 1 : Nat) : Int)) r := h
      have ih' := ih _ (by omega) h'
      by_cases hc : need.getD n 0 ≤ ranL ts (n : Int) m
      · rw [show endG need ts n m = true from decide_eq_true hc] at ih'
        simp only [if_pos (show ranL ts (n : Int) m ≥ need.getD n 0 from hc)]
        exact ih'
      · rw [show endG need ts n m = false from decide_eq_false hc] at ih'
        simp only [if_neg (show ¬ ranL ts (n : Int) m ≥ need.getD n 0 from hc)]
        exact ih'
  have key : ∀ (m n : Nat), n + m = need.length → Ev (fun k => trefoilref10_Ends.l0 k need ts ((stAt need ts ts.length).fin.take n) (n : Int)) (stAt need ts ts.length).fin := by
    intro m
    induction m with
    | zero =>
      intro n hn
      rw [List.take_of_length_le (by omega)]
      exact Ev.step (f := fun _ => some _) (fun k => by rw [trefoilref10_Ends.l0, if_neg (by omega)]) (Ev.now _)
    | succ m ih =>
      intro n hn
      refine Ev.step (f := fun k => trefoilref10_Ends.l1 k need ts ((stAt need ts ts.length).fin.take n) (n : Int) (-1) (((ts.length + 1 : Nat) : Int) - 1)) (fun k => ?_) ?_
      · rw [trefoilref10_Ends.l0, if_pos (by omega), show ((ts.length + 1 : Nat) : Int) - 1 = (ts.length : Int) by omega]
      · refine h1 _ n _ (by rw [List.length_take]; omega) (by omega) (ts.length + 1) (-1) (Nat.le_refl _) ?_
        rw [end_eq hin hpos hv (by omega)]
        have := ih (n + 1) (by omega)
        rw [List.take_add_one, List.getElem?_eq_getElem (by omega)] at this
        rw [List.getD_eq_getElem?_getD, List.getElem?_eq_getElem (by omega)]
        exact this
  have := key need.length 0 (by omega)
  rw [List.take_zero] at this
  exact this
theorem greedy_ev : Ev (fun k => trefoilref10_Greedy.f k l es need ts) ((List.range ts.length).all (greedyAt (es.map pr) need ts)) := by
  unfold trefoilref10_Greedy.f
  have h1 : ∀ (x : Nat), x < ts.length → (ts.getD x []).contains (-1) = true → ∀ (r : Bool), Ev (fun k => trefoilref10_Greedy.l0 k need ts ((x + 1 : Nat) : Int) l es) r → ∀ (m n : Nat), n + m = need.length →
      Ev (fun k => trefoilref10_Greedy.l1 k need ts (x : Int) (n : Int) l es) (!((List.range need.length).drop n).any (lazyN (es.map pr) (stAt need ts x) (ts.getD x []) x) && r) := by
    intro x hx hc1 r h m
    have hvx : ∀ j, j < x → rowErr (es.map pr) need ts j = 0 := fun j hj => hv j (by omega)
    have hrl := hr _ (mem_getDL hx)
    have e : rd_L2 ts (x : Int) = ts.getD x [] := rfl
    induction m with
    | zero =>
      intro n hn
      rw [List.drop_of_length_le (by rw [List.length_range]; omega), List.any_nil, Bool.not_false, Bool.true_and]
      refine Ev.step (fun k => ?_) h
      rw [trefoilref10_Greedy.l1, if_neg (by omega), wrap_up (by omega)]
    | succ m ih =>
      intro n hn
      rw [List.drop_eq_getElem_cons (by rw [List.length_range]; omega), List.getElem_range, List.any_cons, lazy_eq hin hpos hx hvx (by omega), hc1]
      have ih' := ih (n + 1) (by omega)
      refine Ev.step (fun k => by rw [trefoilref10_Greedy.l1, if_pos (by omega)]) (Ev.bind (ran_ev ht hr (n : Int) x (by omega)) ?_)
      simp only [e, if_pos (show (0 : Int) ≤ (x : Int) by omega), if_pos (show (x : Int) < (ts.length : Int) by omega), show wrap64 ((n : Int) + 1) = ((n + 1 : Nat) : Int) from wrap_up (by omega)]
      by_cases h0 : ranL ts (n : Int) x = 0
      · simp only [if_pos h0, decide_eq_true h0, Bool.true_and]
        refine Ev.bind (has_ev (ts.getD x []) (n : Int) (by omega)) ?_
        cases hc2 : (ts.getD x []).contains (n : Int) with
        | true => simpa using ih'
        | false =>
          simp only [Bool.not_false, Bool.true_and]
          refine Ev.bind (free_ev ht hr l es need he hin (n : Int) x (by omega)) ?_
          cases hfr : freeR (es.map pr) need ts (n : Int) x with
          | true => exact Ev.now _
          | false => simpa using ih'
      · simp only [if_neg h0, decide_eq_false h0, Bool.false_and, Bool.false_or]
        exact ih'
  have key : ∀ (m x : Nat), x + m = ts.length → Ev (fun k => trefoilref10_Greedy.l0 k need ts (x : Int) l es) (((List.range ts.length).drop x).all (greedyAt (es.map pr) need ts)) := by
    intro m
    induction m with
    | zero =>
      intro x hx
      rw [List.drop_of_length_le (by rw [List.length_range]; omega)]
      exact Ev.step (f := fun _ => some true) (fun k => by rw [trefoilref10_Greedy.l0, if_neg (by omega)]) (Ev.now _)
    | succ m ih =>
      intro x hx
      have hrl := hr _ (mem_getDL (show x < ts.length by omega))
      have e : rd_L2 ts (x : Int) = ts.getD x [] := rfl
      have ih' := ih (x + 1) (by omega)
      rw [List.drop_eq_getElem_cons (by rw [List.length_range]; omega), List.getElem_range, List.all_cons]
      refine Ev.step (f := fun k => (trefoilref04_Has.f k (ts.getD x []) (-1)).bind fun t342 => (if t342 = true then (trefoilref10_Greedy.l1 k need ts (x : Int) ((0 : Nat) : Int) l es) else (trefoilref10_Greedy.l0 k need ts ((x + 1 : Nat) : Int) l es))) (fun k => ?_) (Ev.bind (has_ev (ts.getD x []) (-1) (by omega)) ?_)
      · rw [trefoilref10_Greedy.l0, if_pos (by omega), if_pos (by omega), e, wrap_up (by omega)]; rfl
      · cases hc : (ts.getD x []).contains (-1) with
        | true =>
          have h := h1 x (by omega) hc _ ih' need.length 0 (by omega)
          exact h
        | false =>
          have hg : greedyAt (es.map pr) need ts x = true := by
            unfold greedyAt
            rw [Bool.not_eq_true', List.any_eq_false]
            intro n hn
            unfold lazyN
            rw [hc]
            simp
          rw [hg, Bool.true_and]
          exact ih'
  exact key ts.length 0 (by omega)
end
theorem refchk_ev (l : List Int) (es : List S45) (need : List Int) (c : Int) (hl : l.length ≤ 70) (he : es.length ≤ 300) (hn : need.length ≤ 70) : Ev (fun k => trefoilref10_Check.f k l es need c ts) (lookR l (es.map pr) need c ts) := by
  unfold trefoilref10_Check.f lookR
  refine Ev.bind (refcheck_ev l es hl he) ?_
  by_cases hz : checkL l (es.map pr) = 0
  · simp only [if_pos hz]
    rw [if_neg (fun h => h hz)]
    refine Ev.bind (form_ev l es need c hn) ?_
    unfold formB
    cases hrb : rightB l need c with
    | false =>
      simp only [Bool.false_and, Bool.false_eq_true, if_false, if_true]
      exact Ev.step (f := fun _ => some 100) (fun k => by rw [trefoilref10_Check.j0, if_pos (by rfl)]) (Ev.now _)
    | true =>
      simp only [Bool.true_and, if_true, decide_eq_true (show ts.length ≤ 4096 by omega), decide_eq_false (show ¬ (ts.length : Int) > 4096 by omega)]
      refine Ev.step (f := fun k => trefoilref10_Check.l0 k need c ts 0 l es) (fun k => by rw [trefoilref10_Check.j0, if_neg (by simp)]) ?_
      obtain ⟨hc, hnw⟩ := right_c hrb
      cases hany : ts.any (fun r => decide ((r.length : Int) ≠ c)) with
      | false =>
        simp only [Bool.not_false, Bool.true_eq_false, if_false]
        obtain ⟨w, rfl⟩ : ∃ w : Nat, c = (w : Int) := ⟨c.toNat, by omega⟩
        have hw : ∀ r ∈ ts, r.length = w := fun r h => by
          have := List.any_eq_false.1 hany r h
          simp only [ne_eq, decide_not, Bool.not_eq_true', decide_eq_false_iff_not, Decidable.not_not] at this
          omega
        obtain ⟨y1, y2, y3, y4, y5⟩ := ordL_yes hz
        have hln : need.length = l.length := by unfold rightB at hrb; simp only [Bool.and_eq_true, decide_eq_true_eq] at hrb; exact hrb.1.1.1
        exact chk0_ev ht hr he (fun e hx => by rw [hln]; exact (oddEs_in y3 e hx).1) (fun n hnn => by
          have h1 := right_pos hrb _ (getD_mem need n hnn)
          exact h1) hw
      | true =>
        simp only [Bool.not_true, if_true]
        obtain ⟨r, hrm, hrc⟩ := List.any_eq_true.1 hany
        obtain ⟨j, hj, rfl⟩ := List.getElem_of_mem hrm
        have hjc : ((ts.getD j []).length : Int) ≠ c := by
          rw [List.getD_eq_getElem?_getD, List.getElem?_eq_getElem hj]
          simpa using hrc
        have key : ∀ (m x : Nat), x + m = j → Ev (fun k => trefoilref10_Check.l0 k need c ts (x : Int) l es) 100 := by
          intro m
          induction m with
          | zero =>
            intro x hx
            obtain rfl : x = j := by omega
            have e : rd_L2 ts (x : Int) = ts.getD x [] := rfl
            exact Ev.step (f := fun _ => some 100) (fun k => by rw [trefoilref10_Check.l0, if_pos (by omega), if_pos (by omega), e, if_neg hjc]) (Ev.now _)
          | succ m ih =>
            intro x hx
            have e : rd_L2 ts (x : Int) = ts.getD x [] := rfl
            by_cases hxc : ((ts.getD x []).length : Int) = c
            · refine Ev.step (fun k => ?_) (ih (x + 1) (by omega))
              rw [trefoilref10_Check.l0, if_pos (by omega), if_pos (by omega), e, if_pos hxc, wrap_up (by omega)]
            · exact Ev.step (f := fun _ => some 100) (fun k => by rw [trefoilref10_Check.l0, if_pos (by omega), if_pos (by omega), e, if_neg hxc]) (Ev.now _)
        exact key j 0 (by omega)
  · simp only [if_neg hz]
    rw [if_pos hz]
    exact Ev.now _
end
theorem run (l : List Int) (es : List S45) (need : List Int) (c : Int) (ts : List (List Int)) : ∃ k, trefoillaw10_SchedChecks.f k l es need c ts = some true := by
  refine Ev.rounds ?_
  unfold trefoillaw10_SchedChecks.f
  rw [awake_f]
  simp only [Option.bind_some, if_true]
  rw [few_f]
  simp only [Option.bind_some]
  have hj : Ev (fun k => trefoillaw10_SchedChecks.j0 k need c ts true l es) true := Ev.step (f := fun _ => some true) (fun k => by rw [trefoillaw10_SchedChecks.j0, if_pos rfl, awake_f, Option.bind_some]) (Ev.now _)
  by_cases hf : l.length ≤ 70 ∧ es.length ≤ 300
  · simp only [decide_eq_true hf, if_true]
    refine Ev.bind (few10_ev need ts) ?_
    cases hf2 : fewB need ts with
    | false => exact hj
    | true =>
      obtain ⟨h1, h2, h3⟩ := few_in hf2
      have hO := ownT_ev ts (by omega) (fun r h => by have := h3 r h; omega)
      have hb : ((l.length ≤ 1000 ∧ es.length ≤ 1000) ∧ need.length ≤ 1000) ∧ ts.length ≤ 5000 := ⟨⟨⟨by omega, by omega⟩, by omega⟩, by omega⟩
      have c1 : sched_Check.f l es need c ts = some (lookR l (es.map pr) need c ts) := by unfold sched_Check.f; rw [if_pos hb]; rfl
      have c2 : sched_Ends.f l es need c ts = some (endsL l (es.map pr) need c ts) := by unfold sched_Ends.f; rw [if_pos hb]; rfl
      have c3 : sched_Greedy.f l es need c ts = some (greedyL l (es.map pr) need c ts) := by unfold sched_Greedy.f; rw [if_pos hb]; rfl
      refine Ev.step (fun k => by rw [trefoillaw10_SchedChecks.j0, if_neg (by simp)]) (Ev.bind (refchk_ev h2 h3 l es need c hf.1 hf.2 h1) ?_)
      rw [own_f l es (by omega) (by omega), ints_f need (by omega)]
      simp only [Option.bind_some]
      refine Ev.bind hO ?_
      simp only [c1, Option.bind_some]
      refine Ev.bind hO ?_
      simp only [c2, Option.bind_some]
      refine Ev.bind hO ?_
      simp only [c3, Option.bind_some]
      by_cases hz : lookR l (es.map pr) need c ts = 0
      · simp only [if_pos hz]
        have hV := valid_of hz
        have hle : endsL l (es.map pr) need c ts = (stAt need ts ts.length).fin := ends_eq hV
        have hg : greedyL l (es.map pr) need c ts = (List.range ts.length).all (greedyAt (es.map pr) need ts) := by unfold greedyL; rw [decide_eq_true hz, Bool.true_and]
        obtain ⟨y1, y2, y3, y4, y5⟩ := ordL_yes hV.zd
        obtain ⟨hc, hnw⟩ := right_c hV.rb
        have hrb := hV.rb
        have hln : need.length = l.length := by unfold rightB at hrb; simp only [Bool.and_eq_true, decide_eq_true_eq] at hrb; exact hrb.1.1.1
        have hin : ∀ e ∈ es.map pr, 0 ≤ e.1 ∧ e.1 < need.length := fun e hx => by rw [hln]; exact (oddEs_in y3 e hx).1
        have hpos : ∀ n : Nat, n < need.length → 1 ≤ need.getD n 0 := fun n hn => (hV.pos n hn).1
        obtain ⟨w, rfl⟩ : ∃ w : Nat, c = (w : Int) := ⟨c.toNat, by omega⟩
        have hw : ∀ r ∈ ts, r.length = w := fun r h => by have := hV.rows r h; omega
        have hv := hV.ok
        refine Ev.bind (ends_ev h2 h3 hf.2 h1 hin hpos hw hv) ?_
        rw [hle]
        refine Ev.bind (ints_ev _ _ (by rw [(stAt_len need ts ts.length).2.2]; omega)) ?_
        simp only [decide_true, if_true]
        refine Ev.bind (greedy_ev (l := l) h2 h3 hf.2 h1 hin hpos hw hv) ?_
        rw [hg, beq_self_eq_true]
        exact Ev.now _
      · have he0 : endsL l (es.map pr) need c ts = [] := by unfold endsL; rw [if_neg hz]
        have hg0 : greedyL l (es.map pr) need c ts = false := by unfold greedyL; rw [decide_eq_false hz, Bool.false_and]
        simp only [if_neg hz, if_true, he0, hg0, List.length_nil]
        exact Ev.now _
  · simp only [decide_eq_false hf]
    exact hj
theorem edges_C {w : World} {B : Option Addr} {es : List (Int × Int)} (h : EdC w B es) (hm : es.length ≤ maxLen) : Kd.C k45 w B es.length (es.map fun e => ⟨e.1, e.2⟩) := by
  refine ⟨by simp, by unfold maxLen at hm; omega, fun h0 => ?_⟩
  obtain ⟨ad, rfl, hc⟩ := h h0
  refine ⟨ad, rfl, fun j p hp => ?_⟩
  have hj : j < es.length := by
    rcases Nat.lt_or_ge j es.length with h | h
    · exact h
    · rw [List.getElem?_eq_none (by simpa using h)] at hp; cases hp
  rw [List.getElem?_map, List.getElem?_eq_getElem hj] at hp
  simp only [Option.map_some, Option.some.injEq] at hp
  subst hp
  have hd : es.getD j (0, 0) = es[j] := by rw [List.getD_eq_getElem?_getD, List.getElem?_eq_getElem hj]; rfl
  obtain ⟨h1, h2⟩ := hc j hj
  rw [hd] at h1 h2
  refine ⟨[.int .i64 es[j].1, .int .i64 es[j].2], rfl, k45_mk w ⟨es[j].1, es[j].2⟩, fun i u hi => ?_⟩
  match i, hi with
  | 0, hi => simp at hi; subst hi; exact h1
  | 1, hi => simp at hi; subst hi; exact h2
theorem tr_C {w : World} {T : Option Addr} {ts : List (List Int)} (h : TrR w T ts) (hm : ts.length ≤ maxLen) : Kd.C (Kd.slice 3 (Kd.int .i64)) w T ts.length ts := by
  refine ⟨rfl, hm, fun h0 => ?_⟩
  obtain ⟨ad, rfl, hc⟩ := h h0
  refine ⟨ad, rfl, fun j p hp => ?_⟩
  have hj : j < ts.length := (List.getElem?_eq_some_iff.1 hp).1
  have hd : ts.getD j [] = p := by rw [List.getD_eq_getElem?_getD, hp]; rfl
  obtain ⟨A, c, h1, h2, h3⟩ := hc j hj
  rw [hd] at h1 h2 h3
  refine ⟨[.slice A p.length c], rfl, ⟨A, c, rfl, h2, Kd.C_of_reads (d := (0 : Int)) (h1 := fun _ => rfl) h3⟩, fun i u hi => ?_⟩
  match i, hi with
  | 0, hi => simp at hi; subst hi; rw [show j * (Kd.slice 3 (Kd.int .i64)).sz + 0 = j from by show j * 1 + 0 = j; omega]; exact h1
theorem walk (A : Option Addr) (c : Nat) (l : List Int) (B : Option Addr) (d : Nat) (es : List (Int × Int)) (D : Option Addr) (dc : Nat) (need : List Int) (cores : Int) (T : Option Addr) (tc : Nat) (ts : List (List Int)) (w : World) (h0 : DagIn w A c l B d es) (h1 : NeedIn w D dc need) (hcw : (Lit.int .i64 cores).wf = true) (h2 : TrIn w T tc ts) :
    Calls Try.prog 3 #[.agg #[.slice A l.length c, .slice B es.length d], .slice D need.length dc, .int .i64 cores, .slice T ts.length tc] w fun e w' => e = .returned (.bool true) ∧ Below w.heap.size w w' := by
  obtain ⟨k, hk⟩ := run l (es.map fun e => ⟨e.1, e.2⟩) need cores ts
  have := trefoillaw10_SchedChecks.calls k A c l B d (es.map fun e => ⟨e.1, e.2⟩) D dc need cores T tc ts true w (Kd.C_of_reads (d := (0 : Int)) (h1 := fun _ => rfl) h0.2.1) h0.1 (by rw [List.length_map]; exact edges_C h0.2.2.2.2.2.1 h0.2.2.2.2.1) (by rw [List.length_map]; exact h0.2.2.2.1) (Kd.C_of_reads (d := (0 : Int)) (h1 := fun _ => rfl) h1.2.1) h1.1 (tr_C h2.2.2.1 h2.2.1) h2.1 hk rfl
  rw [List.length_map] at this
  exact this
end Go.Proofs.Ytnnbgfjokbaepaa.PSchedChecks
