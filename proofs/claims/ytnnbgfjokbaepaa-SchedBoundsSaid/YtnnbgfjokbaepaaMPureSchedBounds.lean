/- The law SchedBounds comes to true. Plain Lean over the printed functions. -/
import Derived.Test.YtnnbgfjokbaepaaNSchD
import Derived.Test.YtnnbgfjokbaepaaMDagB
import Derived.Test.YtnnbgfjokbaepaaPSchedBoundsx15
set_option linter.unusedVariables false
set_option linter.unusedSimpArgs false
namespace Go.Proofs.Ytnnbgfjokbaepaa.PSchedBounds
open Go.RowKit Go.Proofs.YtnnbgfjokbaepaaW.PrintWords Go.Proofs.YtnnbgfjokbaepaaW.PrintLast
open Go.Proofs.Ytnnbgfjokbaepaa DagPlain SchPlain

def pr (x : S45) : Int × Int := (x.f0, x.f1)
theorem wrap_small {x : Int} (h : 0 ≤ x ∧ x ≤ 1000) : wrap64 x = x := by unfold wrap64; omega
theorem rd_at (es : List S45) (x : Nat) (h : x < es.length) : rd_T45 es (x : Int) = es[x] := by unfold rd_T45; simp [List.getD_eq_getElem?_getD, h]
theorem own_f (l : List Int) (es : List S45) (hl : l.length ≤ 1000) (he : es.length ≤ 1000) : trefoillaw04_Own.f l es = some (l, es) := by
  unfold trefoillaw04_Own.f
  simp only [Option.bind_some, List.length_nil, List.nil_append]
  rw [if_pos (by omega), if_pos (by omega)]
theorem few_f (l : List Int) (es : List S45) : trefoillaw04_Few.f l es = some (decide (l.length ≤ 70 ∧ es.length ≤ 300)) := by
  unfold trefoillaw04_Few.f
  split
  · rw [Option.some.injEq]
    exact decide_eq_decide.2 (by omega)
  · rw [Option.some.injEq]
    exact (decide_eq_false (by omega)).symm
theorem node_f (l : List Int) (es : List S45) (a : Int) : trefoilref04_node.f l es a = some (thereB l.length a) := by
  unfold trefoilref04_node.f thereB
  by_cases h : a ≥ 0
  · rw [if_pos h, decide_eq_true (show (0 : Int) ≤ a from h), Bool.true_and]
  · rw [if_neg h, decide_eq_false (show ¬ (0 : Int) ≤ a by omega), Bool.false_and]
theorem pr_take (es : List S45) (x : Nat) (p : Int × Int) : (((es.map pr).take x).contains p) = true ↔ ∃ j, ∃ h : j < es.length, j < x ∧ pr es[j] = p := by
  rw [List.contains_iff_mem, List.mem_iff_getElem]
  constructor
  · rintro ⟨j, hj, e⟩
    have hj1 : j < min x es.length := by simpa using hj
    have hj2 : j < x ∧ j < es.length := by omega
    exact ⟨j, hj2.2, hj2.1, by simpa using e⟩
  · rintro ⟨j, hj, hx, e⟩
    exact ⟨j, by simp; omega, by simpa using e⟩
theorem l2_run (l : List Int) (es : List S45) (f t : Int) (y : Nat) (hy : y ≤ es.length) (he : es.length ≤ 300) : ∀ (m x : Nat), x + m = y → (∀ j, ∀ h : j < es.length, j < x → pr es[j] ≠ (f, t)) → ∀ k, trefoilref04_Plain.l2 (k + m + 1) (y : Int) (x : Int) l es f t = if (((es.map pr).take y).contains (f, t)) = true then some 42 else trefoilref04_Plain.l1 k (wrap64 ((y : Int) + 1)) l es := by
  intro m
  induction m with
  | zero =>
    intro x hx hno k
    rw [show k + 0 + 1 = k + 1 by omega, trefoilref04_Plain.l2, if_neg (by omega), if_neg]
    rw [pr_take]
    rintro ⟨j, h, hj, e⟩
    exact hno j h (by omega) e
  | succ m ihm =>
    intro x hx hno k
    have hxl : x < es.length := by omega
    have e : wrap64 ((x : Int) + 1) = ((x + 1 : Nat) : Int) := by rw [wrap_small (by omega)]; omega
    rw [show k + (m + 1) + 1 = (k + m + 1) + 1 by omega, trefoilref04_Plain.l2, if_pos (by omega), if_pos (by omega), if_pos (by omega), rd_at es x hxl, e]
    by_cases h : pr es[x] = (f, t)
    · have h1 : es[x].f0 = f := congrArg Prod.fst h
      have h2 : es[x].f1 = t := congrArg Prod.snd h
      rw [h1, h2, if_pos (by simp), if_pos ((pr_take es y (f, t)).2 ⟨x, hxl, by omega, h⟩)]
    · rw [if_neg]
      · exact ihm (x + 1) (by omega) (fun j hj hjx => by
          by_cases ej : j = x
          · subst ej; exact h
          · exact hno j hj (by omega)) k
      · intro hc
        rw [Bool.and_eq_true, beq_iff_eq, beq_iff_eq] at hc
        exact h (by unfold pr; rw [hc.1, hc.2])
def FL : Nat → Nat → Nat
  | 0, _ => 1
  | m + 1, x => FL m (x + 1) + x + 3
theorem l1_run (l : List Int) (es : List S45) (he : es.length ≤ 300) : ∀ (m x : Nat), x + m = es.length → (∀ j, j < x → oddE l.length (es.map pr) j = false) → ∀ k, trefoilref04_Plain.l1 (k + FL m x) (x : Int) l es = some (if oddEs l.length (es.map pr) = true then 42 else 0) := by
  intro m
  induction m with
  | zero =>
    intro x hx hno k
    have h := oddEs_no (n := l.length) (es := es.map pr) (fun j hj => hno j (by rw [List.length_map] at hj; omega))
    rw [show k + FL 0 x = k + 1 from rfl, trefoilref04_Plain.l1, if_neg (by omega), h, if_neg (by simp)]
  | succ m ihm =>
    intro x hx hno k
    have hxl : x < es.length := by omega
    have e : wrap64 ((x : Int) + 1) = ((x + 1 : Nat) : Int) := by rw [wrap_small (by omega)]; omega
    have hg : (es.map pr).getD x (0, 0) = pr es[x] := by simp [List.getD_eq_getElem?_getD, hxl]
    have hodd : oddE l.length (es.map pr) x = (!thereB l.length es[x].f0 || (!thereB l.length es[x].f1 || (decide (es[x].f0 = es[x].f1) || ((es.map pr).take x).contains (es[x].f0, es[x].f1)))) := by
      unfold oddE; rw [hg]; rfl
    have h42 : oddE l.length (es.map pr) x = true → (some (if oddEs l.length (es.map pr) = true then (42 : Int) else 0)) = some 42 := fun h => by
      rw [if_pos (oddEs_yes (by rw [List.length_map]; exact hxl) h)]
    rw [show k + FL (m + 1) x = (k + FL m (x + 1) + x + 1 + 1) + 1 by show k + (FL m (x + 1) + x + 3) = _; omega, trefoilref04_Plain.l1, if_pos (by omega), if_pos (by omega), rd_at es x hxl, node_f, Option.bind_some]
    cases h1 : thereB l.length es[x].f0 with
    | false =>
      rw [if_neg (by simp), trefoilref04_Plain.j3, if_pos rfl, h42 (by rw [hodd, h1]; rfl)]
    | true =>
      rw [if_pos rfl, node_f, Option.bind_some]
      cases h2 : thereB l.length es[x].f1 with
      | false => rw [if_neg (by simp), trefoilref04_Plain.j3, if_pos rfl, h42 (by rw [hodd, h1, h2]; rfl)]
      | true =>
        rw [if_pos rfl, trefoilref04_Plain.j3]
        by_cases h3 : es[x].f0 = es[x].f1
        · rw [if_pos (by rw [beq_iff_eq]; exact h3), h42 (by rw [hodd, h1, h2, decide_eq_true h3]; rfl)]
        · rw [if_neg (by rw [beq_iff_eq]; exact h3)]
          have hl2 := l2_run l es es[x].f0 es[x].f1 x (by omega) he x 0 (by omega) (fun j _ hj => absurd hj (by omega)) (k + FL m (x + 1))
          rw [show ((0 : Nat) : Int) = 0 from rfl] at hl2
          rw [hl2]
          cases h4 : ((es.map pr).take x).contains (es[x].f0, es[x].f1) with
          | true => rw [if_pos rfl, h42 (by rw [hodd, h1, h2, decide_eq_false h3, h4]; rfl)]
          | false =>
            rw [if_neg (by simp), e]
            exact ihm (x + 1) (by omega) (fun j hj => by
              by_cases ej : j = x
              · subst ej; rw [hodd, h1, h2, decide_eq_false h3, h4]; rfl
              · exact hno j (by omega)) k
theorem l0_run (l : List Int) (es : List S45) (hl : l.length ≤ 70) : ∀ (m x : Nat), x + m = l.length → (∀ j, j < x → oddW (l.getD j 0) = false) → ∀ k, trefoilref04_Plain.l0 (k + m + 1) (x : Int) l es = if l.any oddW = true then some 41 else trefoilref04_Plain.l1 k 0 l es := by
  intro m
  induction m with
  | zero =>
    intro x hx hno k
    rw [show k + 0 + 1 = k + 1 by omega, trefoilref04_Plain.l0, if_neg (by omega), if_neg]
    rw [List.any_eq_true]
    rintro ⟨w, hw, ho⟩
    obtain ⟨j, hj, rfl⟩ := List.getElem_of_mem hw
    have := hno j (by omega)
    rw [List.getD_eq_getElem?_getD, List.getElem?_eq_getElem hj] at this
    simp only [Option.getD_some] at this
    rw [this] at ho
    cases ho
  | succ m ihm =>
    intro x hx hno k
    have hxl : x < l.length := by omega
    have e : wrap64 ((x : Int) + 1) = ((x + 1 : Nat) : Int) := by rw [wrap_small (by omega)]; omega
    have hr : rd l (x : Int) = l.getD x 0 := by unfold rd; simp
    have hmem : l.getD x 0 ∈ l := getD_mem l x hxl
    have hany : oddW (l.getD x 0) = true → l.any oddW = true := fun h => List.any_eq_true.2 ⟨_, hmem, h⟩
    rw [show k + (m + 1) + 1 = (k + m + 1) + 1 by omega, trefoilref04_Plain.l0, if_pos (by omega), if_pos (by omega), hr, e]
    by_cases h1 : l.getD x 0 < 0
    · rw [if_pos h1, if_pos (hany (by unfold oddW; rw [decide_eq_true h1]; rfl))]
    · rw [if_neg h1]
      by_cases h2 : l.getD x 0 > 1000
      · rw [if_pos h2, if_pos (hany (by unfold oddW; rw [decide_eq_true (show (1000 : Int) < l.getD x 0 from h2)]; simp))]
      · rw [if_neg h2]
        exact ihm (x + 1) (by omega) (fun j hj => by
          by_cases ej : j = x
          · subst ej; unfold oddW; rw [decide_eq_false h1, decide_eq_false (show ¬ (1000 : Int) < l.getD j 0 from h2)]; rfl
          · exact hno j (by omega)) k
def plainL (l : List Int) (es : List (Int × Int)) : Int := if 64 < l.length ∨ 256 < es.length then 40 else if l.any oddW = true then 41 else if oddEs l.length es = true then 42 else 0
theorem plain_f (l : List Int) (es : List S45) (hl : l.length ≤ 70) (he : es.length ≤ 300) : ∃ K, ∀ k, trefoilref04_Plain.f (k + K) l es = some (plainL l (es.map pr)) := by
  refine ⟨(FL es.length 0 + l.length + 1) + 1, fun k => ?_⟩
  rw [show k + ((FL es.length 0 + l.length + 1) + 1) = (k + FL es.length 0 + l.length + 1) + 1 by omega]
  unfold trefoilref04_Plain.f plainL
  by_cases h1 : (l.length : Int) > 64
  · rw [if_pos h1, trefoilref04_Plain.j0, if_pos rfl, if_pos (by omega)]
  · rw [if_neg h1]
    by_cases h2 : (es.length : Int) > 256
    · rw [decide_eq_true h2, trefoilref04_Plain.j0, if_pos rfl, if_pos (by rw [List.length_map]; omega)]
    · rw [decide_eq_false h2, trefoilref04_Plain.j0, if_neg (by simp), if_neg (by rw [List.length_map]; omega)]
      have h0 := l0_run l es hl l.length 0 (by omega) (fun j hj => absurd hj (by omega)) (k + FL es.length 0)
      rw [show ((0 : Nat) : Int) = 0 from rfl] at h0
      rw [h0]
      by_cases h3 : l.any oddW = true
      · rw [if_pos h3, if_pos h3]
      · rw [if_neg h3, if_neg h3]
        have h4 := l1_run l es he es.length 0 (by omega) (fun j hj => absurd hj (by omega)) k
        exact h4
theorem rdB (out : List Bool) (v : Int) : rdOf false out v = out.getD v.toNat false := rfl
theorem rl1_run (l : List Int) (es : List S45) (a i : Int) (he : es.length ≤ 300) (n : Nat) (hin : ∀ e ∈ es.map pr, (0 ≤ e.1 ∧ e.1 < n) ∧ 0 ≤ e.2 ∧ e.2 < n) : ∀ (m x : Nat) (out : List Bool), x + m = es.length → out.length = n → ∀ k, trefoilref04_Reach.l1 (k + m + 1) a out i (x : Int) l es = trefoilref04_Reach.l0 k a (((es.map pr).drop x).foldl (stepR a) out) (wrap64 (i + 1)) l es := by
  intro m
  induction m with
  | zero =>
    intro x out hx ho k
    rw [show k + 0 + 1 = k + 1 by omega, trefoilref04_Reach.l1, if_neg (by omega), List.drop_of_length_le (by rw [List.length_map]; omega)]
    rfl
  | succ m ihm =>
    intro x out hx ho k
    have hxl : x < es.length := by omega
    have e : wrap64 ((x : Int) + 1) = ((x + 1 : Nat) : Int) := by rw [wrap_small (by omega)]; omega
    have hmem : pr es[x] ∈ es.map pr := List.mem_map.2 ⟨_, List.getElem_mem hxl, rfl⟩
    have hft := hin _ hmem
    have hf : 0 ≤ es[x].f0 ∧ es[x].f0 < n := hft.1
    have ht : 0 ≤ es[x].f1 ∧ es[x].f1 < n := hft.2
    have hd : (es.map pr).drop x = pr es[x] :: (es.map pr).drop (x + 1) := by
      rw [List.drop_eq_getElem_cons (by rw [List.length_map]; exact hxl)]; simp
    have ih := fun out' ho' => ihm (x + 1) out' (by omega) ho' k
    rw [show k + (m + 1) + 1 = (k + m + 1) + 1 by omega, trefoilref04_Reach.l1, if_pos (by omega), if_pos (by omega), rd_at es x hxl, hd, List.foldl_cons, e]
    have hset : (out.set es[x].f1.toNat true).length = n := by rw [List.length_set]; exact ho
    by_cases h1 : es[x].f0 = a
    · rw [if_pos h1, if_pos ht.1, if_pos (by rw [ho]; exact ht.2), ih _ hset]
      have hs : stepR a out (pr es[x]) = out.set es[x].f1.toNat true := by unfold stepR; rw [if_pos (.inl h1)]; rfl
      rw [hs]
    · rw [if_neg h1, if_pos hf.1, if_pos (by rw [ho]; exact hf.2), rdB]
      by_cases h2 : out.getD es[x].f0.toNat false = true
      · rw [if_pos h2, if_pos ht.1, if_pos (by rw [ho]; exact ht.2), ih _ hset]
        have hs : stepR a out (pr es[x]) = out.set es[x].f1.toNat true := by unfold stepR; rw [if_pos (.inr h2)]; rfl
        rw [hs]
      · rw [if_neg h2, ih _ ho]
        have hs : stepR a out (pr es[x]) = out := by
          unfold stepR
          rw [if_neg]
          rintro (h | h)
          · exact h1 h
          · exact h2 h
        rw [hs]
def RF (m : Nat) : Nat → Nat
  | 0 => 1
  | d + 1 => RF m d + m + 1 + 1
theorem rl0_run (l : List Int) (es : List S45) (a : Int) (hl : l.length ≤ 70) (he : es.length ≤ 300) (hin : ∀ e ∈ es.map pr, (0 ≤ e.1 ∧ e.1 < l.length) ∧ 0 ≤ e.2 ∧ e.2 < l.length) : ∀ (d x : Nat) (out : List Bool), x + d = l.length → out.length = l.length → ∀ k, trefoilref04_Reach.l0 (k + RF es.length d) a out (x : Int) l es = some (rounds a (es.map pr) d out) := by
  intro d
  induction d with
  | zero =>
    intro x out hx ho k
    rw [show k + RF es.length 0 = k + 1 from rfl, trefoilref04_Reach.l0, if_neg (by omega)]
    rfl
  | succ d ihd =>
    intro x out hx ho k
    have e : wrap64 ((x : Int) + 1) = ((x + 1 : Nat) : Int) := by rw [wrap_small (by omega)]; omega
    have h1 := rl1_run l es a (x : Int) he l.length hin es.length 0 out (by omega) ho (k + RF es.length d)
    rw [show ((0 : Nat) : Int) = 0 from rfl, List.drop_zero, e] at h1
    rw [show k + RF es.length (d + 1) = (k + RF es.length d + es.length + 1) + 1 by show k + (RF es.length d + es.length + 1 + 1) = _; omega, trefoilref04_Reach.l0, if_pos (by omega), h1]
    exact ihd (x + 1) _ (by omega) (by rw [foldR_len]; exact ho) k
theorem reach_f (l : List Int) (es : List S45) (a : Int) (hl : l.length ≤ 70) (he : es.length ≤ 300) (hin : ∀ e ∈ es.map pr, (0 ≤ e.1 ∧ e.1 < l.length) ∧ 0 ≤ e.2 ∧ e.2 < l.length) (k : Nat) : trefoilref04_Reach.f (k + RF es.length l.length) l es a = some (reachL l.length (es.map pr) a) := by
  unfold trefoilref04_Reach.f
  have h := rl0_run l es a hl he hin l.length 0 (List.replicate l.length false) (by omega) (by simp) k
  rw [if_pos (by omega), if_pos (by omega)]
  exact h
theorem cl0_run (l : List Int) (es : List S45) (hl : l.length ≤ 70) (he : es.length ≤ 300) (hin : ∀ e ∈ es.map pr, (0 ≤ e.1 ∧ e.1 < l.length) ∧ 0 ≤ e.2 ∧ e.2 < l.length) (z : Int)
    (h43 : ∀ v : Nat, v < l.length → Path (es.map pr) (v : Int) (v : Int) → z = 43) (h0 : (∀ v : Nat, v < l.length → ¬ Path (es.map pr) (v : Int) (v : Int)) → z = 0) :
    ∀ (m x : Nat), x + m = l.length → (∀ j : Nat, j < x → ¬ Path (es.map pr) (j : Int) (j : Int)) → ∀ k, trefoilref04_Check.l0 (k + RF es.length l.length + m + 1) (x : Int) l es = some z := by
  intro m
  induction m with
  | zero =>
    intro x hx hno k
    rw [show k + RF es.length l.length + 0 + 1 = (k + RF es.length l.length) + 1 by omega, trefoilref04_Check.l0, if_neg (by omega), h0 (fun v hv => hno v (by omega))]
  | succ m ihm =>
    intro x hx hno k
    have hxl : x < l.length := by omega
    have e : wrap64 ((x : Int) + 1) = ((x + 1 : Nat) : Int) := by rw [wrap_small (by omega)]; omega
    have hlen : (reachL l.length (es.map pr) (x : Int)).length = l.length := by unfold reachL; rw [rounds_len]; simp
    have hr := reach_f l es (x : Int) hl he hin (k + m + 1)
    rw [show k + m + 1 + RF es.length l.length = k + RF es.length l.length + m + 1 by omega] at hr
    rw [show k + RF es.length l.length + (m + 1) + 1 = (k + RF es.length l.length + m + 1) + 1 by omega, trefoilref04_Check.l0, if_pos (by omega), hr, Option.bind_some, if_pos (by omega), if_pos (by rw [hlen]; omega), rdB, e]
    have hiff := reach_iff hin (a := (x : Int)) (x : Int) (by omega)
    by_cases hp : Path (es.map pr) (x : Int) (x : Int)
    · rw [if_pos (hiff.2 hp), h43 x hxl hp]
    · rw [if_neg (fun h => hp (hiff.1 h))]
      exact ihm (x + 1) (by omega) (fun j hj => by
        by_cases ej : j = x
        · subst ej; exact hp
        · exact hno j (by omega)) k
theorem path_range {es : List (Int × Int)} {n : Nat} (hin : ∀ e ∈ es, (0 ≤ e.1 ∧ e.1 < n) ∧ 0 ≤ e.2 ∧ e.2 < n) {a b : Int} (h : Path es a b) : 0 ≤ b ∧ b < n := by
  obtain ⟨p, he, _⟩ := h.last
  exact (hin _ he).2
theorem refcheck_f (l : List Int) (es : List S45) (hl : l.length ≤ 70) (he : es.length ≤ 300) : ∃ K, ∀ k, trefoilref04_Check.f (k + K) l es = some (checkL l (es.map pr)) := by
  obtain ⟨K, hK⟩ := plain_f l es hl he
  refine ⟨K + RF es.length l.length + l.length + 1, fun k => ?_⟩
  have h1 := hK (k + RF es.length l.length + l.length + 1)
  rw [show k + RF es.length l.length + l.length + 1 + K = k + (K + RF es.length l.length + l.length + 1) by omega] at h1
  unfold trefoilref04_Check.f
  rw [h1, Option.bind_some]
  unfold plainL
  by_cases g1 : 64 < l.length ∨ 256 < (es.map pr).length
  · rw [if_pos g1, if_neg (by decide)]; unfold checkL; rw [if_pos g1]
  · rw [if_neg g1]
    by_cases g2 : l.any oddW = true
    · rw [if_pos g2, if_neg (by decide)]; unfold checkL; rw [if_neg g1, if_pos g2]
    · rw [if_neg g2]
      by_cases g3 : oddEs l.length (es.map pr) = true
      · rw [if_pos g3, if_neg (by decide)]; unfold checkL; rw [if_neg g1, if_neg g2, if_pos g3]
      · rw [if_neg g3, if_pos rfl]
        have hin := oddEs_in (n := l.length) (es := es.map pr) (by simpa using g3)
        have hc : checkL l (es.map pr) = if (orderL l.length (es.map pr)).isSome = true then 0 else 43 := by unfold checkL; rw [if_neg g1, if_neg g2, if_neg g3]
        have hrun := cl0_run l es hl he hin (checkL l (es.map pr)) (fun v hv hp => by
          by_cases hs : (orderL l.length (es.map pr)).isSome = true
          · exact absurd hp (no_round (by rw [hc, if_pos hs]) _)
          · rw [hc, if_neg hs]) (fun hno => by
          by_cases hs : (orderL l.length (es.map pr)).isSome = true
          · rw [hc, if_pos hs]
          · obtain ⟨v, hv⟩ := order_none hin (by simpa using hs)
            have hb := path_range hin hv
            exact absurd (show Path (es.map pr) ((v.toNat : Nat) : Int) ((v.toNat : Nat) : Int) by rw [show ((v.toNat : Nat) : Int) = v by omega]; exact hv) (hno v.toNat (by omega))) l.length 0 (by omega) (fun j hj => absurd hj (by omega)) (k + K)
        rw [show k + (K + RF es.length l.length + l.length + 1) = k + K + RF es.length l.length + l.length + 1 by omega]
        exact hrun
theorem mx_max (a b : Int) : mx a b = max a b := by unfold mx; split <;> omega
theorem lg2_run (F : List Int) (hF : F.length ≤ 70) : ∀ (m x : Nat), x + m = F.length → ∀ (acc : Int) (k : Nat), trefoilref04_Long.l2 (k + m + 1) F acc (x : Int) = some ((F.drop x).foldl max acc) := by
  intro m
  induction m with
  | zero =>
    intro x hx acc k
    rw [show k + 0 + 1 = k + 1 by omega, trefoilref04_Long.l2, if_neg (by omega), List.drop_eq_nil_of_le (by omega)]
    rfl
  | succ m ih =>
    intro x hx acc k
    have hxl : x < F.length := by omega
    have e : wrap64 ((x : Int) + 1) = ((x + 1 : Nat) : Int) := by rw [wrap_small (by omega)]; omega
    have hr : rd F (x : Int) = F[x] := by unfold rd; simp [List.getD_eq_getElem?_getD, hxl]
    rw [show k + (m + 1) + 1 = (k + m + 1) + 1 by omega, trefoilref04_Long.l2, if_pos (by omega), if_pos (by omega), e, ih (x + 1) (by omega), List.drop_eq_getElem_cons hxl, List.foldl_cons, mx_max, hr]
theorem total_run (l : List Int) (es : List S45) (hl : l.length ≤ 70) (hw : ∀ x ∈ l, 0 ≤ x ∧ x ≤ 1000) : ∀ (m x : Nat), x + m = l.length → ∀ (k : Nat), trefoilref04_Total.l0 (k + m + 1) ((l.take x).sum) (x : Int) l es = some l.sum := by
  have hs : ∀ x, x ≤ l.length → 0 ≤ (l.take x).sum ∧ (l.take x).sum ≤ 1000 * x := by
    intro x
    induction x with
    | zero => intro _; simp
    | succ x ih =>
      intro h
      obtain ⟨h1, h2⟩ := ih (by omega)
      have h3 := hw l[x] (List.getElem_mem (by omega))
      rw [List.take_succ_eq_append_getElem (by omega), List.sum_append, List.sum_singleton]
      omega
  intro m
  induction m with
  | zero =>
    intro x hx k
    rw [show k + 0 + 1 = k + 1 by omega, trefoilref04_Total.l0, if_neg (by omega), List.take_of_length_le (by omega)]
  | succ m ih =>
    intro x hx k
    have hxl : x < l.length := by omega
    have e : wrap64 ((x : Int) + 1) = ((x + 1 : Nat) : Int) := by rw [wrap_small (by omega)]; omega
    have hr : rd l (x : Int) = l[x] := by unfold rd; simp [List.getD_eq_getElem?_getD, hxl]
    have h4 := hs (x + 1) (by omega)
    have h5 : (l.take (x + 1)).sum = (l.take x).sum + l[x] := by rw [List.take_succ_eq_append_getElem hxl, List.sum_append, List.sum_singleton]
    have e2 : wrap64 ((l.take x).sum + l[x]) = (l.take (x + 1)).sum := by rw [← h5]; unfold wrap64; omega
    rw [show k + (m + 1) + 1 = (k + m + 1) + 1 by omega, trefoilref04_Total.l0, if_pos (by omega), if_pos (by omega), hr, e2, e, ih (x + 1) (by omega)]
theorem oddN_t {v : Int} (h : v < 1 ∨ 1000 < v) : oddN v = true := by
  unfold oddN
  rcases h with h | h
  · rw [decide_eq_true h]; rfl
  · rw [decide_eq_true h]; simp
theorem oddN_f {v : Int} (h : 1 ≤ v ∧ v ≤ 1000) : oddN v = false := by
  unfold oddN
  rw [decide_eq_false (by omega), decide_eq_false (by omega)]; rfl
theorem works_in {l : List Int} (h : l.any oddW = false) : ∀ x ∈ l, 0 ≤ x ∧ x ≤ 1000 := fun x hx => by
  have := List.any_eq_false.1 h x hx
  unfold oddW at this
  simp at this
  omega
theorem form_run (l : List Int) (es : List S45) (need : List Int) (c : Int) (hn : need.length ≤ 70) : ∀ (m x : Nat), x + m = need.length → (∀ j, j < x → oddN (need.getD j 0) = false) → ∀ k, trefoilref10_Form.l0 (k + m + 1) need c (x : Int) l es = some (rightB l need c) := by
  intro m
  induction m with
  | zero =>
    intro x hx hj k
    have ha : need.any oddN = false := by
      rw [List.any_eq_false]
      intro y hy
      obtain ⟨j, hj2, rfl⟩ := List.mem_iff_getElem.1 hy
      have := hj j (by omega)
      rw [List.getD_eq_getElem?_getD, List.getElem?_eq_getElem hj2] at this
      simpa using this
    rw [show k + 0 + 1 = k + 1 by omega, trefoilref10_Form.l0, if_neg (by omega)]
    unfold rightB
    rw [ha]
    by_cases h1 : need.length = l.length
    · by_cases h2 : c ≥ 1
      · rw [if_pos (by omega), if_pos h2, decide_eq_true h1, decide_eq_true (show (1 : Int) ≤ c from h2)]; rfl
      · rw [if_pos (by omega), if_neg h2, decide_eq_false (show ¬ (1 : Int) ≤ c by omega)]; simp
    · rw [if_neg (by omega), decide_eq_false h1]; rfl
  | succ m ih =>
    intro x hx hj k
    have hxl : x < need.length := by omega
    have e : wrap64 ((x : Int) + 1) = ((x + 1 : Nat) : Int) := by rw [wrap_small (by omega)]; omega
    have hr : rd need (x : Int) = need.getD x 0 := by unfold rd; simp
    have hodd : oddN (need.getD x 0) = true → rightB l need c = false := by
      intro h
      have : need.any oddN = true := List.any_eq_true.2 ⟨need.getD x 0, by rw [List.getD_eq_getElem?_getD, List.getElem?_eq_getElem hxl]; exact List.getElem_mem hxl, h⟩
      unfold rightB; rw [this]; simp
    rw [show k + (m + 1) + 1 = (k + m + 1) + 1 by omega, trefoilref10_Form.l0, if_pos (by omega), if_pos (by omega), hr]
    by_cases h1 : need.getD x 0 < 1
    · rw [if_pos h1, hodd (oddN_t (by omega))]
    · by_cases h2 : need.getD x 0 > 1000
      · rw [if_neg h1, if_pos h2, hodd (oddN_t (by omega))]
      · rw [if_neg h1, if_neg h2, e]
        refine ih (x + 1) (by omega) (fun j hj2 => ?_) k
        by_cases h3 : j = x
        · subst h3; exact oddN_f (by omega)
        · exact hj j (by omega)
theorem ev_of {α : Type} {g : Nat → Option α} {r : α} {K : Nat} (h : ∀ k, g (k + K) = some r) : Ev g r := ⟨K, fun k hk => by
  have := h (k - K)
  rw [show k - K + K = k by omega] at this
  exact this⟩
theorem ev_add {α : Type} {g : Nat → Option α} {r : α} (h : ∃ K, ∀ k, g (k + K) = some r) : Ev g r := by
  obtain ⟨K, h⟩ := h
  exact ev_of h
theorem refcheck_ev (l : List Int) (es : List S45) (hl : l.length ≤ 70) (he : es.length ≤ 300) : Ev (fun k => trefoilref04_Check.f k l es) (checkL l (es.map pr)) := ev_add (refcheck_f l es hl he)
theorem form_ev (l : List Int) (es : List S45) (need : List Int) (c : Int) (hn : need.length ≤ 70) : Ev (fun k => trefoilref10_Form.f k l es need c) (rightB l need c) :=
  ev_of (K := need.length + 1) (fun k => form_run l es need c hn need.length 0 (by omega) (fun j hj => absurd hj (by omega)) k)
theorem total_ev (l : List Int) (es : List S45) (hl : l.length ≤ 70) (hw : ∀ x ∈ l, 0 ≤ x ∧ x ≤ 1000) : Ev (fun k => trefoilref04_Total.f k l es) l.sum :=
  ev_of (K := l.length + 1) (fun k => total_run l es hl hw l.length 0 (by omega) k)
theorem far_small {l : List Int} {es : List (Int × Int)} (hz : checkL l es = 0) (v : Nat) : (farL l es).getD v 0 ≤ 64000 := by
  by_cases hv : v < l.length
  · have h := (far_at hz (v : Int) (by omega)).2
    have := (bound_in hz).2.2
    rw [Int.toNat_natCast] at h
    omega
  · rw [far_out hz v (by omega)]; omega
theorem lg1_ev (l : List Int) (es : List S45) (hz : checkL l (es.map pr) = 0) (i : Int) (he : es.length ≤ 300) {r : Int} : ∀ (m x : Nat) (F : List Int), x + m = es.length → F.length = l.length → (∀ v : Nat, 0 ≤ F.getD v 0 ∧ F.getD v 0 ≤ (farL l (es.map pr)).getD v 0) →
    Ev (fun k => trefoilref04_Long.l0 k (((es.map pr).drop x).foldl (relE l) F) (wrap64 (i + 1)) l es) r → Ev (fun k => trefoilref04_Long.l1 k F i (x : Int) l es) r := by
  obtain ⟨y1, y2, y3, y4, y5⟩ := ordL_yes hz
  have hin := oddEs_in y3
  intro m
  induction m with
  | zero =>
    intro x F hx hF hb h
    refine Ev.step (fun k => ?_) h
    rw [trefoilref04_Long.l1, if_neg (by omega), List.drop_of_length_le (by rw [List.length_map]; omega)]
    rfl
  | succ m ihm =>
    intro x F hx hF hb h
    have hxl : x < es.length := by omega
    have e : wrap64 ((x : Int) + 1) = ((x + 1 : Nat) : Int) := by rw [wrap_small (by omega)]; omega
    have hmem : pr es[x] ∈ es.map pr := List.mem_map.2 ⟨_, List.getElem_mem hxl, rfl⟩
    have hft := hin _ hmem
    have hf : 0 ≤ es[x].f0 ∧ es[x].f0 < l.length := hft.1
    have ht : 0 ≤ es[x].f1 ∧ es[x].f1 < l.length := hft.2
    have hd : (es.map pr).drop x = pr es[x] :: (es.map pr).drop (x + 1) := by
      rw [List.drop_eq_getElem_cons (by rw [List.length_map]; exact hxl)]; simp
    rw [hd, List.foldl_cons] at h
    have hb1 := hb es[x].f0.toNat
    have hb2 := hb es[x].f1.toNat
    have hs1 := far_small hz es[x].f0.toNat
    have hlw : 0 ≤ l.getD es[x].f1.toNat 0 ∧ l.getD es[x].f1.toNat 0 ≤ 1000 := works_in y4 _ (getD_mem l _ (by omega))
    have hw : wrap64 (F.getD es[x].f0.toNat 0 + l.getD es[x].f1.toNat 0) = F.getD es[x].f0.toNat 0 + l.getD es[x].f1.toNat 0 := by unfold wrap64; omega
    have hg : (farL l (es.map pr)).getD es[x].f0.toNat 0 + l.getD es[x].f1.toNat 0 ≤ (farL l (es.map pr)).getD es[x].f1.toNat 0 := by
      obtain ⟨⟨q, m1, m2, m3, -⟩, -⟩ := far_at hz es[x].f1 ht
      have := m3 es[x].f0 (mem_predL.2 hmem)
      omega
    have hb' : ∀ v : Nat, 0 ≤ (relE l F (pr es[x])).getD v 0 ∧ (relE l F (pr es[x])).getD v 0 ≤ (farL l (es.map pr)).getD v 0 := fun v =>
      ⟨Int.le_trans (hb v).1 (relE_mono l F _ v), relF_le l (farL l (es.map pr)) 0 [pr es[x]] F (fun y hy => by rw [List.mem_singleton] at hy; subst hy; exact hg) (fun v => (hb v).2) v⟩
    refine Ev.step (f := fun k => trefoilref04_Long.l1 k (relE l F (pr es[x])) i ((x + 1 : Nat) : Int) l es) (fun k => ?_) (ihm (x + 1) _ (by omega) (by rw [relE_len]; exact hF) hb' h)
    have r1 : rd F es[x].f0 = F.getD es[x].f0.toNat 0 := rfl
    have r2 : rd l es[x].f1 = l.getD es[x].f1.toNat 0 := rfl
    have r3 : rd F es[x].f1 = F.getD es[x].f1.toNat 0 := rfl
    rw [trefoilref04_Long.l1, if_pos (by omega), if_pos (by omega), rd_at es x hxl, if_pos hf.1, if_pos (by rw [hF]; exact hf.2), if_pos ht.1, if_pos ht.2, if_pos (by rw [hF]; exact ht.2), r1, r2, r3, hw, e]
    by_cases hc : F.getD es[x].f0.toNat 0 + l.getD es[x].f1.toNat 0 > F.getD es[x].f1.toNat 0
    · rw [if_pos hc, show relE l F (pr es[x]) = F.set es[x].f1.toNat (F.getD es[x].f0.toNat 0 + l.getD es[x].f1.toNat 0) from if_pos hc]
    · rw [if_neg hc, show relE l F (pr es[x]) = F from if_neg hc]
theorem lg0_ev (l : List Int) (es : List S45) (hz : checkL l (es.map pr) = 0) (hl : l.length ≤ 70) (he : es.length ≤ 300) : ∀ (d x : Nat), x + d = l.length → Ev (fun k => trefoilref04_Long.l0 k (relK l (es.map pr) x) (x : Int) l es) (longL l (es.map pr)) := by
  intro d
  induction d with
  | zero =>
    intro x hx
    obtain rfl : x = l.length := by omega
    have hlen := relK_len (l := l) (es := es.map pr) l.length
    refine Ev.step (f := fun k => trefoilref04_Long.l2 k (relK l (es.map pr) l.length) 0 0) (fun k => by rw [trefoilref04_Long.l0, if_neg (by omega)]) ?_
    rw [← rel_long hz]
    exact ev_of (K := (relK l (es.map pr) l.length).length + 1) (fun k => lg2_run _ (by omega) _ 0 (by omega) 0 k)
  | succ d ihd =>
    intro x hx
    have e : wrap64 ((x : Int) + 1) = ((x + 1 : Nat) : Int) := by rw [wrap_small (by omega)]; omega
    refine Ev.step (f := fun k => trefoilref04_Long.l1 k (relK l (es.map pr) x) (x : Int) ((0 : Nat) : Int) l es) (fun k => by rw [trefoilref04_Long.l0, if_pos (by omega)]; rfl) ?_
    refine lg1_ev l es hz (x : Int) he es.length 0 _ (by omega) (relK_len x) (fun v => ⟨?_, relK_le hz x v⟩) ?_
    · refine Int.le_trans ?_ (relK_mono v x)
      obtain ⟨y1, y2, y3, y4, y5⟩ := ordL_yes hz
      by_cases hv : v < l.length
      · exact (works_in y4 _ (getD_mem l v hv)).1
      · rw [List.getD_eq_getElem?_getD, List.getElem?_eq_none (by omega)]; exact Int.le_refl _
    · rw [e]
      exact ihd (x + 1) (by omega)
theorem long_ev (l : List Int) (es : List S45) (hz : checkL l (es.map pr) = 0) (hl : l.length ≤ 70) (he : es.length ≤ 300) : Ev (fun k => trefoilref04_Long.f k l es) (longL l (es.map pr)) := by
  refine Ev.congr (fun k => ?_) (lg0_ev l es hz hl he l.length 0 (by omega))
  unfold trefoilref04_Long.f
  rw [Option.bind_some, if_pos (by rw [List.length_nil]; omega)]
  rfl
theorem bl_ev (need : List Int) (es : List S45) (c : Int) (hc : 1 ≤ c ∧ c ≤ 8) (hz : checkL need (es.map pr) = 0) (hn : need.length ≤ 70) (he : es.length ≤ 300) :
    ∀ (d : Nat) (i : Int), i + d = c → 1 ≤ i → Ev (fun k => trefoilref10_Bound.l0 k c (totL need (es.map pr) + (i - 1) * longL need (es.map pr)) i need es) ((totL need (es.map pr) + (c - 1) * longL need (es.map pr)) / c) := by
  obtain ⟨⟨t1, t2⟩, g1, g2⟩ := bound_in hz
  intro d
  induction d with
  | zero =>
    intro i hi h1
    obtain rfl : i = c := by omega
    have hb := bound_div (tt := totL need (es.map pr)) (m := (i - 1) * longL need (es.map pr)) (cores := i) ⟨t1, t2⟩ ⟨Int.mul_nonneg (by omega) g1, Int.mul_le_mul (by omega) g2 g1 (by omega)⟩ hc
    refine Ev.step (fun k => ?_) (Ev.now _)
    rw [trefoilref10_Bound.l0, if_neg (by omega), if_neg (by omega), hb.1]
    exact congrArg some ((i64_w _).symm.trans hb.2)
  | succ d ih =>
    intro i hi h1
    have e : wrap64 (i + 1) = i + 1 := by unfold wrap64; omega
    have hm : (i - 1) * longL need (es.map pr) + longL need (es.map pr) = (i + 1 - 1) * longL need (es.map pr) := by rw [show i + 1 - 1 = (i - 1) + 1 by omega, Int.add_mul, Int.one_mul]
    have hm0 : 0 ≤ (i - 1) * longL need (es.map pr) := Int.mul_nonneg (by omega) g1
    have hm1 : (i - 1) * longL need (es.map pr) ≤ 7 * 64000 := Int.mul_le_mul (by omega) g2 g1 (by omega)
    have ew : wrap64 (totL need (es.map pr) + (i - 1) * longL need (es.map pr) + longL need (es.map pr)) = totL need (es.map pr) + (i + 1 - 1) * longL need (es.map pr) := by
      rw [← hm]
      generalize (i - 1) * longL need (es.map pr) = q at *
      unfold wrap64; omega
    refine Ev.step (fun k => by rw [trefoilref10_Bound.l0, if_pos (by omega)]) (Ev.bind (long_ev need es hz hn he) ?_)
    simp only [ew, e]
    exact ih (i + 1) (by omega) (by omega)
theorem right_c {l need : List Int} {c : Int} (h : rightB l need c = true) : (1 ≤ c ∧ c ≤ 8) ∧ ∀ x ∈ need, 0 ≤ x ∧ x ≤ 1000 := by
  unfold rightB at h
  simp only [Bool.and_eq_true, decide_eq_true_eq, Bool.not_eq_true', List.any_eq_false] at h
  refine ⟨⟨h.1.2, h.2⟩, fun x hx => ?_⟩
  have := h.1.1.2 x hx
  unfold oddN at this
  simp at this
  omega
theorem bound_ev (l : List Int) (es : List S45) (need : List Int) (c : Int) (hl : l.length ≤ 70) (he : es.length ≤ 300) (hn : need.length ≤ 70) : Ev (fun k => trefoilref10_Bound.f k l es need c) (boundL l (es.map pr) need c) := by
  unfold trefoilref10_Bound.f
  refine Ev.bind (refcheck_ev l es hl he) ?_
  by_cases hz : checkL l (es.map pr) = 0
  · simp only [if_pos hz]
    refine Ev.bind (form_ev l es need c hn) ?_
    cases hr : rightB l need c with
    | false =>
      refine Ev.step (fun k => by rw [trefoilref10_Bound.j0, if_pos (by rfl)]) ?_
      have : boundL l (es.map pr) need c = 0 := by unfold boundL rightR; rw [hr]; simp
      rw [this]
      exact Ev.now _
    | true =>
      obtain ⟨hc, hw⟩ := right_c hr
      have hzn := check_need hz hr
      have ht : totL need (es.map pr) = need.sum := by unfold totL; rw [if_pos hzn]
      have hb : boundL l (es.map pr) need c = (totL need (es.map pr) + (c - 1) * longL need (es.map pr)) / c := by unfold boundL rightR; rw [hr, hz]; rfl
      refine Ev.step (fun k => by rw [trefoilref10_Bound.j0, if_neg (by simp)]) (Ev.bind (total_ev need es hn hw) ?_)
      rw [hb]
      have h := bl_ev need es c hc hzn hn he (c - 1).toNat 1 (by omega) (by omega)
      rw [show (1 : Int) - 1 = 0 by omega, Int.zero_mul, Int.add_zero, ht] at h
      rw [ht]
      exact h
  · simp only [if_neg hz]
    refine Ev.step (fun k => by rw [trefoilref10_Bound.j0, if_pos rfl]) ?_
    have : boundL l (es.map pr) need c = 0 := by unfold boundL rightR; simp [hz]
    rw [this]
    exact Ev.now _
theorem wrap_up {x : Nat} (h : x ≤ 1000000) : wrap64 ((x : Int) + 1) = ((x + 1 : Nat) : Int) := by unfold wrap64; omega
def fewB (need : List Int) (ts : List (List Int)) : Bool := (ts.take 121).all (fun r => decide (r.length ≤ 12)) && decide (need.length ≤ 70) && decide (ts.length ≤ 120)
theorem few_in {need : List Int} {ts : List (List Int)} (h : fewB need ts = true) : need.length ≤ 70 ∧ ts.length ≤ 120 ∧ ∀ r ∈ ts, r.length ≤ 12 := by
  unfold fewB at h
  simp only [Bool.and_eq_true, decide_eq_true_eq, List.all_eq_true] at h
  refine ⟨h.1.2, h.2, fun r hr => ?_⟩
  have := h.1.1 r (by rw [List.take_of_length_le (by omega)]; exact hr)
  exact this
theorem few_run (need : List Int) (ts : List (List Int)) : ∀ (m x : Nat), x + m = min ts.length 121 → ∀ k, trefoilref10_Few.l0 (k + (2 * m + 2)) need ts (x : Int) = some (((ts.take 121).drop x).all (fun r => decide (r.length ≤ 12)) && decide (need.length ≤ 70) && decide (ts.length ≤ 120))
  | 0, x, h, k => by
    have hd : (ts.take 121).drop x = [] := List.drop_eq_nil_of_le (by rw [List.length_take]; omega)
    have hj : trefoilref10_Few.j1 (k + 1) need ts (x : Int) false = some (decide (need.length ≤ 70) && decide (ts.length ≤ 120)) := by
      rw [trefoilref10_Few.j1, if_neg (by simp)]
      by_cases h70 : need.length ≤ 70
      · rw [if_pos (by omega), decide_eq_true h70, Bool.true_and, show decide ((ts.length : Int) ≤ 120) = decide (ts.length ≤ 120) from decide_eq_decide.2 (by omega)]
      · rw [if_neg (by omega), decide_eq_false h70]; rfl
    rw [hd, show k + (2 * 0 + 2) = (k + 1) + 1 by omega, trefoilref10_Few.l0]
    by_cases hx : (x : Int) < ts.length
    · rw [if_pos hx, decide_eq_false (by omega), hj]; simp
    · rw [if_neg hx, hj]; simp
  | m + 1, x, h, k => by
    have hx : x < ts.length := by omega
    have hx2 : x < (ts.take 121).length := by rw [List.length_take]; omega
    have e : rd_L2 ts (x : Int) = ts.getD x [] := rfl
    have hd : (ts.take 121).drop x = ts.getD x [] :: (ts.take 121).drop (x + 1) := by
      rw [List.drop_eq_getElem_cons hx2, List.getElem_take, List.getD_eq_getElem?_getD, List.getElem?_eq_getElem hx]; rfl
    rw [show k + (2 * (m + 1) + 2) = (k + (2 * m + 2)) + 1 + 1 by omega, trefoilref10_Few.l0, if_pos (by omega), decide_eq_true (by omega), trefoilref10_Few.j1, if_pos rfl, if_pos (by omega), if_pos (by omega), e, hd, List.all_cons]
    by_cases h12 : (ts.getD x []).length ≤ 12
    · rw [if_neg (by omega), wrap_up (by omega), few_run need ts m (x + 1) (by omega) k, decide_eq_true h12, Bool.true_and]
    · rw [if_pos (by omega), decide_eq_false h12]; simp
theorem few10_ev (need : List Int) (ts : List (List Int)) : Ev (fun k => trefoilref10_Few.f k need ts) (fewB need ts) :=
  ev_of (K := 2 * min ts.length 121 + 2) (fun k => few_run need ts _ 0 (by omega) k)
theorem own_run (ts : List (List Int)) (hm : ts.length ≤ 5000) (hr : ∀ r ∈ ts, r.length ≤ 100000) : ∀ (m x : Nat), x + m = ts.length → ∀ k, trefoillaw10_Own.l0 (k + (m + 1)) ts (ts.take x) (x : Int) = some ts
  | 0, x, h, k => by
    rw [show k + (0 + 1) = k + 1 by omega, trefoillaw10_Own.l0, if_neg (by omega), List.take_of_length_le (by omega)]
  | m + 1, x, h, k => by
    have hx : x < ts.length := by omega
    have hl := hr _ (mem_getDL hx)
    have e : rd_L2 ts (x : Int) = ts.getD x [] := rfl
    have hn : ts.take (x + 1) = ts.take x ++ [ts.getD x []] := by rw [List.take_add_one, List.getD_eq_getElem?_getD, List.getElem?_eq_getElem hx]; rfl
    rw [show k + (m + 1 + 1) = (k + (m + 1)) + 1 by omega, trefoillaw10_Own.l0, if_pos (by omega), Option.bind_some, if_pos (by omega), e, List.nil_append, if_pos (by rw [List.length_nil]; omega), if_pos (by rw [List.length_take]; omega), wrap_up (by omega), ← hn]
    exact own_run ts hm hr m (x + 1) (by omega) k
theorem ownT_ev (ts : List (List Int)) (hm : ts.length ≤ 5000) (hr : ∀ r ∈ ts, r.length ≤ 100000) : Ev (fun k => trefoillaw10_Own.f k ts) ts :=
  ev_of (K := ts.length + 1) (fun k => own_run ts hm hr ts.length 0 (by omega) k)
theorem ints_f (l : List Int) (hl : l.length ≤ 1000) : trefoillaw10_ints.f l = some l := by
  unfold trefoillaw10_ints.f
  simp only [Option.bind_some, List.length_nil, List.nil_append]
  rw [if_pos (by omega)]
theorem awake_f : trefoillaw10_awake.f = some true := rfl
theorem law1_ev (l : List Int) (es : List S45) (need : List Int) (c : Int) (ts : List (List Int)) (ht : ts.length ≤ 120) (hr : ∀ r ∈ ts, r.length ≤ 12) (x : Nat) (hx : x < ts.length) {r : Bool}
    (h : Ev (fun k => trefoillaw10_SchedBounds.l0 k need c ts (busyL (ts.take (x + 1))) ((x + 1 : Nat) : Int) l es) r) :
    ∀ (m y : Nat), y + m = (ts.getD x []).length → Ev (fun k => trefoillaw10_SchedBounds.l1 k need c ts (busyL (ts.take x) + busyRow ((ts.getD x []).take y)) (x : Int) (y : Int) l es) r := by
  have hrl := hr _ (mem_getDL hx)
  have e : rd_L2 ts (x : Int) = ts.getD x [] := rfl
  have hb1 := busyL_le ts (fun r h => by have := hr r h; omega) x
  intro m
  induction m with
  | zero =>
    intro y hy
    have hb : busyL (ts.take x) + busyRow ((ts.getD x []).take y) = busyL (ts.take (x + 1)) := by rw [busyL_next ts x hx, List.take_of_length_le (l := ts.getD x []) (by omega)]
    refine Ev.step (fun k => ?_) h
    rw [trefoillaw10_SchedBounds.l1, if_pos (by omega), if_pos (by omega), e, if_neg (by omega), hb, wrap_up (by omega)]
  | succ m ih =>
    intro y hy
    have hyl : y < (ts.getD x []).length := by omega
    have hn := busyRow_next (ts.getD x []) y hyl
    have hb2 := busyRow_le ((ts.getD x []).take y)
    rw [List.length_take] at hb2
    refine Ev.step (fun k => ?_) (ih (y + 1) (by omega))
    have r1 : rd (ts.getD x []) (y : Int) = (ts.getD x []).getD y 0 := rfl
    rw [trefoillaw10_SchedBounds.l1, if_pos (by omega), if_pos (by omega), e, if_pos (by omega), if_pos (by omega), r1, wrap_up (by omega), hn]
    by_cases hc : (ts.getD x []).getD y 0 = -1
    · rw [if_pos hc, if_pos hc, Int.add_zero]
    · rw [if_neg hc, if_neg hc, show wrap64 (busyL (ts.take x) + busyRow ((ts.getD x []).take y) + 1) = busyL (ts.take x) + (busyRow ((ts.getD x []).take y) + 1) by unfold wrap64; omega]
theorem law0_ev (l : List Int) (es : List S45) (need : List Int) (c : Int) (ts : List (List Int)) (hl : l.length ≤ 70) (he : es.length ≤ 300) (hn : need.length ≤ 70) (ht : ts.length ≤ 120) (hr : ∀ r ∈ ts, r.length ≤ 12) :
    ∀ (m x : Nat), x + m = ts.length → Ev (fun k => trefoillaw10_SchedBounds.l0 k need c ts (busyL (ts.take x)) (x : Int) l es) true := by
  intro m
  induction m with
  | zero =>
    intro x hx
    refine Ev.step (f := fun k => (trefoilref10_Bound.f k l es need c).bind fun t343 => (if boundL l (es.map pr) need c = t343 then ((trefoillaw10_Own.f k ts).bind fun t344 => ((sched_Busy.f t344).bind fun t347 => (some (t347 == busyL ts)))) else (some false))) (fun k => ?_) (Ev.bind (bound_ev l es need c hl he hn) ?_)
    · have hbf : sched_Bound.f l es need c = some (boundL l (es.map pr) need c) := by unfold sched_Bound.f; rw [if_pos ⟨⟨by omega, by omega⟩, by omega⟩]; rfl
      rw [trefoillaw10_SchedBounds.l0, if_neg (by omega), own_f l es (by omega) (by omega), Option.bind_some, ints_f need (by omega), Option.bind_some, hbf, Option.bind_some, List.take_of_length_le (l := ts) (i := x) (by omega)]
    · simp only [if_true]
      refine Ev.bind (ownT_ev ts (by omega) (fun r h => by have := hr r h; omega)) ?_
      have hbu : sched_Busy.f ts = some (busyL ts) := by unfold sched_Busy.f; rw [if_pos ⟨by omega, fun r h => by have := hr r h; omega⟩]
      simp only [hbu, Option.bind_some, beq_self_eq_true]
      exact Ev.now _
  | succ m ih =>
    intro x hx
    refine Ev.step (f := fun k => trefoillaw10_SchedBounds.l1 k need c ts (busyL (ts.take x) + busyRow ((ts.getD x []).take 0)) (x : Int) ((0 : Nat) : Int) l es) (fun k => ?_) (law1_ev l es need c ts ht hr x (by omega) (ih (x + 1) (by omega)) (ts.getD x []).length 0 (by omega))
    rw [trefoillaw10_SchedBounds.l0, if_pos (by omega), List.take_zero, show busyRow [] = 0 from rfl, Int.add_zero]
    rfl
theorem run (l : List Int) (es : List S45) (need : List Int) (c : Int) (ts : List (List Int)) : ∃ k, trefoillaw10_SchedBounds.f k l es need c ts = some true := by
  refine Ev.rounds ?_
  unfold trefoillaw10_SchedBounds.f
  rw [awake_f]
  simp only [Option.bind_some, if_true]
  rw [few_f]
  simp only [Option.bind_some]
  have hj : Ev (fun k => trefoillaw10_SchedBounds.j0 k need c ts true l es) true := Ev.step (f := fun _ => some true) (fun k => by rw [trefoillaw10_SchedBounds.j0, if_pos rfl, awake_f, Option.bind_some]) (Ev.now _)
  by_cases hf : l.length ≤ 70 ∧ es.length ≤ 300
  · simp only [decide_eq_true hf, if_true]
    refine Ev.bind (few10_ev need ts) ?_
    cases hf2 : fewB need ts with
    | false => exact hj
    | true =>
      obtain ⟨h1, h2, h3⟩ := few_in hf2
      refine Ev.step (f := fun k => trefoillaw10_SchedBounds.l0 k need c ts (busyL (ts.take 0)) ((0 : Nat) : Int) l es) (fun k => by rw [trefoillaw10_SchedBounds.j0, if_neg (by simp)]; rfl) ?_
      exact law0_ev l es need c ts hf.1 hf.2 h1 h2 h3 ts.length 0 (by omega)
  · simp only [decide_eq_false hf]
    exact hj
theorem edges_C {w : World} {B : Option Addr} {es : List (Int × Int)} (h : EdC w B es) (hm : es.length ≤ maxLen) : Kd.C k45 w B es.length (es.map fun e => ⟨e.1, e.2⟩) := by
  refine ⟨by simp, by unfold maxLen at hm; omega, fun h0 => ?_⟩
  obtain ⟨ad, rfl, hc⟩ := h h0
  refine ⟨ad, rfl, fun j p hp => ?_⟩
  have hj : j < es.length := by
    rcases Nat.lt_or_ge j es.length with h | h
    · exact h
    · rw [List.getElem?_eq_none (by simpa using h)] at hp; cases hp
  rw [List.getElem?_map, List.getElem?_eq_getElem hj] at hp
  simp only [Option.map_some, Option.some.injEq] at hp
  subst hp
  have hd : es.getD j (0, 0) = es[j] := by rw [List.getD_eq_getElem?_getD, List.getElem?_eq_getElem hj]; rfl
  obtain ⟨h1, h2⟩ := hc j hj
  rw [hd] at h1 h2
  refine ⟨[.int .i64 es[j].1, .int .i64 es[j].2], rfl, k45_mk w ⟨es[j].1, es[j].2⟩, fun i u hi => ?_⟩
  match i, hi with
  | 0, hi => simp at hi; subst hi; exact h1
  | 1, hi => simp at hi; subst hi; exact h2
theorem tr_C {w : World} {T : Option Addr} {ts : List (List Int)} (h : TrR w T ts) (hm : ts.length ≤ maxLen) : Kd.C (Kd.slice 3 (Kd.int .i64)) w T ts.length ts := by
  refine ⟨rfl, hm, fun h0 => ?_⟩
  obtain ⟨ad, rfl, hc⟩ := h h0
  refine ⟨ad, rfl, fun j p hp => ?_⟩
  have hj : j < ts.length := (List.getElem?_eq_some_iff.1 hp).1
  have hd : ts.getD j [] = p := by rw [List.getD_eq_getElem?_getD, hp]; rfl
  obtain ⟨A, c, h1, h2, h3⟩ := hc j hj
  rw [hd] at h1 h2 h3
  refine ⟨[.slice A p.length c], rfl, ⟨A, c, rfl, h2, Kd.C_of_reads (d := (0 : Int)) (h1 := fun _ => rfl) h3⟩, fun i u hi => ?_⟩
  match i, hi with
  | 0, hi => simp at hi; subst hi; rw [show j * (Kd.slice 3 (Kd.int .i64)).sz + 0 = j from by show j * 1 + 0 = j; omega]; exact h1
theorem walk (A : Option Addr) (c : Nat) (l : List Int) (B : Option Addr) (d : Nat) (es : List (Int × Int)) (D : Option Addr) (dc : Nat) (need : List Int) (cores : Int) (T : Option Addr) (tc : Nat) (ts : List (List Int)) (w : World) (h0 : DagIn w A c l B d es) (h1 : NeedIn w D dc need) (hcw : (Lit.int .i64 cores).wf = true) (h2 : TrIn w T tc ts) :
    Calls Try.prog 4 #[.agg #[.slice A l.length c, .slice B es.length d], .slice D need.length dc, .int .i64 cores, .slice T ts.length tc] w fun e w' => e = .returned (.bool true) ∧ Below w.heap.size w w' := by
  obtain ⟨k, hk⟩ := run l (es.map fun e => ⟨e.1, e.2⟩) need cores ts
  have := trefoillaw10_SchedBounds.calls k A c l B d (es.map fun e => ⟨e.1, e.2⟩) D dc need cores T tc ts true w (Kd.C_of_reads (d := (0 : Int)) (h1 := fun _ => rfl) h0.2.1) h0.1 (by rw [List.length_map]; exact edges_C h0.2.2.2.2.2.1 h0.2.2.2.2.1) (by rw [List.length_map]; exact h0.2.2.2.1) (Kd.C_of_reads (d := (0 : Int)) (h1 := fun _ => rfl) h1.2.1) h1.1 (tr_C h2.2.2.1 h2.2.1) h2.1 hk rfl
  rw [List.length_map] at this
  exact this
end Go.Proofs.Ytnnbgfjokbaepaa.PSchedBounds
