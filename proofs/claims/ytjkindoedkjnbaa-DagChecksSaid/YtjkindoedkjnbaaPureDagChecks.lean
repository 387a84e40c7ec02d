/- The law DagChecks comes to true. Plain Lean over the printed function. -/
import Derived.Test.YtjkindoedkjnbaaDagFacts
import Derived.Test.YtjkindoedkjnbaaDagOpen
import Derived.Test.YtjkindoedkjnbaaPDagChecksx13
import Derived.Test.YtjkindoedkjnbaaDagReach
import Derived.Test.YtjkindoedkjnbaaDagEq
set_option linter.unusedVariables false
set_option linter.unusedSimpArgs false
namespace Go.Proofs.Ytjkindoedkjnbaa.PDagChecks
open Go.RowKit Go.Proofs.YtjkindoedkjnbaaW.PrintWords
open Go.Proofs.Ytjkindoedkjnbaa DagPlain

def pr (x : S40) : Int × Int := (x.f0, x.f1)
theorem wrap_small {x : Int} (h : 0 ≤ x ∧ x ≤ 1000) : wrap64 x = x := by unfold wrap64; omega
theorem rd_at (es : List S40) (x : Nat) (h : x < es.length) : rd_T40 es (x : Int) = es[x] := by unfold rd_T40; simp [List.getD_eq_getElem?_getD, h]
theorem own_f (l : List Int) (es : List S40) (hl : l.length ≤ 1000) (he : es.length ≤ 1000) : trefoillaw04_Own.f l es = some (l, es) := by
  unfold trefoillaw04_Own.f
  simp only [Option.bind_some, List.length_nil, List.nil_append]
  rw [if_pos (by omega), if_pos (by omega)]
theorem few_f (l : List Int) (es : List S40) : trefoillaw04_Few.f l es = some (decide (l.length ≤ 70 ∧ es.length ≤ 300)) := by
  unfold trefoillaw04_Few.f
  split
  · rw [Option.some.injEq]
    exact decide_eq_decide.2 (by omega)
  · rw [Option.some.injEq]
    exact (decide_eq_false (by omega)).symm
theorem awake_f : trefoillaw04_awake.f = some true := rfl
theorem check_f (l : List Int) (es : List S40) (hl : l.length ≤ 1000) (he : es.length ≤ 1000) : dag_Check.f l es = some (checkL l (es.map pr)) := by unfold dag_Check.f; rw [if_pos ⟨hl, he⟩]; rfl

theorem node_f (l : List Int) (es : List S40) (a : Int) : trefoilref04_node.f l es a = some (thereB l.length a) := by
  unfold trefoilref04_node.f thereB
  by_cases h : a ≥ 0
  · rw [if_pos h, decide_eq_true (show (0 : Int) ≤ a from h), Bool.true_and]
  · rw [if_neg h, decide_eq_false (show ¬ (0 : Int) ≤ a by omega), Bool.false_and]
theorem pr_take (es : List S40) (x : Nat) (p : Int × Int) : (((es.map pr).take x).contains p) = true ↔ ∃ j, ∃ h : j < es.length, j < x ∧ pr es[j] = p := by
  rw [List.contains_iff_mem, List.mem_iff_getElem]
  constructor
  · rintro ⟨j, hj, e⟩
    have hj1 : j < min x es.length := by simpa using hj
    have hj2 : j < x ∧ j < es.length := by omega
    exact ⟨j, hj2.2, hj2.1, by simpa using e⟩
  · rintro ⟨j, hj, hx, e⟩
    exact ⟨j, by simp; omega, by simpa using e⟩
theorem l2_run (l : List Int) (es : List S40) (f t : Int) (y : Nat) (hy : y ≤ es.length) (he : es.length ≤ 300) : ∀ (m x : Nat), x + m = y → (∀ j, ∀ h : j < es.length, j < x → pr es[j] ≠ (f, t)) → ∀ k, trefoilref04_Plain.l2 (k + m + 1) (y : Int) (x : Int) l es f t = if (((es.map pr).take y).contains (f, t)) = true then some 42 else trefoilref04_Plain.l1 k (wrap64 ((y : Int) + 1)) l es := by
  intro m
  induction m with
  | zero =>
    intro x hx hno k
    rw [show k + 0 + 1 = k + 1 by omega, trefoilref04_Plain.l2, if_neg (by omega), if_neg]
    rw [pr_take]
    rintro ⟨j, h, hj, e⟩
    exact hno j h (by omega) e
  | succ m ihm =>
    intro x hx hno k
    have hxl : x < es.length := by omega
    have e : wrap64 ((x : Int) + 1) = ((x + 1 : Nat) : Int) := by rw [wrap_small (by omega)]; omega
    rw [show k + (m + 1) + 1 = (k + m + 1) + 1 by omega, trefoilref04_Plain.l2, if_pos (by omega), if_pos (by omega), if_pos (by omega), rd_at es x hxl, e]
    by_cases h : pr es[x] = (f, t)
    · have h1 : es[x].f0 = f := congrArg Prod.fst h
      have h2 : es[x].f1 = t := congrArg Prod.snd h
      rw [h1, h2, if_pos (by simp), if_pos ((pr_take es y (f, t)).2 ⟨x, hxl, by omega, h⟩)]
    · rw [if_neg]
      · exact ihm (x + 1) (by omega) (fun j hj hjx => by
          by_cases ej : j = x
          · subst ej; exact h
          · exact hno j hj (by omega)) k
      · intro hc
        rw [Bool.and_eq_true, beq_iff_eq, beq_iff_eq] at hc
        exact h (by unfold pr; rw [hc.1, hc.2])
def FL : Nat → Nat → Nat
  | 0, _ => 1
  | m + 1, x => FL m (x + 1) + x + 3
theorem l1_run (l : List Int) (es : List S40) (he : es.length ≤ 300) : ∀ (m x : Nat), x + m = es.length → (∀ j, j < x → oddE l.length (es.map pr) j = false) → ∀ k, trefoilref04_Plain.l1 (k + FL m x) (x : Int) l es = some (if oddEs l.length (es.map pr) = true then 42 else 0) := by
  intro m
  induction m with
  | zero =>
    intro x hx hno k
    have h := oddEs_no (n := l.length) (es := es.map pr) (fun j hj => hno j (by rw [List.length_map] at hj; omega))
    rw [show k + FL 0 x = k + 1 from rfl, trefoilref04_Plain.l1, if_neg (by omega), h, if_neg (by simp)]
  | succ m ihm =>
    intro x hx hno k
    have hxl : x < es.length := by omega
    have e : wrap64 ((x : Int) + 1) = ((x + 1 : Nat) : Int) := by rw [wrap_small (by omega)]; omega
    have hg : (es.map pr).getD x (0, 0) = pr es[x] := by simp [List.getD_eq_getElem?_getD, hxl]
    have hodd : oddE l.length (es.map pr) x = (!thereB l.length es[x].f0 || (!thereB l.length es[x].f1 || (decide (es[x].f0 = es[x].f1) || ((es.map pr).take x).contains (es[x].f0, es[x].f1)))) := by
      unfold oddE; rw [hg]; rfl
    have h42 : oddE l.length (es.map pr) x = true → (some (if oddEs l.length (es.map pr) = true then (42 : Int) else 0)) = some 42 := fun h => by
      rw [if_pos (oddEs_yes (by rw [List.length_map]; exact hxl) h)]
    rw [show k + FL (m + 1) x = (k + FL m (x + 1) + x + 1 + 1) + 1 by show k + (FL m (x + 1) + x + 3) = _; omega, trefoilref04_Plain.l1, if_pos (by omega), if_pos (by omega), rd_at es x hxl, node_f, Option.bind_some]
    cases h1 : thereB l.length es[x].f0 with
    | false =>
      rw [if_neg (by simp), trefoilref04_Plain.j3, if_pos rfl, h42 (by rw [hodd, h1]; rfl)]
    | true =>
      rw [if_pos rfl, node_f, Option.bind_some]
      cases h2 : thereB l.length es[x].f1 with
      | false => rw [if_neg (by simp), trefoilref04_Plain.j3, if_pos rfl, h42 (by rw [hodd, h1, h2]; rfl)]
      | true =>
        rw [if_pos rfl, trefoilref04_Plain.j3]
        by_cases h3 : es[x].f0 = es[x].f1
        · rw [if_pos (by rw [beq_iff_eq]; exact h3), h42 (by rw [hodd, h1, h2, decide_eq_true h3]; rfl)]
        · rw [if_neg (by rw [beq_iff_eq]; exact h3)]
          have hl2 := l2_run l es es[x].f0 es[x].f1 x (by omega) he x 0 (by omega) (fun j _ hj => absurd hj (by omega)) (k + FL m (x + 1))
          rw [show ((0 : Nat) : Int) = 0 from rfl] at hl2
          rw [hl2]
          cases h4 : ((es.map pr).take x).contains (es[x].f0, es[x].f1) with
          | true => rw [if_pos rfl, h42 (by rw [hodd, h1, h2, decide_eq_false h3, h4]; rfl)]
          | false =>
            rw [if_neg (by simp), e]
            exact ihm (x + 1) (by omega) (fun j hj => by
              by_cases ej : j = x
              · subst ej; rw [hodd, h1, h2, decide_eq_false h3, h4]; rfl
              · exact hno j (by omega)) k
theorem l0_run (l : List Int) (es : List S40) (hl : l.length ≤ 70) : ∀ (m x : Nat), x + m = l.length → (∀ j, j < x → oddW (l.getD j 0) = false) → ∀ k, trefoilref04_Plain.l0 (k + m + 1) (x : Int) l es = if l.any oddW = true then some 41 else trefoilref04_Plain.l1 k 0 l es := by
  intro m
  induction m with
  | zero =>
    intro x hx hno k
    rw [show k + 0 + 1 = k + 1 by omega, trefoilref04_Plain.l0, if_neg (by omega), if_neg]
    rw [List.any_eq_true]
    rintro ⟨w, hw, ho⟩
    obtain ⟨j, hj, rfl⟩ := List.getElem_of_mem hw
    have := hno j (by omega)
    rw [List.getD_eq_getElem?_getD, List.getElem?_eq_getElem hj] at this
    simp only [Option.getD_some] at this
    rw [this] at ho
    cases ho
  | succ m ihm =>
    intro x hx hno k
    have hxl : x < l.length := by omega
    have e : wrap64 ((x : Int) + 1) = ((x + 1 : Nat) : Int) := by rw [wrap_small (by omega)]; omega
    have hr : rd l (x : Int) = l.getD x 0 := by unfold rd; simp
    have hmem : l.getD x 0 ∈ l := getD_mem l x hxl
    have hany : oddW (l.getD x 0) = true → l.any oddW = true := fun h => List.any_eq_true.2 ⟨_, hmem, h⟩
    rw [show k + (m + 1) + 1 = (k + m + 1) + 1 by omega, trefoilref04_Plain.l0, if_pos (by omega), if_pos (by omega), hr, e]
    by_cases h1 : l.getD x 0 < 0
    · rw [if_pos h1, if_pos (hany (by unfold oddW; rw [decide_eq_true h1]; rfl))]
    · rw [if_neg h1]
      by_cases h2 : l.getD x 0 > 1000
      · rw [if_pos h2, if_pos (hany (by unfold oddW; rw [decide_eq_true (show (1000 : Int) < l.getD x 0 from h2)]; simp))]
      · rw [if_neg h2]
        exact ihm (x + 1) (by omega) (fun j hj => by
          by_cases ej : j = x
          · subst ej; unfold oddW; rw [decide_eq_false h1, decide_eq_false (show ¬ (1000 : Int) < l.getD j 0 from h2)]; rfl
          · exact hno j (by omega)) k
def plainL (l : List Int) (es : List (Int × Int)) : Int := if 64 < l.length ∨ 256 < es.length then 40 else if l.any oddW = true then 41 else if oddEs l.length es = true then 42 else 0
theorem plain_f (l : List Int) (es : List S40) (hl : l.length ≤ 70) (he : es.length ≤ 300) : ∃ K, ∀ k, trefoilref04_Plain.f (k + K) l es = some (plainL l (es.map pr)) := by
  refine ⟨(FL es.length 0 + l.length + 1) + 1, fun k => ?_⟩
  rw [show k + ((FL es.length 0 + l.length + 1) + 1) = (k + FL es.length 0 + l.length + 1) + 1 by omega]
  unfold trefoilref04_Plain.f plainL
  by_cases h1 : (l.length : Int) > 64
  · rw [if_pos h1, trefoilref04_Plain.j0, if_pos rfl, if_pos (by omega)]
  · rw [if_neg h1]
    by_cases h2 : (es.length : Int) > 256
    · rw [decide_eq_true h2, trefoilref04_Plain.j0, if_pos rfl, if_pos (by rw [List.length_map]; omega)]
    · rw [decide_eq_false h2, trefoilref04_Plain.j0, if_neg (by simp), if_neg (by rw [List.length_map]; omega)]
      have h0 := l0_run l es hl l.length 0 (by omega) (fun j hj => absurd hj (by omega)) (k + FL es.length 0)
      rw [show ((0 : Nat) : Int) = 0 from rfl] at h0
      rw [h0]
      by_cases h3 : l.any oddW = true
      · rw [if_pos h3, if_pos h3]
      · rw [if_neg h3, if_neg h3]
        have h4 := l1_run l es he es.length 0 (by omega) (fun j hj => absurd hj (by omega)) k
        exact h4
theorem rdB (out : List Bool) (v : Int) : rdOf false out v = out.getD v.toNat false := rfl
theorem rl1_run (l : List Int) (es : List S40) (a i : Int) (he : es.length ≤ 300) (n : Nat) (hin : ∀ e ∈ es.map pr, (0 ≤ e.1 ∧ e.1 < n) ∧ 0 ≤ e.2 ∧ e.2 < n) : ∀ (m x : Nat) (out : List Bool), x + m = es.length → out.length = n → ∀ k, trefoilref04_Reach.l1 (k + m + 1) a out i (x : Int) l es = trefoilref04_Reach.l0 k a (((es.map pr).drop x).foldl (stepR a) out) (wrap64 (i + 1)) l es := by
  intro m
  induction m with
  | zero =>
    intro x out hx ho k
    rw [show k + 0 + 1 = k + 1 by omega, trefoilref04_Reach.l1, if_neg (by omega), List.drop_of_length_le (by rw [List.length_map]; omega)]
    rfl
  | succ m ihm =>
    intro x out hx ho k
    have hxl : x < es.length := by omega
    have e : wrap64 ((x : Int) + 1) = ((x + 1 : Nat) : Int) := by rw [wrap_small (by omega)]; omega
    have hmem : pr es[x] ∈ es.map pr := List.mem_map.2 ⟨_, List.getElem_mem hxl, rfl⟩
    have hft := hin _ hmem
    have hf : 0 ≤ es[x].f0 ∧ es[x].f0 < n := hft.1
    have ht : 0 ≤ es[x].f1 ∧ es[x].f1 < n := hft.2
    have hd : (es.map pr).drop x = pr es[x] :: (es.map pr).drop (x + 1) := by
      rw [List.drop_eq_getElem_cons (by rw [List.length_map]; exact hxl)]; simp
    have ih := fun out' ho' => ihm (x + 1) out' (by omega) ho' k
    rw [show k + (m + 1) + 1 = (k + m + 1) + 1 by omega, trefoilref04_Reach.l1, if_pos (by omega), if_pos (by omega), rd_at es x hxl, hd, List.foldl_cons, e]
    have hset : (out.set es[x].f1.toNat true).length = n := by rw [List.length_set]; exact ho
    by_cases h1 : es[x].f0 = a
    · rw [if_pos h1, if_pos ht.1, if_pos (by rw [ho]; exact ht.2), ih _ hset]
      have hs : stepR a out (pr es[x]) = out.set es[x].f1.toNat true := by unfold stepR; rw [if_pos (.inl h1)]; rfl
      rw [hs]
    · rw [if_neg h1, if_pos hf.1, if_pos (by rw [ho]; exact hf.2), rdB]
      by_cases h2 : out.getD es[x].f0.toNat false = true
      · rw [if_pos h2, if_pos ht.1, if_pos (by rw [ho]; exact ht.2), ih _ hset]
        have hs : stepR a out (pr es[x]) = out.set es[x].f1.toNat true := by unfold stepR; rw [if_pos (.inr h2)]; rfl
        rw [hs]
      · rw [if_neg h2, ih _ ho]
        have hs : stepR a out (pr es[x]) = out := by
          unfold stepR
          rw [if_neg]
          rintro (h | h)
          · exact h1 h
          · exact h2 h
        rw [hs]
def RF (m : Nat) : Nat → Nat
  | 0 => 1
  | d + 1 => RF m d + m + 1 + 1
theorem rl0_run (l : List Int) (es : List S40) (a : Int) (hl : l.length ≤ 70) (he : es.length ≤ 300) (hin : ∀ e ∈ es.map pr, (0 ≤ e.1 ∧ e.1 < l.length) ∧ 0 ≤ e.2 ∧ e.2 < l.length) : ∀ (d x : Nat) (out : List Bool), x + d = l.length → out.length = l.length → ∀ k, trefoilref04_Reach.l0 (k + RF es.length d) a out (x : Int) l es = some (rounds a (es.map pr) d out) := by
  intro d
  induction d with
  | zero =>
    intro x out hx ho k
    rw [show k + RF es.length 0 = k + 1 from rfl, trefoilref04_Reach.l0, if_neg (by omega)]
    rfl
  | succ d ihd =>
    intro x out hx ho k
    have e : wrap64 ((x : Int) + 1) = ((x + 1 : Nat) : Int) := by rw [wrap_small (by omega)]; omega
    have h1 := rl1_run l es a (x : Int) he l.length hin es.length 0 out (by omega) ho (k + RF es.length d)
    rw [show ((0 : Nat) : Int) = 0 from rfl, List.drop_zero, e] at h1
    rw [show k + RF es.length (d + 1) = (k + RF es.length d + es.length + 1) + 1 by show k + (RF es.length d + es.length + 1 + 1) = _; omega, trefoilref04_Reach.l0, if_pos (by omega), h1]
    exact ihd (x + 1) _ (by omega) (by rw [foldR_len]; exact ho) k
theorem reach_f (l : List Int) (es : List S40) (a : Int) (hl : l.length ≤ 70) (he : es.length ≤ 300) (hin : ∀ e ∈ es.map pr, (0 ≤ e.1 ∧ e.1 < l.length) ∧ 0 ≤ e.2 ∧ e.2 < l.length) (k : Nat) : trefoilref04_Reach.f (k + RF es.length l.length) l es a = some (reachL l.length (es.map pr) a) := by
  unfold trefoilref04_Reach.f
  have h := rl0_run l es a hl he hin l.length 0 (List.replicate l.length false) (by omega) (by simp) k
  rw [if_pos (by omega), if_pos (by omega)]
  exact h
theorem cl0_run (l : List Int) (es : List S40) (hl : l.length ≤ 70) (he : es.length ≤ 300) (hin : ∀ e ∈ es.map pr, (0 ≤ e.1 ∧ e.1 < l.length) ∧ 0 ≤ e.2 ∧ e.2 < l.length) (z : Int)
    (h43 : ∀ v : Nat, v < l.length → Path (es.map pr) (v : Int) (v : Int) → z = 43) (h0 : (∀ v : Nat, v < l.length → ¬ Path (es.map pr) (v : Int) (v : Int)) → z = 0) :
    ∀ (m x : Nat), x + m = l.length → (∀ j : Nat, j < x → ¬ Path (es.map pr) (j : Int) (j : Int)) → ∀ k, trefoilref04_Check.l0 (k + RF es.length l.length + m + 1) (x : Int) l es = some z := by
  intro m
  induction m with
  | zero =>
    intro x hx hno k
    rw [show k + RF es.length l.length + 0 + 1 = (k + RF es.length l.length) + 1 by omega, trefoilref04_Check.l0, if_neg (by omega), h0 (fun v hv => hno v (by omega))]
  | succ m ihm =>
    intro x hx hno k
    have hxl : x < l.length := by omega
    have e : wrap64 ((x : Int) + 1) = ((x + 1 : Nat) : Int) := by rw [wrap_small (by omega)]; omega
    have hlen : (reachL l.length (es.map pr) (x : Int)).length = l.length := by unfold reachL; rw [rounds_len]; simp
    have hr := reach_f l es (x : Int) hl he hin (k + m + 1)
    rw [show k + m + 1 + RF es.length l.length = k + RF es.length l.length + m + 1 by omega] at hr
    rw [show k + RF es.length l.length + (m + 1) + 1 = (k + RF es.length l.length + m + 1) + 1 by omega, trefoilref04_Check.l0, if_pos (by omega), hr, Option.bind_some, if_pos (by omega), if_pos (by rw [hlen]; omega), rdB, e]
    have hiff := reach_iff hin (a := (x : Int)) (x : Int) (by omega)
    by_cases hp : Path (es.map pr) (x : Int) (x : Int)
    · rw [if_pos (hiff.2 hp), h43 x hxl hp]
    · rw [if_neg (fun h => hp (hiff.1 h))]
      exact ihm (x + 1) (by omega) (fun j hj => by
        by_cases ej : j = x
        · subst ej; exact hp
        · exact hno j (by omega)) k
theorem path_range {es : List (Int × Int)} {n : Nat} (hin : ∀ e ∈ es, (0 ≤ e.1 ∧ e.1 < n) ∧ 0 ≤ e.2 ∧ e.2 < n) {a b : Int} (h : Path es a b) : 0 ≤ b ∧ b < n := by
  obtain ⟨p, he, _⟩ := h.last
  exact (hin _ he).2
theorem refcheck_f (l : List Int) (es : List S40) (hl : l.length ≤ 70) (he : es.length ≤ 300) : ∃ K, ∀ k, trefoilref04_Check.f (k + K) l es = some (checkL l (es.map pr)) := by
  obtain ⟨K, hK⟩ := plain_f l es hl he
  refine ⟨K + RF es.length l.length + l.length + 1, fun k => ?_⟩
  have h1 := hK (k + RF es.length l.length + l.length + 1)
  rw [show k + RF es.length l.length + l.length + 1 + K = k + (K + RF es.length l.length + l.length + 1) by omega] at h1
  unfold trefoilref04_Check.f
  rw [h1, Option.bind_some]
  unfold plainL
  by_cases g1 : 64 < l.length ∨ 256 < (es.map pr).length
  · rw [if_pos g1, if_neg (by decide)]; unfold checkL; rw [if_pos g1]
  · rw [if_neg g1]
    by_cases g2 : l.any oddW = true
    · rw [if_pos g2, if_neg (by decide)]; unfold checkL; rw [if_neg g1, if_pos g2]
    · rw [if_neg g2]
      by_cases g3 : oddEs l.length (es.map pr) = true
      · rw [if_pos g3, if_neg (by decide)]; unfold checkL; rw [if_neg g1, if_neg g2, if_pos g3]
      · rw [if_neg g3, if_pos rfl]
        have hin := oddEs_in (n := l.length) (es := es.map pr) (by simpa using g3)
        have hc : checkL l (es.map pr) = if (orderL l.length (es.map pr)).isSome = true then 0 else 43 := by unfold checkL; rw [if_neg g1, if_neg g2, if_neg g3]
        have hrun := cl0_run l es hl he hin (checkL l (es.map pr)) (fun v hv hp => by
          by_cases hs : (orderL l.length (es.map pr)).isSome = true
          · exact absurd hp (no_round (by rw [hc, if_pos hs]) _)
          · rw [hc, if_neg hs]) (fun hno => by
          by_cases hs : (orderL l.length (es.map pr)).isSome = true
          · rw [hc, if_pos hs]
          · obtain ⟨v, hv⟩ := order_none hin (by simpa using hs)
            have hb := path_range hin hv
            exact absurd (show Path (es.map pr) ((v.toNat : Nat) : Int) ((v.toNat : Nat) : Int) by rw [show ((v.toNat : Nat) : Int) = v by omega]; exact hv) (hno v.toNat (by omega))) l.length 0 (by omega) (fun j hj => absurd hj (by omega)) (k + K)
        rw [show k + (K + RF es.length l.length + l.length + 1) = k + K + RF es.length l.length + l.length + 1 by omega]
        exact hrun
theorem sl1_run (l l' : List Int) (es es' : List S40) (he : es.length ≤ 300) (hle : es.length = es'.length) : ∀ (m x : Nat), x + m = es.length → (∀ j, ∀ h : j < es.length, ∀ h' : j < es'.length, j < x → pr es[j] = pr es'[j]) → ∀ k, trefoilref04_Same.l1 (k + m + 1) (x : Int) l es l' es' = some (decide (es.map pr = es'.map pr)) := by
  intro m
  induction m with
  | zero =>
    intro x hx hno k
    have hq : es.map pr = es'.map pr := by
      apply List.ext_getElem (by simp [hle])
      intro j h1 h2
      rw [List.getElem_map, List.getElem_map]
      exact hno j (by simpa using h1) (by simpa using h2) (by rw [List.length_map] at h1; omega)
    rw [show k + 0 + 1 = k + 1 by omega, trefoilref04_Same.l1, if_neg (by omega), decide_eq_true hq]
  | succ m ihm =>
    intro x hx hno k
    have hxl : x < es.length := by omega
    have hxl' : x < es'.length := by omega
    have e : wrap64 ((x : Int) + 1) = ((x + 1 : Nat) : Int) := by rw [wrap_small (by omega)]; omega
    rw [show k + (m + 1) + 1 = (k + m + 1) + 1 by omega, trefoilref04_Same.l1, if_pos (by omega), if_pos (by omega), if_pos (by omega), rd_at es x hxl, rd_at es' x hxl', e]
    by_cases h : pr es[x] = pr es'[x]
    · have h1 : es[x].f0 = es'[x].f0 := congrArg Prod.fst h
      have h2 : es[x].f1 = es'[x].f1 := congrArg Prod.snd h
      rw [h1, h2, if_neg (by simp)]
      exact ihm (x + 1) (by omega) (fun j hj hj' hjx => by
        by_cases ej : j = x
        · subst ej; exact h
        · exact hno j hj hj' (by omega)) k
    · have hq : ¬ es.map pr = es'.map pr := by
        intro hq
        have h3 : (es.map pr)[x]? = (es'.map pr)[x]? := by rw [hq]
        rw [List.getElem?_map, List.getElem?_map, List.getElem?_eq_getElem hxl, List.getElem?_eq_getElem hxl'] at h3
        exact h (Option.some.inj h3)
      rw [if_pos, decide_eq_false hq]
      by_cases h1 : es[x].f0 = es'[x].f0
      · have h2 : ¬ es[x].f1 = es'[x].f1 := fun h2 => h (by unfold pr; rw [h1, h2])
        simp [h2]
      · simp [h1]
theorem sl0_run (l l' : List Int) (es es' : List S40) (hl : l.length ≤ 70) (hll : l.length = l'.length) : ∀ (m x : Nat), x + m = l.length → (∀ j, j < x → l.getD j 0 = l'.getD j 0) → ∀ k, trefoilref04_Same.l0 (k + m + 1) (x : Int) l es l' es' = if l = l' then trefoilref04_Same.l1 k 0 l es l' es' else some false := by
  intro m
  induction m with
  | zero =>
    intro x hx hno k
    rw [show k + 0 + 1 = k + 1 by omega, trefoilref04_Same.l0, if_neg (by omega), if_pos]
    exact list_eq_of hll (fun j hj => hno j (by omega))
  | succ m ihm =>
    intro x hx hno k
    have hxl : x < l.length := by omega
    have e : wrap64 ((x : Int) + 1) = ((x + 1 : Nat) : Int) := by rw [wrap_small (by omega)]; omega
    have hr : ∀ q : List Int, rd q (x : Int) = q.getD x 0 := fun q => by unfold rd; simp
    rw [show k + (m + 1) + 1 = (k + m + 1) + 1 by omega, trefoilref04_Same.l0, if_pos (by omega), if_pos (by omega), if_pos (by omega), hr, hr, e]
    by_cases h : l.getD x 0 = l'.getD x 0
    · rw [if_pos h]
      exact ihm (x + 1) (by omega) (fun j hj => by
        by_cases ej : j = x
        · subst ej; exact h
        · exact hno j (by omega)) k
    · rw [if_neg h, if_neg]
      rintro rfl
      exact h rfl
theorem refsame_f (l l' : List Int) (es es' : List S40) (hl : l.length ≤ 70) (he : es.length ≤ 300) : ∃ K, ∀ k, trefoilref04_Same.f (k + K) l es l' es' = some (decide (l = l' ∧ es.map pr = es'.map pr)) := by
  refine ⟨(es.length + 1 + l.length + 1) + 1, fun k => ?_⟩
  rw [show k + ((es.length + 1 + l.length + 1) + 1) = (k + es.length + 1 + l.length + 1) + 1 by omega]
  unfold trefoilref04_Same.f
  by_cases h1 : (l.length : Int) = (l'.length : Int)
  · rw [if_pos h1]
    by_cases h2 : (es.length : Int) = (es'.length : Int)
    · rw [show ((es.length : Int) != (es'.length : Int)) = false by rw [h2]; simp, trefoilref04_Same.j0, if_neg (by simp)]
      have h3 := sl0_run l l' es es' hl (by omega) l.length 0 (by omega) (fun j hj => absurd hj (by omega)) (k + es.length + 1)
      rw [show ((0 : Nat) : Int) = 0 from rfl] at h3
      rw [h3]
      by_cases h4 : l = l'
      · have h5 := sl1_run l l' es es' he (by omega) es.length 0 (by omega) (fun j _ _ hj => absurd hj (by omega)) k
        rw [show ((0 : Nat) : Int) = 0 from rfl] at h5
        rw [if_pos h4, h5]
        congr 1
        exact decide_eq_decide.2 ⟨fun h => ⟨h4, h⟩, fun h => h.2⟩
      · rw [if_neg h4, decide_eq_false (fun h => h4 h.1)]
    · rw [show ((es.length : Int) != (es'.length : Int)) = true from bne_iff_ne.2 h2, trefoilref04_Same.j0, if_pos rfl, decide_eq_false]
      rintro ⟨_, h⟩
      have := congrArg List.length h
      rw [List.length_map, List.length_map] at this
      exact h2 (by omega)
  · rw [if_neg h1, trefoilref04_Same.j0, if_pos rfl, decide_eq_false]
    rintro ⟨rfl, _⟩
    exact h1 rfl
theorem same_f (l l' : List Int) (es es' : List S40) (hl : l.length ≤ 1000) (he : es.length ≤ 1000) (hl' : l'.length ≤ 1000) (he' : es'.length ≤ 1000) : dag_Same.f l es l' es' = some (decide (l = l' ∧ es.map pr = es'.map pr)) := by unfold dag_Same.f; rw [if_pos ⟨⟨hl, he⟩, hl', he'⟩]; rfl
theorem j0_true (k : Nat) (l l' : List Int) (es es' : List S40) : trefoillaw04_DagChecks.j0 (k + 1) true l es l' es' = some true := by
  rw [trefoillaw04_DagChecks.j0, if_pos rfl, awake_f]; rfl
theorem pure_holds (l : List Int) (es : List S40) (l' : List Int) (es' : List S40) : ∃ k, trefoillaw04_DagChecks.f k l es l' es' = some true := by
  by_cases hf : l.length ≤ 70 ∧ es.length ≤ 300
  · have hfew : trefoillaw04_Few.f l es = some true := by rw [few_f]; simpa using hf
    by_cases hf' : l'.length ≤ 70 ∧ es'.length ≤ 300
    · have hfew' : trefoillaw04_Few.f l' es' = some true := by rw [few_f]; simpa using hf'
      obtain ⟨K1, h1⟩ := refcheck_f l es hf.1 hf.2
      obtain ⟨K2, h2⟩ := refsame_f l l' es es' hf.1 hf.2
      refine ⟨(K2 + K1) + 1, ?_⟩
      have g2 := h2 K1
      rw [Nat.add_comm K1 K2] at g2
      unfold trefoillaw04_DagChecks.f
      rw [awake_f, Option.bind_some, if_pos rfl, hfew, Option.bind_some, if_pos rfl, hfew', Option.bind_some, Bool.not_true, trefoillaw04_DagChecks.j0, if_neg (by simp), own_f l es (by omega) (by omega), Option.bind_some, check_f l es (by omega) (by omega), Option.bind_some, h1 K2, Option.bind_some, if_pos rfl, Option.bind_some, own_f l' es' (by omega) (by omega), Option.bind_some, same_f l l' es es' (by omega) (by omega) (by omega) (by omega), Option.bind_some, g2, Option.bind_some, beq_self_eq_true]
    · have hfew' : trefoillaw04_Few.f l' es' = some false := by rw [few_f]; simp only [decide_eq_false hf']
      refine ⟨1, ?_⟩
      unfold trefoillaw04_DagChecks.f
      rw [awake_f, Option.bind_some, if_pos rfl, hfew, Option.bind_some, if_pos rfl, hfew', Option.bind_some, Bool.not_false]
      exact j0_true 0 _ _ _ _
  · have hfew : trefoillaw04_Few.f l es = some false := by rw [few_f]; simp only [decide_eq_false hf]
    refine ⟨1, ?_⟩
    unfold trefoillaw04_DagChecks.f
    rw [awake_f, Option.bind_some, if_pos rfl, hfew, Option.bind_some, if_neg (by simp)]
    exact j0_true 0 _ _ _ _
/-- The graph as the printed contract reads it. -/
theorem edges_C {w : World} {B : Option Addr} {es : List (Int × Int)} (h : EdC w B es) (hm : es.length ≤ maxLen) : Kd.C k40 w B es.length (es.map fun e => ⟨e.1, e.2⟩) := by
  refine ⟨by simp, by unfold maxLen at hm; omega, fun h0 => ?_⟩
  obtain ⟨ad, rfl, hc⟩ := h h0
  refine ⟨ad, rfl, fun j p hp => ?_⟩
  have hj : j < es.length := by
    rcases Nat.lt_or_ge j es.length with h | h
    · exact h
    · rw [List.getElem?_eq_none (by simpa using h)] at hp; cases hp
  rw [List.getElem?_map, List.getElem?_eq_getElem hj] at hp
  simp only [Option.map_some, Option.some.injEq] at hp
  subst hp
  have hd : es.getD j (0, 0) = es[j] := by rw [List.getD_eq_getElem?_getD, List.getElem?_eq_getElem hj]; rfl
  obtain ⟨h1, h2⟩ := hc j hj
  rw [hd] at h1 h2
  refine ⟨[.int .i64 es[j].1, .int .i64 es[j].2], rfl, k40_mk w ⟨es[j].1, es[j].2⟩, fun i u hi => ?_⟩
  match i, hi with
  | 0, hi => simp at hi; subst hi; exact h1
  | 1, hi => simp at hi; subst hi; exact h2
theorem walk (A0 : Option Addr) (c0 : Nat) (l0 : List Int) (B0 : Option Addr) (d0 : Nat) (es0 : List (Int × Int)) (A1 : Option Addr) (c1 : Nat) (l1 : List Int) (B1 : Option Addr) (d1 : Nat) (es1 : List (Int × Int)) (w : World) (h0 : DagIn w A0 c0 l0 B0 d0 es0) (h1 : DagIn w A1 c1 l1 B1 d1 es1) :
    Calls Try.prog 3 #[.agg #[.slice A0 l0.length c0, .slice B0 es0.length d0], .agg #[.slice A1 l1.length c1, .slice B1 es1.length d1]] w fun e w' => e = .returned (.bool true) ∧ Below w.heap.size w w' := by
  obtain ⟨k, hk⟩ := pure_holds l0 (es0.map fun e => ⟨e.1, e.2⟩) l1 (es1.map fun e => ⟨e.1, e.2⟩)
  have := trefoillaw04_DagChecks.calls k A0 c0 l0 B0 d0 (es0.map fun e => ⟨e.1, e.2⟩) A1 c1 l1 B1 d1 (es1.map fun e => ⟨e.1, e.2⟩) true w (Kd.C_of_reads (d := (0 : Int)) (h1 := fun _ => rfl) h0.2.1) h0.1 (by rw [List.length_map]; exact edges_C h0.2.2.2.2.2.1 h0.2.2.2.2.1) (by rw [List.length_map]; exact h0.2.2.2.1) (Kd.C_of_reads (d := (0 : Int)) (h1 := fun _ => rfl) h1.2.1) h1.1 (by rw [List.length_map]; exact edges_C h1.2.2.2.2.2.1 h1.2.2.2.2.1) (by rw [List.length_map]; exact h1.2.2.2.1) hk
  rw [List.length_map, List.length_map] at this
  exact this
end Go.Proofs.Ytjkindoedkjnbaa.PDagChecks
