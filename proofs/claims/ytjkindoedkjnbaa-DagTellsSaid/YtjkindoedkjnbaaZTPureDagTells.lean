/- The law DagTells comes to true. Plain Lean over the printed functions. -/
import Derived.Test.YtjkindoedkjnbaaZTMDagB
import Derived.Test.YtjkindoedkjnbaaZTMDagB
import Derived.Test.YtjkindoedkjnbaaZTMDagB
import Derived.Test.YtjkindoedkjnbaaZTMDagB
import Derived.Test.YtjkindoedkjnbaaZTPDagTellsx17
set_option linter.unusedVariables false
set_option linter.unusedSimpArgs false
set_option linter.unusedSectionVars false
namespace Go.Proofs.Ytjkindoedkjnbaa.PDagTells
open Go.RowKit Go.Proofs.YtjkindoedkjnbaaW.PrintWords Go.Proofs.YtjkindoedkjnbaaW.PrintLast
open Go.Proofs.Ytjkindoedkjnbaa DagPlain

def pr (x : S40) : Int × Int := (x.f0, x.f1)
theorem wrap_small {x : Int} (h : 0 ≤ x ∧ x ≤ 1000) : wrap64 x = x := by unfold wrap64; omega
theorem rd_at (es : List S40) (x : Nat) (h : x < es.length) : rd_T40 es (x : Int) = es[x] := by unfold rd_T40; simp [List.getD_eq_getElem?_getD, h]
theorem own_f (l : List Int) (es : List S40) (hl : l.length ≤ 1000) (he : es.length ≤ 1000) : trefoillaw04_Own.f l es = some (l, es) := by
  unfold trefoillaw04_Own.f
  simp only [Option.bind_some, List.length_nil, List.nil_append]
  rw [if_pos (by omega), if_pos (by omega)]
theorem few_f (l : List Int) (es : List S40) : trefoillaw04_Few.f l es = some (decide (l.length ≤ 70 ∧ es.length ≤ 300)) := by
  unfold trefoillaw04_Few.f
  split
  · rw [Option.some.injEq]
    exact decide_eq_decide.2 (by omega)
  · rw [Option.some.injEq]
    exact (decide_eq_false (by omega)).symm
theorem node_f (l : List Int) (es : List S40) (a : Int) : trefoilref04_node.f l es a = some (thereB l.length a) := by
  unfold trefoilref04_node.f thereB
  by_cases h : a ≥ 0
  · rw [if_pos h, decide_eq_true (show (0 : Int) ≤ a from h), Bool.true_and]
  · rw [if_neg h, decide_eq_false (show ¬ (0 : Int) ≤ a by omega), Bool.false_and]
theorem pr_take (es : List S40) (x : Nat) (p : Int × Int) : (((es.map pr).take x).contains p) = true ↔ ∃ j, ∃ h : j < es.length, j < x ∧ pr es[j] = p := by
  rw [List.contains_iff_mem, List.mem_iff_getElem]
  constructor
  · rintro ⟨j, hj, e⟩
    have hj1 : j < min x es.length := by simpa using hj
    have hj2 : j < x ∧ j < es.length := by omega
    exact ⟨j, hj2.2, hj2.1, by simpa using e⟩
  · rintro ⟨j, hj, hx, e⟩
    exact ⟨j, by simp; omega, by simpa using e⟩
theorem l2_run (l : List Int) (es : List S40) (f t : Int) (y : Nat) (hy : y ≤ es.length) (he : es.length ≤ 300) : ∀ (m x : Nat), x + m = y → (∀ j, ∀ h : j < es.length, j < x → pr es[j] ≠ (f, t)) → ∀ k, trefoilref04_Plain.l2 (k + m + 1) (y : Int) (x : Int) l es f t = if (((es.map pr).take y).contains (f, t)) = true then some 42 else trefoilref04_Plain.l1 k (wrap64 ((y : Int) + 1)) l es := by
  intro m
  induction m with
  | zero =>
    intro x hx hno k
    rw [show k + 0 + 1 = k + 1 by omega, trefoilref04_Plain.l2, if_neg (by omega), if_neg]
    rw [pr_take]
    rintro ⟨j, h, hj, e⟩
    exact hno j h (by omega) e
  | succ m ihm =>
    intro x hx hno k
    have hxl : x < es.length := by omega
    have e : wrap64 ((x : Int) + 1) = ((x + 1 : Nat) : Int) := by rw [wrap_small (by omega)]; omega
    rw [show k + (m + 1) + 1 = (k + m + 1) + 1 by omega, trefoilref04_Plain.l2, if_pos (by omega), if_pos (by omega), if_pos (by omega), rd_at es x hxl, e]
    by_cases h : pr es[x] = (f, t)
    · have h1 : es[x].f0 = f := congrArg Prod.fst h
      have h2 : es[x].f1 = t := congrArg Prod.snd h
      rw [h1, h2, if_pos (by simp), if_pos ((pr_take es y (f, t)).2 ⟨x, hxl, by omega, h⟩)]
    · rw [if_neg]
      · exact ihm (x + 1) (by omega) (fun j hj hjx => by
          by_cases ej : j = x
          · subst ej; exact h
          · exact hno j hj (by omega)) k
      · intro hc
        rw [Bool.and_eq_true, beq_iff_eq, beq_iff_eq] at hc
        exact h (by unfold pr; rw [hc.1, hc.2])
def FL : Nat → Nat → Nat
  | 0, _ => 1
  | m + 1, x => FL m (x + 1) + x + 3
theorem l1_run (l : List Int) (es : List S40) (he : es.length ≤ 300) : ∀ (m x : Nat), x + m = es.length → (∀ j, j < x → oddE l.length (es.map pr) j = false) → ∀ k, trefoilref04_Plain.l1 (k + FL m x) (x : Int) l es = some (if oddEs l.length (es.map pr) = true then 42 else 0) := by
  intro m
  induction m with
  | zero =>
    intro x hx hno k
    have h := oddEs_no (n := l.length) (es := es.map pr) (fun j hj => hno j (by rw [List.length_map] at hj; omega))
    rw [show k + FL 0 x = k + 1 from rfl, trefoilref04_Plain.l1, if_neg (by omega), h, if_neg (by simp)]
  | succ m ihm =>
    intro x hx hno k
    have hxl : x < es.length := by omega
    have e : wrap64 ((x : Int) + 1) = ((x + 1 : Nat) : Int) := by rw [wrap_small (by omega)]; omega
    have hg : (es.map pr).getD x (0, 0) = pr es[x] := by simp [List.getD_eq_getElem?_getD, hxl]
    have hodd : oddE l.length (es.map pr) x = (!thereB l.length es[x].f0 || (!thereB l.length es[x].f1 || (decide (es[x].f0 = es[x].f1) || ((es.map pr).take x).contains (es[x].f0, es[x].f1)))) := by
      unfold oddE; rw [hg]; rfl
    have h42 : oddE l.length (es.map pr) x = true → (some (if oddEs l.length (es.map pr) = true then (42 : Int) else 0)) = some 42 := fun h => by
      rw [if_pos (oddEs_yes (by rw [List.length_map]; exact hxl) h)]
    rw [show k + FL (m + 1) x = (k + FL m (x + 1) + x + 1 + 1) + 1 by show k + (FL m (x + 1) + x + 3) = _; omega, trefoilref04_Plain.l1, if_pos (by omega), if_pos (by omega), rd_at es x hxl, node_f, Option.bind_some]
    cases h1 : thereB l.length es[x].f0 with
    | false =>
      rw [if_neg (by simp), trefoilref04_Plain.j3, if_pos rfl, h42 (by rw [hodd, h1]; rfl)]
    | true =>
      rw [if_pos rfl, node_f, Option.bind_some]
      cases h2 : thereB l.length es[x].f1 with
      | false => rw [if_neg (by simp), trefoilref04_Plain.j3, if_pos rfl, h42 (by rw [hodd, h1, h2]; rfl)]
      | true =>
        rw [if_pos rfl, trefoilref04_Plain.j3]
        by_cases h3 : es[x].f0 = es[x].f1
        · rw [if_pos (by rw [beq_iff_eq]; exact h3), h42 (by rw [hodd, h1, h2, decide_eq_true h3]; rfl)]
        · rw [if_neg (by rw [beq_iff_eq]; exact h3)]
          have hl2 := l2_run l es es[x].f0 es[x].f1 x (by omega) he x 0 (by omega) (fun j _ hj => absurd hj (by omega)) (k + FL m (x + 1))
          rw [show ((0 : Nat) : Int) = 0 from rfl] at hl2
          rw [hl2]
          cases h4 : ((es.map pr).take x).contains (es[x].f0, es[x].f1) with
          | true => rw [if_pos rfl, h42 (by rw [hodd, h1, h2, decide_eq_false h3, h4]; rfl)]
          | false =>
            rw [if_neg (by simp), e]
            exact ihm (x + 1) (by omega) (fun j hj => by
              by_cases ej : j = x
              · subst ej; rw [hodd, h1, h2, decide_eq_false h3, h4]; rfl
              · exact hno j (by omega)) k
theorem l0_run (l : List Int) (es : List S40) (hl : l.length ≤ 70) : ∀ (m x : Nat), x + m = l.length → (∀ j, j < x → oddW (l.getD j 0) = false) → ∀ k, trefoilref04_Plain.l0 (k + m + 1) (x : Int) l es = if l.any oddW = true then some 41 else trefoilref04_Plain.l1 k 0 l es := by
  intro m
  induction m with
  | zero =>
    intro x hx hno k
    rw [show k + 0 + 1 = k + 1 by omega, trefoilref04_Plain.l0, if_neg (by omega), if_neg]
    rw [List.any_eq_true]
    rintro ⟨w, hw, ho⟩
    obtain ⟨j, hj, rfl⟩ := List.getElem_of_mem hw
    have := hno j (by omega)
    rw [List.getD_eq_getElem?_getD, List.getElem?_eq_getElem hj] at this
    simp only [Option.getD_some] at this
    rw [this] at ho
    cases ho
  | succ m ihm =>
    intro x hx hno k
    have hxl : x < l.length := by omega
    have e : wrap64 ((x : Int) + 1) = ((x + 1 : Nat) : Int) := by rw [wrap_small (by omega)]; omega
    have hr : rd l (x : Int) = l.getD x 0 := by unfold rd; simp
    have hmem : l.getD x 0 ∈ l := getD_mem l x hxl
    have hany : oddW (l.getD x 0) = true → l.any oddW = true := fun h => List.any_eq_true.2 ⟨_, hmem, h⟩
    rw [show k + (m + 1) + 1 = (k + m + 1) + 1 by omega, trefoilref04_Plain.l0, if_pos (by omega), if_pos (by omega), hr, e]
    by_cases h1 : l.getD x 0 < 0
    · rw [if_pos h1, if_pos (hany (by unfold oddW; rw [decide_eq_true h1]; rfl))]
    · rw [if_neg h1]
      by_cases h2 : l.getD x 0 > 1000
      · rw [if_pos h2, if_pos (hany (by unfold oddW; rw [decide_eq_true (show (1000 : Int) < l.getD x 0 from h2)]; simp))]
      · rw [if_neg h2]
        exact ihm (x + 1) (by omega) (fun j hj => by
          by_cases ej : j = x
          · subst ej; unfold oddW; rw [decide_eq_false h1, decide_eq_false (show ¬ (1000 : Int) < l.getD j 0 from h2)]; rfl
          · exact hno j (by omega)) k
def plainL (l : List Int) (es : List (Int × Int)) : Int := if 64 < l.length ∨ 256 < es.length then 40 else if l.any oddW = true then 41 else if oddEs l.length es = true then 42 else 0
theorem plain_f (l : List Int) (es : List S40) (hl : l.length ≤ 70) (he : es.length ≤ 300) : ∃ K, ∀ k, trefoilref04_Plain.f (k + K) l es = some (plainL l (es.map pr)) := by
  refine ⟨(FL es.length 0 + l.length + 1) + 1, fun k => ?_⟩
  rw [show k + ((FL es.length 0 + l.length + 1) + 1) = (k + FL es.length 0 + l.length + 1) + 1 by omega]
  unfold trefoilref04_Plain.f plainL
  by_cases h1 : (l.length : Int) > 64
  · rw [if_pos h1, trefoilref04_Plain.j0, if_pos rfl, if_pos (by omega)]
  · rw [if_neg h1]
    by_cases h2 : (es.length : Int) > 256
    · rw [decide_eq_true h2, trefoilref04_Plain.j0, if_pos rfl, if_pos (by rw [List.length_map]; omega)]
    · rw [decide_eq_false h2, trefoilref04_Plain.j0, if_neg (by simp), if_neg (by rw [List.length_map]; omega)]
      have h0 := l0_run l es hl l.length 0 (by omega) (fun j hj => absurd hj (by omega)) (k + FL es.length 0)
      rw [show ((0 : Nat) : Int) = 0 from rfl] at h0
      rw [h0]
      by_cases h3 : l.any oddW = true
      · rw [if_pos h3, if_pos h3]
      · rw [if_neg h3, if_neg h3]
        have h4 := l1_run l es he es.length 0 (by omega) (fun j hj => absurd hj (by omega)) k
        exact h4
theorem rdB (out : List Bool) (v : Int) : rdOf false out v = out.getD v.toNat false := rfl
theorem rl1_run (l : List Int) (es : List S40) (a i : Int) (he : es.length ≤ 300) (n : Nat) (hin : ∀ e ∈ es.map pr, (0 ≤ e.1 ∧ e.1 < n) ∧ 0 ≤ e.2 ∧ e.2 < n) : ∀ (m x : Nat) (out : List Bool), x + m = es.length → out.length = n → ∀ k, trefoilref04_Reach.l1 (k + m + 1) a out i (x : Int) l es = trefoilref04_Reach.l0 k a (((es.map pr).drop x).foldl (stepR a) out) (wrap64 (i + 1)) l es := by
  intro m
  induction m with
  | zero =>
    intro x out hx ho k
    rw [show k + 0 + 1 = k + 1 by omega, trefoilref04_Reach.l1, if_neg (by omega), List.drop_of_length_le (by rw [List.length_map]; omega)]
    rfl
  | succ m ihm =>
    intro x out hx ho k
    have hxl : x < es.length := by omega
    have e : wrap64 ((x : Int) + 1) = ((x + 1 : Nat) : Int) := by rw [wrap_small (by omega)]; omega
    have hmem : pr es[x] ∈ es.map pr := List.mem_map.2 ⟨_, List.getElem_mem hxl, rfl⟩
    have hft := hin _ hmem
    have hf : 0 ≤ es[x].f0 ∧ es[x].f0 < n := hft.1
    have ht : 0 ≤ es[x].f1 ∧ es[x].f1 < n := hft.2
    have hd : (es.map pr).drop x = pr es[x] :: (es.map pr).drop (x + 1) := by
      rw [List.drop_eq_getElem_cons (by rw [List.length_map]; exact hxl)]; simp
    have ih := fun out' ho' => ihm (x + 1) out' (by omega) ho' k
    rw [show k + (m + 1) + 1 = (k + m + 1) + 1 by omega, trefoilref04_Reach.l1, if_pos (by omega), if_pos (by omega), rd_at es x hxl, hd, List.foldl_cons, e]
    have hset : (out.set es[x].f1.toNat true).length = n := by rw [List.length_set]; exact ho
    by_cases h1 : es[x].f0 = a
    · rw [if_pos h1, if_pos ht.1, if_pos (by rw [ho]; exact ht.2), ih _ hset]
      have hs : stepR a out (pr es[x]) = out.set es[x].f1.toNat true := by unfold stepR; rw [if_pos (.inl h1)]; rfl
      rw [hs]
    · rw [if_neg h1, if_pos hf.1, if_pos (by rw [ho]; exact hf.2), rdB]
      by_cases h2 : out.getD es[x].f0.toNat false = true
      · rw [if_pos h2, if_pos ht.1, if_pos (by rw [ho]; exact ht.2), ih _ hset]
        have hs : stepR a out (pr es[x]) = out.set es[x].f1.toNat true := by unfold stepR; rw [if_pos (.inr h2)]; rfl
        rw [hs]
      · rw [if_neg h2, ih _ ho]
        have hs : stepR a out (pr es[x]) = out := by
          unfold stepR
          rw [if_neg]
          rintro (h | h)
          · exact h1 h
          · exact h2 h
        rw [hs]
def RF (m : Nat) : Nat → Nat
  | 0 => 1
  | d + 1 => RF m d + m + 1 + 1
theorem rl0_run (l : List Int) (es : List S40) (a : Int) (hl : l.length ≤ 70) (he : es.length ≤ 300) (hin : ∀ e ∈ es.map pr, (0 ≤ e.1 ∧ e.1 < l.length) ∧ 0 ≤ e.2 ∧ e.2 < l.length) : ∀ (d x : Nat) (out : List Bool), x + d = l.length → out.length = l.length → ∀ k, trefoilref04_Reach.l0 (k + RF es.length d) a out (x : Int) l es = some (rounds a (es.map pr) d out) := by
  intro d
  induction d with
  | zero =>
    intro x out hx ho k
    rw [show k + RF es.length 0 = k + 1 from rfl, trefoilref04_Reach.l0, if_neg (by omega)]
    rfl
  | succ d ihd =>
    intro x out hx ho k
    have e : wrap64 ((x : Int) + 1) = ((x + 1 : Nat) : Int) := by rw [wrap_small (by omega)]; omega
    have h1 := rl1_run l es a (x : Int) he l.length hin es.length 0 out (by omega) ho (k + RF es.length d)
    rw [show ((0 : Nat) : Int) = 0 from rfl, List.drop_zero, e] at h1
    rw [show k + RF es.length (d + 1) = (k + RF es.length d + es.length + 1) + 1 by show k + (RF es.length d + es.length + 1 + 1) = _; omega, trefoilref04_Reach.l0, if_pos (by omega), h1]
    exact ihd (x + 1) _ (by omega) (by rw [foldR_len]; exact ho) k
theorem reach_f (l : List Int) (es : List S40) (a : Int) (hl : l.length ≤ 70) (he : es.length ≤ 300) (hin : ∀ e ∈ es.map pr, (0 ≤ e.1 ∧ e.1 < l.length) ∧ 0 ≤ e.2 ∧ e.2 < l.length) (k : Nat) : trefoilref04_Reach.f (k + RF es.length l.length) l es a = some (reachL l.length (es.map pr) a) := by
  unfold trefoilref04_Reach.f
  have h := rl0_run l es a hl he hin l.length 0 (List.replicate l.length false) (by omega) (by simp) k
  rw [if_pos (by omega), if_pos (by omega)]
  exact h
theorem cl0_run (l : List Int) (es : List S40) (hl : l.length ≤ 70) (he : es.length ≤ 300) (hin : ∀ e ∈ es.map pr, (0 ≤ e.1 ∧ e.1 < l.length) ∧ 0 ≤ e.2 ∧ e.2 < l.length) (z : Int)
    (h43 : ∀ v : Nat, v < l.length → Path (es.map pr) (v : Int) (v : Int) → z = 43) (h0 : (∀ v : Nat, v < l.length → ¬ Path (es.map pr) (v : Int) (v : Int)) → z = 0) :
    ∀ (m x : Nat), x + m = l.length → (∀ j : Nat, j < x → ¬ Path (es.map pr) (j : Int) (j : Int)) → ∀ k, trefoilref04_Check.l0 (k + RF es.length l.length + m + 1) (x : Int) l es = some z := by
  intro m
  induction m with
  | zero =>
    intro x hx hno k
    rw [show k + RF es.length l.length + 0 + 1 = (k + RF es.length l.length) + 1 by omega, trefoilref04_Check.l0, if_neg (by omega), h0 (fun v hv => hno v (by omega))]
  | succ m ihm =>
    intro x hx hno k
    have hxl : x < l.length := by omega
    have e : wrap64 ((x : Int) + 1) = ((x + 1 : Nat) : Int) := by rw [wrap_small (by omega)]; omega
    have hlen : (reachL l.length (es.map pr) (x : Int)).length = l.length := by unfold reachL; rw [rounds_len]; simp
    have hr := reach_f l es (x : Int) hl he hin (k + m + 1)
    rw [show k + m + 1 + RF es.length l.length = k + RF es.length l.length + m + 1 by omega] at hr
    rw [show k + RF es.length l.length + (m + 1) + 1 = (k + RF es.length l.length + m + 1) + 1 by omega, trefoilref04_Check.l0, if_pos (by omega), hr, Option.bind_some, if_pos (by omega), if_pos (by rw [hlen]; omega), rdB, e]
    have hiff := reach_iff hin (a := (x : Int)) (x : Int) (by omega)
    by_cases hp : Path (es.map pr) (x : Int) (x : Int)
    · rw [if_pos (hiff.2 hp), h43 x hxl hp]
    · rw [if_neg (fun h => hp (hiff.1 h))]
      exact ihm (x + 1) (by omega) (fun j hj => by
        by_cases ej : j = x
        · subst ej; exact hp
        · exact hno j (by omega)) k
theorem path_range {es : List (Int × Int)} {n : Nat} (hin : ∀ e ∈ es, (0 ≤ e.1 ∧ e.1 < n) ∧ 0 ≤ e.2 ∧ e.2 < n) {a b : Int} (h : Path es a b) : 0 ≤ b ∧ b < n := by
  obtain ⟨p, he, _⟩ := h.last
  exact (hin _ he).2
theorem refcheck_f (l : List Int) (es : List S40) (hl : l.length ≤ 70) (he : es.length ≤ 300) : ∃ K, ∀ k, trefoilref04_Check.f (k + K) l es = some (checkL l (es.map pr)) := by
  obtain ⟨K, hK⟩ := plain_f l es hl he
  refine ⟨K + RF es.length l.length + l.length + 1, fun k => ?_⟩
  have h1 := hK (k + RF es.length l.length + l.length + 1)
  rw [show k + RF es.length l.length + l.length + 1 + K = k + (K + RF es.length l.length + l.length + 1) by omega] at h1
  unfold trefoilref04_Check.f
  rw [h1, Option.bind_some]
  unfold plainL
  by_cases g1 : 64 < l.length ∨ 256 < (es.map pr).length
  · rw [if_pos g1, if_neg (by decide)]; unfold checkL; rw [if_pos g1]
  · rw [if_neg g1]
    by_cases g2 : l.any oddW = true
    · rw [if_pos g2, if_neg (by decide)]; unfold checkL; rw [if_neg g1, if_pos g2]
    · rw [if_neg g2]
      by_cases g3 : oddEs l.length (es.map pr) = true
      · rw [if_pos g3, if_neg (by decide)]; unfold checkL; rw [if_neg g1, if_neg g2, if_pos g3]
      · rw [if_neg g3, if_pos rfl]
        have hin := oddEs_in (n := l.length) (es := es.map pr) (by simpa using g3)
        have hc : checkL l (es.map pr) = if (orderL l.length (es.map pr)).isSome = true then 0 else 43 := by unfold checkL; rw [if_neg g1, if_neg g2, if_neg g3]
        have hrun := cl0_run l es hl he hin (checkL l (es.map pr)) (fun v hv hp => by
          by_cases hs : (orderL l.length (es.map pr)).isSome = true
          · exact absurd hp (no_round (by rw [hc, if_pos hs]) _)
          · rw [hc, if_neg hs]) (fun hno => by
          by_cases hs : (orderL l.length (es.map pr)).isSome = true
          · rw [hc, if_pos hs]
          · obtain ⟨v, hv⟩ := order_none hin (by simpa using hs)
            have hb := path_range hin hv
            exact absurd (show Path (es.map pr) ((v.toNat : Nat) : Int) ((v.toNat : Nat) : Int) by rw [show ((v.toNat : Nat) : Int) = v by omega]; exact hv) (hno v.toNat (by omega))) l.length 0 (by omega) (fun j hj => absurd hj (by omega)) (k + K)
        rw [show k + (K + RF es.length l.length + l.length + 1) = k + K + RF es.length l.length + l.length + 1 by omega]
        exact hrun
theorem ev_of {α : Type} {g : Nat → Option α} {r : α} {K : Nat} (h : ∀ k, g (k + K) = some r) : Ev g r := ⟨K, fun k hk => by
  have := h (k - K)
  rw [show k - K + K = k by omega] at this
  exact this⟩
theorem ev_add {α : Type} {g : Nat → Option α} {r : α} (h : ∃ K, ∀ k, g (k + K) = some r) : Ev g r := by
  obtain ⟨K, h⟩ := h
  exact ev_of h
theorem refcheck_ev (l : List Int) (es : List S40) (hl : l.length ≤ 70) (he : es.length ≤ 300) : Ev (fun k => trefoilref04_Check.f k l es) (checkL l (es.map pr)) := ev_add (refcheck_f l es hl he)
theorem mx_max (a b : Int) : mx a b = max a b := by unfold mx; split <;> omega
theorem lg2_run (F : List Int) (hF : F.length ≤ 70) : ∀ (m x : Nat), x + m = F.length → ∀ (acc : Int) (k : Nat), trefoilref04_Long.l2 (k + m + 1) F acc (x : Int) = some ((F.drop x).foldl max acc) := by
  intro m
  induction m with
  | zero =>
    intro x hx acc k
    rw [show k + 0 + 1 = k + 1 by omega, trefoilref04_Long.l2, if_neg (by omega), List.drop_eq_nil_of_le (by omega)]
    rfl
  | succ m ih =>
    intro x hx acc k
    have hxl : x < F.length := by omega
    have e : wrap64 ((x : Int) + 1) = ((x + 1 : Nat) : Int) := by rw [wrap_small (by omega)]; omega
    have hr : rd F (x : Int) = F[x] := by unfold rd; simp [List.getD_eq_getElem?_getD, hxl]
    rw [show k + (m + 1) + 1 = (k + m + 1) + 1 by omega, trefoilref04_Long.l2, if_pos (by omega), if_pos (by omega), e, ih (x + 1) (by omega), List.drop_eq_getElem_cons hxl, List.foldl_cons, mx_max, hr]
theorem total_run (l : List Int) (es : List S40) (hl : l.length ≤ 70) (hw : ∀ x ∈ l, 0 ≤ x ∧ x ≤ 1000) : ∀ (m x : Nat), x + m = l.length → ∀ (k : Nat), trefoilref04_Total.l0 (k + m + 1) ((l.take x).sum) (x : Int) l es = some l.sum := by
  have hs : ∀ x, x ≤ l.length → 0 ≤ (l.take x).sum ∧ (l.take x).sum ≤ 1000 * x := by
    intro x
    induction x with
    | zero => intro _; simp
    | succ x ih =>
      intro h
      obtain ⟨h1, h2⟩ := ih (by omega)
      have h3 := hw l[x] (List.getElem_mem (by omega))
      rw [List.take_succ_eq_append_getElem (by omega), List.sum_append, List.sum_singleton]
      omega
  intro m
  induction m with
  | zero =>
    intro x hx k
    rw [show k + 0 + 1 = k + 1 by omega, trefoilref04_Total.l0, if_neg (by omega), List.take_of_length_le (by omega)]
  | succ m ih =>
    intro x hx k
    have hxl : x < l.length := by omega
    have e : wrap64 ((x : Int) + 1) = ((x + 1 : Nat) : Int) := by rw [wrap_small (by omega)]; omega
    have hr : rd l (x : Int) = l[x] := by unfold rd; simp [List.getD_eq_getElem?_getD, hxl]
    have h4 := hs (x + 1) (by omega)
    have h5 : (l.take (x + 1)).sum = (l.take x).sum + l[x] := by rw [List.take_succ_eq_append_getElem hxl, List.sum_append, List.sum_singleton]
    have e2 : wrap64 ((l.take x).sum + l[x]) = (l.take (x + 1)).sum := by rw [← h5]; unfold wrap64; omega
    rw [show k + (m + 1) + 1 = (k + m + 1) + 1 by omega, trefoilref04_Total.l0, if_pos (by omega), if_pos (by omega), hr, e2, e, ih (x + 1) (by omega)]
theorem total_ev (l : List Int) (es : List S40) (hl : l.length ≤ 70) (hw : ∀ x ∈ l, 0 ≤ x ∧ x ≤ 1000) : Ev (fun k => trefoilref04_Total.f k l es) l.sum :=
  ev_of (K := l.length + 1) (fun k => total_run l es hl hw l.length 0 (by omega) k)
theorem works_in {l : List Int} (h : l.any oddW = false) : ∀ x ∈ l, 0 ≤ x ∧ x ≤ 1000 := fun x hx => by
  have := List.any_eq_false.1 h x hx
  unfold oddW at this
  simp at this
  omega
theorem bound_in {l : List Int} {es : List (Int × Int)} (hz : checkL l es = 0) : (0 ≤ totL l es ∧ totL l es ≤ 64000) ∧ 0 ≤ longL l es ∧ longL l es ≤ 64000 := by
  obtain ⟨y1, y2, y3, y4, y5⟩ := ordL_yes hz
  have h := sum_take_le y4 l.length
  rw [List.take_length] at h
  have ht : totL l es = l.sum := by unfold totL; rw [if_pos hz]
  have := long_total hz
  have := (long_some hz).1
  omega
theorem awake_f : trefoillaw04_awake.f = some true := rfl
theorem far_small {l : List Int} {es : List (Int × Int)} (hz : checkL l es = 0) (v : Nat) : (farL l es).getD v 0 ≤ 64000 := by
  by_cases hv : v < l.length
  · have h := (far_at hz (v : Int) (by omega)).2
    have := (bound_in hz).2.2
    rw [Int.toNat_natCast] at h
    omega
  · rw [far_out hz v (by omega)]; omega
theorem lg1_ev (l : List Int) (es : List S40) (hz : checkL l (es.map pr) = 0) (i : Int) (he : es.length ≤ 300) {r : Int} : ∀ (m x : Nat) (F : List Int), x + m = es.length → F.length = l.length → (∀ v : Nat, 0 ≤ F.getD v 0 ∧ F.getD v 0 ≤ (farL l (es.map pr)).getD v 0) →
    Ev (fun k => trefoilref04_Long.l0 k (((es.map pr).drop x).foldl (relE l) F) (wrap64 (i + 1)) l es) r → Ev (fun k => trefoilref04_Long.l1 k F i (x : Int) l es) r := by
  obtain ⟨y1, y2, y3, y4, y5⟩ := ordL_yes hz
  have hin := oddEs_in y3
  intro m
  induction m with
  | zero =>
    intro x F hx hF hb h
    refine Ev.step (fun k => ?_) h
    rw [trefoilref04_Long.l1, if_neg (by omega), List.drop_of_length_le (by rw [List.length_map]; omega)]
    rfl
  | succ m ihm =>
    intro x F hx hF hb h
    have hxl : x < es.length := by omega
    have e : wrap64 ((x : Int) + 1) = ((x + 1 : Nat) : Int) := by rw [wrap_small (by omega)]; omega
    have hmem : pr es[x] ∈ es.map pr := List.mem_map.2 ⟨_, List.getElem_mem hxl, rfl⟩
    have hft := hin _ hmem
    have hf : 0 ≤ es[x].f0 ∧ es[x].f0 < l.length := hft.1
    have ht : 0 ≤ es[x].f1 ∧ es[x].f1 < l.length := hft.2
    have hd : (es.map pr).drop x = pr es[x] :: (es.map pr).drop (x + 1) := by
      rw [List.drop_eq_getElem_cons (by rw [List.length_map]; exact hxl)]; simp
    rw [hd, List.foldl_cons] at h
    have hb1 := hb es[x].f0.toNat
    have hb2 := hb es[x].f1.toNat
    have hs1 := far_small hz es[x].f0.toNat
    have hlw : 0 ≤ l.getD es[x].f1.toNat 0 ∧ l.getD es[x].f1.toNat 0 ≤ 1000 := works_in y4 _ (getD_mem l _ (by omega))
    have hw : wrap64 (F.getD es[x].f0.toNat 0 + l.getD es[x].f1.toNat 0) = F.getD es[x].f0.toNat 0 + l.getD es[x].f1.toNat 0 := by unfold wrap64; omega
    have hg : (farL l (es.map pr)).getD es[x].f0.toNat 0 + l.getD es[x].f1.toNat 0 ≤ (farL l (es.map pr)).getD es[x].f1.toNat 0 := by
      obtain ⟨⟨q, m1, m2, m3, -⟩, -⟩ := far_at hz es[x].f1 ht
      have := m3 es[x].f0 (mem_predL.2 hmem)
      omega
    have hb' : ∀ v : Nat, 0 ≤ (relE l F (pr es[x])).getD v 0 ∧ (relE l F (pr es[x])).getD v 0 ≤ (farL l (es.map pr)).getD v 0 := fun v =>
      ⟨Int.le_trans (hb v).1 (relE_mono l F _ v), relF_le l (farL l (es.map pr)) 0 [pr es[x]] F (fun y hy => by rw [List.mem_singleton] at hy; subst hy; exact hg) (fun v => (hb v).2) v⟩
    refine Ev.step (f := fun k => trefoilref04_Long.l1 k (relE l F (pr es[x])) i ((x + 1 : Nat) : Int) l es) (fun k => ?_) (ihm (x + 1) _ (by omega) (by rw [relE_len]; exact hF) hb' h)
    have r1 : rd F es[x].f0 = F.getD es[x].f0.toNat 0 := rfl
    have r2 : rd l es[x].f1 = l.getD es[x].f1.toNat 0 := rfl
    have r3 : rd F es[x].f1 = F.getD es[x].f1.toNat 0 := rfl
    rw [trefoilref04_Long.l1, if_pos (by omega), if_pos (by omega), rd_at es x hxl, if_pos hf.1, if_pos (by rw [hF]; exact hf.2), if_pos ht.1, if_pos ht.2, if_pos (by rw [hF]; exact ht.2), r1, r2, r3, hw, e]
    by_cases hc : F.getD es[x].f0.toNat 0 + l.getD es[x].f1.toNat 0 > F.getD es[x].f1.toNat 0
    · rw [if_pos hc, show relE l F (pr es[x]) = F.set es[x].f1.toNat (F.getD es[x].f0.toNat 0 + l.getD es[x].f1.toNat 0) from if_pos hc]
    · rw [if_neg hc, show relE l F (pr es[x]) = F from if_neg hc]
theorem lg0_ev (l : List Int) (es : List S40) (hz : checkL l (es.map pr) = 0) (hl : l.length ≤ 70) (he : es.length ≤ 300) : ∀ (d x : Nat), x + d = l.length → Ev (fun k => trefoilref04_Long.l0 k (relK l (es.map pr) x) (x : Int) l es) (longL l (es.map pr)) := by
  intro d
  induction d with
  | zero =>
    intro x hx
    obtain rfl : x = l.length := by omega
    have hlen := relK_len (l := l) (es := es.map pr) l.length
    refine Ev.step (f := fun k => trefoilref04_Long.l2 k (relK l (es.map pr) l.length) 0 0) (fun k => by rw [trefoilref04_Long.l0, if_neg (by omega)]) ?_
    rw [← rel_long hz]
    exact ev_of (K := (relK l (es.map pr) l.length).length + 1) (fun k => lg2_run _ (by omega) _ 0 (by omega) 0 k)
  | succ d ihd =>
    intro x hx
    have e : wrap64 ((x : Int) + 1) = ((x + 1 : Nat) : Int) := by rw [wrap_small (by omega)]; omega
    refine Ev.step (f := fun k => trefoilref04_Long.l1 k (relK l (es.map pr) x) (x : Int) ((0 : Nat) : Int) l es) (fun k => by rw [trefoilref04_Long.l0, if_pos (by omega)]; rfl) ?_
    refine lg1_ev l es hz (x : Int) he es.length 0 _ (by omega) (relK_len x) (fun v => ⟨?_, relK_le hz x v⟩) ?_
    · refine Int.le_trans ?_ (relK_mono v x)
      obtain ⟨y1, y2, y3, y4, y5⟩ := ordL_yes hz
      by_cases hv : v < l.length
      · exact (works_in y4 _ (getD_mem l v hv)).1
      · rw [List.getD_eq_getElem?_getD, List.getElem?_eq_none (by omega)]; exact Int.le_refl _
    · rw [e]
      exact ihd (x + 1) (by omega)
theorem long_ev (l : List Int) (es : List S40) (hz : checkL l (es.map pr) = 0) (hl : l.length ≤ 70) (he : es.length ≤ 300) : Ev (fun k => trefoilref04_Long.f k l es) (longL l (es.map pr)) := by
  refine Ev.congr (fun k => ?_) (lg0_ev l es hz hl he l.length 0 (by omega))
  unfold trefoilref04_Long.f
  rw [Option.bind_some, if_pos (by rw [List.length_nil]; omega)]
  rfl
theorem wrap_up {x : Nat} (h : x ≤ 1000000) : wrap64 ((x : Int) + 1) = ((x + 1 : Nat) : Int) := by unfold wrap64; omega
theorem rd_nat (l : List Int) (z : Nat) (h : z < l.length) : rd l (z : Int) = l[z] := by unfold rd; simp [List.getD_eq_getElem?_getD, h]
theorem ints_ev (a b : List Int) (ha : a.length ≤ 1000) : Ev (fun k => trefoilref02_Ints.f k a b) (decide (a = b)) := by
  unfold trefoilref02_Ints.f
  by_cases hl : a.length = b.length
  · have hl' : (a.length : Int) = (b.length : Int) := by omega
    simp only [if_pos hl']
    have key : ∀ (m x : Nat), x + m = a.length → a.take x = b.take x → Ev (fun k => trefoilref02_Ints.l0 k a b (x : Int)) (decide (a = b)) := by
      intro m
      induction m with
      | zero =>
        intro x hx ht
        have : a = b := by rw [List.take_of_length_le (by omega), List.take_of_length_le (by omega)] at ht; exact ht
        refine Ev.step (f := fun _ => some true) (fun k => by rw [trefoilref02_Ints.l0, if_neg (by omega)]) ?_
        rw [decide_eq_true this]
        exact Ev.now _
      | succ m ih =>
        intro x hx ht
        have r1 : rd a (x : Int) = a[x] := by unfold rd; simp [List.getD_eq_getElem?_getD, show x < a.length by omega]
        have r2 : rd b (x : Int) = b[x] := by unfold rd; simp [List.getD_eq_getElem?_getD, show x < b.length by omega]
        by_cases hc : a[x] = b[x]
        · refine Ev.step (fun k => ?_) (ih (x + 1) (by omega) (by rw [List.take_succ_eq_append_getElem (by omega), List.take_succ_eq_append_getElem (by omega), ht, hc]))
          rw [trefoilref02_Ints.l0, if_pos (by omega), if_pos (by omega), if_pos (by omega), r1, r2, if_pos hc, wrap_up (by omega)]
        · have : a ≠ b := fun e => hc (by subst e; rfl)
          refine Ev.step (f := fun _ => some false) (fun k => by rw [trefoilref02_Ints.l0, if_pos (by omega), if_pos (by omega), if_pos (by omega), r1, r2, if_neg hc]) ?_
          rw [decide_eq_false this]
          exact Ev.now _
    exact key a.length 0 (by omega) rfl
  · have hl' : ¬ (a.length : Int) = (b.length : Int) := by omega
    simp only [if_neg hl']
    rw [decide_eq_false (fun e => hl (by rw [e]))]
    exact Ev.now _
theorem has_ev (a : List Int) (n : Int) (ha : a.length ≤ 1000) : Ev (fun k => trefoilref04_Has.f k a n) (a.contains n) := by
  unfold trefoilref04_Has.f
  have key : ∀ (m x : Nat), x + m = a.length → Ev (fun k => trefoilref04_Has.l0 k a n (x : Int)) ((a.drop x).contains n) := by
    intro m
    induction m with
    | zero =>
      intro x hx
      rw [List.drop_of_length_le (by omega)]
      exact Ev.step (f := fun _ => some false) (fun k => by rw [trefoilref04_Has.l0, if_neg (by omega)]) (Ev.now _)
    | succ m ih =>
      intro x hx
      have r1 : rd a (x : Int) = a[x] := by unfold rd; simp [List.getD_eq_getElem?_getD, show x < a.length by omega]
      rw [List.drop_eq_getElem_cons (by omega), List.contains_cons]
      by_cases hc : a[x] = n
      · rw [hc, beq_self_eq_true, Bool.true_or]
        exact Ev.step (f := fun _ => some true) (fun k => by rw [trefoilref04_Has.l0, if_pos (by omega), if_pos (by omega), r1, if_pos hc]) (Ev.now _)
      · rw [show (n == a[x]) = false by simpa using fun e => hc e.symm, Bool.false_or]
        refine Ev.step (fun k => ?_) (ih (x + 1) (by omega))
        rw [trefoilref04_Has.l0, if_pos (by omega), if_pos (by omega), r1, if_neg hc, wrap_up (by omega)]
  exact key a.length 0 (by omega)
theorem near_ev (l : List Int) (es : List S40) (a b : Int) (he : es.length ≤ 300) : Ev (fun k => trefoilref04_Near.f k l es a b) (nearB (es.map pr) a b) := by
  unfold trefoilref04_Near.f nearB
  have key : ∀ (m x : Nat), x + m = es.length → Ev (fun k => trefoilref04_Near.l0 k a b (x : Int) l es) (((es.map pr).drop x).any fun e => e.1 == a && e.2 == b) := by
    intro m
    induction m with
    | zero =>
      intro x hx
      rw [List.drop_of_length_le (by rw [List.length_map]; omega)]
      exact Ev.step (f := fun _ => some false) (fun k => by rw [trefoilref04_Near.l0, if_neg (by omega)]) (Ev.now _)
    | succ m ih =>
      intro x hx
      have hxl : x < es.length := by omega
      have hd : (es.map pr).drop x = pr es[x] :: (es.map pr).drop (x + 1) := by
        rw [List.drop_eq_getElem_cons (by rw [List.length_map]; exact hxl)]; simp
      rw [hd, List.any_cons]
      have ih' := ih (x + 1) (by omega)
      by_cases h1 : es[x].f0 = a
      · by_cases h2 : es[x].f1 = b
        · have hb : ((pr es[x]).1 == a && (pr es[x]).2 == b) = true := by unfold pr; simp [h1, h2]
          rw [hb, Bool.true_or]
          exact Ev.step (f := fun _ => some true) (fun k => by rw [trefoilref04_Near.l0, if_pos (by omega), if_pos (by omega), rd_at es x hxl, if_pos h1, if_pos h2]) (Ev.now _)
        · have hb : ((pr es[x]).1 == a && (pr es[x]).2 == b) = false := by unfold pr; simp [h2]
          rw [hb, Bool.false_or]
          refine Ev.step (fun k => ?_) ih'
          rw [trefoilref04_Near.l0, if_pos (by omega), if_pos (by omega), rd_at es x hxl, if_pos h1, if_neg h2, wrap_up (by omega)]
      · have hb : ((pr es[x]).1 == a && (pr es[x]).2 == b) = false := by unfold pr; simp [h1]
        rw [hb, Bool.false_or]
        refine Ev.step (fun k => ?_) ih'
        rw [trefoilref04_Near.l0, if_pos (by omega), if_pos (by omega), rd_at es x hxl, if_neg h1, wrap_up (by omega)]
  exact key es.length 0 (by omega)
def tailL (n : Nat) (p : Int → Bool) (x : Nat) : List Int := (((List.range n).drop x).filter fun (i : Nat) => p (i : Int)).map fun (i : Nat) => (i : Int)
theorem tailL_end (n : Nat) (p : Int → Bool) (x : Nat) (h : n ≤ x) : tailL n p x = [] := by unfold tailL; rw [List.drop_of_length_le (by rw [List.length_range]; exact h)]; rfl
theorem tailL_yes (n : Nat) (p : Int → Bool) (x : Nat) (h : x < n) (hp : p (x : Int) = true) : tailL n p x = (x : Int) :: tailL n p (x + 1) := by
  unfold tailL
  rw [List.drop_eq_getElem_cons (by rw [List.length_range]; exact h), List.getElem_range, List.filter_cons, if_pos hp]; rfl
theorem tailL_no (n : Nat) (p : Int → Bool) (x : Nat) (h : x < n) (hp : p (x : Int) = false) : tailL n p x = tailL n p (x + 1) := by
  unfold tailL
  rw [List.drop_eq_getElem_cons (by rw [List.length_range]; exact h), List.getElem_range, List.filter_cons, if_neg (by rw [hp]; simp)]
theorem rowP_ev (l : List Int) (es : List S40) (v : Int) (hl : l.length ≤ 70) (he : es.length ≤ 300) : Ev (fun k => trefoilref04_Preds.f k l es v) (rowL l.length (fun i => nearB (es.map pr) i v)) := by
  unfold trefoilref04_Preds.f
  have key : ∀ (m x : Nat) (out : List Int), x + m = l.length → out.length ≤ x → Ev (fun k => trefoilref04_Preds.l0 k v out (x : Int) l es) (out ++ tailL l.length (fun i => nearB (es.map pr) i v) x) := by
    intro m
    induction m with
    | zero =>
      intro x out hx ho
      rw [tailL_end _ _ _ (by omega), List.append_nil]
      exact Ev.step (f := fun _ => some out) (fun k => by rw [trefoilref04_Preds.l0, if_neg (by omega)]) (Ev.now _)
    | succ m ih =>
      intro x out hx ho
      refine Ev.step (fun k => by rw [trefoilref04_Preds.l0, if_pos (by omega)]) (Ev.bind (near_ev l es (x : Int) v he) ?_)
      cases hn : nearB (es.map pr) (x : Int) v with
      | true =>
        rw [tailL_yes _ _ _ (by omega) hn]
        have := ih (x + 1) (out ++ [(x : Int)]) (by omega) (by simp; omega)
        rw [List.append_assoc] at this
        simp only [if_true, if_pos (show out.length < 17592186044416 by omega), wrap_up (show x ≤ 1000000 by omega)]
        exact this
      | false =>
        rw [tailL_no _ _ _ (by omega) hn]
        simp only [Bool.false_eq_true, if_false, wrap_up (show x ≤ 1000000 by omega)]
        exact ih (x + 1) out (by omega) (by omega)
  exact key l.length 0 [] (by omega) (by simp)
theorem rowS_ev (l : List Int) (es : List S40) (v : Int) (hl : l.length ≤ 70) (he : es.length ≤ 300) : Ev (fun k => trefoilref04_Succs.f k l es v) (rowL l.length (fun i => nearB (es.map pr) v i)) := by
  unfold trefoilref04_Succs.f
  have key : ∀ (m x : Nat) (out : List Int), x + m = l.length → out.length ≤ x → Ev (fun k => trefoilref04_Succs.l0 k v out (x : Int) l es) (out ++ tailL l.length (fun i => nearB (es.map pr) v i) x) := by
    intro m
    induction m with
    | zero =>
      intro x out hx ho
      rw [tailL_end _ _ _ (by omega), List.append_nil]
      exact Ev.step (f := fun _ => some out) (fun k => by rw [trefoilref04_Succs.l0, if_neg (by omega)]) (Ev.now _)
    | succ m ih =>
      intro x out hx ho
      refine Ev.step (fun k => by rw [trefoilref04_Succs.l0, if_pos (by omega)]) (Ev.bind (near_ev l es v (x : Int) he) ?_)
      cases hn : nearB (es.map pr) v (x : Int) with
      | true =>
        rw [tailL_yes _ _ _ (by omega) hn]
        have := ih (x + 1) (out ++ [(x : Int)]) (by omega) (by simp; omega)
        rw [List.append_assoc] at this
        simp only [if_true, if_pos (show out.length < 17592186044416 by omega), wrap_up (show x ≤ 1000000 by omega)]
        exact this
      | false =>
        rw [tailL_no _ _ _ (by omega) hn]
        simp only [Bool.false_eq_true, if_false, wrap_up (show x ≤ 1000000 by omega)]
        exact ih (x + 1) out (by omega) (by omega)
  exact key l.length 0 [] (by omega) (by simp)
theorem all_ev (a b : List Int) (ha : a.length ≤ 1000) (hb : b.length ≤ 1000) : Ev (fun k => trefoilref04_All.f k a b) (a.all (fun x => b.contains x)) := by
  unfold trefoilref04_All.f
  have key : ∀ (m x : Nat), x + m = a.length → Ev (fun k => trefoilref04_All.l0 k a b (x : Int)) ((a.drop x).all (fun x => b.contains x)) := by
    intro m
    induction m with
    | zero =>
      intro x hx
      rw [List.drop_of_length_le (by omega)]
      exact Ev.step (f := fun _ => some true) (fun k => by rw [trefoilref04_All.l0, if_neg (by omega)]) (Ev.now _)
    | succ m ih =>
      intro x hx
      have r1 := rd_nat a x (by omega)
      rw [List.drop_eq_getElem_cons (by omega), List.all_cons]
      refine Ev.step (f := fun k => (trefoilref04_Has.f k b a[x]).bind fun t290 => (if t290 = true then (trefoilref04_All.l0 k a b ((x + 1 : Nat) : Int)) else (some false))) (fun k => by rw [trefoilref04_All.l0, if_pos (by omega), if_pos (by omega), r1, wrap_up (by omega)]) (Ev.bind (has_ev b a[x] hb) ?_)
      cases hc : b.contains a[x] with
      | true => simp only [if_true, Bool.true_and]; exact ih (x + 1) (by omega)
      | false => simp only [Bool.false_eq_true, if_false, Bool.false_and]; exact Ev.now _
  exact key a.length 0 (by omega)
theorem order_ev (l : List Int) (es : List S40) (hz : checkL l (es.map pr) = 0) (hl : l.length ≤ 70) (he : es.length ≤ 300) : Ev (fun k => trefoilref04_Order.f k l es) (ordL l (es.map pr)) := by
  obtain ⟨y1, y2, y3, y4, y5⟩ := ordL_yes hz
  have hin := oddEs_in y3
  have step1 : ∀ (out : List Int) (i : Int) (v : Nat) (r : List Int), out.length ≤ 100 → v < l.length → free (es.map pr) out (v : Int) = true → (∀ i : Nat, i < v → free (es.map pr) out (i : Int) = false) → Ev (fun k => trefoilref04_Order.l0 k (out ++ [(v : Int)]) (wrap64 (i + 1)) l es) r →
      ∀ (m y : Nat), y + m = v → Ev (fun k => trefoilref04_Order.l1 k out i (y : Int) l es) r := by
    intro out i v r ho hv hf hno h m
    induction m with
    | zero =>
      intro y hy
      obtain rfl : y = v := by omega
      rw [free_row hin] at hf
      simp only [Bool.and_eq_true, Bool.not_eq_true'] at hf
      refine Ev.step (fun k => by rw [trefoilref04_Order.l1, if_pos (by omega)]) (Ev.bind (has_ev out (y : Int) (by omega)) ?_)
      rw [hf.1]
      simp only [Bool.false_eq_true, if_false]
      refine Ev.bind (rowP_ev l es (y : Int) hl he) (Ev.bind (all_ev _ out (Nat.le_trans (rowL_len _ _) (by omega)) (by omega)) ?_)
      rw [hf.2]
      simp only [if_true, if_pos (show out.length < 17592186044416 by omega)]
      exact h
    | succ m ih =>
      intro y hy
      have hfy := hno y (by omega)
      rw [free_row hin] at hfy
      have ih' := ih (y + 1) (by omega)
      refine Ev.step (fun k => by rw [trefoilref04_Order.l1, if_pos (by omega)]) (Ev.bind (has_ev out (y : Int) (by omega)) ?_)
      simp only [show wrap64 ((y : Int) + 1) = ((y + 1 : Nat) : Int) from wrap_up (by omega)]
      cases hc : out.contains (y : Int) with
      | true => simp only [if_true]; exact ih'
      | false =>
        rw [hc, Bool.not_false, Bool.true_and] at hfy
        simp only [Bool.false_eq_true, if_false]
        refine Ev.bind (rowP_ev l es (y : Int) hl he) (Ev.bind (all_ev _ out (Nat.le_trans (rowL_len _ _) (by omega)) (by omega)) ?_)
        rw [hfy]
        simp only [Bool.false_eq_true, if_false]
        exact ih'
  have key : ∀ (m x : Nat) (out : List Int), x + m = l.length → out.length = x → orderGo l.length (es.map pr) m out = some (ordL l (es.map pr)) → Ev (fun k => trefoilref04_Order.l0 k out (x : Int) l es) (ordL l (es.map pr)) := by
    intro m
    induction m with
    | zero =>
      intro x out hx ho h
      obtain rfl : out = ordL l (es.map pr) := Option.some.inj h
      exact Ev.step (f := fun _ => some _) (fun k => by rw [trefoilref04_Order.l0, if_neg (by omega)]) (Ev.now _)
    | succ m ih =>
      intro x out hx ho h
      obtain ⟨v, hv, hf, hno, hr⟩ := orderGo_step h
      refine Ev.step (f := fun k => trefoilref04_Order.l1 k out (x : Int) ((0 : Nat) : Int) l es) (fun k => by rw [trefoilref04_Order.l0, if_pos (by omega)]; rfl) ?_
      refine step1 out (x : Int) v _ (by omega) hv hf hno ?_ v 0 (by omega)
      rw [wrap_up (by omega)]
      exact ih (x + 1) _ (by omega) (by simp; omega) hr
  exact key l.length 0 [] (by omega) rfl (order_all hz)
theorem reach_ev (l : List Int) (es : List S40) (a : Int) (hl : l.length ≤ 70) (he : es.length ≤ 300) (hin : ∀ e ∈ es.map pr, (0 ≤ e.1 ∧ e.1 < l.length) ∧ 0 ≤ e.2 ∧ e.2 < l.length) : Ev (fun k => trefoilref04_Reach.f k l es a) (reachL l.length (es.map pr) a) := ev_of (fun k => reach_f l es a hl he hin k)
theorem order_f (l : List Int) (es : List S40) (hl : l.length ≤ 1000) (he : es.length ≤ 1000) : dag_Order.f l es = some (ordL l (es.map pr)) := by unfold dag_Order.f; rw [if_pos ⟨hl, he⟩]; rfl
theorem total_f (l : List Int) (es : List S40) (hl : l.length ≤ 1000) (he : es.length ≤ 1000) : dag_Total.f l es = some (totL l (es.map pr)) := by unfold dag_Total.f; rw [if_pos ⟨hl, he⟩]; rfl
theorem long_f (l : List Int) (es : List S40) (hl : l.length ≤ 1000) (he : es.length ≤ 1000) : dag_Long.f l es = some (longL l (es.map pr)) := by unfold dag_Long.f; rw [if_pos ⟨hl, he⟩]; rfl
theorem preds_f (l : List Int) (es : List S40) (a : Int) (hl : l.length ≤ 1000) (he : es.length ≤ 1000) : dag_Preds.f l es a = some (predsR a l (es.map pr)) := by unfold dag_Preds.f; rw [if_pos ⟨hl, he⟩]; rfl
theorem succs_f (l : List Int) (es : List S40) (a : Int) (hl : l.length ≤ 1000) (he : es.length ≤ 1000) : dag_Succs.f l es a = some (succsR a l (es.map pr)) := by unfold dag_Succs.f; rw [if_pos ⟨hl, he⟩]; rfl
theorem before_f (l : List Int) (es : List S40) (a b : Int) (hl : l.length ≤ 1000) (he : es.length ≤ 1000) : dag_Before.f l es a b = some (beforeL l (es.map pr) a b) := by unfold dag_Before.f; rw [if_pos ⟨hl, he⟩]; rfl
theorem j1_ev (l : List Int) (es : List S40) (a b : Int) (hz : checkL l (es.map pr) = 0) (hl : l.length ≤ 70) (he : es.length ≤ 300) : Ev (fun k => trefoillaw04_DagTells.j1 k a b (beforeL l (es.map pr) a b) l es) true := by
  have hl' : l.length ≤ 1000 := by omega
  have he' : es.length ≤ 1000 := by omega
  obtain ⟨y1, y2, y3, y4, y5⟩ := ordL_yes hz
  have ht : totL l (es.map pr) = l.sum := by unfold totL; rw [if_pos hz]
  have hp : predsR a l (es.map pr) = rowL l.length (fun i => nearB (es.map pr) i a) := by unfold predsR; rw [if_pos hz, predL_row hz]
  have hs : succsR a l (es.map pr) = rowL l.length (fun i => nearB (es.map pr) a i) := by unfold succsR; rw [if_pos hz, succL_row hz]
  have g2 := (ordL_good hz).2.1
  have r1 := rowL_len l.length (fun i => nearB (es.map pr) i a)
  have r2 := rowL_len l.length (fun i => nearB (es.map pr) a i)
  refine Ev.step (fun k => by rw [trefoillaw04_DagTells.j1, own_f l es hl' he', Option.bind_some, order_f l es hl' he', Option.bind_some]) ?_
  refine Ev.bind (order_ev l es hz hl he) (Ev.bind (ints_ev _ _ (by omega)) ?_)
  simp only [decide_true, if_true, Option.bind_some, total_f l es hl' he']
  refine Ev.bind (total_ev l es hl (works_in y4)) ?_
  rw [ht]
  simp only [if_true, Option.bind_some, long_f l es hl' he']
  refine Ev.bind (long_ev l es hz hl he) ?_
  simp only [if_true, Option.bind_some, preds_f l es a hl' he', hp]
  refine Ev.bind (rowP_ev l es a hl he) (Ev.bind (ints_ev _ _ (by omega)) ?_)
  simp only [decide_true, if_true, Option.bind_some, succs_f l es a hl' he', hs]
  refine Ev.bind (rowS_ev l es a hl he) (Ev.bind (ints_ev _ _ (by omega)) ?_)
  simp only [decide_true, if_true, Option.bind_some, before_f l es a b hl' he', beq_self_eq_true]
  exact Ev.now _
theorem run (l : List Int) (es : List S40) (a b : Int) : ∃ k, trefoillaw04_DagTells.f k l es a b = some true := by
  refine Ev.rounds ?_
  unfold trefoillaw04_DagTells.f
  rw [awake_f]
  simp only [Option.bind_some, if_true]
  rw [few_f]
  simp only [Option.bind_some]
  by_cases hf : l.length ≤ 70 ∧ es.length ≤ 300
  · simp only [decide_eq_true hf, Bool.not_true]
    obtain ⟨hl, he⟩ := hf
    have hl' : l.length ≤ 1000 := by omega
    have he' : es.length ≤ 1000 := by omega
    refine Ev.step (fun k => by rw [trefoillaw04_DagTells.j0, if_neg (by simp)]) (Ev.bind (refcheck_ev l es hl he) ?_)
    by_cases hz : checkL l (es.map pr) = 0
    · simp only [if_pos hz]
      obtain ⟨y1, y2, y3, y4, y5⟩ := ordL_yes hz
      have hin := oddEs_in y3
      have hj := j1_ev l es a b hz hl he
      have hno : ¬ (a ≥ 0 ∧ a < (l.length : Int) ∧ b ≥ 0 ∧ b < (l.length : Int)) → beforeL l (es.map pr) a b = false := by
        intro h
        rw [Bool.eq_false_iff]
        intro hb
        have hp := (before_iff hz a b).1 hb
        obtain ⟨c, hc⟩ := path_first hp
        have h1 := (hin _ hc).1
        have h2 := path_range hin hp
        exact h ⟨h1.1, h1.2, h2.1, h2.2⟩
      by_cases h1 : a ≥ 0
      · by_cases h2 : a < (l.length : Int)
        · by_cases h3 : b ≥ 0
          · by_cases h4 : b < (l.length : Int)
            · simp only [if_pos h1, if_pos h2, if_pos h3, if_pos h4]
              refine Ev.bind (reach_ev l es a hl he hin) ?_
              have hlen : (reachL l.length (es.map pr) a).length = l.length := by unfold reachL; rw [rounds_len]; simp
              have hb : rdOf false (reachL l.length (es.map pr) a) b = beforeL l (es.map pr) a b := by
                rw [Bool.eq_iff_iff, before_iff hz, rdB]
                exact reach_iff hin b h3
              simp only [if_pos (show (0 : Int) ≤ b from h3), hlen, if_pos h4, hb]
              exact hj
            · simp only [if_pos h1, if_pos h2, if_pos h3, if_neg h4]
              rw [hno (fun h => h4 h.2.2.2)] at hj
              exact hj
          · simp only [if_pos h1, if_pos h2, if_neg h3]
            rw [hno (fun h => h3 h.2.2.1)] at hj
            exact hj
        · simp only [if_pos h1, if_neg h2]
          rw [hno (fun h => h2 h.2.1)] at hj
          exact hj
      · simp only [if_neg h1]
        rw [hno (fun h => h1 h.1)] at hj
        exact hj
    · have o0 : ordL l (es.map pr) = [] := by unfold ordL; rw [if_neg hz]
      have t0 : totL l (es.map pr) = 0 := by unfold totL; rw [if_neg hz]
      have l0 : longL l (es.map pr) = 0 := by unfold longL; rw [o0]; rfl
      have p0 : predsR a l (es.map pr) = [] := by unfold predsR; rw [if_neg hz]
      have s0 : succsR a l (es.map pr) = [] := by unfold succsR; rw [if_neg hz]
      have b0 : beforeL l (es.map pr) a b = false := by unfold beforeL; rw [o0]; rfl
      simp only [if_neg hz, own_f l es hl' he', Option.bind_some, order_f l es hl' he', total_f l es hl' he', long_f l es hl' he', preds_f l es a hl' he', succs_f l es a hl' he', before_f l es a b hl' he', o0, t0, l0, p0, s0, b0, List.length_nil]
      exact Ev.now _
  · simp only [decide_eq_false hf, Bool.not_false]
    exact Ev.step (f := fun _ => some true) (fun k => by rw [trefoillaw04_DagTells.j0, if_pos rfl, awake_f, Option.bind_some]) (Ev.now _)
theorem edges_C {w : World} {B : Option Addr} {es : List (Int × Int)} (h : EdC w B es) (hm : es.length ≤ maxLen) : Kd.C k40 w B es.length (es.map fun e => ⟨e.1, e.2⟩) := by
  refine ⟨by simp, by unfold maxLen at hm; omega, fun h0 => ?_⟩
  obtain ⟨ad, rfl, hc⟩ := h h0
  refine ⟨ad, rfl, fun j p hp => ?_⟩
  have hj : j < es.length := by
    rcases Nat.lt_or_ge j es.length with h | h
    · exact h
    · rw [List.getElem?_eq_none (by simpa using h)] at hp; cases hp
  rw [List.getElem?_map, List.getElem?_eq_getElem hj] at hp
  simp only [Option.map_some, Option.some.injEq] at hp
  subst hp
  have hd : es.getD j (0, 0) = es[j] := by rw [List.getD_eq_getElem?_getD, List.getElem?_eq_getElem hj]; rfl
  obtain ⟨h1, h2⟩ := hc j hj
  rw [hd] at h1 h2
  refine ⟨[.int .i64 es[j].1, .int .i64 es[j].2], rfl, k40_mk w ⟨es[j].1, es[j].2⟩, fun i u hi => ?_⟩
  match i, hi with
  | 0, hi => simp at hi; subst hi; exact h1
  | 1, hi => simp at hi; subst hi; exact h2
theorem walk (A0 : Option Addr) (c0 : Nat) (l0 : List Int) (B0 : Option Addr) (d0 : Nat) (es0 : List (Int × Int)) (a1 : Int) (a2 : Int) (w : World) (h0 : DagIn w A0 c0 l0 B0 d0 es0) (h1 : (Lit.int .i64 a1).wf = true) (h2 : (Lit.int .i64 a2).wf = true) :
    Calls Try.prog 4 #[.agg #[.slice A0 l0.length c0, .slice B0 es0.length d0], .int .i64 a1, .int .i64 a2] w fun e w' => e = .returned (.bool true) ∧ Below w.heap.size w w' := by
  obtain ⟨k, hk⟩ := run l0 (es0.map fun e => ⟨e.1, e.2⟩) a1 a2
  have := trefoillaw04_DagTells.calls k A0 c0 l0 B0 d0 (es0.map fun e => ⟨e.1, e.2⟩) a1 a2 true w (Kd.C_of_reads (d := (0 : Int)) (h1 := fun _ => rfl) h0.2.1) h0.1 (by rw [List.length_map]; exact edges_C h0.2.2.2.2.2.1 h0.2.2.2.2.1) (by rw [List.length_map]; exact h0.2.2.2.1) hk rfl
  rw [List.length_map] at this
  exact this
end Go.Proofs.Ytjkindoedkjnbaa.PDagTells
