/- The reference of layer 11, as plain functions. -/
import Derived.Test.YtmbhjhanafmidaaULLstLaw
import Derived.Test.YtmbhjhanafmidaaULMSchC
import Derived.Test.YtmbhjhanafmidaaULMSchC
import Derived.Test.YtmbhjhanafmidaaULMDagB
import Derived.Test.YtmbhjhanafmidaaULMDagB
import Derived.Test.YtmbhjhanafmidaaULMDagB
import Derived.Test.YtmbhjhanafmidaaULPListRunsx18
set_option linter.unusedVariables false
set_option linter.unusedSimpArgs false
set_option linter.unusedSectionVars false
namespace Go.Proofs.Ytmbhjhanafmidaa.PListRuns
open Go.RowKit Go.Proofs.YtmbhjhanafmidaaW.PrintWords Go.Proofs.YtmbhjhanafmidaaW.PrintLast
open Go.Proofs.Ytmbhjhanafmidaa DagPlain SchPlain
def pr (x : S85) : Int × Int := (x.f0, x.f1)
theorem wrap_small {x : Int} (h : 0 ≤ x ∧ x ≤ 1000) : wrap64 x = x := by unfold wrap64; omega
theorem rd_at (es : List S85) (x : Nat) (h : x < es.length) : rd_T85 es (x : Int) = es[x] := by unfold rd_T85; simp [List.getD_eq_getElem?_getD, h]
theorem own_f (l : List Int) (es : List S85) (hl : l.length ≤ 1000) (he : es.length ≤ 1000) : trefoillaw04_Own.f l es = some (l, es) := by
 unfold trefoillaw04_Own.f
 simp only [Option.bind_some, List.length_nil, List.nil_append]
 rw [if_pos (by omega), if_pos (by omega)]
theorem few_f (l : List Int) (es : List S85) : trefoillaw04_Few.f l es = some (decide (l.length ≤ 70 ∧ es.length ≤ 300)) := by
 unfold trefoillaw04_Few.f
 split
 ·rw [Option.some.injEq]
  exact decide_eq_decide.2 (by omega)
 ·rw [Option.some.injEq]
  exact (decide_eq_false (by omega)).symm
theorem node_f (l : List Int) (es : List S85) (a : Int) : trefoilref04_node.f l es a = some (thereB l.length a) := by
 unfold trefoilref04_node.f thereB
 by_cases h : a ≥ 0
 ·rw [if_pos h, decide_eq_true (show (0 : Int) ≤ a from h), Bool.true_and]
 ·rw [if_neg h, decide_eq_false (show ¬ (0 : Int) ≤ a by omega), Bool.false_and]
theorem pr_take (es : List S85) (x : Nat) (p : Int × Int) : (((es.map pr).take x).contains p) = true ↔ ∃ j, ∃ h : j < es.length, j < x ∧ pr es[j] = p := by
 rw [List.contains_iff_mem, List.mem_iff_getElem]
 constructor
 ·rintro ⟨j, hj, e⟩
  have hj1 : j < min x es.length := by simpa using hj
  have hj2 : j < x ∧ j < es.length := by omega
  exact ⟨j, hj2.2, hj2.1, by simpa using e⟩
 ·rintro ⟨j, hj, hx, e⟩
  exact ⟨j, by simp; omega, by simpa using e⟩
theorem l2_run (l : List Int) (es : List S85) (f t : Int) (y : Nat) (hy : y ≤ es.length) (he : es.length ≤ 300) : ∀ (m x : Nat), x + m = y → (∀ j, ∀ h : j < es.length, j < x → pr es[j] ≠ (f, t)) → ∀ k, trefoilref04_Plain.l2 (k + m + 1) (y : Int) (x : Int) l es f t = if (((es.map pr).take y).contains (f, t)) = true then some 42 else trefoilref04_Plain.l1 k (wrap64 ((y : Int) + 1)) l es := by
 intro m
 induction m with
 | zero =>
  intro x hx hno k
  rw [show k + 0 + 1 = k + 1 by omega, trefoilref04_Plain.l2, if_neg (by omega), if_neg]
  rw [pr_take]
  rintro ⟨j, h, hj, e⟩
  exact hno j h (by omega) e
 | succ m ihm =>
  intro x hx hno k
  have hxl : x < es.length := by omega
  have e : wrap64 ((x : Int) + 1) = ((x + 1 : Nat) : Int) := by rw [wrap_small (by omega)]; omega
  rw [show k + (m + 1) + 1 = (k + m + 1) + 1 by omega, trefoilref04_Plain.l2, if_pos (by omega), if_pos (by omega), if_pos (by omega), rd_at es x hxl, e]
  by_cases h : pr es[x] = (f, t)
  ·have h1 : es[x].f0 = f := congrArg Prod.fst h
   have h2 : es[x].f1 = t := congrArg Prod.snd h
   rw [h1, h2, if_pos (by simp), if_pos ((pr_take es y (f, t)).2 ⟨x, hxl, by omega, h⟩)]
  ·rw [if_neg]
   ·exact ihm (x + 1) (by omega) (fun j hj hjx => by
     by_cases ej : j = x
     ·subst ej; exact h
     ·exact hno j hj (by omega)) k
   ·intro hc
    rw [Bool.and_eq_true, beq_iff_eq, beq_iff_eq] at hc
    exact h (by unfold pr; rw [hc.1, hc.2])
def FL : Nat → Nat → Nat
 | 0, _ => 1
 | m + 1, x => FL m (x + 1) + x + 3
theorem l1_run (l : List Int) (es : List S85) (he : es.length ≤ 300) : ∀ (m x : Nat), x + m = es.length → (∀ j, j < x → oddE l.length (es.map pr) j = false) → ∀ k, trefoilref04_Plain.l1 (k + FL m x) (x : Int) l es = some (if oddEs l.length (es.map pr) = true then 42 else 0) := by
 intro m
 induction m with
 | zero =>
  intro x hx hno k
  have h := oddEs_no (n := l.length) (es := es.map pr) (fun j hj => hno j (by rw [List.length_map] at hj; omega))
  rw [show k + FL 0 x = k + 1 from rfl, trefoilref04_Plain.l1, if_neg (by omega), h, if_neg (by simp)]
 | succ m ihm =>
  intro x hx hno k
  have hxl : x < es.length := by omega
  have e : wrap64 ((x : Int) + 1) = ((x + 1 : Nat) : Int) := by rw [wrap_small (by omega)]; omega
  have hg : (es.map pr).getD x (0, 0) = pr es[x] := by simp [List.getD_eq_getElem?_getD, hxl]
  have hodd : oddE l.length (es.map pr) x = (!thereB l.length es[x].f0 || (!thereB l.length es[x].f1 || (decide (es[x].f0 = es[x].f1) || ((es.map pr).take x).contains (es[x].f0, es[x].f1)))) := by
   unfold oddE; rw [hg]; rfl
  have h42 : oddE l.length (es.map pr) x = true → (some (if oddEs l.length (es.map pr) = true then (42 : Int) else 0)) = some 42 := fun h => by
   rw [if_pos (oddEs_yes (by rw [List.length_map]; exact hxl) h)]
  rw [show k + FL (m + 1) x = (k + FL m (x + 1) + x + 1 + 1) + 1 by show k + (FL m (x + 1) + x + 3) = _; omega, trefoilref04_Plain.l1, if_pos (by omega), if_pos (by omega), rd_at es x hxl, node_f, Option.bind_some]
  cases h1 : thereB l.length es[x].f0 with
  | false =>
   rw [if_neg (by simp), trefoilref04_Plain.j3, if_pos rfl, h42 (by rw [hodd, h1]; rfl)]
  | true =>
   rw [if_pos rfl, node_f, Option.bind_some]
   cases h2 : thereB l.length es[x].f1 with
   | false => rw [if_neg (by simp), trefoilref04_Plain.j3, if_pos rfl, h42 (by rw [hodd, h1, h2]; rfl)]
   | true =>
    rw [if_pos rfl, trefoilref04_Plain.j3]
    by_cases h3 : es[x].f0 = es[x].f1
    ·rw [if_pos (by rw [beq_iff_eq]; exact h3), h42 (by rw [hodd, h1, h2, decide_eq_true h3]; rfl)]
    ·rw [if_neg (by rw [beq_iff_eq]; exact h3)]
     have hl2 := l2_run l es es[x].f0 es[x].f1 x (by omega) he x 0 (by omega) (fun j _ hj => absurd hj (by omega)) (k + FL m (x + 1))
     rw [show ((0 : Nat) : Int) = 0 from rfl] at hl2
     rw [hl2]
     cases h4 : ((es.map pr).take x).contains (es[x].f0, es[x].f1) with
     | true => rw [if_pos rfl, h42 (by rw [hodd, h1, h2, decide_eq_false h3, h4]; rfl)]
     | false =>
      rw [if_neg (by simp), e]
      exact ihm (x + 1) (by omega) (fun j hj => by
       by_cases ej : j = x
       ·subst ej; rw [hodd, h1, h2, decide_eq_false h3, h4]; rfl
       ·exact hno j (by omega)) k
theorem l0_run (l : List Int) (es : List S85) (hl : l.length ≤ 70) : ∀ (m x : Nat), x + m = l.length → (∀ j, j < x → oddW (l.getD j 0) = false) → ∀ k, trefoilref04_Plain.l0 (k + m + 1) (x : Int) l es = if l.any oddW = true then some 41 else trefoilref04_Plain.l1 k 0 l es := by
 intro m
 induction m with
 | zero =>
  intro x hx hno k
  rw [show k + 0 + 1 = k + 1 by omega, trefoilref04_Plain.l0, if_neg (by omega), if_neg]
  rw [List.any_eq_true]
  rintro ⟨w, hw, ho⟩
  obtain ⟨j, hj, rfl⟩ := List.getElem_of_mem hw
  have := hno j (by omega)
  rw [List.getD_eq_getElem?_getD, List.getElem?_eq_getElem hj] at this
  simp only [Option.getD_some] at this
  rw [this] at ho
  cases ho
 | succ m ihm =>
  intro x hx hno k
  have hxl : x < l.length := by omega
  have e : wrap64 ((x : Int) + 1) = ((x + 1 : Nat) : Int) := by rw [wrap_small (by omega)]; omega
  have hr : rd l (x : Int) = l.getD x 0 := by unfold rd; simp
  have hmem : l.getD x 0 ∈ l := getD_mem l x hxl
  have hany : oddW (l.getD x 0) = true → l.any oddW = true := fun h => List.any_eq_true.2 ⟨_, hmem, h⟩
  rw [show k + (m + 1) + 1 = (k + m + 1) + 1 by omega, trefoilref04_Plain.l0, if_pos (by omega), if_pos (by omega), hr, e]
  by_cases h1 : l.getD x 0 < 0
  ·rw [if_pos h1, if_pos (hany (by unfold oddW; rw [decide_eq_true h1]; rfl))]
  ·rw [if_neg h1]
   by_cases h2 : l.getD x 0 > 1000
   ·rw [if_pos h2, if_pos (hany (by unfold oddW; rw [decide_eq_true (show (1000 : Int) < l.getD x 0 from h2)]; simp))]
   ·rw [if_neg h2]
    exact ihm (x + 1) (by omega) (fun j hj => by
     by_cases ej : j = x
     ·subst ej; unfold oddW; rw [decide_eq_false h1, decide_eq_false (show ¬ (1000 : Int) < l.getD j 0 from h2)]; rfl
     ·exact hno j (by omega)) k
def plainL (l : List Int) (es : List (Int × Int)) : Int := if 64 < l.length ∨ 256 < es.length then 40 else if l.any oddW = true then 41 else if oddEs l.length es = true then 42 else 0
theorem plain_f (l : List Int) (es : List S85) (hl : l.length ≤ 70) (he : es.length ≤ 300) : ∃ K, ∀ k, trefoilref04_Plain.f (k + K) l es = some (plainL l (es.map pr)) := by
 refine ⟨(FL es.length 0 + l.length + 1) + 1, fun k => ?_⟩
 rw [show k + ((FL es.length 0 + l.length + 1) + 1) = (k + FL es.length 0 + l.length + 1) + 1 by omega]
 unfold trefoilref04_Plain.f plainL
 by_cases h1 : (l.length : Int) > 64
 ·rw [if_pos h1, trefoilref04_Plain.j0, if_pos rfl, if_pos (by omega)]
 ·rw [if_neg h1]
  by_cases h2 : (es.length : Int) > 256
  ·rw [decide_eq_true h2, trefoilref04_Plain.j0, if_pos rfl, if_pos (by rw [List.length_map]; omega)]
  ·rw [decide_eq_false h2, trefoilref04_Plain.j0, if_neg (by simp), if_neg (by rw [List.length_map]; omega)]
   have h0 := l0_run l es hl l.length 0 (by omega) (fun j hj => absurd hj (by omega)) (k + FL es.length 0)
   rw [show ((0 : Nat) : Int) = 0 from rfl] at h0
   rw [h0]
   by_cases h3 : l.any oddW = true
   ·rw [if_pos h3, if_pos h3]
   ·rw [if_neg h3, if_neg h3]
    have h4 := l1_run l es he es.length 0 (by omega) (fun j hj => absurd hj (by omega)) k
    exact h4
theorem rdB (out : List Bool) (v : Int) : rdOf false out v = out.getD v.toNat false := rfl
theorem rl1_run (l : List Int) (es : List S85) (a i : Int) (he : es.length ≤ 300) (n : Nat) (hin : ∀ e ∈ es.map pr, (0 ≤ e.1 ∧ e.1 < n) ∧ 0 ≤ e.2 ∧ e.2 < n) : ∀ (m x : Nat) (out : List Bool), x + m = es.length → out.length = n → ∀ k, trefoilref04_Reach.l1 (k + m + 1) a out i (x : Int) l es = trefoilref04_Reach.l0 k a (((es.map pr).drop x).foldl (stepR a) out) (wrap64 (i + 1)) l es := by
 intro m
 induction m with
 | zero =>
  intro x out hx ho k
  rw [show k + 0 + 1 = k + 1 by omega, trefoilref04_Reach.l1, if_neg (by omega), List.drop_of_length_le (by rw [List.length_map]; omega)]
  rfl
 | succ m ihm =>
  intro x out hx ho k
  have hxl : x < es.length := by omega
  have e : wrap64 ((x : Int) + 1) = ((x + 1 : Nat) : Int) := by rw [wrap_small (by omega)]; omega
  have hmem : pr es[x] ∈ es.map pr := List.mem_map.2 ⟨_, List.getElem_mem hxl, rfl⟩
  have hft := hin _ hmem
  have hf : 0 ≤ es[x].f0 ∧ es[x].f0 < n := hft.1
  have ht : 0 ≤ es[x].f1 ∧ es[x].f1 < n := hft.2
  have hd : (es.map pr).drop x = pr es[x] :: (es.map pr).drop (x + 1) := by
   rw [List.drop_eq_getElem_cons (by rw [List.length_map]; exact hxl)]; simp
  have ih := fun out' ho' => ihm (x + 1) out' (by omega) ho' k
  rw [show k + (m + 1) + 1 = (k + m + 1) + 1 by omega, trefoilref04_Reach.l1, if_pos (by omega), if_pos (by omega), rd_at es x hxl, hd, List.foldl_cons, e]
  have hset : (out.set es[x].f1.toNat true).length = n := by rw [List.length_set]; exact ho
  by_cases h1 : es[x].f0 = a
  ·rw [if_pos h1, if_pos ht.1, if_pos (by rw [ho]; exact ht.2), ih _ hset]
   have hs : stepR a out (pr es[x]) = out.set es[x].f1.toNat true := by unfold stepR; rw [if_pos (.inl h1)]; rfl
   rw [hs]
  ·rw [if_neg h1, if_pos hf.1, if_pos (by rw [ho]; exact hf.2), rdB]
   by_cases h2 : out.getD es[x].f0.toNat false = true
   ·rw [if_pos h2, if_pos ht.1, if_pos (by rw [ho]; exact ht.2), ih _ hset]
    have hs : stepR a out (pr es[x]) = out.set es[x].f1.toNat true := by unfold stepR; rw [if_pos (.inr h2)]; rfl
    rw [hs]
   ·rw [if_neg h2, ih _ ho]
    have hs : stepR a out (pr es[x]) = out := by
     unfold stepR
     rw [if_neg]
     rintro (h | h)
     ·exact h1 h
     ·exact h2 h
    rw [hs]
def RF (m : Nat) : Nat → Nat
 | 0 => 1
 | d + 1 => RF m d + m + 1 + 1
theorem rl0_run (l : List Int) (es : List S85) (a : Int) (hl : l.length ≤ 70) (he : es.length ≤ 300) (hin : ∀ e ∈ es.map pr, (0 ≤ e.1 ∧ e.1 < l.length) ∧ 0 ≤ e.2 ∧ e.2 < l.length) : ∀ (d x : Nat) (out : List Bool), x + d = l.length → out.length = l.length → ∀ k, trefoilref04_Reach.l0 (k + RF es.length d) a out (x : Int) l es = some (rounds a (es.map pr) d out) := by
 intro d
 induction d with
 | zero =>
  intro x out hx ho k
  rw [show k + RF es.length 0 = k + 1 from rfl, trefoilref04_Reach.l0, if_neg (by omega)]
  rfl
 | succ d ihd =>
  intro x out hx ho k
  have e : wrap64 ((x : Int) + 1) = ((x + 1 : Nat) : Int) := by rw [wrap_small (by omega)]; omega
  have h1 := rl1_run l es a (x : Int) he l.length hin es.length 0 out (by omega) ho (k + RF es.length d)
  rw [show ((0 : Nat) : Int) = 0 from rfl, List.drop_zero, e] at h1
  rw [show k + RF es.length (d + 1) = (k + RF es.length d + es.length + 1) + 1 by show k + (RF es.length d + es.length + 1 + 1) = _; omega, trefoilref04_Reach.l0, if_pos (by omega), h1]
  exact ihd (x + 1) _ (by omega) (by rw [foldR_len]; exact ho) k
theorem reach_f (l : List Int) (es : List S85) (a : Int) (hl : l.length ≤ 70) (he : es.length ≤ 300) (hin : ∀ e ∈ es.map pr, (0 ≤ e.1 ∧ e.1 < l.length) ∧ 0 ≤ e.2 ∧ e.2 < l.length) (k : Nat) : trefoilref04_Reach.f (k + RF es.length l.length) l es a = some (reachL l.length (es.map pr) a) := by
 unfold trefoilref04_Reach.f
 have h := rl0_run l es a hl he hin l.length 0 (List.replicate l.length false) (by omega) (by simp) k
 rw [if_pos (by omega), if_pos (by omega)]
 exact h
theorem cl0_run (l : List Int) (es : List S85) (hl : l.length ≤ 70) (he : es.length ≤ 300) (hin : ∀ e ∈ es.map pr, (0 ≤ e.1 ∧ e.1 < l.length) ∧ 0 ≤ e.2 ∧ e.2 < l.length) (z : Int)
  (h43 : ∀ v : Nat, v < l.length → Path (es.map pr) (v : Int) (v : Int) → z = 43) (h0 : (∀ v : Nat, v < l.length → ¬ Path (es.map pr) (v : Int) (v : Int)) → z = 0) :
  ∀ (m x : Nat), x + m = l.length → (∀ j : Nat, j < x → ¬ Path (es.map pr) (j : Int) (j : Int)) → ∀ k, trefoilref04_Check.l0 (k + RF es.length l.length + m + 1) (x : Int) l es = some z := by
 intro m
 induction m with
 | zero =>
  intro x hx hno k
  rw [show k + RF es.length l.length + 0 + 1 = (k + RF es.length l.length) + 1 by omega, trefoilref04_Check.l0, if_neg (by omega), h0 (fun v hv => hno v (by omega))]
 | succ m ihm =>
  intro x hx hno k
  have hxl : x < l.length := by omega
  have e : wrap64 ((x : Int) + 1) = ((x + 1 : Nat) : Int) := by rw [wrap_small (by omega)]; omega
  have hlen : (reachL l.length (es.map pr) (x : Int)).length = l.length := by unfold reachL; rw [rounds_len]; simp
  have hr := reach_f l es (x : Int) hl he hin (k + m + 1)
  rw [show k + m + 1 + RF es.length l.length = k + RF es.length l.length + m + 1 by omega] at hr
  rw [show k + RF es.length l.length + (m + 1) + 1 = (k + RF es.length l.length + m + 1) + 1 by omega, trefoilref04_Check.l0, if_pos (by omega), hr, Option.bind_some, if_pos (by omega), if_pos (by rw [hlen]; omega), rdB, e]
  have hiff := reach_iff hin (a := (x : Int)) (x : Int) (by omega)
  by_cases hp : Path (es.map pr) (x : Int) (x : Int)
  ·rw [if_pos (hiff.2 hp), h43 x hxl hp]
  ·rw [if_neg (fun h => hp (hiff.1 h))]
   exact ihm (x + 1) (by omega) (fun j hj => by
    by_cases ej : j = x
    ·subst ej; exact hp
    ·exact hno j (by omega)) k
theorem path_range {es : List (Int × Int)} {n : Nat} (hin : ∀ e ∈ es, (0 ≤ e.1 ∧ e.1 < n) ∧ 0 ≤ e.2 ∧ e.2 < n) {a b : Int} (h : Path es a b) : 0 ≤ b ∧ b < n := by
 obtain ⟨p, he, _⟩ := h.last
 exact (hin _ he).2
theorem refcheck_f (l : List Int) (es : List S85) (hl : l.length ≤ 70) (he : es.length ≤ 300) : ∃ K, ∀ k, trefoilref04_Check.f (k + K) l es = some (checkL l (es.map pr)) := by
 obtain ⟨K, hK⟩ := plain_f l es hl he
 refine ⟨K + RF es.length l.length + l.length + 1, fun k => ?_⟩
 have h1 := hK (k + RF es.length l.length + l.length + 1)
 rw [show k + RF es.length l.length + l.length + 1 + K = k + (K + RF es.length l.length + l.length + 1) by omega] at h1
 unfold trefoilref04_Check.f
 rw [h1, Option.bind_some]
 unfold plainL
 by_cases g1 : 64 < l.length ∨ 256 < (es.map pr).length
 ·rw [if_pos g1, if_neg (by decide)]; unfold checkL; rw [if_pos g1]
 ·rw [if_neg g1]
  by_cases g2 : l.any oddW = true
  ·rw [if_pos g2, if_neg (by decide)]; unfold checkL; rw [if_neg g1, if_pos g2]
  ·rw [if_neg g2]
   by_cases g3 : oddEs l.length (es.map pr) = true
   ·rw [if_pos g3, if_neg (by decide)]; unfold checkL; rw [if_neg g1, if_neg g2, if_pos g3]
   ·rw [if_neg g3, if_pos rfl]
    have hin := oddEs_in (n := l.length) (es := es.map pr) (by simpa using g3)
    have hc : checkL l (es.map pr) = if (orderL l.length (es.map pr)).isSome = true then 0 else 43 := by unfold checkL; rw [if_neg g1, if_neg g2, if_neg g3]
    have hrun := cl0_run l es hl he hin (checkL l (es.map pr)) (fun v hv hp => by
     by_cases hs : (orderL l.length (es.map pr)).isSome = true
     ·exact absurd hp (no_round (by rw [hc, if_pos hs]) _)
     ·rw [hc, if_neg hs]) (fun hno => by
     by_cases hs : (orderL l.length (es.map pr)).isSome = true
     ·rw [hc, if_pos hs]
     ·obtain ⟨v, hv⟩ := order_none hin (by simpa using hs)
      have hb := path_range hin hv
      exact absurd (show Path (es.map pr) ((v.toNat : Nat) : Int) ((v.toNat : Nat) : Int) by rw [show ((v.toNat : Nat) : Int) = v by omega]; exact hv) (hno v.toNat (by omega))) l.length 0 (by omega) (fun j hj => absurd hj (by omega)) (k + K)
    rw [show k + (K + RF es.length l.length + l.length + 1) = k + K + RF es.length l.length + l.length + 1 by omega]
    exact hrun
theorem oddN_t {v : Int} (h : v < 1 ∨ 1000 < v) : oddN v = true := by
 unfold oddN
 rcases h with h | h
 ·rw [decide_eq_true h]; rfl
 ·rw [decide_eq_true h]; simp
theorem oddN_f {v : Int} (h : 1 ≤ v ∧ v ≤ 1000) : oddN v = false := by
 unfold oddN
 rw [decide_eq_false (by omega), decide_eq_false (by omega)]; rfl
theorem form_run (l : List Int) (es : List S85) (need : List Int) (c : Int) (hn : need.length ≤ 70) : ∀ (m x : Nat), x + m = need.length → (∀ j, j < x → oddN (need.getD j 0) = false) → ∀ k, trefoilref10_Form.l0 (k + m + 1) need c (x : Int) l es = some (rightB l need c) := by
 intro m
 induction m with
 | zero =>
  intro x hx hj k
  have ha : need.any oddN = false := by
   rw [List.any_eq_false]
   intro y hy
   obtain ⟨j, hj2, rfl⟩ := List.mem_iff_getElem.1 hy
   have := hj j (by omega)
   rw [List.getD_eq_getElem?_getD, List.getElem?_eq_getElem hj2] at this
   simpa using this
  rw [show k + 0 + 1 = k + 1 by omega, trefoilref10_Form.l0, if_neg (by omega)]
  unfold rightB
  rw [ha]
  by_cases h1 : need.length = l.length
  ·by_cases h2 : c ≥ 1
   ·rw [if_pos (by omega), if_pos h2, decide_eq_true h1, decide_eq_true (show (1 : Int) ≤ c from h2)]; rfl
   ·rw [if_pos (by omega), if_neg h2, decide_eq_false (show ¬ (1 : Int) ≤ c by omega)]; simp
  ·rw [if_neg (by omega), decide_eq_false h1]; rfl
 | succ m ih =>
  intro x hx hj k
  have hxl : x < need.length := by omega
  have e : wrap64 ((x : Int) + 1) = ((x + 1 : Nat) : Int) := by rw [wrap_small (by omega)]; omega
  have hr : rd need (x : Int) = need.getD x 0 := by unfold rd; simp
  have hodd : oddN (need.getD x 0) = true → rightB l need c = false := by
   intro h
   have : need.any oddN = true := List.any_eq_true.2 ⟨need.getD x 0, by rw [List.getD_eq_getElem?_getD, List.getElem?_eq_getElem hxl]; exact List.getElem_mem hxl, h⟩
   unfold rightB; rw [this]; simp
  rw [show k + (m + 1) + 1 = (k + m + 1) + 1 by omega, trefoilref10_Form.l0, if_pos (by omega), if_pos (by omega), hr]
  by_cases h1 : need.getD x 0 < 1
  ·rw [if_pos h1, hodd (oddN_t (by omega))]
  ·by_cases h2 : need.getD x 0 > 1000
   ·rw [if_neg h1, if_pos h2, hodd (oddN_t (by omega))]
   ·rw [if_neg h1, if_neg h2, e]
    refine ih (x + 1) (by omega) (fun j hj2 => ?_) k
    by_cases h3 : j = x
    ·subst h3; exact oddN_f (by omega)
    ·exact hj j (by omega)
theorem ev_of {α : Type} {g : Nat → Option α} {r : α} {K : Nat} (h : ∀ k, g (k + K) = some r) : Ev g r := ⟨K, fun k hk => by
 have := h (k - K)
 rw [show k - K + K = k by omega] at this
 exact this⟩
theorem ev_add {α : Type} {g : Nat → Option α} {r : α} (h : ∃ K, ∀ k, g (k + K) = some r) : Ev g r := by
 obtain ⟨K, h⟩ := h
 exact ev_of h
theorem refcheck_ev (l : List Int) (es : List S85) (hl : l.length ≤ 70) (he : es.length ≤ 300) : Ev (fun k => trefoilref04_Check.f k l es) (checkL l (es.map pr)) := ev_add (refcheck_f l es hl he)
theorem form_ev (l : List Int) (es : List S85) (need : List Int) (c : Int) (hn : need.length ≤ 70) : Ev (fun k => trefoilref10_Form.f k l es need c) (rightB l need c) :=
 ev_of (K := need.length + 1) (fun k => form_run l es need c hn need.length 0 (by omega) (fun j hj => absurd hj (by omega)) k)
theorem ev_use {α β : Type} {g : Nat → Option α} {a : α} (h : Ev g a) {G f : Nat → Option β} {r : β} (hs : ∀ k, g k = some a → G (k + 1) = f k) (hf : Ev f r) : Ev G r := by
 obtain ⟨K, hK⟩ := h
 obtain ⟨K', hK'⟩ := hf
 refine ⟨max K K' + 1, fun k hk => ?_⟩
 obtain ⟨m, rfl⟩ : ∃ m, k = m + 1 := ⟨k - 1, by omega⟩
 rw [hs m (hK m (by omega)), hK' m (by omega)]
theorem ev_use2 {α α' β : Type} {g : Nat → Option α} {a : α} (h : Ev g a) {g' : Nat → Option α'} {a' : α'} (h' : Ev g' a') {G f : Nat → Option β} {r : β} (hs : ∀ k, g k = some a → g' k = some a' → G (k + 1) = f k) (hf : Ev f r) : Ev G r := by
 obtain ⟨K2, hK2⟩ := h'
 obtain ⟨K, hK⟩ := h
 obtain ⟨K', hK'⟩ := hf
 refine ⟨max (max K K2) K' + 1, fun k hk => ?_⟩
 obtain ⟨m, rfl⟩ : ∃ m, k = m + 1 := ⟨k - 1, by omega⟩
 rw [hs m (hK m (by omega)) (hK2 m (by omega)), hK' m (by omega)]
theorem wrap_up {x : Nat} (h : x ≤ 1000000) : wrap64 ((x : Int) + 1) = ((x + 1 : Nat) : Int) := by unfold wrap64; omega
theorem rdn (zs : List Int) (i : Nat) : rd zs (i : Int) = zs.getD i 0 := by unfold rd; rw [Int.toNat_natCast]
theorem has_ev (zs : List Int) (x : Int) (hz : zs.length ≤ 1000) : Ev (fun k => trefoilref04_Has.f k zs x) (zs.contains x) := by
 unfold trefoilref04_Has.f
 have key : ∀ (m i : Nat), i + m = zs.length → Ev (fun k => trefoilref04_Has.l0 k zs x (i : Int)) ((zs.drop i).contains x) := by
  intro m
  induction m with
  | zero =>
   intro i hx
   rw [List.drop_of_length_le (by omega)]
   exact Ev.step (f := fun _ => some false) (fun k => by rw [trefoilref04_Has.l0, if_neg (by omega)]) (Ev.now _)
  | succ m ih =>
   intro i hx
   have r1 : rd zs (i : Int) = zs[i] := by unfold rd; simp [List.getD_eq_getElem?_getD, show i < zs.length by omega]
   rw [List.drop_eq_getElem_cons (by omega), List.contains_cons]
   by_cases hc : zs[i] = x
   ·rw [hc, beq_self_eq_true, Bool.true_or]
    exact Ev.step (f := fun _ => some true) (fun k => by rw [trefoilref04_Has.l0, if_pos (by omega), if_pos (by omega), r1, if_pos hc]) (Ev.now _)
   ·rw [show (x == zs[i]) = false by simpa using fun e => hc e.symm, Bool.false_or]
    refine Ev.step (fun k => ?_) (ih (i + 1) (by omega))
    rw [trefoilref04_Has.l0, if_pos (by omega), if_pos (by omega), r1, if_neg hc, wrap_up (by omega)]
 have := key zs.length 0 (by omega)
 rw [List.drop_zero] at this
 exact this
section
variable (l : List Int) (es : List S85)
def nearB (es : List S85) (a b : Int) : Bool := es.any fun e => e.f0 == a && e.f1 == b
theorem near_ev (a b : Int) (he : es.length ≤ 1000) : Ev (fun k => trefoilref04_Near.f k l es a b) (nearB es a b) := by
 unfold trefoilref04_Near.f nearB
 have key : ∀ (m i : Nat), i + m = es.length → Ev (fun k => trefoilref04_Near.l0 k a b (i : Int) l es) ((es.drop i).any fun e => e.f0 == a && e.f1 == b) := by
  intro m
  induction m with
  | zero =>
   intro i hi
   rw [List.drop_of_length_le (by omega)]
   exact Ev.step (f := fun _ => some false) (fun k => by rw [trefoilref04_Near.l0, if_neg (by omega)]) (Ev.now _)
  | succ m ih =>
   intro i hi
   have r1 : rd_T85 es (i : Int) = es[i] := by unfold rd_T85; simp [List.getD_eq_getElem?_getD, show i < es.length by omega]
   rw [List.drop_eq_getElem_cons (by omega), List.any_cons]
   generalize es[i] = e at *
   have hn := ih (i + 1) (by omega)
   by_cases h1 : e.f0 = a
   ·by_cases h2 : e.f1 = b
    ·rw [show (e.f0 == a && e.f1 == b) = true by simp [h1, h2], Bool.true_or]
     exact Ev.step (f := fun _ => some true) (fun k => by rw [trefoilref04_Near.l0, if_pos (by omega), if_pos (by omega), r1, if_pos h1, if_pos h2]) (Ev.now _)
    ·rw [show (e.f0 == a && e.f1 == b) = false by simp [h2], Bool.false_or]
     exact Ev.step (fun k => by rw [trefoilref04_Near.l0, if_pos (by omega), if_pos (by omega), r1, if_pos h1, if_neg h2, wrap_up (by omega)]) hn
   ·rw [show (e.f0 == a && e.f1 == b) = false by simp [h1], Bool.false_or]
    exact Ev.step (fun k => by rw [trefoilref04_Near.l0, if_pos (by omega), if_pos (by omega), r1, if_neg h1, wrap_up (by omega)]) hn
 exact key es.length 0 (by omega)
def predF (es : List S85) (n : Int) (i m : Nat) : List Int := ((List.range' i m).map fun (j : Nat) => (j : Int)).filter fun x => nearB es x n
theorem predF_succ (n : Int) (i m : Nat) : predF es n i (m + 1) = (if nearB es (i : Int) n = true then [(i : Int)] else []) ++ predF es n (i + 1) m := by
 unfold predF
 rw [List.range'_succ, List.map_cons, List.filter_cons]
 split <;> simp
theorem mem_predF {n x : Int} {m : Nat} : x ∈ predF es n 0 m ↔ (0 ≤ x ∧ x < m) ∧ ∃ e ∈ es, e.f0 = x ∧ e.f1 = n := by
 unfold predF nearB
 simp only [List.mem_filter, List.mem_map, List.mem_range'_1, List.any_eq_true, Bool.and_eq_true, beq_iff_eq]
 constructor
 ·rintro ⟨⟨j, hj, rfl⟩, e, he, h⟩
  exact ⟨by omega, e, he, h⟩
 ·rintro ⟨hx, e, he, h⟩
  exact ⟨⟨x.toNat, by omega, by omega⟩, e, he, h⟩
theorem preds_ev (n : Int) (hl : l.length ≤ 1000) (he : es.length ≤ 1000) : Ev (fun k => trefoilref04_Preds.f k l es n) (predF es n 0 l.length) := by
 unfold trefoilref04_Preds.f
 have key : ∀ (m i : Nat) (acc : List Int), i + m = l.length → acc.length ≤ i → Ev (fun k => trefoilref04_Preds.l0 k n acc (i : Int) l es) (acc ++ predF es n i m) := by
  intro m
  induction m with
  | zero =>
   intro i acc hi _
   rw [show predF es n i 0 = [] from rfl, List.append_nil]
   exact Ev.step (f := fun _ => some acc) (fun k => by rw [trefoilref04_Preds.l0, if_neg (by omega)]) (Ev.now _)
  | succ m ih =>
   intro i acc hi ha
   have hn := near_ev l es (i : Int) n he
   rw [predF_succ]
   cases hb : nearB es (i : Int) n with
   | true =>
    rw [if_pos rfl, ← List.append_assoc]
    rw [hb] at hn
    refine ev_use hn (fun k hk => ?_) (ih (i + 1) (acc ++ [(i : Int)]) (by omega) (by simp; omega))
    rw [trefoilref04_Preds.l0, if_pos (by omega), hk, Option.bind_some, if_pos rfl, if_pos (by omega), wrap_up (by omega)]
   | false =>
    rw [if_neg (by simp), List.nil_append]
    rw [hb] at hn
    refine ev_use hn (fun k hk => ?_) (ih (i + 1) acc (by omega) (by omega))
    rw [trefoilref04_Preds.l0, if_pos (by omega), hk, Option.bind_some, if_neg (by simp), wrap_up (by omega)]
 have := key l.length 0 [] (by omega) (by simp)
 rw [List.nil_append] at this
 exact this
theorem over_ev (on left : List Int) (n : Int) (hl : l.length ≤ 1000) (he : es.length ≤ 1000) (hlen : left.length = l.length) :
  Ev (fun k => trefoilref11_Over.f k l es on left n) ((predF es n 0 l.length).all fun x => !decide (left.getD x.toNat 0 > 0)) := by
 unfold trefoilref11_Over.f
 refine Ev.bind (preds_ev l es n hl he) ?_
 have hx : ∀ x ∈ predF es n 0 l.length, 0 ≤ x ∧ x < (left.length : Int) := fun x hx => by rw [hlen]; exact ((mem_predF es).1 hx).1
 have hlx : (predF es n 0 l.length).length ≤ 1000 := Nat.le_trans (List.length_filter_le _ _) (by simp; omega)
 generalize predF es n 0 l.length = xs at *
 have key : ∀ (m i : Nat), i + m = xs.length → Ev (fun k => trefoilref11_Over.l0 k xs (i : Int) on left) ((xs.drop i).all fun x => !decide (left.getD x.toNat 0 > 0)) := by
  intro m
  induction m with
  | zero =>
   intro i hi
   rw [List.drop_of_length_le (by omega)]
   exact Ev.step (f := fun _ => some true) (fun k => by rw [trefoilref11_Over.l0, if_neg (by omega)]) (Ev.now _)
  | succ m ih =>
   intro i hi
   have r1 : rd xs (i : Int) = xs[i] := by unfold rd; simp [List.getD_eq_getElem?_getD, show i < xs.length by omega]
   have h2 := hx xs[i] (List.getElem_mem (by omega))
   rw [List.drop_eq_getElem_cons (by omega), List.all_cons]
   generalize xs[i] = x at *
   have r2 : rd left x = left.getD x.toNat 0 := rfl
   by_cases h1 : left.getD x.toNat 0 > 0
   ·rw [decide_eq_true h1, Bool.not_true, Bool.false_and]
    exact Ev.step (f := fun _ => some false) (fun k => by rw [trefoilref11_Over.l0, if_pos (by omega), if_pos (by omega), r1, if_pos h2.1, if_pos h2.2, r2, if_pos h1]) (Ev.now _)
   ·rw [decide_eq_false h1, Bool.not_false, Bool.true_and]
    exact Ev.step (fun k => by rw [trefoilref11_Over.l0, if_pos (by omega), if_pos (by omega), r1, if_pos h2.1, if_pos h2.2, r2, if_neg h1, wrap_up (by omega)]) (ih (i + 1) (by omega))
 have := key xs.length 0 (by omega)
 rw [List.drop_zero] at this
 exact this
theorem over_free (left : List Int) (n : Int) (hin : ∀ x ∈ es, (0 : Int) ≤ x.f0 ∧ x.f0 < (l.length : Int)) (hlo : ∀ i : Nat, 0 ≤ left.getD i 0) :
  ((predF es n 0 l.length).all fun x => !decide (left.getD x.toNat 0 > 0)) = LstPlain.freeC (es.map pr) left n := by
 rw [Bool.eq_iff_iff, LstPlain.free_iff, List.all_eq_true]
 constructor
 ·intro h e he h2
  obtain ⟨x, hx, rfl⟩ := List.mem_map.1 he
  have h3 := h x.f0 ((mem_predF es).2 ⟨hin x hx, x, hx, rfl, h2⟩)
  have h4 := hlo x.f0.toNat
  simp only [Bool.not_eq_true', decide_eq_false_iff_not] at h3
  show left.getD x.f0.toNat 0 = 0
  omega
 ·intro h x hx
  obtain ⟨_, e, he, h1, h2⟩ := (mem_predF es).1 hx
  have h3 := h (pr e) (List.mem_map_of_mem he) h2
  have h4 : left.getD x.toNat 0 = 0 := by rw [← h1]; exact h3
  simp only [Bool.not_eq_true', decide_eq_false_iff_not]
  omega
theorem ready_ev (on left : List Int) (hl : l.length ≤ 1000) (he : es.length ≤ 1000) (ho : on.length ≤ 1000) (hlen : left.length = l.length) (hin : ∀ x ∈ es, (0 : Int) ≤ x.f0 ∧ x.f0 < (l.length : Int)) (hlo : ∀ i : Nat, 0 ≤ left.getD i 0) :
  Ev (fun k => trefoilref11_Ready.f k l es on left) (LstPlain.readyL (es.map pr) on left) := by
 unfold trefoilref11_Ready.f
 have key : ∀ (m i : Nat) (acc : List Int), i + m = left.length → acc.length ≤ i → Ev (fun k => trefoilref11_Ready.l0 k acc (i : Int) l es on left) (acc ++ ((List.range' i m).filter (LstPlain.readyB (es.map pr) on left)).map fun (n : Nat) => (n : Int)) := by
  intro m
  induction m with
  | zero =>
   intro i acc hi _
   rw [show List.range' i 0 = [] from rfl, List.filter_nil, List.map_nil, List.append_nil]
   exact Ev.step (f := fun _ => some acc) (fun k => by rw [trefoilref11_Ready.l0, if_neg (by omega)]) (Ev.now _)
  | succ m ih =>
   intro i acc hi ha
   have h0 := hlo i
   have hh := has_ev on (i : Int) ho
   have hv := over_ev l es on left (i : Int) hl he hlen
   rw [over_free l es left (i : Int) hin hlo] at hv
   have hno := ih (i + 1) acc (by omega) (by omega)
   have hyes := ih (i + 1) (acc ++ [(i : Int)]) (by omega) (by simp; omega)
   rw [List.range'_succ, List.filter_cons]
   have hB : LstPlain.readyB (es.map pr) on left i = (!decide (left.getD i 0 = 0) && !on.contains (i : Int) && LstPlain.freeC (es.map pr) left (i : Int)) := by unfold LstPlain.readyB LstPlain.overC; rw [Int.toNat_natCast]
   rw [hB]
   by_cases h1 : left.getD i 0 = 0
   ·rw [decide_eq_true h1, Bool.not_true, Bool.false_and, Bool.false_and, if_neg (by simp)]
    exact Ev.step (fun k => by rw [trefoilref11_Ready.l0, if_pos (by omega), if_pos (by omega), rdn, if_neg (by omega), wrap_up (by omega)]) hno
   ·rw [decide_eq_false h1, Bool.not_false, Bool.true_and]
    cases h2 : on.contains (i : Int) with
    | true =>
     rw [h2] at hh
     rw [Bool.not_true, Bool.false_and, if_neg (by simp)]
     refine ev_use hh (fun k hk => ?_) hno
     rw [trefoilref11_Ready.l0, if_pos (by omega), if_pos (by omega), rdn, if_pos (by omega), hk, Option.bind_some, if_pos rfl, wrap_up (by omega)]
    | false =>
     rw [h2] at hh
     rw [Bool.not_false, Bool.true_and]
     cases h3 : LstPlain.freeC (es.map pr) left (i : Int) with
     | true =>
      rw [h3] at hv
      rw [if_pos rfl, List.map_cons, show acc ++ ((i : Int) :: _) = (acc ++ [(i : Int)]) ++ _ from by rw [List.append_assoc]; rfl]
      refine ev_use2 hh hv (fun k hk hk2 => ?_) hyes
      rw [trefoilref11_Ready.l0, if_pos (by omega), if_pos (by omega), rdn, if_pos (by omega), hk, Option.bind_some, if_neg (by simp), hk2, Option.bind_some, if_pos rfl, if_pos (by omega), wrap_up (by omega)]
     | false =>
      rw [h3] at hv
      rw [if_neg (by simp)]
      refine ev_use2 hh hv (fun k hk hk2 => ?_) hno
      rw [trefoilref11_Ready.l0, if_pos (by omega), if_pos (by omega), rdn, if_pos (by omega), hk, Option.bind_some, if_neg (by simp), hk2, Option.bind_some, if_neg (by simp), wrap_up (by omega)]
 have := key left.length 0 [] (by omega) (by simp)
 rw [List.nil_append] at this
 unfold LstPlain.readyL
 rw [List.range_eq_range']
 exact this
end
theorem mem_set_row {on : List Int} {i : Nat} {x y : Int} (hi : i < on.length) (h : on.getD i 0 = -1) (hx : x ≠ -1) : x ∈ on.set i y ↔ x = y ∨ x ∈ on := by
 constructor
 ·intro hm
  rcases List.mem_or_eq_of_mem_set hm with h1 | h1
  ·exact .inr h1
  ·exact .inl h1
 ·rintro (rfl | hm)
  ·refine getD_row_mem (c := i) (by rw [List.length_set]; exact hi) ?_
   rw [List.getD_eq_getElem?_getD, List.getElem?_set_self hi]; rfl
  ·obtain ⟨c, hc, e⟩ := LstPlain.getD_mem_of hm
   have hne : i ≠ c := fun e2 => hx (by rw [← e, ← e2]; exact h)
   refine getD_row_mem (c := c) (by rw [List.length_set]; exact hc) ?_
   rw [List.getD_eq_getElem?_getD, List.getElem?_set_ne hne, ← List.getD_eq_getElem?_getD]; exact e
theorem ready_set {es : List (Int × Int)} {on left : List Int} {i : Nat} {y : Int} {r : List Int} (hi : i < on.length) (h : on.getD i 0 = -1) (hr : LstPlain.readyL es on left = y :: r) : LstPlain.readyL es (on.set i y) left = r := by
 have hnd := LstPlain.ready_nodup es on left
 rw [hr] at hnd
 have hB : LstPlain.readyB es (on.set i y) left = fun n => ((fun x : Int => !decide (x = y)) ∘ fun (n : Nat) => (n : Int)) n && LstPlain.readyB es on left n := by
  funext n
  have hm := mem_set_row (y := y) hi h (x := (n : Int)) (by omega)
  have hc : (on.set i y).contains (n : Int) = (decide ((n : Int) = y) || on.contains (n : Int)) := by
   rw [Bool.eq_iff_iff]; simp only [List.contains_iff_mem, Bool.or_eq_true, decide_eq_true_eq]; exact hm
  unfold LstPlain.readyB
  rw [hc]
  show _ = (!decide ((n : Int) = y) && _)
  cases decide ((n : Int) = y) <;> simp
 unfold LstPlain.readyL at hr ⊢
 rw [hB, ← List.filter_filter, ← List.filter_map, hr, List.filter_cons, if_neg (by simp)]
 exact List.filter_eq_self.2 (fun x hx => by
  have : x ≠ y := fun e => (List.nodup_cons.1 hnd).1 (by rw [← e]; exact hx)
  simpa using this)
theorem fill_ev (l : List Int) (es : List S85) (on left : List Int) (hl : l.length ≤ 1000) (he : es.length ≤ 1000) (ho : on.length ≤ 1000) (hlen : left.length = l.length) (hin : ∀ x ∈ es, (0 : Int) ≤ x.f0 ∧ x.f0 < (l.length : Int)) (hlo : ∀ i : Nat, 0 ≤ left.getD i 0) :
  Ev (fun k => trefoilref11_Fill.f k l es on left) (LstPlain.fillL (LstPlain.readyL (es.map pr) on left) on, left) := by
 have hR : ∀ i, i ≤ on.length → LstPlain.readyL (es.map pr) (fillK (LstPlain.readyL (es.map pr) on left) on i).1 left = (fillK (LstPlain.readyL (es.map pr) on left) on i).2 := by
  intro i
  induction i with
  | zero => intro _; rfl
  | succ i ih =>
   intro hi
   have h1 := ih (by omega)
   have h2 := fillK_len (LstPlain.readyL (es.map pr) on left) on i
   rw [fillK_next]
   unfold LstPlain.fillS
   split
   ·rename_i h3
    split
    ·exact h1
    ·rename_i y r hq
     rw [hq] at h1
     exact ready_set (by omega) h3 h1
   ·exact h1
 have key : ∀ (m i : Nat), i + m = on.length → Ev (fun k => trefoilref11_Fill.l0 k (i : Int) l es (fillK (LstPlain.readyL (es.map pr) on left) on i).1 left) (LstPlain.fillL (LstPlain.readyL (es.map pr) on left) on, left) := by
  intro m
  induction m with
  | zero =>
   intro i hi
   have h2 := fillK_len (LstPlain.readyL (es.map pr) on left) on i
   obtain rfl : i = on.length := by omega
   refine Ev.step (f := fun _ => some (LstPlain.fillL (LstPlain.readyL (es.map pr) on left) on, left)) (fun k => ?_) (Ev.now _)
   rw [trefoilref11_Fill.l0, if_neg (by omega)]; rfl
  | succ m ih =>
   intro i hi
   have hn := ih (i + 1) (by omega)
   have h1 := hR i (by omega)
   have h2 := fillK_len (LstPlain.readyL (es.map pr) on left) on i
   rw [fillK_next] at hn
   generalize fillK (LstPlain.readyL (es.map pr) on left) on i = s at *
   have hr := ready_ev l es s.1 left hl he (by omega) hlen hin hlo
   rw [h1] at hr
   refine ev_use hr (fun k hk => ?_) hn
   rw [trefoilref11_Fill.l0, if_pos (by omega), hk, Option.bind_some, if_pos (by omega), rdn, wrap_up (by omega)]
   unfold LstPlain.fillS
   by_cases h3 : s.1.getD i 0 = -1
   ·rw [if_pos h3, if_pos h3]
    cases hq : s.2 with
    | nil => rw [if_neg (by simp)]
    | cons y r => rw [if_pos (by simp), if_pos (by simp), Int.toNat_natCast]; rfl
   ·rw [if_neg h3, if_neg h3]
 refine Ev.congr (fun k => ?_) (key on.length 0 (by omega))
 unfold trefoilref11_Fill.f
 simp only [Option.bind_some, List.length_nil, List.nil_append]
 rw [if_pos (by omega), if_pos (by omega)]
 rfl
theorem if_cg {α : Type} {p q : Prop} [Decidable p] [Decidable q] {a b c d : α} (h : p ↔ q) (h1 : a = b) (h2 : c = d) : (if p then a else c) = if q then b else d := by
 subst h1 h2
 by_cases hp : p
 ·rw [if_pos hp, if_pos (h.1 hp)]
 ·rw [if_neg hp, if_neg (fun hq => hp (h.2 hq))]
section
variable {on left : List Int}
def dnL (on left : List Int) (n : Nat) : List Int := ((List.range n).filter fun (j : Nat) => on.contains (j : Int) && left.getD j 0 == 1).map fun (j : Nat) => (j : Int)
theorem dnL_succ (n : Nat) : dnL on left (n + 1) = dnL on left n ++ (if (n : Int) ∈ on ∧ left.getD n 0 = 1 then [(n : Int)] else []) := by
 unfold dnL
 rw [List.range_succ, List.filter_append, List.map_append, List.filter_cons, List.filter_nil]
 congr 1
 by_cases h : (n : Int) ∈ on ∧ left.getD n 0 = 1
 ·rw [if_pos h, if_pos (by rw [show on.contains (n : Int) = true by simpa using h.1, h.2]; rfl)]; rfl
 ·rw [if_neg h, if_neg (fun h2 => h (by rw [Bool.and_eq_true, beq_iff_eq] at h2; exact ⟨by simpa using h2.1, h2.2⟩))]; rfl
structure KI (on left : List Int) (n i : Nat) (X Y D : List Int) : Prop where
 xl : X.length = on.length
 yl : Y.length = left.length
 xs : ∀ c, c < on.length → X.getD c 0 = if 0 ≤ on.getD c 0 ∧ (on.getD c 0 < n ∨ on.getD c 0 = n ∧ c < i) ∧ left.getD (on.getD c 0).toNat 0 = 1 then -1 else on.getD c 0
 ys : ∀ j : Nat, j < left.length → Y.getD j 0 = left.getD j 0 - if (j : Int) ∈ on ∧ (j < n ∨ j = n ∧ (j : Int) ∈ on.take i) then 1 else 0
 ds : D = dnL on left n ++ if (n : Int) ∈ on.take i ∧ left.getD n 0 = 1 then [(n : Int)] else []
 dl : D.length ≤ n + i
theorem KI.zero : KI on left 0 0 on left [] :=
 ⟨rfl, rfl, fun c _ => by rw [if_neg (by omega)], fun j _ => by rw [if_neg (by simp)]; omega, by rw [List.take_zero, if_neg (by simp)]; rfl, by simp⟩
theorem KI.next {n : Nat} {X Y D : List Int} (h : KI on left n on.length X Y D) (hD : D.length ≤ n + 1) : KI on left (n + 1) 0 X Y D := by
 refine ⟨h.xl, h.yl, fun c hc => ?_, fun j hj => ?_, ?_, by omega⟩
 ·rw [h.xs c hc]
  refine if_cg ?_ rfl rfl
  constructor
  ·rintro ⟨a, b, d⟩; exact ⟨a, by omega, d⟩
  ·rintro ⟨a, b, d⟩; exact ⟨a, by omega, d⟩
 ·rw [h.ys j hj, List.take_length, List.take_zero]
  refine congrArg (left.getD j 0 - ·) (if_cg ?_ rfl rfl)
  constructor
  ·rintro ⟨a, b⟩; exact ⟨a, by omega⟩
  ·rintro ⟨a, b⟩
   refine ⟨a, ?_⟩
   rcases b with b | ⟨_, b⟩
   ·by_cases e : j = n
    ·exact .inr ⟨e, a⟩
    ·exact .inl (by omega)
   ·cases b
 ·rw [h.ds, List.take_length, dnL_succ, List.take_zero, if_neg (c := ((n + 1 : Nat) : Int) ∈ [] ∧ _) (by simp), List.append_nil]
theorem KI.skip {n i : Nat} {X Y D : List Int} (h : KI on left n i X Y D) (hi : i < on.length) (hne : on.getD i 0 ≠ n) : KI on left n (i + 1) X Y D := by
 have ht : (n : Int) ∈ on.take (i + 1) ↔ (n : Int) ∈ on.take i := by
  rw [take_mem_next hi]
  exact ⟨fun h => h.resolve_right hne, .inl⟩
 refine ⟨h.xl, h.yl, fun c hc => ?_, fun j hj => ?_, ?_, by have := h.dl; omega⟩
 ·rw [h.xs c hc]
  refine if_cg ?_ rfl rfl
  have : on.getD c 0 = n → c ≠ i := fun e e2 => hne (by rw [← e2]; exact e)
  constructor
  ·rintro ⟨a, b, d⟩; exact ⟨a, by omega, d⟩
  ·rintro ⟨a, b, d⟩
   refine ⟨a, ?_, d⟩
   rcases b with b | ⟨b1, b2⟩
   ·exact .inl b
   ·exact .inr ⟨b1, by have := this b1; omega⟩
 ·rw [h.ys j hj]
  refine congrArg (left.getD j 0 - ·) (if_cg ?_ rfl rfl)
  constructor
  ·rintro ⟨a, b⟩
   refine ⟨a, b.imp id (fun ⟨e, b2⟩ => ⟨e, by subst e; exact ht.2 b2⟩)⟩
  ·rintro ⟨a, b⟩
   refine ⟨a, b.imp id (fun ⟨e, b2⟩ => ⟨e, by subst e; exact ht.1 b2⟩)⟩
 ·rw [h.ds]
  exact congrArg (_ ++ ·) (if_cg (and_congr_left fun _ => ht.symm) rfl rfl)
theorem KI.hit {es : List (Int × Int)} (hv : LstPlain.VC es on left) {n i : Nat} {X Y D : List Int} (h : KI on left n i X Y D) (hi : i < on.length) (hn : n < left.length) (e : on.getD i 0 = n) :
  KI on left n (i + 1) (if left.getD n 0 = 1 then X.set i (-1) else X) (Y.set n (left.getD n 0 - 1)) (if left.getD n 0 = 1 then D ++ [(n : Int)] else D) := by
 have hone : ∀ c, c < on.length → on.getD c 0 = n → c = i := fun c hc e2 => hv.one c i hc hi (by omega) (e2.trans e.symm)
 have hno : (n : Int) ∉ on.take i := fun hm => by
  obtain ⟨c, hc, e2⟩ := LstPlain.getD_mem_of hm
  rw [List.length_take] at hc
  have h2 : on.getD c 0 = n := by rw [← e2, List.getD_eq_getElem?_getD, List.getD_eq_getElem?_getD, List.getElem?_take_of_lt (by omega)]
  have := hone c (by omega) h2
  omega
 have hon : (n : Int) ∈ on := getD_row_mem hi e
 have ht : (n : Int) ∈ on.take (i + 1) := (take_mem_next hi _).2 (.inr e)
 have hds := h.ds
 rw [if_neg (fun h => hno h.1), List.append_nil] at hds
 refine ⟨by split <;> simp [h.xl], by rw [List.length_set]; exact h.yl, fun c hc => ?_, fun j hj => ?_, ?_, ?_⟩
 ·have hx := h.xs c hc
  by_cases h1 : left.getD n 0 = 1
  ·rw [if_pos h1]
   by_cases hci : c = i
   ·subst hci
    rw [List.getD_eq_getElem?_getD, List.getElem?_set_self (by rw [h.xl]; exact hi), if_pos ⟨by omega, .inr ⟨e, by omega⟩, by rw [e, Int.toNat_natCast]; exact h1⟩]; rfl
   ·rw [List.getD_eq_getElem?_getD, List.getElem?_set_ne (fun e2 => hci e2.symm), ← List.getD_eq_getElem?_getD, hx]
    refine if_cg ?_ rfl rfl
    constructor
    ·rintro ⟨a, b, d⟩; exact ⟨a, by omega, d⟩
    ·rintro ⟨a, b, d⟩; exact ⟨a, b.imp id (fun ⟨b1, b2⟩ => ⟨b1, by omega⟩), d⟩
  ·rw [if_neg h1, hx]
   refine if_cg ?_ rfl rfl
   constructor
   ·rintro ⟨a, b, d⟩; exact ⟨a, by omega, d⟩
   ·rintro ⟨a, b, d⟩
    refine ⟨a, b.imp id (fun ⟨b1, b2⟩ => ?_), d⟩
    exact absurd (by rw [b1, Int.toNat_natCast] at d; exact d) h1
 ·by_cases hjn : j = n
  ·subst hjn
   rw [List.getD_eq_getElem?_getD, List.getElem?_set_self (by rw [h.yl]; exact hn), if_pos ⟨hon, .inr ⟨rfl, ht⟩⟩]; rfl
  ·rw [List.getD_eq_getElem?_getD, List.getElem?_set_ne (fun e2 => hjn e2.symm), ← List.getD_eq_getElem?_getD, h.ys j hj]
   refine congrArg (left.getD j 0 - ·) (if_cg ?_ rfl rfl)
   constructor
   ·rintro ⟨a, b⟩; exact ⟨a, .inl (by omega)⟩
   ·rintro ⟨a, b⟩; exact ⟨a, .inl (by omega)⟩
 ·by_cases h1 : left.getD n 0 = 1
  ·rw [if_pos h1, if_pos ⟨ht, h1⟩, hds]
  ·rw [if_neg h1, if_neg (fun h => h1 h.2), hds, List.append_nil]
 ·have := h.dl
  split
  ·rw [List.length_append, List.length_singleton]; omega
  ·omega
theorem ext_getD {a b : List Int} (hl : a.length = b.length) (h : ∀ i, i < a.length → a.getD i 0 = b.getD i 0) : a = b := by
 apply List.ext_getElem hl
 intro i h1 h2
 have := h i h1
 rw [List.getD_eq_getElem?_getD, List.getD_eq_getElem?_getD, List.getElem?_eq_getElem h1, List.getElem?_eq_getElem h2] at this
 exact this
theorem dnL_mem {n : Nat} {x : Int} : x ∈ dnL on left n ↔ (0 ≤ x ∧ x < n) ∧ x ∈ on ∧ left.getD x.toNat 0 = 1 := by
 unfold dnL
 simp only [List.mem_map, List.mem_filter, List.mem_range, Bool.and_eq_true, List.contains_iff_mem, beq_iff_eq]
 constructor
 ·rintro ⟨j, ⟨h1, h2, h3⟩, rfl⟩
  exact ⟨by omega, h2, by rw [Int.toNat_natCast]; exact h3⟩
 ·rintro ⟨h1, h2, h3⟩
  exact ⟨x.toNat, ⟨by omega, by rw [show ((x.toNat : Nat) : Int) = x by omega]; exact h2, h3⟩, by omega⟩
theorem dnL_lt (n : Nat) : (dnL on left n).Pairwise (· < ·) := by
 unfold dnL
 rw [List.pairwise_map]
 exact (List.Pairwise.sublist List.filter_sublist List.pairwise_lt_range).imp (fun h => by omega)
theorem KI.last {es : List (Int × Int)} (hv : LstPlain.VC es on left) {X Y D : List Int} (h : KI on left left.length 0 X Y D) : X = (LstPlain.tickL on left).1 ∧ Y = (LstPlain.tickL on left).2.1 ∧ D = sortL (LstPlain.tickL on left).2.2 := by
 obtain ⟨l1, l2⟩ := LstPlain.tick_len hv
 refine ⟨ext_getD (by rw [h.xl, l1]) (fun c hc => ?_), ext_getD (by rw [h.yl, l2]) (fun j hj => ?_), ?_⟩
 ·rw [h.xl] at hc
  rw [h.xs c hc, LstPlain.tick_on hv hc]
  refine if_cg ?_ rfl rfl
  constructor
  ·rintro ⟨a, b, d⟩; exact ⟨by omega, d⟩
  ·rintro ⟨a, d⟩
   have := (hv.on_ c hc a).1
   exact ⟨this.1, .inl this.2, d⟩
 ·rw [h.yl] at hj
  rw [h.ys j hj, LstPlain.tick_left hv hj]
  refine congrArg (left.getD j 0 - ·) (if_cg ?_ rfl rfl)
  exact ⟨fun h => h.1, fun h => ⟨h, .inl hj⟩⟩
 ·have hd := h.ds
  rw [List.take_zero, if_neg (by simp), List.append_nil] at hd
  rw [hd]
  refine sorted_ext (dnL_lt _) (sortL_lt (LstPlain.tick_tk hv).nod) (fun x => ?_)
  rw [mem_sortL, LstPlain.tick_out hv, dnL_mem]
  constructor
  ·rintro ⟨a, b, d⟩; exact ⟨b, by omega, d⟩
  ·rintro ⟨b, a, d⟩
   obtain ⟨c, hc, e⟩ := LstPlain.getD_mem_of b
   have := (hv.on_ c hc (by omega)).1
   exact ⟨by omega, b, d⟩
end
theorem tick_ev {es : List (Int × Int)} (on left : List Int) (hv : LstPlain.VC es on left) (ho : on.length ≤ 1000) (hl : left.length ≤ 1000) :
  Ev (fun k => trefoilref11_Tick.f k on left) ((LstPlain.tickL on left).1, (LstPlain.tickL on left).2.1, sortL (LstPlain.tickL on left).2.2) := by
 have key : ∀ (m n : Nat) (X Y D : List Int), n + m = left.length → KI on left n 0 X Y D → D.length ≤ n → Ev (fun k => trefoilref11_Tick.l0 k D (n : Int) on left X Y) ((LstPlain.tickL on left).1, (LstPlain.tickL on left).2.1, sortL (LstPlain.tickL on left).2.2) := by
  intro m
  induction m with
  | zero =>
   intro n X Y D hn h hD
   obtain rfl : n = left.length := by omega
   obtain ⟨e1, e2, e3⟩ := h.last hv
   rw [← e1, ← e2, ← e3]
   exact Ev.step (f := fun _ => some (X, Y, D)) (fun k => by rw [trefoilref11_Tick.l0, if_neg (by omega)]) (Ev.now _)
  | succ m ih =>
   intro n X Y D hn h hD
   have hlo := hv.lo _ (getD_mem left n (by omega))
   have inner : ∀ (q i : Nat) (X Y D : List Int), i + q = on.length → KI on left n i X Y D → D.length ≤ n + 1 → Ev (fun k => trefoilref11_Tick.l1 k D (n : Int) (i : Int) on left X Y) ((LstPlain.tickL on left).1, (LstPlain.tickL on left).2.1, sortL (LstPlain.tickL on left).2.2) := by
    intro q
    induction q with
    | zero =>
     intro i X Y D hi h hD
     obtain rfl : i = on.length := by omega
     refine Ev.step (fun k => ?_) (ih (n + 1) X Y D (by omega) (h.next hD) hD)
     rw [trefoilref11_Tick.l1, if_neg (by omega), wrap_up (by omega)]
    | succ q ihq =>
     intro i X Y D hi h hD
     by_cases e : on.getD i 0 = n
     ·have hh := h.hit hv (by omega) (by omega) e
      have hDl : (if left.getD n 0 = 1 then D ++ [(n : Int)] else D).length ≤ n + 1 := by
       rw [hh.ds]
       have h1 : (dnL on left n).length ≤ n := by unfold dnL; rw [List.length_map]; exact Nat.le_trans (List.length_filter_le _ _) (by simp)
       rw [List.length_append]
       split <;> simp <;> omega
      refine Ev.step (fun k => ?_) (ihq (i + 1) _ _ _ (by omega) hh hDl)
      have hx := h.xl
      have hy := h.yl
      rw [trefoilref11_Tick.l1, if_pos (by omega), if_pos (by omega), rdn, if_pos e, if_pos (by omega), if_pos (by omega), if_pos (by omega), Option.bind_some, rdn, show wrap64 (left.getD n 0 - 1) = left.getD n 0 - 1 by unfold wrap64; omega, Int.toNat_natCast, Int.toNat_natCast, wrap_up (by omega)]
      by_cases h1 : left.getD n 0 = 1
      ·rw [if_pos (by omega), if_pos (by omega), if_pos (by omega), if_pos h1, if_pos h1]
      ·rw [if_neg (by omega), if_neg h1, if_neg h1]
     ·refine Ev.step (fun k => ?_) (ihq (i + 1) X Y D (by omega) (h.skip (by omega) e) hD)
      rw [trefoilref11_Tick.l1, if_pos (by omega), if_pos (by omega), rdn, if_neg e, wrap_up (by omega)]
   refine Ev.step (fun k => ?_) (inner on.length 0 X Y D (by omega) h (by omega))
   rw [trefoilref11_Tick.l0, if_pos (by omega)]
   rfl
 refine Ev.congr (fun k => ?_) (key left.length 0 on left [] (by omega) KI.zero (by simp))
 unfold trefoilref11_Tick.f
 simp only [Option.bind_some, List.length_nil, List.nil_append]
 rw [if_pos (by omega), if_pos (by omega)]
 rfl
theorem look_eq (l : List Int) (es : List (Int × Int)) (need : List Int) (c : Int) : lookR l es need c [] = if checkL l es = 0 then (if rightB l need c = true then 0 else 100) else checkL l es := by
 unfold lookR formB
 by_cases hz : checkL l es = 0
 ·rw [if_neg (by simpa using hz), if_pos hz]
  cases hr : rightB l need c with
  | true => rw [if_pos rfl, if_neg (by simp)]; rfl
  | false => rw [if_pos (by simp), if_neg (by simp)]
 ·rw [if_pos hz, if_neg hz]
theorem newref_ev (l : List Int) (es : List S85) (need : List Int) (c : Int) (hl : l.length ≤ 70) (he : es.length ≤ 300) (hn : need.length ≤ 70) :
  Ev (fun k => trefoilref11_New.f k l es need c) ((newR l (es.map pr) need c).1, (newR l (es.map pr) need c).2, lookR l (es.map pr) need c []) := by
 unfold trefoilref11_New.f
 have hc := refcheck_ev l es hl he
 have hf := form_ev l es need c hn
 have hk := look_eq l (es.map pr) need c
 refine Ev.bind hc ?_
 by_cases hz : checkL l (es.map pr) = 0
 ·simp only [if_pos hz]
  refine Ev.bind hf ?_
  rw [if_pos hz] at hk
  cases hr : rightB l need c with
  | true =>
   rw [if_pos hr] at hk
   obtain ⟨-, ⟨c1, c2⟩, -, -⟩ := look_nil hk
   obtain ⟨n, rfl⟩ : ∃ n : Nat, c = (n : Int) := ⟨c.toNat, by omega⟩
   have key : ∀ (m i : Nat), i + m = n → Ev (fun k => trefoilref11_New.l0 k (n : Int) (i : Int) (List.replicate i (-1)) need) (List.replicate n (-1), need, 0) := by
    intro m
    induction m with
    | zero =>
     intro i hi
     obtain rfl : i = n := by omega
     exact Ev.step (f := fun _ => some (List.replicate i (-1), need, 0)) (fun k => by rw [trefoilref11_New.l0, if_neg (by omega)]) (Ev.now _)
    | succ m ih =>
     intro i hi
     refine Ev.step (fun k => ?_) (ih (i + 1) (by omega))
     rw [trefoilref11_New.l0, if_pos (by omega), List.length_replicate, if_pos (by omega), wrap_up (by omega), List.replicate_succ']
   unfold newR
   rw [hk, if_pos rfl, Int.toNat_natCast]
   refine Ev.congr (fun k => ?_) (key n 0 (by omega))
   simp only [if_true, Option.bind_some, List.length_nil, List.nil_append]
   rw [if_pos (by omega)]; rfl
  | false =>
   rw [hr, if_neg (by simp)] at hk
   unfold newR
   rw [hk, if_neg (by omega)]
   exact Ev.now _
 ·simp only [if_neg hz]
  rw [if_neg hz] at hk
  unfold newR
  rw [hk, if_neg hz]
  exact Ev.now _
theorem sum_next {xs : List Int} {i : Nat} (hi : i < xs.length) : (xs.take (i + 1)).sum = (xs.take i).sum + xs.getD i 0 := by
 rw [List.take_succ_eq_append_getElem hi, List.sum_append, List.sum_singleton, List.getD_eq_getElem?_getD, List.getElem?_eq_getElem hi]; rfl
theorem sum_bd {xs : List Int} (h : ∀ x ∈ xs, 0 ≤ x ∧ x ≤ 1000) : ∀ i, i ≤ xs.length → 0 ≤ (xs.take i).sum ∧ (xs.take i).sum ≤ 1000 * i
 | 0, _ => by simp
 | i + 1, hi => by
  have := sum_bd h i (by omega)
  have h2 := h _ (getD_mem xs i (by omega))
  rw [sum_next (by omega)]
  omega
theorem l2_ev (l : List Int) (es : List S85) (on left : List Int) (t : List (List Int)) {r : List (List Int) × Int} (hlo : ∀ x ∈ left, 0 ≤ x ∧ x ≤ 1000) (hl : left.length ≤ 1000) (h : Ev (fun k => trefoilref11_Run.l1 k t left.sum l es on left) r) :
  ∀ (m i : Nat), i + m = left.length → Ev (fun k => trefoilref11_Run.l2 k t ((left.take i).sum) (i : Int) l es on left) r := by
 intro m
 induction m with
 | zero =>
  intro i hi
  obtain rfl : i = left.length := by omega
  refine Ev.step (fun k => ?_) h
  rw [trefoilref11_Run.l2, if_neg (by omega), List.take_length]
 | succ m ih =>
  intro i hi
  have hn := ih (i + 1) (by omega)
  have hb := sum_bd hlo i (by omega)
  have hx := hlo _ (getD_mem left i (by omega))
  rw [sum_next (by omega)] at hn
  refine Ev.step (fun k => ?_) hn
  rw [trefoilref11_Run.l2, if_pos (by omega), if_pos (by omega), rdn, show wrap64 ((left.take i).sum + left.getD i 0) = (left.take i).sum + left.getD i 0 by unfold wrap64; omega, wrap_up (by omega)]
theorem l1_ev (l : List Int) (es : List S85) (n : Nat) (hl : l.length ≤ 70) (he : es.length ≤ 300) (hn : 1 ≤ n ∧ n ≤ 8) (hz : checkL l (es.map pr) = 0) : ∀ (g : Nat) (s : List Int × List Int) (acc : List (List Int)), LstPlain.RI l (es.map pr) n s → s.2.sum ≤ g → acc.length + g ≤ 100000 →
  Ev (fun k => trefoilref11_Run.l1 k acc s.2.sum l es s.1 s.2) (acc ++ LstPlain.runT (es.map pr) g s, 0)
 | 0, s, acc, h, hs, ha => by
  refine Ev.step (f := fun _ => some (acc ++ LstPlain.runT (es.map pr) 0 s, 0)) (fun k => ?_) (Ev.now _)
  rw [trefoilref11_Run.l1, if_neg (by omega), show LstPlain.runT (es.map pr) 0 s = [] from rfl, List.append_nil]
 | g + 1, s, acc, h, hs, ha => by
  have hlen := h.ll
  have hon := h.on_
  by_cases hp : s.2.any posN = true
  ·have hpos : 0 < s.2.sum := by
    by_cases h1 : 0 < s.2.sum
    ·exact h1
    ·rw [LstPlain.sum_zero h.vc.lo (by omega)] at hp; cases hp
   have hv := LstPlain.fill_vc h.vc
   have hrow : (LstPlain.rowR (es.map pr) s).length = n := LstPlain.fill_len.trans hon
   have hin : ∀ x ∈ es, (0 : Int) ≤ x.f0 ∧ x.f0 < (l.length : Int) := fun x hx => by
    obtain ⟨y1, y2, y3, y4, y5⟩ := ordL_yes hz
    exact (oddEs_in y3 (pr x) (List.mem_map_of_mem hx)).1
   have hnn : ∀ i : Nat, 0 ≤ s.2.getD i 0 := fun i => by
    by_cases hi : i < s.2.length
    ·exact (h.vc.lo _ (getD_mem s.2 i hi)).1
    ·rw [List.getD_eq_getElem?_getD, List.getElem?_eq_none (by omega)]; simp
   have hf := fill_ev l es s.1 s.2 (by omega) (by omega) (by omega) hlen hin hnn
   have ht := tick_ev (LstPlain.rowR (es.map pr) s) s.2 hv (by omega) (by omega)
   have hstep := h.step
   have hless := h.less hz (by omega) hp
   have ih := l1_ev l es n hl he hn hz g (LstPlain.stepR (es.map pr) s) (acc ++ [LstPlain.rowR (es.map pr) s]) hstep (by omega) (by rw [List.length_append, List.length_singleton]; omega)
   have h2 := l2_ev l es (LstPlain.stepR (es.map pr) s).1 (LstPlain.stepR (es.map pr) s).2 _ hstep.vc.lo (by rw [hstep.ll]; omega) ih _ 0 (Nat.zero_add _)
   rw [LstPlain.runT_next hp, show acc ++ (LstPlain.rowR (es.map pr) s :: LstPlain.runT (es.map pr) g (LstPlain.stepR (es.map pr) s)) = (acc ++ [LstPlain.rowR (es.map pr) s]) ++ LstPlain.runT (es.map pr) g (LstPlain.stepR (es.map pr) s) by simp]
   refine ev_use2 hf ht (fun k h3 h4 => ?_) h2
   change trefoilref11_Fill.f k l es s.1 s.2 = some (LstPlain.rowR (es.map pr) s, s.2) at h3
   rw [trefoilref11_Run.l1, if_pos hpos, h3]
   simp only [Option.bind_some, List.length_nil, List.nil_append]
   rw [if_pos (by omega), if_pos (by omega), h4]
   rfl
  ·have hp' : s.2.any posN = false := by simpa using hp
   have h0 := LstPlain.sum_none s.2 h.vc.lo hp'
   refine Ev.step (f := fun _ => some (acc ++ LstPlain.runT (es.map pr) (g + 1) s, 0)) (fun k => ?_) (Ev.now _)
   rw [trefoilref11_Run.l1, if_neg (by omega), LstPlain.runT_stop hp', List.append_nil]
theorem run_ev (l : List Int) (es : List S85) (need : List Int) (c : Int) (hl : l.length ≤ 70) (he : es.length ≤ 300) (hn : need.length ≤ 70) :
  Ev (fun k => trefoilref11_Run.f k l es need c) (runR l (es.map pr) need c, runE l (es.map pr) need c) := by
 unfold trefoilref11_Run.f
 refine Ev.bind (newref_ev l es need c hl he hn) ?_
 by_cases hz : lookR l (es.map pr) need c [] = 0
 ·obtain ⟨z1, ⟨c1, c2⟩, z3, z4⟩ := look_nil hz
  have hlo : ∀ x ∈ need, 0 ≤ x ∧ x ≤ 1000 := fun x hx => by have := z4 x hx; omega
  obtain ⟨n, rfl⟩ : ∃ n : Nat, c = (n : Int) := ⟨c.toNat, by omega⟩
  have hsum := sum_bd hlo need.length (Nat.le_refl _)
  rw [List.take_length] at hsum
  simp only [if_pos hz]
  unfold newR
  rw [if_pos hz, Int.toNat_natCast]
  have hend : Ev (fun k => if need.sum > 4096 then (some (([] : List (List Int)), (100 : Int))) else trefoilref11_Run.l1 k [] need.sum l es (List.replicate n (-1)) need) (runR l (es.map pr) need n, runE l (es.map pr) need n) := by
   unfold runR runE
   rw [if_pos hz]
   by_cases hs : 4096 < need.sum
   ·rw [if_pos hs, if_neg (by omega)]
    exact Ev.congr (fun k => if_pos hs) (Ev.now _)
   ·rw [if_neg hs, if_pos rfl, Int.toNat_natCast]
    refine Ev.congr (fun k => if_neg hs) ?_
    exact l1_ev l es n hl he (by omega) z1 need.sum.toNat (List.replicate n (-1), need) [] ⟨LstPlain.vc_new z4 n, by simp, z3⟩ (by show need.sum ≤ _; omega) (by simp; omega)
  have key : ∀ (m i : Nat), i + m = need.length → Ev (fun k => trefoilref11_Run.l0 k need [] ((need.take i).sum) (i : Int) l es (List.replicate n (-1)) need) (runR l (es.map pr) need n, runE l (es.map pr) need n) := by
   intro m
   induction m with
   | zero =>
    intro i hi
    obtain rfl : i = need.length := by omega
    refine Ev.step (fun k => ?_) hend
    rw [trefoilref11_Run.l0, if_neg (by omega), List.take_length]
   | succ m ih =>
    intro i hi
    have hb := sum_bd hlo i (by omega)
    have hx := hlo _ (getD_mem need i (by omega))
    have h2 := ih (i + 1) (by omega)
    rw [sum_next (by omega)] at h2
    refine Ev.step (fun k => ?_) h2
    rw [trefoilref11_Run.l0, if_pos (by omega), if_pos (by omega), rdn, show wrap64 ((need.take i).sum + need.getD i 0) = (need.take i).sum + need.getD i 0 by unfold wrap64; omega, wrap_up (by omega)]
  exact key need.length 0 (by omega)
 ·simp only [if_neg hz]
  have hE : runE l (es.map pr) need c = lookR l (es.map pr) need c [] := by unfold runE; rw [if_neg hz]
  have hR : runR l (es.map pr) need c = [] := by unfold runR; rw [hE, if_neg hz]
  rw [hE, hR]
  exact Ev.now _
theorem ints_refl (a : List Int) (ha : a.length ≤ 1000) : Ev (fun k => trefoilref02_Ints.f k a a) true := by
 have key : ∀ (m i : Nat), i + m = a.length → Ev (fun k => trefoilref02_Ints.l0 k a a (i : Int)) true := by
  intro m
  induction m with
  | zero => intro i hi; exact Ev.step (f := fun _ => some true) (fun k => by rw [trefoilref02_Ints.l0, if_neg (by omega)]) (Ev.now _)
  | succ m ih =>
   intro i hi
   refine Ev.step (fun k => ?_) (ih (i + 1) (by omega))
   rw [trefoilref02_Ints.l0, if_pos (by omega), if_pos (by omega), if_pos (by omega), if_pos rfl, wrap_up (by omega)]
 refine Ev.congr (fun k => ?_) (key a.length 0 (by omega))
 unfold trefoilref02_Ints.f
 rw [if_pos rfl]; rfl
theorem same_refl (a b : List Int) (ha : a.length ≤ 1000) (hb : b.length ≤ 1000) : Ev (fun k => trefoilref11_Same.f k a b a b) true := by
 unfold trefoilref11_Same.f
 refine Ev.bind (ints_refl a ha) ?_
 simp only [if_true]
 exact Ev.bind (ints_refl b hb) (Ev.now _)
theorem trace_refl (t : List (List Int)) (ht : t.length ≤ 10000) (hr : ∀ r ∈ t, r.length ≤ 1000) : Ev (fun k => trefoilref11_SameTrace.f k t t) true := by
 have key : ∀ (m i : Nat), i + m = t.length → Ev (fun k => trefoilref11_SameTrace.l0 k t t (i : Int)) true := by
  intro m
  induction m with
  | zero => intro i hi; exact Ev.step (f := fun _ => some true) (fun k => by rw [trefoilref11_SameTrace.l0, if_neg (by omega)]) (Ev.now _)
  | succ m ih =>
   intro i hi
   have r1 : rd_L2 t (i : Int) = t[i] := by unfold rd_L2; simp [List.getD_eq_getElem?_getD, show i < t.length by omega]
   refine ev_use (ints_refl t[i] (hr _ (List.getElem_mem (by omega)))) (fun k hk => ?_) (ih (i + 1) (by omega))
   rw [trefoilref11_SameTrace.l0, if_pos (by omega), if_pos (by omega), if_pos (by omega), r1, hk, Option.bind_some, if_pos rfl, wrap_up (by omega)]
 refine Ev.congr (fun k => ?_) (key t.length 0 (by omega))
 unfold trefoilref11_SameTrace.f
 rw [if_pos rfl]; rfl
def littleR : Int → List Int → Bool
 | _, [] => true
 | left, x :: xs => if x < 0 then true else if x > left then false else littleR (left - x) xs
theorem little_sum : ∀ (xs : List Int) (left : Int), littleR left xs = true → (∀ x ∈ xs, 1 ≤ x ∧ x ≤ 1000) → 0 ≤ left → xs.sum ≤ left
 | [], left, _, _, h0 => by simpa using h0
 | x :: xs, left, h, hp, h0 => by
  have hx := hp x List.mem_cons_self
  rw [littleR, if_neg (by omega)] at h
  by_cases hl : x > left
  ·rw [if_pos hl] at h; cases h
  ·rw [if_neg hl] at h
   have := little_sum xs (left - x) h (fun y hy => hp y (List.mem_cons_of_mem _ hy)) (by omega)
   simp; omega
theorem little_ev (need : List Int) (hn : need.length ≤ 70) : Ev (fun k => trefoillaw11_little.f k need) (littleR 300 need) := by
 unfold trefoillaw11_little.f
 have key : ∀ (m x : Nat) (left : Int), x + m = need.length → 0 ≤ left ∧ left ≤ 300 → Ev (fun k => trefoillaw11_little.l0 k need left (x : Int)) (littleR left (need.drop x)) := by
  intro m
  induction m with
  | zero =>
   intro x left hx _
   rw [List.drop_of_length_le (by omega)]
   exact Ev.step (f := fun _ => some true) (fun k => by rw [trefoillaw11_little.l0, if_neg (by omega)]) (Ev.now _)
  | succ m ih =>
   intro x left hx hl
   have r1 : rd need (x : Int) = need[x] := by unfold rd; simp [List.getD_eq_getElem?_getD, show x < need.length by omega]
   rw [List.drop_eq_getElem_cons (by omega), littleR]
   generalize hz : need[x] = z at *
   by_cases h1 : z < 0
   ·rw [if_pos h1]
    exact Ev.step (f := fun _ => some true) (fun k => by rw [trefoillaw11_little.l0, if_pos (by omega), if_pos (by omega), r1, if_pos h1, decide_eq_true h1]) (Ev.now _)
   ·rw [if_neg h1]
    by_cases h2 : z > left
    ·rw [if_pos h2]
     exact Ev.step (f := fun _ => some false) (fun k => by rw [trefoillaw11_little.l0, if_pos (by omega), if_pos (by omega), r1, if_neg h1, if_pos h2, decide_eq_false h1]) (Ev.now _)
    ·rw [if_neg h2]
     refine Ev.step (fun k => ?_) (ih (x + 1) (left - z) (by omega) (by omega))
     rw [trefoillaw11_little.l0, if_pos (by omega), if_pos (by omega), r1, if_neg h1, if_neg h2, wrap_up (by omega), show wrap64 (left - z) = left - z by unfold wrap64; omega]
 exact key need.length 0 300 (by omega) (by omega)
theorem lrun_f (l : List Int) (es : List S85) (need : List Int) (c : Int) (hl : l.length ≤ 1000) (he : es.length ≤ 1000) (hn : need.length ≤ 1000) : list_Run.f l es need c = some (runR l (es.map pr) need c, runE l (es.map pr) need c) := by
 unfold list_Run.f
 rw [if_pos ⟨⟨hl, he⟩, hn⟩]; rfl
theorem lnew_f (l : List Int) (es : List S85) (need : List Int) (c : Int) (hl : l.length ≤ 1000) (he : es.length ≤ 1000) (hn : need.length ≤ 1000) : list_New.f l es need c = some ((newR l (es.map pr) need c).1, (newR l (es.map pr) need c).2, lookR l (es.map pr) need c []) := by
 unfold list_New.f
 rw [if_pos ⟨⟨hl, he⟩, hn⟩]; rfl
theorem newR_len (l : List Int) (es : List (Int × Int)) (need : List Int) (c : Int) (hn : need.length ≤ 70) : (newR l es need c).1.length ≤ 1000 ∧ (newR l es need c).2.length ≤ 1000 := by
 unfold newR
 split
 ·rename_i h
  have := (look_nil h).2.1
  exact ⟨by show (List.replicate _ _).length ≤ _; rw [List.length_replicate]; omega, by show need.length ≤ _; omega⟩
 ·exact ⟨by simp, by simp⟩
theorem j_true (l : List Int) (es : List S85) (need : List Int) (c : Int) : Ev (fun k => trefoillaw11_ListRuns.j0 k need c true l es) true :=
 Ev.step (f := fun _ => some true) (fun k => by rw [trefoillaw11_ListRuns.j0, if_pos rfl]; rfl) (Ev.now _)
theorem run (l : List Int) (es : List S85) (need : List Int) (c : Int) : ∃ k, trefoillaw11_ListRuns.f k l es need c = some true := by
 have h : Ev (fun k => trefoillaw11_ListRuns.f k l es need c) true := by
  unfold trefoillaw11_ListRuns.f
  simp only [show trefoillaw11_awake.f = some true from rfl, Option.bind_some, if_true, few_f]
  by_cases hf : l.length ≤ 70 ∧ es.length ≤ 300
  ·rw [decide_eq_true hf]
   simp only [if_true]
   by_cases hn : need.length ≤ 70
   ·simp only [if_neg (show ¬ (need.length : Int) > 70 by omega)]
    refine Ev.bind (little_ev need hn) ?_
    cases hlit : littleR 300 need with
    | false => exact j_true l es need c
    | true =>
     have h1 := run_ev l es need c hf.1 hf.2 hn
     have h2 := newref_ev l es need c hf.1 hf.2 hn
     obtain ⟨n1, n2⟩ := newR_len l (es.map pr) need c hn
     have h4 := same_refl _ _ n1 n2
     have h3 : Ev (fun k => trefoilref11_SameTrace.f k (runR l (es.map pr) need c) (runR l (es.map pr) need c)) true := by
      by_cases hz : runE l (es.map pr) need c = 0
      ·obtain ⟨b1, b2, b3, b4⟩ := LstPlain.run_all hz
       have hp := (LstPlain.runE_ok hz).2
       have hs := little_sum need 300 hlit hp (by omega)
       have hc := (look_nil (LstPlain.runE_ok hz).1).2.1
       exact trace_refl _ (by omega) (fun r hr => by have := b4 r hr; omega)
      ·rw [LstPlain.run_none hz]
       exact trace_refl [] (by simp) (fun r hr => by cases hr)
     obtain ⟨K1, hK1⟩ := h1
     obtain ⟨K2, hK2⟩ := h2
     obtain ⟨K3, hK3⟩ := h3
     obtain ⟨K4, hK4⟩ := h4
     refine ⟨max (max K1 K2) (max K3 K4) + 1, fun k hk => ?_⟩
     obtain ⟨m, rfl⟩ : ∃ m, k = m + 1 := ⟨k - 1, by omega⟩
     show trefoillaw11_ListRuns.j0 (m + 1) need c (!true) l es = some true
     rw [trefoillaw11_ListRuns.j0, if_neg (by simp), own_f l es (by omega) (by omega)]
     simp only [Option.bind_some, List.length_nil, List.nil_append]
     have g1 : trefoilref11_Run.f m l es need c = _ := hK1 m (by omega)
     have g2 : trefoilref11_New.f m l es need c = _ := hK2 m (by omega)
     have g3 : trefoilref11_SameTrace.f m (runR l (es.map pr) need c) (runR l (es.map pr) need c) = _ := hK3 m (by omega)
     have g4 : trefoilref11_Same.f m (newR l (es.map pr) need c).1 (newR l (es.map pr) need c).2 (newR l (es.map pr) need c).1 (newR l (es.map pr) need c).2 = _ := hK4 m (by omega)
     rw [if_pos (by omega), lrun_f l es need c (by omega) (by omega) (by omega), Option.bind_some, g1, Option.bind_some, if_pos (by omega), lnew_f l es need c (by omega) (by omega) (by omega), Option.bind_some, g2, Option.bind_some]
     simp only [g3, g4, Option.bind_some, if_true]
     simp
   ·simp only [if_pos (show (need.length : Int) > 70 by omega)]
    exact j_true l es need c
  ·rw [decide_eq_false hf]
   simp only [Bool.false_eq_true, if_false]
   exact j_true l es need c
 obtain ⟨K, hK⟩ := h
 exact ⟨K, hK K (Nat.le_refl _)⟩
theorem edges_C {w : World} {B : Option Addr} {es : List (Int × Int)} (h : EdC w B es) (hm : es.length ≤ maxLen) : Kd.C k85 w B es.length (es.map fun e => ⟨e.1, e.2⟩) := by
 refine ⟨by simp, by unfold maxLen at hm; omega, fun h0 => ?_⟩
 obtain ⟨ad, rfl, hc⟩ := h h0
 refine ⟨ad, rfl, fun j p hp => ?_⟩
 have hj : j < es.length := by
  rcases Nat.lt_or_ge j es.length with h | h
  ·exact h
  ·rw [List.getElem?_eq_none (by simpa using h)] at hp; cases hp
 rw [List.getElem?_map, List.getElem?_eq_getElem hj] at hp
 simp only [Option.map_some, Option.some.injEq] at hp
 subst hp
 have hd : es.getD j (0, 0) = es[j] := by rw [List.getD_eq_getElem?_getD, List.getElem?_eq_getElem hj]; rfl
 obtain ⟨h1, h2⟩ := hc j hj
 rw [hd] at h1 h2
 refine ⟨[.int .i64 es[j].1, .int .i64 es[j].2], rfl, k85_mk w ⟨es[j].1, es[j].2⟩, fun i u hi => ?_⟩
 match i, hi with
 | 0, hi => simp at hi; subst hi; exact h1
 | 1, hi => simp at hi; subst hi; exact h2
theorem walk (A : Option Addr) (c : Nat) (l : List Int) (B : Option Addr) (d : Nat) (es : List (Int × Int)) (D : Option Addr) (dc : Nat) (need : List Int) (cores : Int) (w : World) (h0 : DagIn w A c l B d es) (h1 : NeedIn w D dc need) (hcw : (Lit.int .i64 cores).wf = true) :
  Calls Try.prog 4 #[.agg #[.slice A l.length c, .slice B es.length d], .slice D need.length dc, .int .i64 cores] w fun e w' => e = .returned (.bool true) ∧ Below w.heap.size w w' := by
 obtain ⟨k, hk⟩ := run l (es.map fun e => ⟨e.1, e.2⟩) need cores
 have := trefoillaw11_ListRuns.calls k A c l B d (es.map fun e => ⟨e.1, e.2⟩) D dc need cores true w (Kd.C_of_reads (d := (0 : Int)) (h1 := fun _ => rfl) h0.2.1) h0.1 (by rw [List.length_map]; exact edges_C h0.2.2.2.2.2.1 h0.2.2.2.2.1) (by rw [List.length_map]; exact h0.2.2.2.1) (Kd.C_of_reads (d := (0 : Int)) (h1 := fun _ => rfl) h1.2.1) h1.1 hk rfl
 rw [List.length_map] at this
 exact this
end Go.Proofs.Ytmbhjhanafmidaa.PListRuns
