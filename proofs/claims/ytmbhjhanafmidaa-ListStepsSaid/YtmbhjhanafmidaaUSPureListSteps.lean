/- The reference of layer 11, as plain functions. -/
import Derived.Test.YtmbhjhanafmidaaUSLstLaw
import Derived.Test.YtmbhjhanafmidaaUSMSchC
import Derived.Test.YtmbhjhanafmidaaUSMSchC
import Derived.Test.YtmbhjhanafmidaaUSMDagB
import Derived.Test.YtmbhjhanafmidaaUSMDagB
import Derived.Test.YtmbhjhanafmidaaUSMDagB
import Derived.Test.YtmbhjhanafmidaaUSPListStepsx21
set_option linter.unusedVariables false
set_option linter.unusedSimpArgs false
set_option linter.unusedSectionVars false
namespace Go.Proofs.Ytmbhjhanafmidaa.PListSteps
open Go.Proofs.Ytmbhjhanafmidaa.PAw Go.RowKit Go.Proofs.YtmbhjhanafmidaaW.PrintWords Go.Proofs.YtmbhjhanafmidaaW.PrintLast
open Go.Proofs.Ytmbhjhanafmidaa DagPlain SchPlain
def pr (x : S85) : Int × Int := (x.f0, x.f1)
theorem wrap_small {x : Int} (h : 0 ≤ x ∧ x ≤ 1000) : wrap64 x = x := by unfold wrap64; omega
theorem rd_at (es : List S85) (x : Nat) (h : x < es.length) : rd_T85 es (x : Int) = es[x] := by unfold rd_T85; simp [List.getD_eq_getElem?_getD, h]
theorem own_f (l : List Int) (es : List S85) (hl : l.length ≤ 1000) (he : es.length ≤ 1000) : trefoillaw04_Own.f l es = some (l, es) := by
 unfold trefoillaw04_Own.f
 simp only [Option.bind_some, List.length_nil, List.nil_append]
 rw [if_pos (by omega), if_pos (by omega)]
theorem node_f (l : List Int) (es : List S85) (a : Int) : trefoilref04_node.f l es a = some (thereB l.length a) := by
 unfold trefoilref04_node.f thereB
 by_cases h : a ≥ 0
 ·rw [if_pos h, decide_eq_true (show (0 : Int) ≤ a from h), Bool.true_and]
 ·rw [if_neg h, decide_eq_false (show ¬ (0 : Int) ≤ a by omega), Bool.false_and]
theorem pr_take (es : List S85) (x : Nat) (p : Int × Int) : (((es.map pr).take x).contains p) = true ↔ ∃ j, ∃ h : j < es.length, j < x ∧ pr es[j] = p := by
 rw [List.contains_iff_mem, List.mem_iff_getElem]
 constructor
 ·rintro ⟨j, hj, e⟩
  have hj1 : j < min x es.length := by simpa using hj
  have hj2 : j < x ∧ j < es.length := by omega
  exact ⟨j, hj2.2, hj2.1, by simpa using e⟩
 ·rintro ⟨j, hj, hx, e⟩
  exact ⟨j, by simp; omega, by simpa using e⟩
theorem l2_run (l : List Int) (es : List S85) (f t : Int) (y : Nat) (hy : y ≤ es.length) (he : es.length ≤ 300) : ∀ (m x : Nat), x + m = y → (∀ j, ∀ h : j < es.length, j < x → pr es[j] ≠ (f, t)) → ∀ k, trefoilref04_Plain.l2 (k + m + 1) (y : Int) (x : Int) l es f t = if (((es.map pr).take y).contains (f, t)) = true then some 42 else trefoilref04_Plain.l1 k (wrap64 ((y : Int) + 1)) l es := by
 intro m
 induction m with
 | zero =>
  intro x hx hno k
  rw [show k + 0 + 1 = k + 1 by omega, trefoilref04_Plain.l2, if_neg (by omega), if_neg]
  rw [pr_take]
  rintro ⟨j, h, hj, e⟩
  exact hno j h (by omega) e
 | succ m ihm =>
  intro x hx hno k
  have hxl : x < es.length := by omega
  have e : wrap64 ((x : Int) + 1) = ((x + 1 : Nat) : Int) := by rw [wrap_small (by omega)]; omega
  rw [show k + (m + 1) + 1 = (k + m + 1) + 1 by omega, trefoilref04_Plain.l2, if_pos (by omega), if_pos (by omega), if_pos (by omega), rd_at es x hxl, e]
  by_cases h : pr es[x] = (f, t)
  ·have h1 : es[x].f0 = f := congrArg Prod.fst h
   have h2 : es[x].f1 = t := congrArg Prod.snd h
   rw [h1, h2, if_pos (by simp), if_pos ((pr_take es y (f, t)).2 ⟨x, hxl, by omega, h⟩)]
  ·rw [if_neg]
   ·exact ihm (x + 1) (by omega) (fun j hj hjx => by
     by_cases ej : j = x
     ·subst ej; exact h
     ·exact hno j hj (by omega)) k
   ·intro hc
    rw [Bool.and_eq_true, beq_iff_eq, beq_iff_eq] at hc
    exact h (by unfold pr; rw [hc.1, hc.2])
def FL : Nat → Nat → Nat
 | 0, _ => 1
 | m + 1, x => FL m (x + 1) + x + 3
theorem l1_run (l : List Int) (es : List S85) (he : es.length ≤ 300) : ∀ (m x : Nat), x + m = es.length → (∀ j, j < x → oddE l.length (es.map pr) j = false) → ∀ k, trefoilref04_Plain.l1 (k + FL m x) (x : Int) l es = some (if oddEs l.length (es.map pr) = true then 42 else 0) := by
 intro m
 induction m with
 | zero =>
  intro x hx hno k
  have h := oddEs_no (n := l.length) (es := es.map pr) (fun j hj => hno j (by rw [List.length_map] at hj; omega))
  rw [show k + FL 0 x = k + 1 from rfl, trefoilref04_Plain.l1, if_neg (by omega), h, if_neg (by simp)]
 | succ m ihm =>
  intro x hx hno k
  have hxl : x < es.length := by omega
  have e : wrap64 ((x : Int) + 1) = ((x + 1 : Nat) : Int) := by rw [wrap_small (by omega)]; omega
  have hg : (es.map pr).getD x (0, 0) = pr es[x] := by simp [List.getD_eq_getElem?_getD, hxl]
  have hodd : oddE l.length (es.map pr) x = (!thereB l.length es[x].f0 || (!thereB l.length es[x].f1 || (decide (es[x].f0 = es[x].f1) || ((es.map pr).take x).contains (es[x].f0, es[x].f1)))) := by
   unfold oddE; rw [hg]; rfl
  have h42 : oddE l.length (es.map pr) x = true → (some (if oddEs l.length (es.map pr) = true then (42 : Int) else 0)) = some 42 := fun h => by
   rw [if_pos (oddEs_yes (by rw [List.length_map]; exact hxl) h)]
  rw [show k + FL (m + 1) x = (k + FL m (x + 1) + x + 1 + 1) + 1 by show k + (FL m (x + 1) + x + 3) = _; omega, trefoilref04_Plain.l1, if_pos (by omega), if_pos (by omega), rd_at es x hxl, node_f, Option.bind_some]
  cases h1 : thereB l.length es[x].f0 with
  | false =>
   rw [if_neg (by simp), trefoilref04_Plain.j3, if_pos rfl, h42 (by rw [hodd, h1]; rfl)]
  | true =>
   rw [if_pos rfl, node_f, Option.bind_some]
   cases h2 : thereB l.length es[x].f1 with
   | false => rw [if_neg (by simp), trefoilref04_Plain.j3, if_pos rfl, h42 (by rw [hodd, h1, h2]; rfl)]
   | true =>
    rw [if_pos rfl, trefoilref04_Plain.j3]
    by_cases h3 : es[x].f0 = es[x].f1
    ·rw [if_pos (by rw [beq_iff_eq]; exact h3), h42 (by rw [hodd, h1, h2, decide_eq_true h3]; rfl)]
    ·rw [if_neg (by rw [beq_iff_eq]; exact h3)]
     have hl2 := l2_run l es es[x].f0 es[x].f1 x (by omega) he x 0 (by omega) (fun j _ hj => absurd hj (by omega)) (k + FL m (x + 1))
     rw [show ((0 : Nat) : Int) = 0 from rfl] at hl2
     rw [hl2]
     cases h4 : ((es.map pr).take x).contains (es[x].f0, es[x].f1) with
     | true => rw [if_pos rfl, h42 (by rw [hodd, h1, h2, decide_eq_false h3, h4]; rfl)]
     | false =>
      rw [if_neg (by simp), e]
      exact ihm (x + 1) (by omega) (fun j hj => by
       by_cases ej : j = x
       ·subst ej; rw [hodd, h1, h2, decide_eq_false h3, h4]; rfl
       ·exact hno j (by omega)) k
theorem l0_run (l : List Int) (es : List S85) (hl : l.length ≤ 70) : ∀ (m x : Nat), x + m = l.length → (∀ j, j < x → oddW (l.getD j 0) = false) → ∀ k, trefoilref04_Plain.l0 (k + m + 1) (x : Int) l es = if l.any oddW = true then some 41 else trefoilref04_Plain.l1 k 0 l es := by
 intro m
 induction m with
 | zero =>
  intro x hx hno k
  rw [show k + 0 + 1 = k + 1 by omega, trefoilref04_Plain.l0, if_neg (by omega), if_neg]
  rw [List.any_eq_true]
  rintro ⟨w, hw, ho⟩
  obtain ⟨j, hj, rfl⟩ := List.getElem_of_mem hw
  have := hno j (by omega)
  rw [List.getD_eq_getElem?_getD, List.getElem?_eq_getElem hj] at this
  simp only [Option.getD_some] at this
  rw [this] at ho
  cases ho
 | succ m ihm =>
  intro x hx hno k
  have hxl : x < l.length := by omega
  have e : wrap64 ((x : Int) + 1) = ((x + 1 : Nat) : Int) := by rw [wrap_small (by omega)]; omega
  have hr : rd l (x : Int) = l.getD x 0 := by unfold rd; simp
  have hmem : l.getD x 0 ∈ l := getD_mem l x hxl
  have hany : oddW (l.getD x 0) = true → l.any oddW = true := fun h => List.any_eq_true.2 ⟨_, hmem, h⟩
  rw [show k + (m + 1) + 1 = (k + m + 1) + 1 by omega, trefoilref04_Plain.l0, if_pos (by omega), if_pos (by omega), hr, e]
  by_cases h1 : l.getD x 0 < 0
  ·rw [if_pos h1, if_pos (hany (by unfold oddW; rw [decide_eq_true h1]; rfl))]
  ·rw [if_neg h1]
   by_cases h2 : l.getD x 0 > 1000
   ·rw [if_pos h2, if_pos (hany (by unfold oddW; rw [decide_eq_true (show (1000 : Int) < l.getD x 0 from h2)]; simp))]
   ·rw [if_neg h2]
    exact ihm (x + 1) (by omega) (fun j hj => by
     by_cases ej : j = x
     ·subst ej; unfold oddW; rw [decide_eq_false h1, decide_eq_false (show ¬ (1000 : Int) < l.getD j 0 from h2)]; rfl
     ·exact hno j (by omega)) k
def plainL (l : List Int) (es : List (Int × Int)) : Int := if 64 < l.length ∨ 256 < es.length then 40 else if l.any oddW = true then 41 else if oddEs l.length es = true then 42 else 0
theorem plain_f (l : List Int) (es : List S85) (hl : l.length ≤ 70) (he : es.length ≤ 300) : ∃ K, ∀ k, trefoilref04_Plain.f (k + K) l es = some (plainL l (es.map pr)) := by
 refine ⟨(FL es.length 0 + l.length + 1) + 1, fun k => ?_⟩
 rw [show k + ((FL es.length 0 + l.length + 1) + 1) = (k + FL es.length 0 + l.length + 1) + 1 by omega]
 unfold trefoilref04_Plain.f plainL
 by_cases h1 : (l.length : Int) > 64
 ·rw [if_pos h1, trefoilref04_Plain.j0, if_pos rfl, if_pos (by omega)]
 ·rw [if_neg h1]
  by_cases h2 : (es.length : Int) > 256
  ·rw [decide_eq_true h2, trefoilref04_Plain.j0, if_pos rfl, if_pos (by rw [List.length_map]; omega)]
  ·rw [decide_eq_false h2, trefoilref04_Plain.j0, if_neg (by simp), if_neg (by rw [List.length_map]; omega)]
   have h0 := l0_run l es hl l.length 0 (by omega) (fun j hj => absurd hj (by omega)) (k + FL es.length 0)
   rw [show ((0 : Nat) : Int) = 0 from rfl] at h0
   rw [h0]
   by_cases h3 : l.any oddW = true
   ·rw [if_pos h3, if_pos h3]
   ·rw [if_neg h3, if_neg h3]
    have h4 := l1_run l es he es.length 0 (by omega) (fun j hj => absurd hj (by omega)) k
    exact h4
theorem rdB (out : List Bool) (v : Int) : rdOf false out v = out.getD v.toNat false := rfl
theorem rl1_run (l : List Int) (es : List S85) (a i : Int) (he : es.length ≤ 300) (n : Nat) (hin : ∀ e ∈ es.map pr, (0 ≤ e.1 ∧ e.1 < n) ∧ 0 ≤ e.2 ∧ e.2 < n) : ∀ (m x : Nat) (out : List Bool), x + m = es.length → out.length = n → ∀ k, trefoilref04_Reach.l1 (k + m + 1) a out i (x : Int) l es = trefoilref04_Reach.l0 k a (((es.map pr).drop x).foldl (stepR a) out) (wrap64 (i + 1)) l es := by
 intro m
 induction m with
 | zero =>
  intro x out hx ho k
  rw [show k + 0 + 1 = k + 1 by omega, trefoilref04_Reach.l1, if_neg (by omega), List.drop_of_length_le (by rw [List.length_map]; omega)]
  rfl
 | succ m ihm =>
  intro x out hx ho k
  have hxl : x < es.length := by omega
  have e : wrap64 ((x : Int) + 1) = ((x + 1 : Nat) : Int) := by rw [wrap_small (by omega)]; omega
  have hmem : pr es[x] ∈ es.map pr := List.mem_map.2 ⟨_, List.getElem_mem hxl, rfl⟩
  have hft := hin _ hmem
  have hf : 0 ≤ es[x].f0 ∧ es[x].f0 < n := hft.1
  have ht : 0 ≤ es[x].f1 ∧ es[x].f1 < n := hft.2
  have hd : (es.map pr).drop x = pr es[x] :: (es.map pr).drop (x + 1) := by
   rw [List.drop_eq_getElem_cons (by rw [List.length_map]; exact hxl)]; simp
  have ih := fun out' ho' => ihm (x + 1) out' (by omega) ho' k
  rw [show k + (m + 1) + 1 = (k + m + 1) + 1 by omega, trefoilref04_Reach.l1, if_pos (by omega), if_pos (by omega), rd_at es x hxl, hd, List.foldl_cons, e]
  have hset : (out.set es[x].f1.toNat true).length = n := by rw [List.length_set]; exact ho
  by_cases h1 : es[x].f0 = a
  ·rw [if_pos h1, if_pos ht.1, if_pos (by rw [ho]; exact ht.2), ih _ hset]
   have hs : stepR a out (pr es[x]) = out.set es[x].f1.toNat true := by unfold stepR; rw [if_pos (.inl h1)]; rfl
   rw [hs]
  ·rw [if_neg h1, if_pos hf.1, if_pos (by rw [ho]; exact hf.2), rdB]
   by_cases h2 : out.getD es[x].f0.toNat false = true
   ·rw [if_pos h2, if_pos ht.1, if_pos (by rw [ho]; exact ht.2), ih _ hset]
    have hs : stepR a out (pr es[x]) = out.set es[x].f1.toNat true := by unfold stepR; rw [if_pos (.inr h2)]; rfl
    rw [hs]
   ·rw [if_neg h2, ih _ ho]
    have hs : stepR a out (pr es[x]) = out := by
     unfold stepR
     rw [if_neg]
     rintro (h | h)
     ·exact h1 h
     ·exact h2 h
    rw [hs]
def RF (m : Nat) : Nat → Nat
 | 0 => 1
 | d + 1 => RF m d + m + 1 + 1
theorem rl0_run (l : List Int) (es : List S85) (a : Int) (hl : l.length ≤ 70) (he : es.length ≤ 300) (hin : ∀ e ∈ es.map pr, (0 ≤ e.1 ∧ e.1 < l.length) ∧ 0 ≤ e.2 ∧ e.2 < l.length) : ∀ (d x : Nat) (out : List Bool), x + d = l.length → out.length = l.length → ∀ k, trefoilref04_Reach.l0 (k + RF es.length d) a out (x : Int) l es = some (rounds a (es.map pr) d out) := by
 intro d
 induction d with
 | zero =>
  intro x out hx ho k
  rw [show k + RF es.length 0 = k + 1 from rfl, trefoilref04_Reach.l0, if_neg (by omega)]
  rfl
 | succ d ihd =>
  intro x out hx ho k
  have e : wrap64 ((x : Int) + 1) = ((x + 1 : Nat) : Int) := by rw [wrap_small (by omega)]; omega
  have h1 := rl1_run l es a (x : Int) he l.length hin es.length 0 out (by omega) ho (k + RF es.length d)
  rw [show ((0 : Nat) : Int) = 0 from rfl, List.drop_zero, e] at h1
  rw [show k + RF es.length (d + 1) = (k + RF es.length d + es.length + 1) + 1 by show k + (RF es.length d + es.length + 1 + 1) = _; omega, trefoilref04_Reach.l0, if_pos (by omega), h1]
  exact ihd (x + 1) _ (by omega) (by rw [foldR_len]; exact ho) k
theorem reach_f (l : List Int) (es : List S85) (a : Int) (hl : l.length ≤ 70) (he : es.length ≤ 300) (hin : ∀ e ∈ es.map pr, (0 ≤ e.1 ∧ e.1 < l.length) ∧ 0 ≤ e.2 ∧ e.2 < l.length) (k : Nat) : trefoilref04_Reach.f (k + RF es.length l.length) l es a = some (reachL l.length (es.map pr) a) := by
 unfold trefoilref04_Reach.f
 have h := rl0_run l es a hl he hin l.length 0 (List.replicate l.length false) (by omega) (by simp) k
 rw [if_pos (by omega), if_pos (by omega)]
 exact h
theorem cl0_run (l : List Int) (es : List S85) (hl : l.length ≤ 70) (he : es.length ≤ 300) (hin : ∀ e ∈ es.map pr, (0 ≤ e.1 ∧ e.1 < l.length) ∧ 0 ≤ e.2 ∧ e.2 < l.length) (z : Int)
  (h43 : ∀ v : Nat, v < l.length → Path (es.map pr) (v : Int) (v : Int) → z = 43) (h0 : (∀ v : Nat, v < l.length → ¬ Path (es.map pr) (v : Int) (v : Int)) → z = 0) :
  ∀ (m x : Nat), x + m = l.length → (∀ j : Nat, j < x → ¬ Path (es.map pr) (j : Int) (j : Int)) → ∀ k, trefoilref04_Check.l0 (k + RF es.length l.length + m + 1) (x : Int) l es = some z := by
 intro m
 induction m with
 | zero =>
  intro x hx hno k
  rw [show k + RF es.length l.length + 0 + 1 = (k + RF es.length l.length) + 1 by omega, trefoilref04_Check.l0, if_neg (by omega), h0 (fun v hv => hno v (by omega))]
 | succ m ihm =>
  intro x hx hno k
  have hxl : x < l.length := by omega
  have e : wrap64 ((x : Int) + 1) = ((x + 1 : Nat) : Int) := by rw [wrap_small (by omega)]; omega
  have hlen : (reachL l.length (es.map pr) (x : Int)).length = l.length := by unfold reachL; rw [rounds_len]; simp
  have hr := reach_f l es (x : Int) hl he hin (k + m + 1)
  rw [show k + m + 1 + RF es.length l.length = k + RF es.length l.length + m + 1 by omega] at hr
  rw [show k + RF es.length l.length + (m + 1) + 1 = (k + RF es.length l.length + m + 1) + 1 by omega, trefoilref04_Check.l0, if_pos (by omega), hr, Option.bind_some, if_pos (by omega), if_pos (by rw [hlen]; omega), rdB, e]
  have hiff := reach_iff hin (a := (x : Int)) (x : Int) (by omega)
  by_cases hp : Path (es.map pr) (x : Int) (x : Int)
  ·rw [if_pos (hiff.2 hp), h43 x hxl hp]
  ·rw [if_neg (fun h => hp (hiff.1 h))]
   exact ihm (x + 1) (by omega) (fun j hj => by
    by_cases ej : j = x
    ·subst ej; exact hp
    ·exact hno j (by omega)) k
theorem path_range {es : List (Int × Int)} {n : Nat} (hin : ∀ e ∈ es, (0 ≤ e.1 ∧ e.1 < n) ∧ 0 ≤ e.2 ∧ e.2 < n) {a b : Int} (h : Path es a b) : 0 ≤ b ∧ b < n := by
 obtain ⟨p, he, _⟩ := h.last
 exact (hin _ he).2
theorem refcheck_f (l : List Int) (es : List S85) (hl : l.length ≤ 70) (he : es.length ≤ 300) : ∃ K, ∀ k, trefoilref04_Check.f (k + K) l es = some (checkL l (es.map pr)) := by
 obtain ⟨K, hK⟩ := plain_f l es hl he
 refine ⟨K + RF es.length l.length + l.length + 1, fun k => ?_⟩
 have h1 := hK (k + RF es.length l.length + l.length + 1)
 rw [show k + RF es.length l.length + l.length + 1 + K = k + (K + RF es.length l.length + l.length + 1) by omega] at h1
 unfold trefoilref04_Check.f
 rw [h1, Option.bind_some]
 unfold plainL
 by_cases g1 : 64 < l.length ∨ 256 < (es.map pr).length
 ·rw [if_pos g1, if_neg (by decide)]; unfold checkL; rw [if_pos g1]
 ·rw [if_neg g1]
  by_cases g2 : l.any oddW = true
  ·rw [if_pos g2, if_neg (by decide)]; unfold checkL; rw [if_neg g1, if_pos g2]
  ·rw [if_neg g2]
   by_cases g3 : oddEs l.length (es.map pr) = true
   ·rw [if_pos g3, if_neg (by decide)]; unfold checkL; rw [if_neg g1, if_neg g2, if_pos g3]
   ·rw [if_neg g3, if_pos rfl]
    have hin := oddEs_in (n := l.length) (es := es.map pr) (by simpa using g3)
    have hc : checkL l (es.map pr) = if (orderL l.length (es.map pr)).isSome = true then 0 else 43 := by unfold checkL; rw [if_neg g1, if_neg g2, if_neg g3]
    have hrun := cl0_run l es hl he hin (checkL l (es.map pr)) (fun v hv hp => by
     by_cases hs : (orderL l.length (es.map pr)).isSome = true
     ·exact absurd hp (no_round (by rw [hc, if_pos hs]) _)
     ·rw [hc, if_neg hs]) (fun hno => by
     by_cases hs : (orderL l.length (es.map pr)).isSome = true
     ·rw [hc, if_pos hs]
     ·obtain ⟨v, hv⟩ := order_none hin (by simpa using hs)
      have hb := path_range hin hv
      exact absurd (show Path (es.map pr) ((v.toNat : Nat) : Int) ((v.toNat : Nat) : Int) by rw [show ((v.toNat : Nat) : Int) = v by omega]; exact hv) (hno v.toNat (by omega))) l.length 0 (by omega) (fun j hj => absurd hj (by omega)) (k + K)
    rw [show k + (K + RF es.length l.length + l.length + 1) = k + K + RF es.length l.length + l.length + 1 by omega]
    exact hrun
theorem ev_of {α : Type} {g : Nat → Option α} {r : α} {K : Nat} (h : ∀ k, g (k + K) = some r) : Ev g r := ⟨K, fun k hk => by
 have := h (k - K)
 rw [show k - K + K = k by omega] at this
 exact this⟩
theorem ev_add {α : Type} {g : Nat → Option α} {r : α} (h : ∃ K, ∀ k, g (k + K) = some r) : Ev g r := by
 obtain ⟨K, h⟩ := h
 exact ev_of h
theorem refcheck_ev (l : List Int) (es : List S85) (hl : l.length ≤ 70) (he : es.length ≤ 300) : Ev (fun k => trefoilref04_Check.f k l es) (checkL l (es.map pr)) := ev_add (refcheck_f l es hl he)
theorem ev_use {α β : Type} {g : Nat → Option α} {a : α} (h : Ev g a) {G f : Nat → Option β} {r : β} (hs : ∀ k, g k = some a → G (k + 1) = f k) (hf : Ev f r) : Ev G r := by
 obtain ⟨K, hK⟩ := h
 obtain ⟨K', hK'⟩ := hf
 refine ⟨max K K' + 1, fun k hk => ?_⟩
 obtain ⟨m, rfl⟩ : ∃ m, k = m + 1 := ⟨k - 1, by omega⟩
 rw [hs m (hK m (by omega)), hK' m (by omega)]
theorem ev_use2 {α α' β : Type} {g : Nat → Option α} {a : α} (h : Ev g a) {g' : Nat → Option α'} {a' : α'} (h' : Ev g' a') {G f : Nat → Option β} {r : β} (hs : ∀ k, g k = some a → g' k = some a' → G (k + 1) = f k) (hf : Ev f r) : Ev G r := by
 obtain ⟨K2, hK2⟩ := h'
 obtain ⟨K, hK⟩ := h
 obtain ⟨K', hK'⟩ := hf
 refine ⟨max (max K K2) K' + 1, fun k hk => ?_⟩
 obtain ⟨m, rfl⟩ : ∃ m, k = m + 1 := ⟨k - 1, by omega⟩
 rw [hs m (hK m (by omega)) (hK2 m (by omega)), hK' m (by omega)]
theorem wrap_up {x : Nat} (h : x ≤ 1000000) : wrap64 ((x : Int) + 1) = ((x + 1 : Nat) : Int) := by unfold wrap64; omega
theorem rdn (zs : List Int) (i : Nat) : rd zs (i : Int) = zs.getD i 0 := by unfold rd; rw [Int.toNat_natCast]
theorem has_ev (zs : List Int) (x : Int) (hz : zs.length ≤ 1000) : Ev (fun k => trefoilref04_Has.f k zs x) (zs.contains x) := by
 unfold trefoilref04_Has.f
 have key : ∀ (m i : Nat), i + m = zs.length → Ev (fun k => trefoilref04_Has.l0 k zs x (i : Int)) ((zs.drop i).contains x) := by
  intro m
  induction m with
  | zero =>
   intro i hx
   rw [List.drop_of_length_le (by omega)]
   exact Ev.step (f := fun _ => some false) (fun k => by rw [trefoilref04_Has.l0, if_neg (by omega)]) (Ev.now _)
  | succ m ih =>
   intro i hx
   have r1 : rd zs (i : Int) = zs[i] := by unfold rd; simp [List.getD_eq_getElem?_getD, show i < zs.length by omega]
   rw [List.drop_eq_getElem_cons (by omega), List.contains_cons]
   by_cases hc : zs[i] = x
   ·rw [hc, beq_self_eq_true, Bool.true_or]
    exact Ev.step (f := fun _ => some true) (fun k => by rw [trefoilref04_Has.l0, if_pos (by omega), if_pos (by omega), r1, if_pos hc]) (Ev.now _)
   ·rw [show (x == zs[i]) = false by simpa using fun e => hc e.symm, Bool.false_or]
    refine Ev.step (fun k => ?_) (ih (i + 1) (by omega))
    rw [trefoilref04_Has.l0, if_pos (by omega), if_pos (by omega), r1, if_neg hc, wrap_up (by omega)]
 have := key zs.length 0 (by omega)
 rw [List.drop_zero] at this
 exact this
theorem ownc_f (on left : List Int) (hl : on.length ≤ 1000) (he : left.length ≤ 1000) : trefoillaw11_Own.f on left = some (on, left) := by
 unfold trefoillaw11_Own.f
 simp only [Option.bind_some, List.length_nil, List.nil_append]
 rw [if_pos (by omega), if_pos (by omega)]
def fewB (l : List Int) (es : List S85) (on left : List Int) : Bool := decide (l.length ≤ 70 ∧ es.length ≤ 300 ∧ on.length ≤ 12 ∧ left.length ≤ 70)
theorem few11_f (l : List Int) (es : List S85) (on left : List Int) : trefoillaw11_few.f l es on left = some (fewB l es on left) := by
 unfold trefoillaw11_few.f trefoillaw04_Few.f fewB
 by_cases h1 : l.length ≤ 70
 ·rw [if_pos (by omega), Option.bind_some]
  by_cases h2 : es.length ≤ 300
  ·rw [if_pos (show decide ((es.length : Int) ≤ 300) = true from decide_eq_true (by omega))]
   by_cases h3 : on.length ≤ 12
   ·rw [if_pos (by omega)]
    exact congrArg some (decide_eq_decide.2 (by omega))
   ·rw [if_neg (by omega), decide_eq_false (by omega)]
  ·rw [if_neg (by simp; omega), decide_eq_false (by omega)]
 ·rw [if_neg (by omega), Option.bind_some, if_neg (by simp), decide_eq_false (by omega)]
theorem check_f (l : List Int) (es : List S85) (on left : List Int) (hl : l.length ≤ 1000) (he : es.length ≤ 1000) (ho : on.length ≤ 1000) (hlf : left.length ≤ 1000) : list_Check.f l es on left = some (LstPlain.crewR l (es.map pr) on left) := by
 unfold list_Check.f
 rw [if_pos ⟨⟨hl, he⟩, ho, hlf⟩]; rfl
theorem crew_vc {l on left : List Int} {es : List (Int × Int)} (h : LstPlain.crewR l es on left = 0) : LstPlain.VC es on left ∧ (1 ≤ on.length ∧ on.length ≤ 8) ∧ left.length = l.length ∧ DagPlain.checkL l es = 0 := by
 unfold LstPlain.crewR at h
 by_cases hz : DagPlain.checkL l es = 0
 ·rw [if_pos hz] at h
  cases hr : LstPlain.rightC l es on left with
  | false => rw [hr, if_neg (by simp)] at h; cases h
  | true => obtain ⟨a, b, c⟩ := LstPlain.vc_of hr; exact ⟨a, b, c, hz⟩
 ·rw [if_neg hz] at h; exact absurd h hz
section
variable (l : List Int) (es : List S85)
def nearB (es : List S85) (a b : Int) : Bool := es.any fun e => e.f0 == a && e.f1 == b
theorem near_ev (a b : Int) (he : es.length ≤ 1000) : Ev (fun k => trefoilref04_Near.f k l es a b) (nearB es a b) := by
 unfold trefoilref04_Near.f nearB
 have key : ∀ (m i : Nat), i + m = es.length → Ev (fun k => trefoilref04_Near.l0 k a b (i : Int) l es) ((es.drop i).any fun e => e.f0 == a && e.f1 == b) := by
  intro m
  induction m with
  | zero =>
   intro i hi
   rw [List.drop_of_length_le (by omega)]
   exact Ev.step (f := fun _ => some false) (fun k => by rw [trefoilref04_Near.l0, if_neg (by omega)]) (Ev.now _)
  | succ m ih =>
   intro i hi
   have r1 : rd_T85 es (i : Int) = es[i] := by unfold rd_T85; simp [List.getD_eq_getElem?_getD, show i < es.length by omega]
   rw [List.drop_eq_getElem_cons (by omega), List.any_cons]
   generalize es[i] = e at *
   have hn := ih (i + 1) (by omega)
   by_cases h1 : e.f0 = a
   ·by_cases h2 : e.f1 = b
    ·rw [show (e.f0 == a && e.f1 == b) = true by simp [h1, h2], Bool.true_or]
     exact Ev.step (f := fun _ => some true) (fun k => by rw [trefoilref04_Near.l0, if_pos (by omega), if_pos (by omega), r1, if_pos h1, if_pos h2]) (Ev.now _)
    ·rw [show (e.f0 == a && e.f1 == b) = false by simp [h2], Bool.false_or]
     exact Ev.step (fun k => by rw [trefoilref04_Near.l0, if_pos (by omega), if_pos (by omega), r1, if_pos h1, if_neg h2, wrap_up (by omega)]) hn
   ·rw [show (e.f0 == a && e.f1 == b) = false by simp [h1], Bool.false_or]
    exact Ev.step (fun k => by rw [trefoilref04_Near.l0, if_pos (by omega), if_pos (by omega), r1, if_neg h1, wrap_up (by omega)]) hn
 exact key es.length 0 (by omega)
def predF (es : List S85) (n : Int) (i m : Nat) : List Int := ((List.range' i m).map fun (j : Nat) => (j : Int)).filter fun x => nearB es x n
theorem predF_succ (n : Int) (i m : Nat) : predF es n i (m + 1) = (if nearB es (i : Int) n = true then [(i : Int)] else []) ++ predF es n (i + 1) m := by
 unfold predF
 rw [List.range'_succ, List.map_cons, List.filter_cons]
 split <;> simp
theorem mem_predF {n x : Int} {m : Nat} : x ∈ predF es n 0 m ↔ (0 ≤ x ∧ x < m) ∧ ∃ e ∈ es, e.f0 = x ∧ e.f1 = n := by
 unfold predF nearB
 simp only [List.mem_filter, List.mem_map, List.mem_range'_1, List.any_eq_true, Bool.and_eq_true, beq_iff_eq]
 constructor
 ·rintro ⟨⟨j, hj, rfl⟩, e, he, h⟩
  exact ⟨by omega, e, he, h⟩
 ·rintro ⟨hx, e, he, h⟩
  exact ⟨⟨x.toNat, by omega, by omega⟩, e, he, h⟩
theorem preds_ev (n : Int) (hl : l.length ≤ 1000) (he : es.length ≤ 1000) : Ev (fun k => trefoilref04_Preds.f k l es n) (predF es n 0 l.length) := by
 unfold trefoilref04_Preds.f
 have key : ∀ (m i : Nat) (acc : List Int), i + m = l.length → acc.length ≤ i → Ev (fun k => trefoilref04_Preds.l0 k n acc (i : Int) l es) (acc ++ predF es n i m) := by
  intro m
  induction m with
  | zero =>
   intro i acc hi _
   rw [show predF es n i 0 = [] from rfl, List.append_nil]
   exact Ev.step (f := fun _ => some acc) (fun k => by rw [trefoilref04_Preds.l0, if_neg (by omega)]) (Ev.now _)
  | succ m ih =>
   intro i acc hi ha
   have hn := near_ev l es (i : Int) n he
   rw [predF_succ]
   cases hb : nearB es (i : Int) n with
   | true =>
    rw [if_pos rfl, ← List.append_assoc]
    rw [hb] at hn
    refine ev_use hn (fun k hk => ?_) (ih (i + 1) (acc ++ [(i : Int)]) (by omega) (by simp; omega))
    rw [trefoilref04_Preds.l0, if_pos (by omega), hk, Option.bind_some, if_pos rfl, if_pos (by omega), wrap_up (by omega)]
   | false =>
    rw [if_neg (by simp), List.nil_append]
    rw [hb] at hn
    refine ev_use hn (fun k hk => ?_) (ih (i + 1) acc (by omega) (by omega))
    rw [trefoilref04_Preds.l0, if_pos (by omega), hk, Option.bind_some, if_neg (by simp), wrap_up (by omega)]
 have := key l.length 0 [] (by omega) (by simp)
 rw [List.nil_append] at this
 exact this
theorem over_ev (on left : List Int) (n : Int) (hl : l.length ≤ 1000) (he : es.length ≤ 1000) (hlen : left.length = l.length) :
  Ev (fun k => trefoilref11_Over.f k l es on left n) ((predF es n 0 l.length).all fun x => !decide (left.getD x.toNat 0 > 0)) := by
 unfold trefoilref11_Over.f
 refine Ev.bind (preds_ev l es n hl he) ?_
 have hx : ∀ x ∈ predF es n 0 l.length, 0 ≤ x ∧ x < (left.length : Int) := fun x hx => by rw [hlen]; exact ((mem_predF es).1 hx).1
 have hlx : (predF es n 0 l.length).length ≤ 1000 := Nat.le_trans (List.length_filter_le _ _) (by simp; omega)
 generalize predF es n 0 l.length = xs at *
 have key : ∀ (m i : Nat), i + m = xs.length → Ev (fun k => trefoilref11_Over.l0 k xs (i : Int) on left) ((xs.drop i).all fun x => !decide (left.getD x.toNat 0 > 0)) := by
  intro m
  induction m with
  | zero =>
   intro i hi
   rw [List.drop_of_length_le (by omega)]
   exact Ev.step (f := fun _ => some true) (fun k => by rw [trefoilref11_Over.l0, if_neg (by omega)]) (Ev.now _)
  | succ m ih =>
   intro i hi
   have r1 : rd xs (i : Int) = xs[i] := by unfold rd; simp [List.getD_eq_getElem?_getD, show i < xs.length by omega]
   have h2 := hx xs[i] (List.getElem_mem (by omega))
   rw [List.drop_eq_getElem_cons (by omega), List.all_cons]
   generalize xs[i] = x at *
   have r2 : rd left x = left.getD x.toNat 0 := rfl
   by_cases h1 : left.getD x.toNat 0 > 0
   ·rw [decide_eq_true h1, Bool.not_true, Bool.false_and]
    exact Ev.step (f := fun _ => some false) (fun k => by rw [trefoilref11_Over.l0, if_pos (by omega), if_pos (by omega), r1, if_pos h2.1, if_pos h2.2, r2, if_pos h1]) (Ev.now _)
   ·rw [decide_eq_false h1, Bool.not_false, Bool.true_and]
    exact Ev.step (fun k => by rw [trefoilref11_Over.l0, if_pos (by omega), if_pos (by omega), r1, if_pos h2.1, if_pos h2.2, r2, if_neg h1, wrap_up (by omega)]) (ih (i + 1) (by omega))
 have := key xs.length 0 (by omega)
 rw [List.drop_zero] at this
 exact this
theorem over_free (left : List Int) (n : Int) (hin : ∀ x ∈ es, (0 : Int) ≤ x.f0 ∧ x.f0 < (l.length : Int)) (hlo : ∀ i : Nat, 0 ≤ left.getD i 0) :
  ((predF es n 0 l.length).all fun x => !decide (left.getD x.toNat 0 > 0)) = LstPlain.freeC (es.map pr) left n := by
 rw [Bool.eq_iff_iff, LstPlain.free_iff, List.all_eq_true]
 constructor
 ·intro h e he h2
  obtain ⟨x, hx, rfl⟩ := List.mem_map.1 he
  have h3 := h x.f0 ((mem_predF es).2 ⟨hin x hx, x, hx, rfl, h2⟩)
  have h4 := hlo x.f0.toNat
  simp only [Bool.not_eq_true', decide_eq_false_iff_not] at h3
  show left.getD x.f0.toNat 0 = 0
  omega
 ·intro h x hx
  obtain ⟨_, e, he, h1, h2⟩ := (mem_predF es).1 hx
  have h3 := h (pr e) (List.mem_map_of_mem he) h2
  have h4 : left.getD x.toNat 0 = 0 := by rw [← h1]; exact h3
  simp only [Bool.not_eq_true', decide_eq_false_iff_not]
  omega
theorem ready_ev (on left : List Int) (hl : l.length ≤ 1000) (he : es.length ≤ 1000) (ho : on.length ≤ 1000) (hlen : left.length = l.length) (hin : ∀ x ∈ es, (0 : Int) ≤ x.f0 ∧ x.f0 < (l.length : Int)) (hlo : ∀ i : Nat, 0 ≤ left.getD i 0) :
  Ev (fun k => trefoilref11_Ready.f k l es on left) (LstPlain.readyL (es.map pr) on left) := by
 unfold trefoilref11_Ready.f
 have key : ∀ (m i : Nat) (acc : List Int), i + m = left.length → acc.length ≤ i → Ev (fun k => trefoilref11_Ready.l0 k acc (i : Int) l es on left) (acc ++ ((List.range' i m).filter (LstPlain.readyB (es.map pr) on left)).map fun (n : Nat) => (n : Int)) := by
  intro m
  induction m with
  | zero =>
   intro i acc hi _
   rw [show List.range' i 0 = [] from rfl, List.filter_nil, List.map_nil, List.append_nil]
   exact Ev.step (f := fun _ => some acc) (fun k => by rw [trefoilref11_Ready.l0, if_neg (by omega)]) (Ev.now _)
  | succ m ih =>
   intro i acc hi ha
   have h0 := hlo i
   have hh := has_ev on (i : Int) ho
   have hv := over_ev l es on left (i : Int) hl he hlen
   rw [over_free l es left (i : Int) hin hlo] at hv
   have hno := ih (i + 1) acc (by omega) (by omega)
   have hyes := ih (i + 1) (acc ++ [(i : Int)]) (by omega) (by simp; omega)
   rw [List.range'_succ, List.filter_cons]
   have hB : LstPlain.readyB (es.map pr) on left i = (!decide (left.getD i 0 = 0) && !on.contains (i : Int) && LstPlain.freeC (es.map pr) left (i : Int)) := by unfold LstPlain.readyB LstPlain.overC; rw [Int.toNat_natCast]
   rw [hB]
   by_cases h1 : left.getD i 0 = 0
   ·rw [decide_eq_true h1, Bool.not_true, Bool.false_and, Bool.false_and, if_neg (by simp)]
    exact Ev.step (fun k => by rw [trefoilref11_Ready.l0, if_pos (by omega), if_pos (by omega), rdn, if_neg (by omega), wrap_up (by omega)]) hno
   ·rw [decide_eq_false h1, Bool.not_false, Bool.true_and]
    cases h2 : on.contains (i : Int) with
    | true =>
     rw [h2] at hh
     rw [Bool.not_true, Bool.false_and, if_neg (by simp)]
     refine ev_use hh (fun k hk => ?_) hno
     rw [trefoilref11_Ready.l0, if_pos (by omega), if_pos (by omega), rdn, if_pos (by omega), hk, Option.bind_some, if_pos rfl, wrap_up (by omega)]
    | false =>
     rw [h2] at hh
     rw [Bool.not_false, Bool.true_and]
     cases h3 : LstPlain.freeC (es.map pr) left (i : Int) with
     | true =>
      rw [h3] at hv
      rw [if_pos rfl, List.map_cons, show acc ++ ((i : Int) :: _) = (acc ++ [(i : Int)]) ++ _ from by rw [List.append_assoc]; rfl]
      refine ev_use2 hh hv (fun k hk hk2 => ?_) hyes
      rw [trefoilref11_Ready.l0, if_pos (by omega), if_pos (by omega), rdn, if_pos (by omega), hk, Option.bind_some, if_neg (by simp), hk2, Option.bind_some, if_pos rfl, if_pos (by omega), wrap_up (by omega)]
     | false =>
      rw [h3] at hv
      rw [if_neg (by simp)]
      refine ev_use2 hh hv (fun k hk hk2 => ?_) hno
      rw [trefoilref11_Ready.l0, if_pos (by omega), if_pos (by omega), rdn, if_pos (by omega), hk, Option.bind_some, if_neg (by simp), hk2, Option.bind_some, if_neg (by simp), wrap_up (by omega)]
 have := key left.length 0 [] (by omega) (by simp)
 rw [List.nil_append] at this
 unfold LstPlain.readyL
 rw [List.range_eq_range']
 exact this
end
theorem mem_set_row {on : List Int} {i : Nat} {x y : Int} (hi : i < on.length) (h : on.getD i 0 = -1) (hx : x ≠ -1) : x ∈ on.set i y ↔ x = y ∨ x ∈ on := by
 constructor
 ·intro hm
  rcases List.mem_or_eq_of_mem_set hm with h1 | h1
  ·exact .inr h1
  ·exact .inl h1
 ·rintro (rfl | hm)
  ·refine getD_row_mem (c := i) (by rw [List.length_set]; exact hi) ?_
   rw [List.getD_eq_getElem?_getD, List.getElem?_set_self hi]; rfl
  ·obtain ⟨c, hc, e⟩ := LstPlain.getD_mem_of hm
   have hne : i ≠ c := fun e2 => hx (by rw [← e, ← e2]; exact h)
   refine getD_row_mem (c := c) (by rw [List.length_set]; exact hc) ?_
   rw [List.getD_eq_getElem?_getD, List.getElem?_set_ne hne, ← List.getD_eq_getElem?_getD]; exact e
theorem ready_set {es : List (Int × Int)} {on left : List Int} {i : Nat} {y : Int} {r : List Int} (hi : i < on.length) (h : on.getD i 0 = -1) (hr : LstPlain.readyL es on left = y :: r) : LstPlain.readyL es (on.set i y) left = r := by
 have hnd := LstPlain.ready_nodup es on left
 rw [hr] at hnd
 have hB : LstPlain.readyB es (on.set i y) left = fun n => ((fun x : Int => !decide (x = y)) ∘ fun (n : Nat) => (n : Int)) n && LstPlain.readyB es on left n := by
  funext n
  have hm := mem_set_row (y := y) hi h (x := (n : Int)) (by omega)
  have hc : (on.set i y).contains (n : Int) = (decide ((n : Int) = y) || on.contains (n : Int)) := by
   rw [Bool.eq_iff_iff]; simp only [List.contains_iff_mem, Bool.or_eq_true, decide_eq_true_eq]; exact hm
  unfold LstPlain.readyB
  rw [hc]
  show _ = (!decide ((n : Int) = y) && _)
  cases decide ((n : Int) = y) <;> simp
 unfold LstPlain.readyL at hr ⊢
 rw [hB, ← List.filter_filter, ← List.filter_map, hr, List.filter_cons, if_neg (by simp)]
 exact List.filter_eq_self.2 (fun x hx => by
  have : x ≠ y := fun e => (List.nodup_cons.1 hnd).1 (by rw [← e]; exact hx)
  simpa using this)
theorem fill_ev (l : List Int) (es : List S85) (on left : List Int) (hl : l.length ≤ 1000) (he : es.length ≤ 1000) (ho : on.length ≤ 1000) (hlen : left.length = l.length) (hin : ∀ x ∈ es, (0 : Int) ≤ x.f0 ∧ x.f0 < (l.length : Int)) (hlo : ∀ i : Nat, 0 ≤ left.getD i 0) :
  Ev (fun k => trefoilref11_Fill.f k l es on left) (LstPlain.fillL (LstPlain.readyL (es.map pr) on left) on, left) := by
 have hR : ∀ i, i ≤ on.length → LstPlain.readyL (es.map pr) (fillK (LstPlain.readyL (es.map pr) on left) on i).1 left = (fillK (LstPlain.readyL (es.map pr) on left) on i).2 := by
  intro i
  induction i with
  | zero => intro _; rfl
  | succ i ih =>
   intro hi
   have h1 := ih (by omega)
   have h2 := fillK_len (LstPlain.readyL (es.map pr) on left) on i
   rw [fillK_next]
   unfold LstPlain.fillS
   split
   ·rename_i h3
    split
    ·exact h1
    ·rename_i y r hq
     rw [hq] at h1
     exact ready_set (by omega) h3 h1
   ·exact h1
 have key : ∀ (m i : Nat), i + m = on.length → Ev (fun k => trefoilref11_Fill.l0 k (i : Int) l es (fillK (LstPlain.readyL (es.map pr) on left) on i).1 left) (LstPlain.fillL (LstPlain.readyL (es.map pr) on left) on, left) := by
  intro m
  induction m with
  | zero =>
   intro i hi
   have h2 := fillK_len (LstPlain.readyL (es.map pr) on left) on i
   obtain rfl : i = on.length := by omega
   refine Ev.step (f := fun _ => some (LstPlain.fillL (LstPlain.readyL (es.map pr) on left) on, left)) (fun k => ?_) (Ev.now _)
   rw [trefoilref11_Fill.l0, if_neg (by omega)]; rfl
  | succ m ih =>
   intro i hi
   have hn := ih (i + 1) (by omega)
   have h1 := hR i (by omega)
   have h2 := fillK_len (LstPlain.readyL (es.map pr) on left) on i
   rw [fillK_next] at hn
   generalize fillK (LstPlain.readyL (es.map pr) on left) on i = s at *
   have hr := ready_ev l es s.1 left hl he (by omega) hlen hin hlo
   rw [h1] at hr
   refine ev_use hr (fun k hk => ?_) hn
   rw [trefoilref11_Fill.l0, if_pos (by omega), hk, Option.bind_some, if_pos (by omega), rdn, wrap_up (by omega)]
   unfold LstPlain.fillS
   by_cases h3 : s.1.getD i 0 = -1
   ·rw [if_pos h3, if_pos h3]
    cases hq : s.2 with
    | nil => rw [if_neg (by simp)]
    | cons y r => rw [if_pos (by simp), if_pos (by simp), Int.toNat_natCast]; rfl
   ·rw [if_neg h3, if_neg h3]
 refine Ev.congr (fun k => ?_) (key on.length 0 (by omega))
 unfold trefoilref11_Fill.f
 simp only [Option.bind_some, List.length_nil, List.nil_append]
 rw [if_pos (by omega), if_pos (by omega)]
 rfl
theorem if_cg {α : Type} {p q : Prop} [Decidable p] [Decidable q] {a b c d : α} (h : p ↔ q) (h1 : a = b) (h2 : c = d) : (if p then a else c) = if q then b else d := by
 subst h1 h2
 by_cases hp : p
 ·rw [if_pos hp, if_pos (h.1 hp)]
 ·rw [if_neg hp, if_neg (fun hq => hp (h.2 hq))]
section
variable {on left : List Int}
def dnL (on left : List Int) (n : Nat) : List Int := ((List.range n).filter fun (j : Nat) => on.contains (j : Int) && left.getD j 0 == 1).map fun (j : Nat) => (j : Int)
theorem dnL_succ (n : Nat) : dnL on left (n + 1) = dnL on left n ++ (if (n : Int) ∈ on ∧ left.getD n 0 = 1 then [(n : Int)] else []) := by
 unfold dnL
 rw [List.range_succ, List.filter_append, List.map_append, List.filter_cons, List.filter_nil]
 congr 1
 by_cases h : (n : Int) ∈ on ∧ left.getD n 0 = 1
 ·rw [if_pos h, if_pos (by rw [show on.contains (n : Int) = true by simpa using h.1, h.2]; rfl)]; rfl
 ·rw [if_neg h, if_neg (fun h2 => h (by rw [Bool.and_eq_true, beq_iff_eq] at h2; exact ⟨by simpa using h2.1, h2.2⟩))]; rfl
structure KI (on left : List Int) (n i : Nat) (X Y D : List Int) : Prop where
 xl : X.length = on.length
 yl : Y.length = left.length
 xs : ∀ c, c < on.length → X.getD c 0 = if 0 ≤ on.getD c 0 ∧ (on.getD c 0 < n ∨ on.getD c 0 = n ∧ c < i) ∧ left.getD (on.getD c 0).toNat 0 = 1 then -1 else on.getD c 0
 ys : ∀ j : Nat, j < left.length → Y.getD j 0 = left.getD j 0 - if (j : Int) ∈ on ∧ (j < n ∨ j = n ∧ (j : Int) ∈ on.take i) then 1 else 0
 ds : D = dnL on left n ++ if (n : Int) ∈ on.take i ∧ left.getD n 0 = 1 then [(n : Int)] else []
 dl : D.length ≤ n + i
theorem KI.zero : KI on left 0 0 on left [] :=
 ⟨rfl, rfl, fun c _ => by rw [if_neg (by omega)], fun j _ => by rw [if_neg (by simp)]; omega, by rw [List.take_zero, if_neg (by simp)]; rfl, by simp⟩
theorem KI.next {n : Nat} {X Y D : List Int} (h : KI on left n on.length X Y D) (hD : D.length ≤ n + 1) : KI on left (n + 1) 0 X Y D := by
 refine ⟨h.xl, h.yl, fun c hc => ?_, fun j hj => ?_, ?_, by omega⟩
 ·rw [h.xs c hc]
  refine if_cg ?_ rfl rfl
  constructor
  ·rintro ⟨a, b, d⟩; exact ⟨a, by omega, d⟩
  ·rintro ⟨a, b, d⟩; exact ⟨a, by omega, d⟩
 ·rw [h.ys j hj, List.take_length, List.take_zero]
  refine congrArg (left.getD j 0 - ·) (if_cg ?_ rfl rfl)
  constructor
  ·rintro ⟨a, b⟩; exact ⟨a, by omega⟩
  ·rintro ⟨a, b⟩
   refine ⟨a, ?_⟩
   rcases b with b | ⟨_, b⟩
   ·by_cases e : j = n
    ·exact .inr ⟨e, a⟩
    ·exact .inl (by omega)
   ·cases b
 ·rw [h.ds, List.take_length, dnL_succ, List.take_zero, if_neg (c := ((n + 1 : Nat) : Int) ∈ [] ∧ _) (by simp), List.append_nil]
theorem KI.skip {n i : Nat} {X Y D : List Int} (h : KI on left n i X Y D) (hi : i < on.length) (hne : on.getD i 0 ≠ n) : KI on left n (i + 1) X Y D := by
 have ht : (n : Int) ∈ on.take (i + 1) ↔ (n : Int) ∈ on.take i := by
  rw [take_mem_next hi]
  exact ⟨fun h => h.resolve_right hne, .inl⟩
 refine ⟨h.xl, h.yl, fun c hc => ?_, fun j hj => ?_, ?_, by have := h.dl; omega⟩
 ·rw [h.xs c hc]
  refine if_cg ?_ rfl rfl
  have : on.getD c 0 = n → c ≠ i := fun e e2 => hne (by rw [← e2]; exact e)
  constructor
  ·rintro ⟨a, b, d⟩; exact ⟨a, by omega, d⟩
  ·rintro ⟨a, b, d⟩
   refine ⟨a, ?_, d⟩
   rcases b with b | ⟨b1, b2⟩
   ·exact .inl b
   ·exact .inr ⟨b1, by have := this b1; omega⟩
 ·rw [h.ys j hj]
  refine congrArg (left.getD j 0 - ·) (if_cg ?_ rfl rfl)
  constructor
  ·rintro ⟨a, b⟩
   refine ⟨a, b.imp id (fun ⟨e, b2⟩ => ⟨e, by subst e; exact ht.2 b2⟩)⟩
  ·rintro ⟨a, b⟩
   refine ⟨a, b.imp id (fun ⟨e, b2⟩ => ⟨e, by subst e; exact ht.1 b2⟩)⟩
 ·rw [h.ds]
  exact congrArg (_ ++ ·) (if_cg (and_congr_left fun _ => ht.symm) rfl rfl)
theorem KI.hit {es : List (Int × Int)} (hv : LstPlain.VC es on left) {n i : Nat} {X Y D : List Int} (h : KI on left n i X Y D) (hi : i < on.length) (hn : n < left.length) (e : on.getD i 0 = n) :
  KI on left n (i + 1) (if left.getD n 0 = 1 then X.set i (-1) else X) (Y.set n (left.getD n 0 - 1)) (if left.getD n 0 = 1 then D ++ [(n : Int)] else D) := by
 have hone : ∀ c, c < on.length → on.getD c 0 = n → c = i := fun c hc e2 => hv.one c i hc hi (by omega) (e2.trans e.symm)
 have hno : (n : Int) ∉ on.take i := fun hm => by
  obtain ⟨c, hc, e2⟩ := LstPlain.getD_mem_of hm
  rw [List.length_take] at hc
  have h2 : on.getD c 0 = n := by rw [← e2, List.getD_eq_getElem?_getD, List.getD_eq_getElem?_getD, List.getElem?_take_of_lt (by omega)]
  have := hone c (by omega) h2
  omega
 have hon : (n : Int) ∈ on := getD_row_mem hi e
 have ht : (n : Int) ∈ on.take (i + 1) := (take_mem_next hi _).2 (.inr e)
 have hds := h.ds
 rw [if_neg (fun h => hno h.1), List.append_nil] at hds
 refine ⟨by split <;> simp [h.xl], by rw [List.length_set]; exact h.yl, fun c hc => ?_, fun j hj => ?_, ?_, ?_⟩
 ·have hx := h.xs c hc
  by_cases h1 : left.getD n 0 = 1
  ·rw [if_pos h1]
   by_cases hci : c = i
   ·subst hci
    rw [List.getD_eq_getElem?_getD, List.getElem?_set_self (by rw [h.xl]; exact hi), if_pos ⟨by omega, .inr ⟨e, by omega⟩, by rw [e, Int.toNat_natCast]; exact h1⟩]; rfl
   ·rw [List.getD_eq_getElem?_getD, List.getElem?_set_ne (fun e2 => hci e2.symm), ← List.getD_eq_getElem?_getD, hx]
    refine if_cg ?_ rfl rfl
    constructor
    ·rintro ⟨a, b, d⟩; exact ⟨a, by omega, d⟩
    ·rintro ⟨a, b, d⟩; exact ⟨a, b.imp id (fun ⟨b1, b2⟩ => ⟨b1, by omega⟩), d⟩
  ·rw [if_neg h1, hx]
   refine if_cg ?_ rfl rfl
   constructor
   ·rintro ⟨a, b, d⟩; exact ⟨a, by omega, d⟩
   ·rintro ⟨a, b, d⟩
    refine ⟨a, b.imp id (fun ⟨b1, b2⟩ => ?_), d⟩
    exact absurd (by rw [b1, Int.toNat_natCast] at d; exact d) h1
 ·by_cases hjn : j = n
  ·subst hjn
   rw [List.getD_eq_getElem?_getD, List.getElem?_set_self (by rw [h.yl]; exact hn), if_pos ⟨hon, .inr ⟨rfl, ht⟩⟩]; rfl
  ·rw [List.getD_eq_getElem?_getD, List.getElem?_set_ne (fun e2 => hjn e2.symm), ← List.getD_eq_getElem?_getD, h.ys j hj]
   refine congrArg (left.getD j 0 - ·) (if_cg ?_ rfl rfl)
   constructor
   ·rintro ⟨a, b⟩; exact ⟨a, .inl (by omega)⟩
   ·rintro ⟨a, b⟩; exact ⟨a, .inl (by omega)⟩
 ·by_cases h1 : left.getD n 0 = 1
  ·rw [if_pos h1, if_pos ⟨ht, h1⟩, hds]
  ·rw [if_neg h1, if_neg (fun h => h1 h.2), hds, List.append_nil]
 ·have := h.dl
  split
  ·rw [List.length_append, List.length_singleton]; omega
  ·omega
theorem ext_getD {a b : List Int} (hl : a.length = b.length) (h : ∀ i, i < a.length → a.getD i 0 = b.getD i 0) : a = b := by
 apply List.ext_getElem hl
 intro i h1 h2
 have := h i h1
 rw [List.getD_eq_getElem?_getD, List.getD_eq_getElem?_getD, List.getElem?_eq_getElem h1, List.getElem?_eq_getElem h2] at this
 exact this
theorem dnL_mem {n : Nat} {x : Int} : x ∈ dnL on left n ↔ (0 ≤ x ∧ x < n) ∧ x ∈ on ∧ left.getD x.toNat 0 = 1 := by
 unfold dnL
 simp only [List.mem_map, List.mem_filter, List.mem_range, Bool.and_eq_true, List.contains_iff_mem, beq_iff_eq]
 constructor
 ·rintro ⟨j, ⟨h1, h2, h3⟩, rfl⟩
  exact ⟨by omega, h2, by rw [Int.toNat_natCast]; exact h3⟩
 ·rintro ⟨h1, h2, h3⟩
  exact ⟨x.toNat, ⟨by omega, by rw [show ((x.toNat : Nat) : Int) = x by omega]; exact h2, h3⟩, by omega⟩
theorem dnL_lt (n : Nat) : (dnL on left n).Pairwise (· < ·) := by
 unfold dnL
 rw [List.pairwise_map]
 exact (List.Pairwise.sublist List.filter_sublist List.pairwise_lt_range).imp (fun h => by omega)
theorem KI.last {es : List (Int × Int)} (hv : LstPlain.VC es on left) {X Y D : List Int} (h : KI on left left.length 0 X Y D) : X = (LstPlain.tickL on left).1 ∧ Y = (LstPlain.tickL on left).2.1 ∧ D = sortL (LstPlain.tickL on left).2.2 := by
 obtain ⟨l1, l2⟩ := LstPlain.tick_len hv
 refine ⟨ext_getD (by rw [h.xl, l1]) (fun c hc => ?_), ext_getD (by rw [h.yl, l2]) (fun j hj => ?_), ?_⟩
 ·rw [h.xl] at hc
  rw [h.xs c hc, LstPlain.tick_on hv hc]
  refine if_cg ?_ rfl rfl
  constructor
  ·rintro ⟨a, b, d⟩; exact ⟨by omega, d⟩
  ·rintro ⟨a, d⟩
   have := (hv.on_ c hc a).1
   exact ⟨this.1, .inl this.2, d⟩
 ·rw [h.yl] at hj
  rw [h.ys j hj, LstPlain.tick_left hv hj]
  refine congrArg (left.getD j 0 - ·) (if_cg ?_ rfl rfl)
  exact ⟨fun h => h.1, fun h => ⟨h, .inl hj⟩⟩
 ·have hd := h.ds
  rw [List.take_zero, if_neg (by simp), List.append_nil] at hd
  rw [hd]
  refine sorted_ext (dnL_lt _) (sortL_lt (LstPlain.tick_tk hv).nod) (fun x => ?_)
  rw [mem_sortL, LstPlain.tick_out hv, dnL_mem]
  constructor
  ·rintro ⟨a, b, d⟩; exact ⟨b, by omega, d⟩
  ·rintro ⟨b, a, d⟩
   obtain ⟨c, hc, e⟩ := LstPlain.getD_mem_of b
   have := (hv.on_ c hc (by omega)).1
   exact ⟨by omega, b, d⟩
end
theorem tick_ev {es : List (Int × Int)} (on left : List Int) (hv : LstPlain.VC es on left) (ho : on.length ≤ 1000) (hl : left.length ≤ 1000) :
  Ev (fun k => trefoilref11_Tick.f k on left) ((LstPlain.tickL on left).1, (LstPlain.tickL on left).2.1, sortL (LstPlain.tickL on left).2.2) := by
 have key : ∀ (m n : Nat) (X Y D : List Int), n + m = left.length → KI on left n 0 X Y D → D.length ≤ n → Ev (fun k => trefoilref11_Tick.l0 k D (n : Int) on left X Y) ((LstPlain.tickL on left).1, (LstPlain.tickL on left).2.1, sortL (LstPlain.tickL on left).2.2) := by
  intro m
  induction m with
  | zero =>
   intro n X Y D hn h hD
   obtain rfl : n = left.length := by omega
   obtain ⟨e1, e2, e3⟩ := h.last hv
   rw [← e1, ← e2, ← e3]
   exact Ev.step (f := fun _ => some (X, Y, D)) (fun k => by rw [trefoilref11_Tick.l0, if_neg (by omega)]) (Ev.now _)
  | succ m ih =>
   intro n X Y D hn h hD
   have hlo := hv.lo _ (getD_mem left n (by omega))
   have inner : ∀ (q i : Nat) (X Y D : List Int), i + q = on.length → KI on left n i X Y D → D.length ≤ n + 1 → Ev (fun k => trefoilref11_Tick.l1 k D (n : Int) (i : Int) on left X Y) ((LstPlain.tickL on left).1, (LstPlain.tickL on left).2.1, sortL (LstPlain.tickL on left).2.2) := by
    intro q
    induction q with
    | zero =>
     intro i X Y D hi h hD
     obtain rfl : i = on.length := by omega
     refine Ev.step (fun k => ?_) (ih (n + 1) X Y D (by omega) (h.next hD) hD)
     rw [trefoilref11_Tick.l1, if_neg (by omega), wrap_up (by omega)]
    | succ q ihq =>
     intro i X Y D hi h hD
     by_cases e : on.getD i 0 = n
     ·have hh := h.hit hv (by omega) (by omega) e
      have hDl : (if left.getD n 0 = 1 then D ++ [(n : Int)] else D).length ≤ n + 1 := by
       rw [hh.ds]
       have h1 : (dnL on left n).length ≤ n := by unfold dnL; rw [List.length_map]; exact Nat.le_trans (List.length_filter_le _ _) (by simp)
       rw [List.length_append]
       split <;> simp <;> omega
      refine Ev.step (fun k => ?_) (ihq (i + 1) _ _ _ (by omega) hh hDl)
      have hx := h.xl
      have hy := h.yl
      rw [trefoilref11_Tick.l1, if_pos (by omega), if_pos (by omega), rdn, if_pos e, if_pos (by omega), if_pos (by omega), if_pos (by omega), Option.bind_some, rdn, show wrap64 (left.getD n 0 - 1) = left.getD n 0 - 1 by unfold wrap64; omega, Int.toNat_natCast, Int.toNat_natCast, wrap_up (by omega)]
      by_cases h1 : left.getD n 0 = 1
      ·rw [if_pos (by omega), if_pos (by omega), if_pos (by omega), if_pos h1, if_pos h1]
      ·rw [if_neg (by omega), if_neg h1, if_neg h1]
     ·refine Ev.step (fun k => ?_) (ihq (i + 1) X Y D (by omega) (h.skip (by omega) e) hD)
      rw [trefoilref11_Tick.l1, if_pos (by omega), if_pos (by omega), rdn, if_neg e, wrap_up (by omega)]
   refine Ev.step (fun k => ?_) (inner on.length 0 X Y D (by omega) h (by omega))
   rw [trefoilref11_Tick.l0, if_pos (by omega)]
   rfl
 refine Ev.congr (fun k => ?_) (key left.length 0 on left [] (by omega) KI.zero (by simp))
 unfold trefoilref11_Tick.f
 simp only [Option.bind_some, List.length_nil, List.nil_append]
 rw [if_pos (by omega), if_pos (by omega)]
 rfl
theorem ints_ev (a b : List Int) (ha : a.length ≤ 1000) : Ev (fun k => trefoilref02_Ints.f k a b) (decide (a = b)) := by
 unfold trefoilref02_Ints.f
 by_cases hl : a.length = b.length
 ·have key : ∀ (m i : Nat), i + m = a.length → Ev (fun k => trefoilref02_Ints.l0 k a b (i : Int)) (decide (a.drop i = b.drop i)) := by
   intro m
   induction m with
   | zero =>
    intro i hi
    rw [List.drop_of_length_le (by omega), List.drop_of_length_le (by omega), decide_eq_true rfl]
    exact Ev.step (f := fun _ => some true) (fun k => by rw [trefoilref02_Ints.l0, if_neg (by omega)]) (Ev.now _)
   | succ m ih =>
    intro i hi
    have r1 : rd a (i : Int) = a[i] := by unfold rd; simp [List.getD_eq_getElem?_getD, show i < a.length by omega]
    have r2 : rd b (i : Int) = b[i] := by unfold rd; simp [List.getD_eq_getElem?_getD, show i < b.length by omega]
    rw [List.drop_eq_getElem_cons (l := a) (by omega), List.drop_eq_getElem_cons (l := b) (by omega)]
    by_cases hx : a[i] = b[i]
    ·rw [show decide (a[i] :: a.drop (i + 1) = b[i] :: b.drop (i + 1)) = decide (a.drop (i + 1) = b.drop (i + 1)) from decide_eq_decide.2 (by rw [List.cons.injEq]; exact ⟨fun h => h.2, fun h => ⟨hx, h⟩⟩)]
     refine Ev.step (fun k => ?_) (ih (i + 1) (by omega))
     rw [trefoilref02_Ints.l0, if_pos (by omega), if_pos (by omega), if_pos (by omega), r1, r2, if_pos hx, wrap_up (by omega)]
    ·rw [decide_eq_false (fun h => hx (List.cons.inj h).1)]
     exact Ev.step (f := fun _ => some false) (fun k => by rw [trefoilref02_Ints.l0, if_pos (by omega), if_pos (by omega), if_pos (by omega), r1, r2, if_neg hx]) (Ev.now _)
  have := key a.length 0 (by omega)
  rw [List.drop_zero, List.drop_zero] at this
  exact Ev.congr (fun k => if_pos (by omega)) this
 ·rw [decide_eq_false (fun h => hl (by rw [h]))]
  exact Ev.congr (fun k => if_neg (by omega)) (Ev.now _)
theorem eqs_ev (a b : List Int) (ha : a.length ≤ 1000) : Ev (fun k => slices_Equal_int_int.f k a b) (decide (a = b)) := by
 unfold slices_Equal_int_int.f
 by_cases hl : a.length = b.length
 ·have key : ∀ (m i : Nat), i + m = a.length → Ev (fun k => slices_Equal_int_int.l0 k a b (a.length : Int) (i : Int)) (decide (a.drop i = b.drop i)) := by
   intro m
   induction m with
   | zero =>
    intro i hi
    rw [List.drop_of_length_le (by omega), List.drop_of_length_le (by omega), decide_eq_true rfl]
    exact Ev.step (f := fun _ => some true) (fun k => by rw [slices_Equal_int_int.l0, if_neg (by omega)]) (Ev.now _)
   | succ m ih =>
    intro i hi
    have r1 : rd a (i : Int) = a[i] := by unfold rd; simp [List.getD_eq_getElem?_getD, show i < a.length by omega]
    have r2 : rd b (i : Int) = b[i] := by unfold rd; simp [List.getD_eq_getElem?_getD, show i < b.length by omega]
    rw [List.drop_eq_getElem_cons (l := a) (by omega), List.drop_eq_getElem_cons (l := b) (by omega)]
    by_cases hx : a[i] = b[i]
    ·rw [show decide (a[i] :: a.drop (i + 1) = b[i] :: b.drop (i + 1)) = decide (a.drop (i + 1) = b.drop (i + 1)) from decide_eq_decide.2 (by rw [List.cons.injEq]; exact ⟨fun h => h.2, fun h => ⟨hx, h⟩⟩)]
     refine Ev.step (fun k => ?_) (ih (i + 1) (by omega))
     rw [slices_Equal_int_int.l0, if_pos (by omega), if_pos (by omega), if_pos (by omega), if_pos (by omega), r1, r2, if_pos hx, wrap_up (by omega)]
    ·rw [decide_eq_false (fun h => hx (List.cons.inj h).1)]
     exact Ev.step (f := fun _ => some false) (fun k => by rw [slices_Equal_int_int.l0, if_pos (by omega), if_pos (by omega), if_pos (by omega), if_pos (by omega), r1, r2, if_neg hx]) (Ev.now _)
  have := key a.length 0 (by omega)
  rw [List.drop_zero, List.drop_zero] at this
  exact Ev.congr (fun k => if_pos (by omega)) this
 ·rw [decide_eq_false (fun h => hl (by rw [h]))]
  exact Ev.congr (fun k => if_neg (by omega)) (Ev.now _)
theorem same_ev (a b c d : List Int) (ha : a.length ≤ 1000) (hb : b.length ≤ 1000) : Ev (fun k => trefoilref11_Same.f k a b c d) (decide (a = c) && decide (b = d)) := by
 unfold trefoilref11_Same.f
 refine Ev.bind (ints_ev a c ha) ?_
 by_cases h : a = c
 ·simp only [decide_eq_true h, if_true, Bool.true_and]
  exact Ev.bind (ints_ev b d hb) (Ev.now _)
 ·simp only [decide_eq_false h, Bool.false_and, Bool.false_eq_true, if_false]
  exact Ev.now _
theorem lsame_ev (a b c d : List Int) (ha : a.length ≤ 1000) (hb : b.length ≤ 1000) : Ev (fun k => list_Same.f k a b c d) (decide (a = c) && decide (b = d)) := by
 unfold list_Same.f
 refine Ev.bind (eqs_ev a c ha) ?_
 by_cases h : a = c
 ·simp only [decide_eq_true h, if_true, Bool.true_and]
  exact Ev.bind (eqs_ev b d hb) (Ev.now _)
 ·simp only [decide_eq_false h, Bool.false_and, Bool.false_eq_true, if_false]
  exact Ev.now _
theorem bad_iff {es : List (Int × Int)} {on left : List Int} {x : Nat} : LstPlain.badOn es on left x = true ↔ on.getD x 0 ≠ -1 ∧ (on.getD x 0 < 0 ∨ (left.length : Int) ≤ on.getD x 0 ∨ left.getD (on.getD x 0).toNat 0 = 0 ∨ (on.take x).contains (on.getD x 0) = true ∨ LstPlain.freeC es left (on.getD x 0) = false) := by
 unfold LstPlain.badOn LstPlain.overC
 rw [Bool.and_eq_true, bne_iff_ne, Bool.or_eq_true, Bool.or_eq_true, Bool.or_eq_true, Bool.or_eq_true, decide_eq_true_eq, decide_eq_true_eq, decide_eq_true_eq, Bool.not_eq_true']
theorem cl2_ev (l : List Int) (es : List S85) (on left : List Int) (hl : l.length ≤ 1000) (he : es.length ≤ 1000) (ho : on.length ≤ 1000) (hlen : left.length = l.length) (hin : ∀ x ∈ es, (0 : Int) ≤ x.f0 ∧ x.f0 < (l.length : Int)) (hlo : ∀ i : Nat, 0 ≤ left.getD i 0) :
  ∀ (m x : Nat), x + m = on.length → Ev (fun k => trefoilref11_Check.l2 k (x : Int) l es on left) (if (List.range' x m).any (LstPlain.badOn (es.map pr) on left) = true then 110 else 0) := by
 intro m
 induction m with
 | zero =>
  intro x hx
  rw [show (List.range' x 0).any (LstPlain.badOn (es.map pr) on left) = false from rfl, if_neg (by simp)]
  exact Ev.step (f := fun _ => some 0) (fun k => by rw [trefoilref11_Check.l2, if_neg (by omega)]) (Ev.now _)
 | succ m ih =>
  intro x hx
  have hn := ih (x + 1) (by omega)
  have hb := bad_iff (es := es.map pr) (on := on) (left := left) (x := x)
  have hh := has_ev (on.take x) (on.getD x 0) (by rw [List.length_take]; omega)
  have hv := over_ev l es on left (on.getD x 0) hl he hlen
  rw [over_free l es left (on.getD x 0) hin hlo] at hv
  rw [List.range'_succ, List.any_cons]
  have hr := rdn on x
  generalize on.getD x 0 = n at *
  have bad : ∀ (_ : LstPlain.badOn (es.map pr) on left x = true), (if (LstPlain.badOn (es.map pr) on left x || (List.range' (x + 1) m).any (LstPlain.badOn (es.map pr) on left)) = true then (110 : Int) else 0) = 110 := fun h => by rw [h, Bool.true_or, if_pos rfl]
  have good : ∀ (_ : LstPlain.badOn (es.map pr) on left x = false), (if (LstPlain.badOn (es.map pr) on left x || (List.range' (x + 1) m).any (LstPlain.badOn (es.map pr) on left)) = true then (110 : Int) else 0) = if (List.range' (x + 1) m).any (LstPlain.badOn (es.map pr) on left) = true then 110 else 0 := fun h => by rw [h, Bool.false_or]
  by_cases h0 : n = -1
  ·rw [good (Bool.eq_false_iff.2 fun h => (hb.1 h).1 h0)]
   refine Ev.step (fun k => ?_) hn
   rw [trefoilref11_Check.l2, if_pos (by omega), if_pos (by omega), hr, if_neg (by omega), if_neg (by omega), if_neg (by omega), wrap_up (by omega)]
  ·by_cases h1 : n < 0
   ·rw [bad (hb.2 ⟨h0, .inl h1⟩)]
    exact Ev.step (f := fun _ => some 110) (fun k => by rw [trefoilref11_Check.l2, if_pos (by omega), if_pos (by omega), hr, if_pos (by omega)]) (Ev.now _)
   ·by_cases h2 : (left.length : Int) ≤ n
    ·rw [bad (hb.2 ⟨h0, .inr (.inl h2)⟩)]
     exact Ev.step (f := fun _ => some 110) (fun k => by rw [trefoilref11_Check.l2, if_pos (by omega), if_pos (by omega), hr, if_neg (by omega), if_pos (by omega)]) (Ev.now _)
    ·by_cases h3 : left.getD n.toNat 0 = 0
     ·rw [bad (hb.2 ⟨h0, .inr (.inr (.inl h3))⟩)]
      exact Ev.step (f := fun _ => some 110) (fun k => by rw [trefoilref11_Check.l2, if_pos (by omega), if_pos (by omega), hr, if_neg (by omega), if_neg (by omega), if_pos (by omega), if_pos (by omega), if_pos (by omega), show rd left n = left.getD n.toNat 0 from rfl, if_pos h3]) (Ev.now _)
     ·cases h4 : LstPlain.freeC (es.map pr) left n with
      | false =>
       rw [h4] at hv
       rw [bad (hb.2 ⟨h0, .inr (.inr (.inr (.inr h4)))⟩)]
       refine ev_use hv (f := fun _ => some 110) (fun k hk => ?_) (Ev.now _)
       rw [trefoilref11_Check.l2, if_pos (by omega), if_pos (by omega), hr, if_neg (by omega), if_neg (by omega), if_pos (by omega), if_pos (by omega), if_pos (by omega), show rd left n = left.getD n.toNat 0 from rfl, if_neg h3, hk, Option.bind_some, if_neg (by simp)]
      | true =>
       rw [h4] at hv
       cases h5 : (on.take x).contains n with
       | true =>
        rw [h5] at hh
        rw [bad (hb.2 ⟨h0, .inr (.inr (.inr (.inl h5)))⟩)]
        refine ev_use2 hv hh (f := fun _ => some 110) (fun k hk hk2 => ?_) (Ev.now _)
        rw [trefoilref11_Check.l2, if_pos (by omega), if_pos (by omega), hr, if_neg (by omega), if_neg (by omega), if_pos (by omega), if_pos (by omega), if_pos (by omega), show rd left n = left.getD n.toNat 0 from rfl, if_neg h3, hk, Option.bind_some, if_pos rfl, if_pos (by omega), Int.toNat_natCast, hk2, Option.bind_some, if_pos rfl]
       | false =>
        rw [h5] at hh
        rw [good (Bool.eq_false_iff.2 fun h => by
         rcases (hb.1 h).2 with q | q | q | q | q
         ·exact h1 q
         ·exact h2 q
         ·exact h3 q
         ·rw [h5] at q; cases q
         ·rw [h4] at q; cases q)]
        refine ev_use2 hv hh (fun k hk hk2 => ?_) hn
        rw [trefoilref11_Check.l2, if_pos (by omega), if_pos (by omega), hr, if_neg (by omega), if_neg (by omega), if_pos (by omega), if_pos (by omega), if_pos (by omega), show rd left n = left.getD n.toNat 0 from rfl, if_neg h3, hk, Option.bind_some, if_pos rfl, if_pos (by omega), Int.toNat_natCast, hk2, Option.bind_some, if_neg (by simp), wrap_up (by omega)]
theorem cl1_ev (l : List Int) (es : List S85) (on left : List Int) (hl : l.length ≤ 1000) (he : es.length ≤ 1000) (hlen : left.length = l.length) (hin : ∀ x ∈ es, (0 : Int) ≤ x.f0 ∧ x.f0 < (l.length : Int)) (hlo : ∀ i : Nat, 0 ≤ left.getD i 0) {R : Int} (h2 : Ev (fun k => trefoilref11_Check.l2 k 0 l es on left) R) :
  ∀ (m x : Nat), x + m = left.length → Ev (fun k => trefoilref11_Check.l1 k (x : Int) l es on left) (if (List.range' x m).any (LstPlain.badLeft (es.map pr) left) = true then 110 else R) := by
 intro m
 induction m with
 | zero =>
  intro x hx
  rw [show (List.range' x 0).any (LstPlain.badLeft (es.map pr) left) = false from rfl, if_neg (by simp)]
  exact Ev.step (fun k => by rw [trefoilref11_Check.l1, if_neg (by omega)]) h2
 | succ m ih =>
  intro x hx
  have hn := ih (x + 1) (by omega)
  have hv := over_ev l es on left (x : Int) hl he hlen
  rw [over_free l es left (x : Int) hin hlo] at hv
  rw [List.range'_succ, List.any_cons]
  have hB : LstPlain.badLeft (es.map pr) left x = (decide (left.getD x 0 = 0) && !LstPlain.freeC (es.map pr) left (x : Int)) := by unfold LstPlain.badLeft LstPlain.overC; rw [Int.toNat_natCast]
  rw [hB]
  by_cases h0 : left.getD x 0 = 0
  ·rw [decide_eq_true h0, Bool.true_and]
   cases h1 : LstPlain.freeC (es.map pr) left (x : Int) with
   | true =>
    rw [h1] at hv
    rw [Bool.not_true, Bool.false_or]
    refine ev_use hv (fun k hk => ?_) hn
    rw [trefoilref11_Check.l1, if_pos (by omega), if_pos (by omega), rdn, if_pos h0, hk, Option.bind_some, if_pos rfl, wrap_up (by omega)]
   | false =>
    rw [h1] at hv
    rw [Bool.not_false, Bool.true_or, if_pos rfl]
    refine ev_use hv (f := fun _ => some 110) (fun k hk => ?_) (Ev.now _)
    rw [trefoilref11_Check.l1, if_pos (by omega), if_pos (by omega), rdn, if_pos h0, hk, Option.bind_some, if_neg (by simp)]
  ·rw [decide_eq_false h0, Bool.false_and, Bool.false_or]
   refine Ev.step (fun k => ?_) hn
   rw [trefoilref11_Check.l1, if_pos (by omega), if_pos (by omega), rdn, if_neg h0, wrap_up (by omega)]
theorem cl0_ev (l : List Int) (es : List S85) (on left : List Int) (hlm : left.length ≤ 1000) {R : Int} (h1 : left.any oddW = false → Ev (fun k => trefoilref11_Check.l1 k 0 l es on left) R) :
  ∀ (m x : Nat), x + m = left.length → (left.take x).any oddW = false → Ev (fun k => trefoilref11_Check.l0 k (x : Int) l es on left) (if left.any oddW = true then 110 else R) := by
 intro m
 induction m with
 | zero =>
  intro x hx hp
  rw [List.take_of_length_le (by omega)] at hp
  rw [hp, if_neg (by simp)]
  exact Ev.step (fun k => by rw [trefoilref11_Check.l0, if_neg (by omega)]) (h1 hp)
 | succ m ih =>
  intro x hx hp
  have hg : left.getD x 0 = left[x] := by rw [List.getD_eq_getElem?_getD, List.getElem?_eq_getElem (by omega)]; rfl
  by_cases ha : left.getD x 0 < 0
  ·rw [if_pos (List.any_eq_true.2 ⟨left[x], List.getElem_mem _, by unfold oddW; rw [Bool.or_eq_true, decide_eq_true_eq, decide_eq_true_eq]; omega⟩)]
   exact Ev.step (f := fun _ => some 110) (fun k => by rw [trefoilref11_Check.l0, if_pos (by omega), if_pos (by omega), rdn, if_pos ha]) (Ev.now _)
  ·by_cases hb : left.getD x 0 > 1000
   ·rw [if_pos (List.any_eq_true.2 ⟨left[x], List.getElem_mem _, by unfold oddW; rw [Bool.or_eq_true, decide_eq_true_eq, decide_eq_true_eq]; omega⟩)]
    exact Ev.step (f := fun _ => some 110) (fun k => by rw [trefoilref11_Check.l0, if_pos (by omega), if_pos (by omega), rdn, if_neg ha, if_pos hb]) (Ev.now _)
   ·refine Ev.step (fun k => ?_) (ih (x + 1) (by omega) (by
     rw [List.take_succ_eq_append_getElem (by omega), List.any_append, hp, List.any_cons, List.any_nil, Bool.false_or, Bool.or_false]
     unfold oddW
     rw [Bool.or_eq_false_iff, decide_eq_false_iff_not, decide_eq_false_iff_not]; omega))
    rw [trefoilref11_Check.l0, if_pos (by omega), if_pos (by omega), rdn, if_neg ha, if_neg hb, wrap_up (by omega)]
theorem refcrew_ev (l : List Int) (es : List S85) (on left : List Int) (hl : l.length ≤ 70) (he : es.length ≤ 300) (ho : on.length ≤ 1000) (hlm : left.length ≤ 1000) :
  Ev (fun k => trefoilref11_Check.f k l es on left) (LstPlain.crewR l (es.map pr) on left) := by
 unfold trefoilref11_Check.f
 refine Ev.bind (refcheck_ev l es hl he) ?_
 unfold LstPlain.crewR
 by_cases hz : checkL l (es.map pr) = 0
 ·simp only [if_pos hz]
  have hin : ∀ x ∈ es, (0 : Int) ≤ x.f0 ∧ x.f0 < (l.length : Int) := fun x hx => by
   obtain ⟨y1, y2, y3, y4, y5⟩ := ordL_yes hz
   exact (oddEs_in y3 (pr x) (List.mem_map_of_mem hx)).1
  have stop : Ev (fun k => trefoilref11_Check.j0 k true l es on left) 110 := Ev.step (f := fun _ => some 110) (fun k => by rw [trefoilref11_Check.j0, if_pos rfl]) (Ev.now _)
  by_cases s1 : on.length < 1
  ·rw [if_neg (c := LstPlain.rightC l (es.map pr) on left = true) (fun h => by have := (LstPlain.vc_of h).2.1; omega)]
   exact Ev.congr (fun k => if_pos (by omega)) stop
  ·refine Ev.congr (fun k => if_neg (by omega)) ?_
   by_cases s2 : on.length > 8
   ·rw [if_neg (c := LstPlain.rightC l (es.map pr) on left = true) (fun h => by have := (LstPlain.vc_of h).2.1; omega)]
    exact Ev.congr (fun k => if_pos (by omega)) stop
   ·refine Ev.congr (fun k => if_neg (by omega)) ?_
    by_cases s3 : left.length = l.length
    ·rw [show ((left.length : Int) != (l.length : Int)) = false by rw [s3]; simp]
     refine Ev.step (f := fun k => trefoilref11_Check.l0 k 0 l es on left) (fun k => by rw [trefoilref11_Check.j0, if_neg (by simp)]) ?_
     have hR : (if LstPlain.rightC l (es.map pr) on left = true then (0 : Int) else 110) = if left.any oddW = true then 110 else if (List.range' 0 left.length).any (LstPlain.badLeft (es.map pr) left) = true then 110 else if (List.range' 0 on.length).any (LstPlain.badOn (es.map pr) on left) = true then 110 else 0 := by
      unfold LstPlain.rightC LstPlain.sizesC
      rw [← List.range_eq_range', ← List.range_eq_range', decide_eq_true (show 1 ≤ on.length by omega), decide_eq_true (show on.length ≤ 8 by omega), decide_eq_true s3]
      cases left.any oddW <;> cases (List.range on.length).any (LstPlain.badOn (es.map pr) on left) <;> cases (List.range left.length).any (LstPlain.badLeft (es.map pr) left) <;> rfl
     rw [hR]
     refine cl0_ev l es on left hlm (fun hodd => ?_) left.length 0 (by omega) (by simp)
     have hlo : ∀ i : Nat, 0 ≤ left.getD i 0 := fun i => by
      by_cases hi : i < left.length
      ·have h1 := List.any_eq_false.1 hodd _ (getD_mem left i hi)
       unfold oddW at h1
       rw [Bool.or_eq_true, decide_eq_true_eq, decide_eq_true_eq] at h1
       omega
      ·rw [List.getD_eq_getElem?_getD, List.getElem?_eq_none (by omega)]; simp
     exact cl1_ev l es on left (by omega) (by omega) s3 hin hlo (cl2_ev l es on left (by omega) (by omega) ho s3 hin hlo on.length 0 (by omega)) left.length 0 (by omega)
    ·rw [if_neg (c := LstPlain.rightC l (es.map pr) on left = true) (fun h => s3 (LstPlain.vc_of h).2.2)]
     rw [show ((left.length : Int) != (l.length : Int)) = true by rw [bne_iff_ne]; omega]
     exact stop
 ·simp only [if_neg hz]
  exact Ev.now _
theorem fill_f (l : List Int) (es : List S85) (on left : List Int) (hl : l.length ≤ 1000) (he : es.length ≤ 1000) (ho : on.length ≤ 1000) (hlf : left.length ≤ 1000) : list_Fill.f l es on left = some (LstPlain.fillR l (es.map pr) on left) := by
 unfold list_Fill.f
 rw [if_pos ⟨⟨hl, he⟩, ho, hlf⟩]; rfl
theorem tickq_f (l : List Int) (es : List S85) (on left : List Int) (hl : l.length ≤ 1000) (he : es.length ≤ 1000) (ho : on.length ≤ 1000) (hlf : left.length ≤ 1000) : list_Tick.f l es on left = some (LstPlain.tickQ l (es.map pr) on left) := by
 unfold list_Tick.f
 rw [if_pos ⟨⟨hl, he⟩, ho, hlf⟩]; rfl
theorem readyq_f (l : List Int) (es : List S85) (on left : List Int) (hl : l.length ≤ 1000) (he : es.length ≤ 1000) (ho : on.length ≤ 1000) (hlf : left.length ≤ 1000) : list_Ready.f l es on left = some (if LstPlain.crewR l (es.map pr) on left = 0 then LstPlain.readyL (es.map pr) on left else []) := by
 unfold list_Ready.f
 rw [check_f l es on left hl he ho hlf, Option.bind_some]
 by_cases hz : LstPlain.crewR l (es.map pr) on left = 0
 ·rw [if_pos hz, if_pos hz]
  have hc := crew_vc hz
  unfold list_ready.f
  rw [if_pos ⟨⟨⟨hl, he⟩, ho, hlf⟩, fun x hx => by
   obtain ⟨y1, y2, y3, y4, y5⟩ := ordL_yes hc.2.2.2
   have := (oddEs_in y3 (pr x) (List.mem_map_of_mem hx)).1
   rw [hc.2.2.1]; exact this⟩]; rfl
 ·rw [if_neg hz, if_neg hz]
theorem ints_refl (a : List Int) (ha : a.length ≤ 1000) : Ev (fun k => trefoilref02_Ints.f k a a) true := by
 have := ints_ev a a ha
 rw [decide_eq_true rfl] at this
 exact this
theorem same_refl (a b : List Int) (ha : a.length ≤ 1000) (hb : b.length ≤ 1000) : Ev (fun k => trefoilref11_Same.f k a b a b) true := by
 have := same_ev a b a b ha hb
 rw [decide_eq_true rfl, decide_eq_true rfl] at this
 exact this
theorem j1_ok (l : List Int) (es : List S85) (on left : List Int) (hl : l.length ≤ 70) (he : es.length ≤ 300) (ho : on.length ≤ 1000) (hlf : left.length ≤ 1000) (hz : LstPlain.crewR l (es.map pr) on left = 0) :
  Ev (fun k => trefoillaw11_ListSteps.j1 k (sortL (LstPlain.tickL on left).2.2) (LstPlain.readyL (es.map pr) on left) 0 false l es on left (LstPlain.fillL (LstPlain.readyL (es.map pr) on left) on) left (LstPlain.tickL on left).1 (LstPlain.tickL on left).2.1) true := by
 obtain ⟨hv, h8, hlen, hck⟩ := crew_vc hz
 have hin : ∀ x ∈ es, (0 : Int) ≤ x.f0 ∧ x.f0 < (l.length : Int) := fun x hx => by
  obtain ⟨y1, y2, y3, y4, y5⟩ := ordL_yes hck
  exact (oddEs_in y3 (pr x) (List.mem_map_of_mem hx)).1
 have hlo : ∀ i : Nat, 0 ≤ left.getD i 0 := fun i => by
  by_cases hi : i < left.length
  ·exact (hv.lo _ (getD_mem left i hi)).1
  ·rw [List.getD_eq_getElem?_getD, List.getElem?_eq_none (by omega)]; simp
 have t1 := LstPlain.tick_len hv
 have hf := fill_ev l es on left (by omega) (by omega) ho hlen hin hlo
 have ht := tick_ev on left hv ho hlf
 have hr := ready_ev l es on left (by omega) (by omega) ho hlen hin hlo
 have s1 := same_refl (LstPlain.fillL (LstPlain.readyL (es.map pr) on left) on) left (by rw [LstPlain.fill_len]; exact ho) hlf
 have s2 := same_refl (LstPlain.tickL on left).1 (LstPlain.tickL on left).2.1 (by omega) (by omega)
 have l3 : (LstPlain.tickL on left).2.2.length ≤ on.length := (tickK_len on left on.length).2.2
 have i1 := ints_refl (sortL (LstPlain.tickL on left).2.2) (by rw [sortL_len]; omega)
 have i2 := ints_refl (LstPlain.readyL (es.map pr) on left) (by
  unfold LstPlain.readyL; rw [List.length_map]; exact Nat.le_trans (List.length_filter_le _ _) (by rw [List.length_range]; exact hlf))
 refine Ev.step (f := fun k => (trefoilref11_Tick.f k on left).bind fun bt515 => ((trefoilref11_Fill.f k l es on left).bind fun bt525 => ((trefoilref11_Same.f k (LstPlain.fillL (LstPlain.readyL (es.map pr) on left) on) left bt525.1 bt525.2).bind fun t531 => (if t531 = true then ((trefoilref11_Same.f k (LstPlain.tickL on left).1 (LstPlain.tickL on left).2.1 bt515.1 bt515.2.1).bind fun t532 => (if t532 = true then ((trefoilref02_Ints.f k (sortL (LstPlain.tickL on left).2.2) bt515.2.2).bind fun t533 => (if t533 = true then ((trefoilref11_Ready.f k l es on left).bind fun t534 => ((trefoilref02_Ints.f k (LstPlain.readyL (es.map pr) on left) t534).bind fun t537 => (some t537))) else (some false))) else (some false))) else (some false))))) (fun k => by rw [trefoillaw11_ListSteps.j1, if_neg (by simp), if_pos rfl]) ?_
 refine Ev.bind ht ?_
 refine Ev.bind hf ?_
 refine Ev.bind s1 ?_
 simp only [if_true]
 refine Ev.bind s2 ?_
 simp only [if_true]
 refine Ev.bind i1 ?_
 simp only [if_true]
 refine Ev.bind hr ?_
 exact Ev.bind i2 (Ev.now _)
theorem j1_no (l : List Int) (es : List S85) (on left : List Int) {c : Int} (hz : c ≠ 0) : Ev (fun k => trefoillaw11_ListSteps.j1 k [] [] c false l es on left [] [] [] []) true := by
 have s1 := same_refl [] [] (by simp) (by simp)
 refine Ev.step (f := fun k => (trefoilref11_Same.f k [] [] ([] : List Int) ([] : List Int)).bind fun t513 => (if t513 = true then ((trefoilref11_Same.f k [] [] ([] : List Int) ([] : List Int)).bind fun t514 => (if t514 = true then (if ((([] : List Int).length : Nat) : Int) = 0 then (some (((([] : List Int).length : Nat) : Int) == 0)) else (some false)) else (some false))) else (some false))) (fun k => by rw [trefoillaw11_ListSteps.j1, if_neg (by simp), if_neg hz]) ?_
 refine Ev.bind s1 ?_
 simp only [if_true]
 refine Ev.bind s1 ?_
 simp only [if_true]
 exact Ev.now _
theorem j0_yes (l : List Int) (es : List S85) (on left on' left' : List Int) : Ev (fun k => trefoillaw11_ListSteps.j0 k true l es on left on' left') true :=
 Ev.step (f := fun _ => some true) (fun k => by rw [trefoillaw11_ListSteps.j0, if_pos rfl]; rfl) (Ev.now _)
theorem j0_run (l : List Int) (es : List S85) (on left on' left' : List Int) (hl : l.length ≤ 70) (he : es.length ≤ 300) (ho : on.length ≤ 1000) (hlf : left.length ≤ 1000) (ho' : on'.length ≤ 1000) (hlf' : left'.length ≤ 1000) {F1 F2 T1 T2 T3 R : List Int} {c : Int}
  (hf : list_Fill.f l es on left = some (F1, F2, c)) (ht : list_Tick.f l es on left = some (T1, T2, T3, c)) (hr : list_Ready.f l es on left = some R) (hc : list_Check.f l es on left = some c) (hk : Ev (fun k => trefoilref11_Check.f k l es on left) c)
  (h1 : Ev (fun k => trefoillaw11_ListSteps.j1 k T3 R c false l es on left F1 F2 T1 T2) true) : Ev (fun k => trefoillaw11_ListSteps.j0 k false l es on left on' left') true := by
 have h2 := lsame_ev on left on' left' ho hlf
 have h3 := same_ev on left on' left' ho hlf
 obtain ⟨K1, h1⟩ := h1
 obtain ⟨K2, h2⟩ := h2
 obtain ⟨K3, h3⟩ := h3
 obtain ⟨K4, h4⟩ := hk
 refine ⟨max (max K1 K2) (max K3 K4) + 1, fun k hk => ?_⟩
 obtain ⟨m, rfl⟩ : ∃ m, k = m + 1 := ⟨k - 1, by omega⟩
 have g1 : trefoillaw11_ListSteps.j1 m T3 R c false l es on left F1 F2 T1 T2 = some true := h1 m (by omega)
 have g2 : list_Same.f m on left on' left' = _ := h2 m (by omega)
 have g3 : trefoilref11_Same.f m on left on' left' = _ := h3 m (by omega)
 have g4 : trefoilref11_Check.f m l es on left = _ := h4 m (by omega)
 show trefoillaw11_ListSteps.j0 (m + 1) false l es on left on' left' = some true
 rw [trefoillaw11_ListSteps.j0, if_neg (by simp)]
 simp only [own_f l es (by omega) (by omega), ownc_f on left ho hlf, ownc_f on' left' ho' hlf', hf, ht, hr, hc, g2, g3, g4, Option.bind_some, bne_self_eq_false]
 simp only [if_true]
 exact g1
theorem run (l : List Int) (es : List S85) (on left on' left' : List Int) : ∃ k, trefoillaw11_ListSteps.f k l es on left on' left' = some true := by
 have h : Ev (fun k => trefoillaw11_ListSteps.f k l es on left on' left') true := by
  unfold trefoillaw11_ListSteps.f
  simp only [show trefoillaw11_awake.f = some true from rfl, Option.bind_some, if_true, few11_f]
  cases hf : fewB l es on left with
  | false => simp only [Bool.false_eq_true, if_false]; exact j0_yes l es on left on' left'
  | true =>
   simp only [if_true]
   cases hf' : fewB l es on' left' with
   | false => exact j0_yes l es on left on' left'
   | true =>
    unfold fewB at hf hf'
    rw [decide_eq_true_eq] at hf hf'
    have hk := refcrew_ev l es on left hf.1 hf.2.1 (by omega) (by omega)
    have a1 := fill_f l es on left (by omega) (by omega) (by omega) (by omega)
    have a2 := tickq_f l es on left (by omega) (by omega) (by omega) (by omega)
    have a3 := readyq_f l es on left (by omega) (by omega) (by omega) (by omega)
    have a4 := check_f l es on left (by omega) (by omega) (by omega) (by omega)
    unfold LstPlain.fillR at a1
    unfold LstPlain.tickQ tickR at a2
    by_cases hz : LstPlain.crewR l (es.map pr) on left = 0
    ·simp only [if_pos hz] at a1 a2 a3
     have := j1_ok l es on left hf.1 hf.2.1 (by omega) (by omega) hz
     rw [hz] at a1 a2 a4 hk
     exact j0_run l es on left on' left' hf.1 hf.2.1 (by omega) (by omega) (by omega) (by omega) a1 a2 a3 a4 hk this
    ·simp only [if_neg hz] at a1 a2 a3
     exact j0_run l es on left on' left' hf.1 hf.2.1 (by omega) (by omega) (by omega) (by omega) a1 a2 a3 a4 hk (j1_no l es on left hz)
 obtain ⟨K, hK⟩ := h
 exact ⟨K, hK K (Nat.le_refl _)⟩
theorem edges_C {w : World} {B : Option Addr} {es : List (Int × Int)} (h : EdC w B es) (hm : es.length ≤ maxLen) : Kd.C k85 w B es.length (es.map fun e => ⟨e.1, e.2⟩) := by
 refine ⟨by simp, by unfold maxLen at hm; omega, fun h0 => ?_⟩
 obtain ⟨ad, rfl, hc⟩ := h h0
 refine ⟨ad, rfl, fun j p hp => ?_⟩
 have hj : j < es.length := by
  rcases Nat.lt_or_ge j es.length with h | h
  ·exact h
  ·rw [List.getElem?_eq_none (by simpa using h)] at hp; cases hp
 rw [List.getElem?_map, List.getElem?_eq_getElem hj] at hp
 simp only [Option.map_some, Option.some.injEq] at hp
 subst hp
 have hd : es.getD j (0, 0) = es[j] := by rw [List.getD_eq_getElem?_getD, List.getElem?_eq_getElem hj]; rfl
 obtain ⟨h1, h2⟩ := hc j hj
 rw [hd] at h1 h2
 refine ⟨[.int .i64 es[j].1, .int .i64 es[j].2], rfl, k85_mk w ⟨es[j].1, es[j].2⟩, fun i u hi => ?_⟩
 match i, hi with
 | 0, hi => simp at hi; subst hi; exact h1
 | 1, hi => simp at hi; subst hi; exact h2
theorem walk (A : Option Addr) (c : Nat) (l : List Int) (B : Option Addr) (d : Nat) (es : List (Int × Int)) (O : Option Addr) (oc : Nat) (on : List Int) (L : Option Addr) (lc : Nat) (left : List Int) (O' : Option Addr) (oc' : Nat) (on' : List Int) (L' : Option Addr) (lc' : Nat) (left' : List Int) (w : World) (h0 : DagIn w A c l B d es) (h1 : CrewIn w O oc on L lc left) (h2 : CrewIn w O' oc' on' L' lc' left') :
  Calls Try.prog 3 #[.agg #[.slice A l.length c, .slice B es.length d], .agg #[.slice O on.length oc, .slice L left.length lc], .agg #[.slice O' on'.length oc', .slice L' left'.length lc']] w fun e w' => e = .returned (.bool true) ∧ Below w.heap.size w w' := by
 obtain ⟨k, hk⟩ := run l (es.map fun e => ⟨e.1, e.2⟩) on left on' left'
 have := trefoillaw11_ListSteps.calls k A c l B d (es.map fun e => ⟨e.1, e.2⟩) O oc on L lc left O' oc' on' L' lc' left' true w (Kd.C_of_reads (d := (0 : Int)) (h1 := fun _ => rfl) h0.2.1) h0.1 (by rw [List.length_map]; exact edges_C h0.2.2.2.2.2.1 h0.2.2.2.2.1) (by rw [List.length_map]; exact h0.2.2.2.1) (Kd.C_of_reads (d := (0 : Int)) (h1 := fun _ => rfl) h1.1.2.1) h1.1.1 (Kd.C_of_reads (d := (0 : Int)) (h1 := fun _ => rfl) h1.2.2.1) h1.2.1 (Kd.C_of_reads (d := (0 : Int)) (h1 := fun _ => rfl) h2.1.2.1) h2.1.1 (Kd.C_of_reads (d := (0 : Int)) (h1 := fun _ => rfl) h2.2.2.1) h2.2.1 hk rfl
 rw [List.length_map] at this
 exact this
end Go.Proofs.Ytmbhjhanafmidaa.PListSteps
