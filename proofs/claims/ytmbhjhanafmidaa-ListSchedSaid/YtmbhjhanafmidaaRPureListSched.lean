/- The law ListSched comes to true. Plain Lean over the printed functions. -/
import Derived.Test.YtmbhjhanafmidaaRLstSim
import Derived.Test.YtmbhjhanafmidaaRMSchC
import Derived.Test.YtmbhjhanafmidaaRMSchC
import Derived.Test.YtmbhjhanafmidaaRPListSchedx12
set_option linter.unusedVariables false
set_option linter.unusedSimpArgs false
set_option linter.unusedSectionVars false
namespace Go.Proofs.Ytmbhjhanafmidaa.PListSched
open Go.RowKit Go.Proofs.YtmbhjhanafmidaaW.PrintWords Go.Proofs.YtmbhjhanafmidaaW.PrintLast
open Go.Proofs.Ytmbhjhanafmidaa DagPlain SchPlain

theorem wrap_up {x : Nat} (h : x ≤ 1000000) : wrap64 ((x : Int) + 1) = ((x + 1 : Nat) : Int) := by unfold wrap64; omega
def littleR : Int → List Int → Bool
  | _, [] => true
  | left, x :: xs => if x < 0 then true else if x > left then false else littleR (left - x) xs
theorem little_sum : ∀ (xs : List Int) (left : Int), littleR left xs = true → (∀ x ∈ xs, 1 ≤ x ∧ x ≤ 1000) → 0 ≤ left → xs.sum ≤ left
  | [], left, _, _, h0 => by simpa using h0
  | x :: xs, left, h, hp, h0 => by
    have hx := hp x List.mem_cons_self
    rw [littleR, if_neg (by omega)] at h
    by_cases hl : x > left
    · rw [if_pos hl] at h; cases h
    · rw [if_neg hl] at h
      have := little_sum xs (left - x) h (fun y hy => hp y (List.mem_cons_of_mem _ hy)) (by omega)
      simp; omega
theorem little_ev (need : List Int) (hn : need.length ≤ 70) : Ev (fun k => trefoillaw11_little.f k need) (littleR 300 need) := by
  unfold trefoillaw11_little.f
  have key : ∀ (m x : Nat) (left : Int), x + m = need.length → 0 ≤ left ∧ left ≤ 300 → Ev (fun k => trefoillaw11_little.l0 k need left (x : Int)) (littleR left (need.drop x)) := by
    intro m
    induction m with
    | zero =>
      intro x left hx _
      rw [List.drop_of_length_le (by omega)]
      exact Ev.step (f := fun _ => some true) (fun k => by rw [trefoillaw11_little.l0, if_neg (by omega)]) (Ev.now _)
    | succ m ih =>
      intro x left hx hl
      have r1 : rd need (x : Int) = need[x] := by unfold rd; simp [List.getD_eq_getElem?_getD, show x < need.length by omega]
      rw [List.drop_eq_getElem_cons (by omega), littleR]
      generalize hz : need[x] = z at *
      by_cases h1 : z < 0
      · rw [if_pos h1]
        exact Ev.step (f := fun _ => some true) (fun k => by rw [trefoillaw11_little.l0, if_pos (by omega), if_pos (by omega), r1, if_pos h1, decide_eq_true h1]) (Ev.now _)
      · rw [if_neg h1]
        by_cases h2 : z > left
        · rw [if_pos h2]
          exact Ev.step (f := fun _ => some false) (fun k => by rw [trefoillaw11_little.l0, if_pos (by omega), if_pos (by omega), r1, if_neg h1, if_pos h2, decide_eq_false h1]) (Ev.now _)
        · rw [if_neg h2]
          refine Ev.step (fun k => ?_) (ih (x + 1) (left - z) (by omega) (by omega))
          rw [trefoillaw11_little.l0, if_pos (by omega), if_pos (by omega), r1, if_neg h1, if_neg h2, wrap_up (by omega), show wrap64 (left - z) = left - z by unfold wrap64; omega]
  exact key need.length 0 300 (by omega) (by omega)
theorem own_f (l : List Int) (es : List S85) (hl : l.length ≤ 1000) (he : es.length ≤ 1000) : trefoillaw04_Own.f l es = some (l, es) := by
  unfold trefoillaw04_Own.f
  simp only [Option.bind_some, List.length_nil, List.nil_append]
  rw [if_pos (by omega), if_pos (by omega)]
theorem few_f (l : List Int) (es : List S85) : trefoillaw04_Few.f l es = some (decide (l.length ≤ 70 ∧ es.length ≤ 300)) := by
  unfold trefoillaw04_Few.f
  by_cases h : l.length ≤ 70
  · rw [if_pos (by omega)]
    exact congrArg some (decide_eq_decide.2 ⟨fun h2 => ⟨h, by omega⟩, fun h2 => by omega⟩)
  · rw [if_neg (by omega), decide_eq_false (fun h2 => h h2.1)]
def pr (x : S85) : Int × Int := (x.f0, x.f1)
theorem run_f (l : List Int) (es : List S85) (need : List Int) (c : Int) (hl : l.length ≤ 1000) (he : es.length ≤ 1000) (hn : need.length ≤ 1000) : list_Run.f l es need c = some (runR l (es.map pr) need c, runE l (es.map pr) need c) := by
  unfold list_Run.f
  rw [if_pos ⟨⟨hl, he⟩, hn⟩]; rfl
section
variable (l : List Int) (es : List S85) (need : List Int) (c : Int) (hl : l.length ≤ 70) (he : es.length ≤ 300) (hn : need.length ≤ 70) (hlit : littleR 300 need = true) (h : runE l (es.map pr) need c = 0)
include hl he hn hlit h
theorem fin_ev (F : List Int) (hF : F.length = need.length) (M : Nat) (hM : M = (runR l (es.map pr) need c).length) (hall : ∀ n : Nat, n < F.length → 0 ≤ F.getD n 0 ∧ F.getD n 0 ≤ M) : ∀ (m x : Nat) (acc : Int), x + m = F.length → 0 ≤ acc ∧ acc ≤ M → (acc = M ∨ ∃ j, x ≤ j ∧ j < F.length ∧ F.getD j 0 = M) →
    Ev (fun k => trefoillaw11_ListSched.l0 k need c (runR l (es.map pr) need c) F acc (x : Int) l es) true := by
  have hs := little_sum need 300 hlit (LstPlain.runE_ok h).2 (by omega)
  obtain ⟨s1, s2, s3, s4, s5⟩ := LstPlain.run_sched h (by omega)
  have hr := LstPlain.run_all h
  intro m
  induction m with
  | zero =>
    intro x acc hx ha hj
    have hacc : acc = M := by
      rcases hj with hj | ⟨j, j1, j2, _⟩
      · exact hj
      · omega
    have hcap : ([] : List Int).length + need.length < 17592186044416 := by simp; omega
    have hg : ((l.length ≤ 1000 ∧ es.length ≤ 1000) ∧ need.length ≤ 1000) ∧ (runR l (es.map pr) need c).length ≤ 5000 := ⟨⟨⟨by omega, by omega⟩, by omega⟩, by omega⟩
    have hc1 : sched_Check.f l es need c (runR l (es.map pr) need c) = some 0 := by unfold sched_Check.f; rw [if_pos hg]; exact congrArg some s1
    have hg1 : sched_Greedy.f l es need c (runR l (es.map pr) need c) = some true := by unfold sched_Greedy.f; rw [if_pos hg]; exact congrArg some s2
    have hb1 : sched_Bound.f l es need c = some (boundL l (es.map pr) need c) := by unfold sched_Bound.f; rw [if_pos hg.1]; rfl
    refine Ev.step (f := fun _ => some true) (fun k => ?_) (Ev.now _)
    rw [trefoillaw11_ListSched.l0, if_neg (by omega)]
    simp only [own_f l es (by omega) (by omega), Option.bind_some, if_pos hcap, List.nil_append, hc1, hg1, hb1, if_true]
    rw [if_pos (by omega), if_pos (by omega), decide_eq_true s5]
  | succ m ih =>
    intro x acc hx ha hj
    have h1 := hall x (by omega)
    have r1 : rd F (x : Int) = F.getD x 0 := rfl
    refine Ev.step (fun k => ?_) (ih (x + 1) (mx acc (F.getD x 0)) (by omega) (by unfold mx; split <;> omega) ?_)
    · rw [trefoillaw11_ListSched.l0, if_pos (by omega), if_pos (by omega), r1, if_neg (by omega), wrap_up (by omega)]
    · unfold mx
      rcases hj with hj | ⟨j, j1, j2, j3⟩
      · left; rw [if_neg (by omega)]; exact hj
      · by_cases e : j = x
        · subst e; left; split <;> omega
        · exact .inr ⟨j, by omega, j2, j3⟩
end
theorem j_true (l : List Int) (es : List S85) (need : List Int) (c : Int) : Ev (fun k => trefoillaw11_ListSched.j0 k need c true l es) true :=
  Ev.step (f := fun _ => some true) (fun k => by rw [trefoillaw11_ListSched.j0, if_pos rfl]; rfl) (Ev.now _)
theorem run (l : List Int) (es : List S85) (need : List Int) (c : Int) : ∃ k, trefoillaw11_ListSched.f k l es need c = some true := by
  have h : Ev (fun k => trefoillaw11_ListSched.f k l es need c) true := by
    unfold trefoillaw11_ListSched.f
    simp only [show trefoillaw11_awake.f = some true from rfl, Option.bind_some, if_true, few_f]
    by_cases hf : l.length ≤ 70 ∧ es.length ≤ 300
    · rw [decide_eq_true hf]
      simp only [if_true]
      by_cases hn : need.length ≤ 70
      · simp only [if_neg (show ¬ (need.length : Int) > 70 by omega)]
        refine Ev.bind (little_ev need hn) ?_
        cases hlit : littleR 300 need with
        | false => exact j_true l es need c
        | true =>
          have hcap : ([] : List Int).length + need.length < 17592186044416 := by simp; omega
          by_cases h0 : runE l (es.map pr) need c = 0
          · have hs := little_sum need 300 hlit (LstPlain.runE_ok h0).2 (by omega)
            obtain ⟨s1, s2, s3, s4, s5⟩ := LstPlain.run_sched h0 (by omega)
            have hr := LstPlain.run_all h0
            have hE : sched_Ends.f l es need c (runR l (es.map pr) need c) = some (stAt need (runR l (es.map pr) need c) (runR l (es.map pr) need c).length).fin := by
              unfold sched_Ends.f
              rw [if_pos ⟨⟨⟨by omega, by omega⟩, by omega⟩, by omega⟩]
              exact congrArg some (if_pos s1)
            have hF := (stAt_len need (runR l (es.map pr) need c) (runR l (es.map pr) need c).length).2.2
            have hev := fin_ev l es need c hf.1 hf.2 hn hlit h0 _ hF (runR l (es.map pr) need c).length rfl (fun n hn2 => s3 n (by omega)) need.length 0 0 (by omega) (by omega) (by
              rcases s4 with e | ⟨n, n1, n2⟩
              · left; rw [e]; rfl
              · exact .inr ⟨n, by omega, by omega, n2.symm⟩)
            refine Ev.step (fun k => ?_) hev
            rw [trefoillaw11_ListSched.j0, if_neg (by simp), own_f l es (by omega) (by omega), Option.bind_some, Option.bind_some, if_pos hcap, List.nil_append, run_f l es need _ (by omega) (by omega) (by omega), Option.bind_some, if_pos h0, Option.bind_some, Option.bind_some, if_pos hcap]
            show (sched_Ends.f l es need c (runR l (es.map pr) need c)).bind _ = _
            rw [hE, Option.bind_some]
            rfl
          · have hr : runR l (es.map pr) need c = [] := LstPlain.run_none h0
            refine Ev.step (f := fun _ => some true) (fun k => ?_) (Ev.now _)
            rw [trefoillaw11_ListSched.j0, if_neg (by simp), own_f l es (by omega) (by omega), Option.bind_some, Option.bind_some, if_pos hcap, List.nil_append, run_f l es need _ (by omega) (by omega) (by omega), Option.bind_some, if_neg h0, hr]
            rfl
      · simp only [if_pos (show (need.length : Int) > 70 by omega)]
        exact j_true l es need c
    · rw [decide_eq_false hf]
      simp only [Bool.false_eq_true, if_false]
      exact j_true l es need c
  obtain ⟨K, hK⟩ := h
  exact ⟨K, hK K (Nat.le_refl _)⟩
theorem edges_C {w : World} {B : Option Addr} {es : List (Int × Int)} (h : EdC w B es) (hm : es.length ≤ maxLen) : Kd.C k85 w B es.length (es.map fun e => ⟨e.1, e.2⟩) := by
  refine ⟨by simp, by unfold maxLen at hm; omega, fun h0 => ?_⟩
  obtain ⟨ad, rfl, hc⟩ := h h0
  refine ⟨ad, rfl, fun j p hp => ?_⟩
  have hj : j < es.length := by
    rcases Nat.lt_or_ge j es.length with h | h
    · exact h
    · rw [List.getElem?_eq_none (by simpa using h)] at hp; cases hp
  rw [List.getElem?_map, List.getElem?_eq_getElem hj] at hp
  simp only [Option.map_some, Option.some.injEq] at hp
  subst hp
  have hd : es.getD j (0, 0) = es[j] := by rw [List.getD_eq_getElem?_getD, List.getElem?_eq_getElem hj]; rfl
  obtain ⟨h1, h2⟩ := hc j hj
  rw [hd] at h1 h2
  refine ⟨[.int .i64 es[j].1, .int .i64 es[j].2], rfl, k85_mk w ⟨es[j].1, es[j].2⟩, fun i u hi => ?_⟩
  match i, hi with
  | 0, hi => simp at hi; subst hi; exact h1
  | 1, hi => simp at hi; subst hi; exact h2
theorem walk (A : Option Addr) (c : Nat) (l : List Int) (B : Option Addr) (d : Nat) (es : List (Int × Int)) (D : Option Addr) (dc : Nat) (need : List Int) (cores : Int) (w : World) (h0 : DagIn w A c l B d es) (h1 : NeedIn w D dc need) (hcw : (Lit.int .i64 cores).wf = true) :
    Calls Try.prog 8 #[.agg #[.slice A l.length c, .slice B es.length d], .slice D need.length dc, .int .i64 cores] w fun e w' => e = .returned (.bool true) ∧ Below w.heap.size w w' := by
  obtain ⟨k, hk⟩ := run l (es.map fun e => ⟨e.1, e.2⟩) need cores
  have := trefoillaw11_ListSched.calls k A c l B d (es.map fun e => ⟨e.1, e.2⟩) D dc need cores true w (Kd.C_of_reads (d := (0 : Int)) (h1 := fun _ => rfl) h0.2.1) h0.1 (by rw [List.length_map]; exact edges_C h0.2.2.2.2.2.1 h0.2.2.2.2.1) (by rw [List.length_map]; exact h0.2.2.2.1) (Kd.C_of_reads (d := (0 : Int)) (h1 := fun _ => rfl) h1.2.1) h1.1 hk rfl
  rw [List.length_map] at this
  exact this
end Go.Proofs.Ytmbhjhanafmidaa.PListSched
