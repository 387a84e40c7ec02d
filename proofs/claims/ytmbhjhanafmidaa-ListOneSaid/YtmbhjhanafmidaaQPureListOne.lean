/- The law ListOne comes to true. Plain Lean over the printed functions. -/
import Derived.Test.YtmbhjhanafmidaaQMLstB
import Derived.Test.YtmbhjhanafmidaaQMSchC
import Derived.Test.YtmbhjhanafmidaaQMSchC
import Derived.Test.YtmbhjhanafmidaaQPListOnex12
set_option linter.unusedVariables false
set_option linter.unusedSimpArgs false
set_option linter.unusedSectionVars false
namespace Go.Proofs.Ytmbhjhanafmidaa.PListOne
open Go.RowKit Go.Proofs.YtmbhjhanafmidaaW.PrintWords Go.Proofs.YtmbhjhanafmidaaW.PrintLast
open Go.Proofs.Ytmbhjhanafmidaa DagPlain SchPlain

theorem wrap_up {x : Nat} (h : x ≤ 1000000) : wrap64 ((x : Int) + 1) = ((x + 1 : Nat) : Int) := by unfold wrap64; omega
def littleR : Int → List Int → Bool
  | _, [] => true
  | left, x :: xs => if x < 0 then true else if x > left then false else littleR (left - x) xs
theorem little_sum : ∀ (xs : List Int) (left : Int), littleR left xs = true → (∀ x ∈ xs, 1 ≤ x ∧ x ≤ 1000) → 0 ≤ left → xs.sum ≤ left
  | [], left, _, _, h0 => by simpa using h0
  | x :: xs, left, h, hp, h0 => by
    have hx := hp x List.mem_cons_self
    rw [littleR, if_neg (by omega)] at h
    by_cases hl : x > left
    · rw [if_pos hl] at h; cases h
    · rw [if_neg hl] at h
      have := little_sum xs (left - x) h (fun y hy => hp y (List.mem_cons_of_mem _ hy)) (by omega)
      simp; omega
theorem little_ev (need : List Int) (hn : need.length ≤ 70) : Ev (fun k => trefoillaw11_little.f k need) (littleR 300 need) := by
  unfold trefoillaw11_little.f
  have key : ∀ (m x : Nat) (left : Int), x + m = need.length → 0 ≤ left ∧ left ≤ 300 → Ev (fun k => trefoillaw11_little.l0 k need left (x : Int)) (littleR left (need.drop x)) := by
    intro m
    induction m with
    | zero =>
      intro x left hx _
      rw [List.drop_of_length_le (by omega)]
      exact Ev.step (f := fun _ => some true) (fun k => by rw [trefoillaw11_little.l0, if_neg (by omega)]) (Ev.now _)
    | succ m ih =>
      intro x left hx hl
      have r1 : rd need (x : Int) = need[x] := by unfold rd; simp [List.getD_eq_getElem?_getD, show x < need.length by omega]
      rw [List.drop_eq_getElem_cons (by omega), littleR]
      generalize hz : need[x] = z at *
      by_cases h1 : z < 0
      · rw [if_pos h1]
        exact Ev.step (f := fun _ => some true) (fun k => by rw [trefoillaw11_little.l0, if_pos (by omega), if_pos (by omega), r1, if_pos h1, decide_eq_true h1]) (Ev.now _)
      · rw [if_neg h1]
        by_cases h2 : z > left
        · rw [if_pos h2]
          exact Ev.step (f := fun _ => some false) (fun k => by rw [trefoillaw11_little.l0, if_pos (by omega), if_pos (by omega), r1, if_neg h1, if_pos h2, decide_eq_false h1]) (Ev.now _)
        · rw [if_neg h2]
          refine Ev.step (fun k => ?_) (ih (x + 1) (left - z) (by omega) (by omega))
          rw [trefoillaw11_little.l0, if_pos (by omega), if_pos (by omega), r1, if_neg h1, if_neg h2, wrap_up (by omega), show wrap64 (left - z) = left - z by unfold wrap64; omega]
  exact key need.length 0 300 (by omega) (by omega)
theorem own_f (l : List Int) (es : List S85) (hl : l.length ≤ 1000) (he : es.length ≤ 1000) : trefoillaw04_Own.f l es = some (l, es) := by
  unfold trefoillaw04_Own.f
  simp only [Option.bind_some, List.length_nil, List.nil_append]
  rw [if_pos (by omega), if_pos (by omega)]
theorem few_f (l : List Int) (es : List S85) : trefoillaw04_Few.f l es = some (decide (l.length ≤ 70 ∧ es.length ≤ 300)) := by
  unfold trefoillaw04_Few.f
  by_cases h : l.length ≤ 70
  · rw [if_pos (by omega)]
    exact congrArg some (decide_eq_decide.2 ⟨fun h2 => ⟨h, by omega⟩, fun h2 => by omega⟩)
  · rw [if_neg (by omega), decide_eq_false (fun h2 => h h2.1)]
def pr (x : S85) : Int × Int := (x.f0, x.f1)
theorem run_f (l : List Int) (es : List S85) (need : List Int) (c : Int) (hl : l.length ≤ 1000) (he : es.length ≤ 1000) (hn : need.length ≤ 1000) : list_Run.f l es need c = some (runR l (es.map pr) need c, runE l (es.map pr) need c) := by
  unfold list_Run.f
  rw [if_pos ⟨⟨hl, he⟩, hn⟩]; rfl
theorem busy_f (ts : List (List Int)) (h : ts.length ≤ 5000) (hr : ∀ r ∈ ts, r.length ≤ 1000) : sched_Busy.f ts = some (SchPlain.busyL ts) := by
  unfold sched_Busy.f
  rw [if_pos ⟨h, hr⟩]
section
variable (l : List Int) (es : List S85) (need : List Int) (hl : l.length ≤ 70) (he : es.length ≤ 300) (hn : need.length ≤ 70) (hlit : littleR 300 need = true)
include hl he hn hlit
theorem busy_run {c : Int} (hc : 1 ≤ c ∧ c ≤ 8) : sched_Busy.f (runR l (es.map pr) need c) = some (if runE l (es.map pr) need 1 = 0 then need.sum else 0) ∧ (runE l (es.map pr) need 1 = 0 → ((runR l (es.map pr) need c).length : Int) ≤ need.sum) ∧ (runE l (es.map pr) need 1 ≠ 0 → runR l (es.map pr) need c = []) := by
  by_cases h : runE l (es.map pr) need 1 = 0
  · have hs := little_sum need 300 hlit (LstPlain.runE_ok h).2 (by omega)
    obtain ⟨b1, b2, b3, b4⟩ := LstPlain.run_all ((LstPlain.runE_one l (es.map pr) need hc).trans h)
    refine ⟨?_, fun _ => b2, fun h2 => absurd h h2⟩
    rw [busy_f _ (by omega) (fun r hr => by have := b4 r hr; omega), if_pos h, b1]
  · have h1 : runR l (es.map pr) need c = [] := LstPlain.run_none (by rw [LstPlain.runE_one l (es.map pr) need hc]; exact h)
    refine ⟨?_, fun h2 => absurd h2 h, fun _ => h1⟩
    rw [h1, busy_f _ (by simp) (by simp), if_neg h]
    rfl
theorem l1_ev (sum : Int) (hs : runE l (es.map pr) need 1 = 0 → sum = need.sum) : ∀ (m c : Nat), c + m = 9 → 2 ≤ c → Ev (fun k => trefoillaw11_ListOne.l1 k need (runR l (es.map pr) need 1) (runE l (es.map pr) need 1) sum (c : Int) l es) true := by
  intro m
  obtain ⟨a1, a2, a3⟩ := busy_run l es need hl he hn hlit (c := 1) (by omega)
  induction m with
  | zero =>
    intro c hc _
    by_cases h : runE l (es.map pr) need 1 = 0
    · have hlen := (LstPlain.run_all h).2.2.1 rfl
      refine Ev.step (f := fun _ => some true) (fun k => ?_) (Ev.now _)
      rw [trefoillaw11_ListOne.l1, if_neg (by omega), if_pos h, if_pos (by rw [hs h]; exact hlen), a1, Option.bind_some, if_pos h, hs h, beq_self_eq_true]
    · exact Ev.step (f := fun _ => some true) (fun k => by rw [trefoillaw11_ListOne.l1, if_neg (by omega), if_neg h]) (Ev.now _)
  | succ m ih =>
    intro c hc h2
    obtain ⟨b1, b2, b3⟩ := busy_run l es need hl he hn hlit (c := (c : Int)) (by omega)
    have hcap : need.length < 17592186044416 := by omega
    have e := LstPlain.runE_one l (es.map pr) need (c := (c : Int)) (by omega)
    refine Ev.step (fun k => ?_) (ih (c + 1) (by omega) (by omega))
    rw [trefoillaw11_ListOne.l1, if_pos (by omega), own_f l es (by omega) (by omega), Option.bind_some, Option.bind_some, if_pos (by rw [List.length_nil]; omega), List.nil_append, run_f l es need _ (by omega) (by omega) (by omega), Option.bind_some, if_pos (by rw [e]), b1, a1, Option.bind_some, Option.bind_some, if_pos rfl, wrap_up (by omega)]
    by_cases h : runE l (es.map pr) need 1 = 0
    · have b2' := b2 h
      rw [if_neg (show ¬ ((runR l (es.map pr) need (c : Int)).length : Int) > sum by rw [hs h]; omega)]
    · rw [if_neg h]
      split <;> rfl
def sumW (need : List Int) (x : Nat) : Int := (need.take x).foldl (fun a b => wrap64 (a + b)) 0
omit hl he hlit in
theorem sumW_ok (hp : ∀ x ∈ need, 1 ≤ x ∧ x ≤ 1000) : ∀ x, x ≤ need.length → sumW need x = (need.take x).sum ∧ 0 ≤ (need.take x).sum ∧ (need.take x).sum ≤ 1000 * x
  | 0, _ => by simp [sumW]
  | x + 1, h => by
    obtain ⟨h1, h2, h3⟩ := sumW_ok hp x (by omega)
    have h4 := hp need[x] (List.getElem_mem (by omega))
    have h5 : sumW need (x + 1) = wrap64 (sumW need x + need[x]) := by unfold sumW; rw [List.take_succ_eq_append_getElem (by omega), List.foldl_append]; rfl
    rw [h5, h1, List.take_succ_eq_append_getElem (by omega), List.sum_append, List.sum_singleton]
    refine ⟨by unfold wrap64; omega, by omega, by omega⟩
theorem l0_ev : ∀ (m x : Nat), x + m = need.length → Ev (fun k => trefoillaw11_ListOne.l0 k need (runR l (es.map pr) need 1) (runE l (es.map pr) need 1) (sumW need x) (x : Int) l es) true := by
  intro m
  induction m with
  | zero =>
    intro x hx
    obtain rfl : x = need.length := by omega
    refine Ev.step (fun k => ?_) (l1_ev l es need hl he hn hlit (sumW need need.length) (fun h => by have := (sumW_ok need hn (LstPlain.runE_ok h).2 need.length (Nat.le_refl _)).1; rw [List.take_length] at this; exact this) 7 2 (by omega) (by omega))
    rw [trefoillaw11_ListOne.l0, if_neg (by omega)]; rfl
  | succ m ih =>
    intro x hx
    have r1 : rd need (x : Int) = need[x] := by unfold rd; simp [List.getD_eq_getElem?_getD, show x < need.length by omega]
    have h5 : sumW need (x + 1) = wrap64 (sumW need x + need[x]) := by unfold sumW; rw [List.take_succ_eq_append_getElem (by omega), List.foldl_append]; rfl
    refine Ev.step (fun k => ?_) (ih (x + 1) (by omega))
    rw [trefoillaw11_ListOne.l0, if_pos (by omega), if_pos (by omega), r1, ← h5, wrap_up (by omega)]
end
theorem j_true (l : List Int) (es : List S85) (need : List Int) : Ev (fun k => trefoillaw11_ListOne.j0 k need true l es) true :=
  Ev.step (f := fun _ => some true) (fun k => by rw [trefoillaw11_ListOne.j0, if_pos rfl]; rfl) (Ev.now _)
theorem run (l : List Int) (es : List S85) (need : List Int) : ∃ k, trefoillaw11_ListOne.f k l es need = some true := by
  have h : Ev (fun k => trefoillaw11_ListOne.f k l es need) true := by
    unfold trefoillaw11_ListOne.f
    simp only [show trefoillaw11_awake.f = some true from rfl, Option.bind_some, if_true, few_f]
    by_cases hf : l.length ≤ 70 ∧ es.length ≤ 300
    · rw [decide_eq_true hf]
      simp only [if_true]
      by_cases hn : need.length ≤ 70
      · simp only [if_neg (show ¬ (need.length : Int) > 70 by omega)]
        refine Ev.bind (little_ev need hn) ?_
        cases hlit : littleR 300 need with
        | false => exact j_true l es need
        | true =>
          have h0 := l0_ev l es need hf.1 hf.2 hn hlit need.length 0 (by omega)
          refine Ev.step (fun k => ?_) h0
          rw [trefoillaw11_ListOne.j0, if_neg (by simp), own_f l es (by omega) (by omega), Option.bind_some, Option.bind_some, if_pos (by rw [List.length_nil]; omega), List.nil_append, run_f l es need _ (by omega) (by omega) (by omega), Option.bind_some]
          rfl
      · simp only [if_pos (show (need.length : Int) > 70 by omega)]
        exact j_true l es need
    · rw [decide_eq_false hf]
      simp only [Bool.false_eq_true, if_false]
      exact j_true l es need
  obtain ⟨K, hK⟩ := h
  exact ⟨K, hK K (Nat.le_refl _)⟩
theorem edges_C {w : World} {B : Option Addr} {es : List (Int × Int)} (h : EdC w B es) (hm : es.length ≤ maxLen) : Kd.C k85 w B es.length (es.map fun e => ⟨e.1, e.2⟩) := by
  refine ⟨by simp, by unfold maxLen at hm; omega, fun h0 => ?_⟩
  obtain ⟨ad, rfl, hc⟩ := h h0
  refine ⟨ad, rfl, fun j p hp => ?_⟩
  have hj : j < es.length := by
    rcases Nat.lt_or_ge j es.length with h | h
    · exact h
    · rw [List.getElem?_eq_none (by simpa using h)] at hp; cases hp
  rw [List.getElem?_map, List.getElem?_eq_getElem hj] at hp
  simp only [Option.map_some, Option.some.injEq] at hp
  subst hp
  have hd : es.getD j (0, 0) = es[j] := by rw [List.getD_eq_getElem?_getD, List.getElem?_eq_getElem hj]; rfl
  obtain ⟨h1, h2⟩ := hc j hj
  rw [hd] at h1 h2
  refine ⟨[.int .i64 es[j].1, .int .i64 es[j].2], rfl, k85_mk w ⟨es[j].1, es[j].2⟩, fun i u hi => ?_⟩
  match i, hi with
  | 0, hi => simp at hi; subst hi; exact h1
  | 1, hi => simp at hi; subst hi; exact h2
theorem walk (A : Option Addr) (c : Nat) (l : List Int) (B : Option Addr) (d : Nat) (es : List (Int × Int)) (D : Option Addr) (dc : Nat) (need : List Int) (w : World) (h0 : DagIn w A c l B d es) (h1 : NeedIn w D dc need) :
    Calls Try.prog 7 #[.agg #[.slice A l.length c, .slice B es.length d], .slice D need.length dc] w fun e w' => e = .returned (.bool true) ∧ Below w.heap.size w w' := by
  obtain ⟨k, hk⟩ := run l (es.map fun e => ⟨e.1, e.2⟩) need
  have := trefoillaw11_ListOne.calls k A c l B d (es.map fun e => ⟨e.1, e.2⟩) D dc need true w (Kd.C_of_reads (d := (0 : Int)) (h1 := fun _ => rfl) h0.2.1) h0.1 (by rw [List.length_map]; exact edges_C h0.2.2.2.2.2.1 h0.2.2.2.2.1) (by rw [List.length_map]; exact h0.2.2.2.1) (Kd.C_of_reads (d := (0 : Int)) (h1 := fun _ => rfl) h1.2.1) h1.1 hk rfl
  rw [List.length_map] at this
  exact this
end Go.Proofs.Ytmbhjhanafmidaa.PListOne
