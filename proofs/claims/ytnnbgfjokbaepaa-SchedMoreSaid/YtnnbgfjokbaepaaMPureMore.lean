/- The law SchedMore comes to true. Plain Lean over the printed function. -/
import Derived.Test.YtnnbgfjokbaepaaMStepMore
import Derived.Test.YtnnbgfjokbaepaaNSchD
import Derived.Test.YtnnbgfjokbaepaaPSchedMorex10
set_option linter.unusedVariables false
set_option linter.unusedSimpArgs false
namespace Go.Proofs.Ytnnbgfjokbaepaa.PSchedMore
open Go.RowKit Go.Proofs.YtnnbgfjokbaepaaW.PrintWords
open Go.Proofs.Ytnnbgfjokbaepaa DagPlain SchPlain

def pr (x : S45) : Int × Int := (x.f0, x.f1)
theorem own_f (l : List Int) (es : List S45) (hl : l.length ≤ 1000) (he : es.length ≤ 1000) : trefoillaw04_Own.f l es = some (l, es) := by
  unfold trefoillaw04_Own.f
  simp only [Option.bind_some, List.length_nil, List.nil_append]
  rw [if_pos (by omega), if_pos (by omega)]
theorem ints_f (l : List Int) (hl : l.length ≤ 1000) : trefoillaw10_ints.f l = some l := by
  unfold trefoillaw10_ints.f
  simp only [Option.bind_some, List.length_nil, List.nil_append]
  rw [if_pos (by omega)]
theorem few_f (l : List Int) (es : List S45) : trefoillaw04_Few.f l es = some (decide (l.length ≤ 70 ∧ es.length ≤ 300)) := by
  unfold trefoillaw04_Few.f
  split
  · rw [Option.some.injEq]
    exact decide_eq_decide.2 (by omega)
  · rw [Option.some.injEq]
    exact (decide_eq_false (by omega)).symm
theorem awake_f : trefoillaw10_awake.f = some true := rfl
theorem total_f (l : List Int) (es : List S45) (hl : l.length ≤ 1000) (he : es.length ≤ 1000) : dag_Total.f l es = some (totL l (es.map pr)) := by unfold dag_Total.f; rw [if_pos ⟨hl, he⟩]; rfl
theorem long_f (l : List Int) (es : List S45) (hl : l.length ≤ 1000) (he : es.length ≤ 1000) : dag_Long.f l es = some (longL l (es.map pr)) := by unfold dag_Long.f; rw [if_pos ⟨hl, he⟩]; rfl
theorem bound_f (l : List Int) (es : List S45) (need : List Int) (c : Int) (hl : l.length ≤ 1000) (he : es.length ≤ 1000) (hn : need.length ≤ 1000) : sched_Bound.f l es need c = some (boundL l (es.map pr) need c) := by unfold sched_Bound.f; rw [if_pos ⟨⟨hl, he⟩, hn⟩]; rfl
theorem check_f (l : List Int) (es : List S45) (need : List Int) (hl : l.length ≤ 1000) (he : es.length ≤ 1000) (hn : need.length ≤ 1000) : sched_Check.f l es need 1 [] = some (lookR l (es.map pr) need 1 []) := by unfold sched_Check.f; rw [if_pos ⟨⟨⟨hl, he⟩, hn⟩, rfl⟩]; rfl
theorem l0_run (l : List Int) (es : List S45) (need : List Int) (hl : l.length ≤ 1000) (he : es.length ≤ 1000) (hn : need.length ≤ 1000)
    (hs : ∀ k : Int, 2 ≤ k → k ≤ 8 → boundL l (es.map pr) need k ≤ boundL l (es.map pr) need (k - 1) ∧ longL need (es.map pr) ≤ boundL l (es.map pr) need k) :
    ∀ (m : Nat) (c : Int), c + m = 9 → 2 ≤ c → ∀ k, trefoillaw10_SchedMore.l0 (k + m + 1) need (boundL l (es.map pr) need (c - 1)) c l es need es = some true := by
  intro m
  induction m with
  | zero =>
    intro c h1 h2 k
    rw [show k + 0 + 1 = k + 1 by omega, trefoillaw10_SchedMore.l0, if_neg (by omega), own_f l es hl he, Option.bind_some, ints_f need hn, Option.bind_some, bound_f l es need 9 hl he hn, Option.bind_some, bound_nine]
    rfl
  | succ m ih =>
    intro c h1 h2 k
    obtain ⟨q1, q2⟩ := hs c h2 (by omega)
    have hw : wrap64 (c + 1) = c + 1 := by unfold wrap64; omega
    have := ih (c + 1) (by omega) (by omega) k
    rw [show c + 1 - 1 = c by omega] at this
    rw [show k + (m + 1) + 1 = (k + m + 1) + 1 by omega, trefoillaw10_SchedMore.l0, if_pos (by omega), own_f l es hl he, Option.bind_some, ints_f need hn, Option.bind_some, bound_f l es need c hl he hn, Option.bind_some, if_neg (by omega), long_f need es hn he, Option.bind_some, if_neg (by omega), hw]
    exact this
theorem j0_run (l : List Int) (es : List S45) (need : List Int) : trefoillaw10_SchedMore.j0 9 need true l es = some true := by
  rw [show (9 : Nat) = 8 + 1 from rfl, trefoillaw10_SchedMore.j0, if_pos rfl, awake_f]; rfl
theorem run (l : List Int) (es : List S45) (need : List Int) : trefoillaw10_SchedMore.f 9 l es need = some true := by
  unfold trefoillaw10_SchedMore.f
  rw [awake_f, Option.bind_some, if_pos rfl, few_f, Option.bind_some]
  by_cases hf : l.length ≤ 70 ∧ es.length ≤ 300
  · rw [decide_eq_true hf, if_pos rfl]
    by_cases hn : (need.length : Int) > 70
    · rw [if_pos hn]; exact j0_run l es need
    · have hl : l.length ≤ 1000 := by omega
      have he : es.length ≤ 1000 := by omega
      have hn2 : need.length ≤ 1000 := by omega
      rw [if_neg hn, own_f l es hl he, Option.bind_some, ints_f need hn2, Option.bind_some, check_f l es need hl he hn2, Option.bind_some]
      by_cases hz : lookR l (es.map pr) need 1 [] = 0
      · obtain ⟨hzd, hrb⟩ := right1 hz
        obtain ⟨hb1, hbs⟩ := bound_steps hzd hrb
        have h0 := l0_run l es need hl he hn2 hbs 7 2 (by omega) (by omega) 0
        rw [show (2 : Int) - 1 = 1 by omega, hb1] at h0
        rw [hz, show ((0 : Int) != 0) = false from rfl, show (9 : Nat) = 8 + 1 from rfl, trefoillaw10_SchedMore.j0, if_neg (by simp), ints_f need hn2, Option.bind_some, Option.bind_some, if_pos (by simp; omega), Option.bind_some, List.nil_append, total_f need es hn2 he, Option.bind_some, own_f l es hl he, Option.bind_some, Option.bind_some, bound_f l es need 1 hl he hn2, Option.bind_some, hb1, if_pos rfl]
        exact h0
      · rw [show (lookR l (es.map pr) need 1 [] != 0) = true by simpa using hz]
        exact j0_run l es need
  · rw [decide_eq_false hf, if_neg (by simp)]
    exact j0_run l es need
theorem edges_C {w : World} {B : Option Addr} {es : List (Int × Int)} (h : EdC w B es) (hm : es.length ≤ maxLen) : Kd.C k45 w B es.length (es.map fun e => ⟨e.1, e.2⟩) := by
  refine ⟨by simp, by unfold maxLen at hm; omega, fun h0 => ?_⟩
  obtain ⟨ad, rfl, hc⟩ := h h0
  refine ⟨ad, rfl, fun j p hp => ?_⟩
  have hj : j < es.length := by
    rcases Nat.lt_or_ge j es.length with h | h
    · exact h
    · rw [List.getElem?_eq_none (by simpa using h)] at hp; cases hp
  rw [List.getElem?_map, List.getElem?_eq_getElem hj] at hp
  simp only [Option.map_some, Option.some.injEq] at hp
  subst hp
  have hd : es.getD j (0, 0) = es[j] := by rw [List.getD_eq_getElem?_getD, List.getElem?_eq_getElem hj]; rfl
  obtain ⟨h1, h2⟩ := hc j hj
  rw [hd] at h1 h2
  refine ⟨[.int .i64 es[j].1, .int .i64 es[j].2], rfl, k45_mk w ⟨es[j].1, es[j].2⟩, fun i u hi => ?_⟩
  match i, hi with
  | 0, hi => simp at hi; subst hi; exact h1
  | 1, hi => simp at hi; subst hi; exact h2
theorem walk (A : Option Addr) (c : Nat) (l : List Int) (B : Option Addr) (d : Nat) (es : List (Int × Int)) (D : Option Addr) (dc : Nat) (need : List Int) (w : World) (h0 : DagIn w A c l B d es) (h1 : NeedIn w D dc need) :
    Calls Try.prog 9 #[.agg #[.slice A l.length c, .slice B es.length d], .slice D need.length dc] w fun e w' => e = .returned (.bool true) ∧ Below w.heap.size w w' := by
  have := trefoillaw10_SchedMore.calls 9 A c l B d (es.map fun e => ⟨e.1, e.2⟩) D dc need true w (Kd.C_of_reads (d := (0 : Int)) (h1 := fun _ => rfl) h0.2.1) h0.1 (by rw [List.length_map]; exact edges_C h0.2.2.2.2.2.1 h0.2.2.2.2.1) (by rw [List.length_map]; exact h0.2.2.2.1) (Kd.C_of_reads (d := (0 : Int)) (h1 := fun _ => rfl) h1.2.1) h1.1 (run l (es.map fun e => ⟨e.1, e.2⟩) need)
  rw [List.length_map] at this
  exact this
end Go.Proofs.Ytnnbgfjokbaepaa.PSchedMore
