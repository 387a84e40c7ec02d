/- The law DagBefore comes to true. Plain Lean over the printed function. -/
import Derived.Test.YtjkindoedkjnbaaDagFacts
import Derived.Test.YtjkindoedkjnbaaDagOpen
import Derived.Test.YtjkindoedkjnbaaPDagBeforex10
import Derived.Test.YtjkindoedkjnbaaDagPaths
set_option linter.unusedVariables false
set_option linter.unusedSimpArgs false
namespace Go.Proofs.Ytjkindoedkjnbaa.PDagBefore
open Go.RowKit Go.Proofs.YtjkindoedkjnbaaW.PrintWords
open Go.Proofs.Ytjkindoedkjnbaa DagPlain

def pr (x : S40) : Int × Int := (x.f0, x.f1)
theorem wrap_small {x : Int} (h : 0 ≤ x ∧ x ≤ 1000) : wrap64 x = x := by unfold wrap64; omega
theorem rd_at (es : List S40) (x : Nat) (h : x < es.length) : rd_T40 es (x : Int) = es[x] := by unfold rd_T40; simp [List.getD_eq_getElem?_getD, h]
theorem own_f (l : List Int) (es : List S40) (hl : l.length ≤ 1000) (he : es.length ≤ 1000) : trefoillaw04_Own.f l es = some (l, es) := by
  unfold trefoillaw04_Own.f
  simp only [Option.bind_some, List.length_nil, List.nil_append]
  rw [if_pos (by omega), if_pos (by omega)]
theorem few_f (l : List Int) (es : List S40) : trefoillaw04_Few.f l es = some (decide (l.length ≤ 70 ∧ es.length ≤ 300)) := by
  unfold trefoillaw04_Few.f
  split
  · rw [Option.some.injEq]
    exact decide_eq_decide.2 (by omega)
  · rw [Option.some.injEq]
    exact (decide_eq_false (by omega)).symm
theorem awake_f : trefoillaw04_awake.f = some true := rfl
theorem check_f (l : List Int) (es : List S40) (hl : l.length ≤ 1000) (he : es.length ≤ 1000) : dag_Check.f l es = some (checkL l (es.map pr)) := by unfold dag_Check.f; rw [if_pos ⟨hl, he⟩]; rfl
theorem before_f (l : List Int) (es : List S40) (a : Int) (b : Int) (hl : l.length ≤ 1000) (he : es.length ≤ 1000) : dag_Before.f l es a b = some (beforeL l (es.map pr) a b) := by unfold dag_Before.f; rw [if_pos ⟨hl, he⟩]; rfl

set_option maxHeartbeats 400000 in
theorem l0_run (l : List Int) (es : List S40) (a b : Int) (p q r : Bool) (hz : checkL l (es.map pr) = 0) (hl : l.length ≤ 1000) (he : es.length ≤ 1000)
    (hp : p = beforeL l (es.map pr) a b) (hqr : p = true → q = true → r = true) : ∀ (m x : Nat), x + m = es.length → ∀ k, trefoillaw04_DagBefore.l0 (k + m + 1) a b p q r (x : Int) l es = some true := by
  intro m
  induction m with
  | zero =>
    intro x hx k
    have hnaa : beforeL l (es.map pr) a a = false := by
      rw [Bool.eq_false_iff]; intro h; exact no_round hz a ((before_iff hz a a).1 h)
    have hnba : p = true → beforeL l (es.map pr) b a = false := by
      intro h
      rw [Bool.eq_false_iff]
      intro h2
      rw [hp] at h
      exact no_round hz a (((before_iff hz a b).1 h).trans ((before_iff hz b a).1 h2))
    rw [show k + 0 + 1 = k + 1 by omega, trefoillaw04_DagBefore.l0, if_neg (by omega)]
    cases p with
    | false =>
      rw [if_neg (by simp), own_f l es hl he]
      simp only [Option.bind_some]
      rw [before_f l es a a hl he, hnaa]
      rfl
    | true =>
      rw [if_pos rfl]
      cases q with
      | true =>
        rw [if_pos rfl, hqr rfl rfl, if_pos rfl, own_f l es hl he]
        simp only [Option.bind_some]
        rw [before_f l es b a hl he, hnba rfl]
        simp only [Option.bind_some]
        rw [if_neg (by simp), before_f l es a a hl he, hnaa]
        rfl
      | false =>
        rw [if_neg (by simp), own_f l es hl he]
        simp only [Option.bind_some]
        rw [before_f l es b a hl he, hnba rfl]
        simp only [Option.bind_some]
        rw [if_neg (by simp), before_f l es a a hl he, hnaa]
        rfl
  | succ m ihm =>
    intro x hx k
    have hxl : x < es.length := by omega
    have hmem : pr es[x] ∈ es.map pr := List.mem_map.2 ⟨_, List.getElem_mem hxl, rfl⟩
    have hb : beforeL l (es.map pr) es[x].f0 es[x].f1 = true := (before_iff hz _ _).2 (.edge hmem)
    have ih := ihm (x + 1) (by omega) k
    rw [show k + (m + 1) + 1 = (k + m + 1) + 1 by omega, trefoillaw04_DagBefore.l0, if_pos (by omega), own_f l es hl he]
    simp only [Option.bind_some]
    rw [if_pos (by omega), rd_at es x hxl, before_f l es _ _ hl he, hb]
    have e : wrap64 ((x : Int) + 1) = ((x + 1 : Nat) : Int) := by rw [wrap_small (by omega)]; omega
    rw [Option.bind_some, if_pos rfl, e]
    exact ih
theorem pure_holds (l : List Int) (es : List S40) (a b c : Int) : ∃ k, trefoillaw04_DagBefore.f k l es a b c = some true := by
  by_cases hf : l.length ≤ 70 ∧ es.length ≤ 300
  · have hfew : trefoillaw04_Few.f l es = some true := by rw [few_f]; simpa using hf
    have hl : l.length ≤ 1000 := by omega
    have he : es.length ≤ 1000 := by omega
    by_cases hz : checkL l (es.map pr) = 0
    · refine ⟨(0 + es.length + 1) + 1, ?_⟩
      have hrun := l0_run l es a b (beforeL l (es.map pr) a b) (beforeL l (es.map pr) b c) (beforeL l (es.map pr) a c) hz hl he rfl (fun h1 h2 => (before_iff hz _ _).2 (((before_iff hz _ _).1 h1).trans ((before_iff hz _ _).1 h2))) es.length 0 (by omega) 0
      unfold trefoillaw04_DagBefore.f
      rw [awake_f]
      simp only [Option.bind_some]
      rw [if_pos trivial, hfew]
      simp only [Option.bind_some]
      rw [if_pos trivial, own_f l es hl he]
      simp only [Option.bind_some]
      rw [check_f l es hl he, hz]
      simp only [Option.bind_some]
      rw [show ((0 : Int) != 0) = false by decide, trefoillaw04_DagBefore.j0, if_neg (by simp), own_f l es hl he]
      simp only [Option.bind_some]
      rw [before_f l es a b hl he]
      simp only [Option.bind_some]
      rw [before_f l es b c hl he]
      simp only [Option.bind_some]
      rw [before_f l es a c hl he]
      simp only [Option.bind_some]
      exact hrun
    · refine ⟨1, ?_⟩
      unfold trefoillaw04_DagBefore.f
      rw [awake_f]
      simp only [Option.bind_some]
      rw [if_pos trivial, hfew]
      simp only [Option.bind_some]
      rw [if_pos trivial, own_f l es hl he]
      simp only [Option.bind_some]
      rw [check_f l es hl he]
      simp only [Option.bind_some]
      rw [show (checkL l (es.map pr) != 0) = true from bne_iff_ne.2 hz, trefoillaw04_DagBefore.j0, if_pos rfl, awake_f]
      rfl
  · have hfew : trefoillaw04_Few.f l es = some false := by rw [few_f]; simp only [decide_eq_false hf]
    refine ⟨1, ?_⟩
    unfold trefoillaw04_DagBefore.f
    rw [awake_f]
    simp only [Option.bind_some]
    rw [if_pos trivial, hfew]
    simp only [Option.bind_some]
    rw [if_neg (by simp), trefoillaw04_DagBefore.j0, if_pos rfl, awake_f]
    rfl
/-- The graph as the printed contract reads it. -/
theorem edges_C {w : World} {B : Option Addr} {es : List (Int × Int)} (h : EdC w B es) (hm : es.length ≤ maxLen) : Kd.C k40 w B es.length (es.map fun e => ⟨e.1, e.2⟩) := by
  refine ⟨by simp, by unfold maxLen at hm; omega, fun h0 => ?_⟩
  obtain ⟨ad, rfl, hc⟩ := h h0
  refine ⟨ad, rfl, fun j p hp => ?_⟩
  have hj : j < es.length := by
    rcases Nat.lt_or_ge j es.length with h | h
    · exact h
    · rw [List.getElem?_eq_none (by simpa using h)] at hp; cases hp
  rw [List.getElem?_map, List.getElem?_eq_getElem hj] at hp
  simp only [Option.map_some, Option.some.injEq] at hp
  subst hp
  have hd : es.getD j (0, 0) = es[j] := by rw [List.getD_eq_getElem?_getD, List.getElem?_eq_getElem hj]; rfl
  obtain ⟨h1, h2⟩ := hc j hj
  rw [hd] at h1 h2
  refine ⟨[.int .i64 es[j].1, .int .i64 es[j].2], rfl, k40_mk w ⟨es[j].1, es[j].2⟩, fun i u hi => ?_⟩
  match i, hi with
  | 0, hi => simp at hi; subst hi; exact h1
  | 1, hi => simp at hi; subst hi; exact h2
theorem walk (A0 : Option Addr) (c0 : Nat) (l0 : List Int) (B0 : Option Addr) (d0 : Nat) (es0 : List (Int × Int)) (a1 : Int) (a2 : Int) (a3 : Int) (w : World) (h0 : DagIn w A0 c0 l0 B0 d0 es0) (h1 : (Lit.int .i64 a1).wf = true) (h2 : (Lit.int .i64 a2).wf = true) (h3 : (Lit.int .i64 a3).wf = true) :
    Calls Try.prog 7 #[.agg #[.slice A0 l0.length c0, .slice B0 es0.length d0], .int .i64 a1, .int .i64 a2, .int .i64 a3] w fun e w' => e = .returned (.bool true) ∧ Below w.heap.size w w' := by
  obtain ⟨k, hk⟩ := pure_holds l0 (es0.map fun e => ⟨e.1, e.2⟩) a1 a2 a3
  have := trefoillaw04_DagBefore.calls k A0 c0 l0 B0 d0 (es0.map fun e => ⟨e.1, e.2⟩) a1 a2 a3 true w (Kd.C_of_reads (d := (0 : Int)) (h1 := fun _ => rfl) h0.2.1) h0.1 (by rw [List.length_map]; exact edges_C h0.2.2.2.2.2.1 h0.2.2.2.2.1) (by rw [List.length_map]; exact h0.2.2.2.1) hk
  rw [List.length_map] at this
  exact this
end Go.Proofs.Ytjkindoedkjnbaa.PDagBefore
