/- The law DagRounds comes to true. Plain Lean over the printed function. -/
import Derived.Test.YtjkindoedkjnbaaDagFacts
import Derived.Test.YtjkindoedkjnbaaDagOpen
import Derived.Test.YtjkindoedkjnbaaPDagRoundsx10
import Derived.Test.YtjkindoedkjnbaaDagCycle
set_option linter.unusedVariables false
set_option linter.unusedSimpArgs false
namespace Go.Proofs.Ytjkindoedkjnbaa.PDagRounds
open Go.RowKit Go.Proofs.YtjkindoedkjnbaaW.PrintWords
open Go.Proofs.Ytjkindoedkjnbaa DagPlain

def pr (x : S40) : Int × Int := (x.f0, x.f1)
theorem wrap_small {x : Int} (h : 0 ≤ x ∧ x ≤ 1000) : wrap64 x = x := by unfold wrap64; omega
theorem rd_at (es : List S40) (x : Nat) (h : x < es.length) : rd_T40 es (x : Int) = es[x] := by unfold rd_T40; simp [List.getD_eq_getElem?_getD, h]
theorem own_f (l : List Int) (es : List S40) (hl : l.length ≤ 1000) (he : es.length ≤ 1000) : trefoillaw04_Own.f l es = some (l, es) := by
  unfold trefoillaw04_Own.f
  simp only [Option.bind_some, List.length_nil, List.nil_append]
  rw [if_pos (by omega), if_pos (by omega)]
theorem few_f (l : List Int) (es : List S40) : trefoillaw04_Few.f l es = some (decide (l.length ≤ 70 ∧ es.length ≤ 300)) := by
  unfold trefoillaw04_Few.f
  split
  · rw [Option.some.injEq]
    exact decide_eq_decide.2 (by omega)
  · rw [Option.some.injEq]
    exact (decide_eq_false (by omega)).symm
theorem awake_f : trefoillaw04_awake.f = some true := rfl
theorem check_f (l : List Int) (es : List S40) (hl : l.length ≤ 1000) (he : es.length ≤ 1000) : dag_Check.f l es = some (checkL l (es.map pr)) := by unfold dag_Check.f; rw [if_pos ⟨hl, he⟩]; rfl
theorem before_f (l : List Int) (es : List S40) (a : Int) (b : Int) (hl : l.length ≤ 1000) (he : es.length ≤ 1000) : dag_Before.f l es a b = some (beforeL l (es.map pr) a b) := by unfold dag_Before.f; rw [if_pos ⟨hl, he⟩]; rfl

theorem near_run (l : List Int) (es : List S40) (a b : Int) (he : es.length ≤ 1000) : ∀ (m x : Nat), x + m = es.length → (∀ j, j < x → pr (rd_T40 es (j : Int)) ≠ (a, b)) → ∀ k, trefoilref04_Near.l0 (k + m + 1) a b (x : Int) l es = some (decide ((a, b) ∈ es.map pr)) := by
  intro m
  induction m with
  | zero =>
    intro x hx hno k
    rw [show k + 0 + 1 = k + 1 by omega, trefoilref04_Near.l0, if_neg (by omega)]
    rw [Option.some.injEq, eq_comm, decide_eq_false_iff_not]
    intro h
    obtain ⟨e, h1, h2⟩ := List.mem_map.1 h
    obtain ⟨j, hj, rfl⟩ := List.getElem_of_mem h1
    exact hno j (by omega) (by rw [rd_at es j hj]; exact h2)
  | succ m ihm =>
    intro x hx hno k
    have hxl : x < es.length := by omega
    have e : wrap64 ((x : Int) + 1) = ((x + 1 : Nat) : Int) := by rw [wrap_small (by omega)]; omega
    rw [show k + (m + 1) + 1 = (k + m + 1) + 1 by omega, trefoilref04_Near.l0, if_pos (by omega), if_pos (by omega), e, rd_at es x hxl]
    have hgo : (¬ pr es[x] = (a, b)) → trefoilref04_Near.l0 (k + m + 1) a b ((x + 1 : Nat) : Int) l es = some (decide ((a, b) ∈ es.map pr)) := fun hne => ihm (x + 1) (by omega) (fun j hj => by
      by_cases e : j = x
      · subst e; rw [rd_at es j hxl]; exact hne
      · exact hno j (by omega)) k
    by_cases h1 : es[x].f0 = a
    · rw [if_pos h1]
      by_cases h2 : es[x].f1 = b
      · rw [if_pos h2, Option.some.injEq, eq_comm, decide_eq_true_iff]
        exact List.mem_map.2 ⟨es[x], List.getElem_mem hxl, by unfold pr; rw [h1, h2]⟩
      · rw [if_neg h2]
        exact hgo (fun h => h2 (congrArg Prod.snd h))
    · rw [if_neg h1]
      exact hgo (fun h => h1 (congrArg Prod.fst h))
theorem j0_true (k : Nat) (l : List Int) (es : List S40) (a b : Int) : trefoillaw04_DagRounds.j0 (k + 1) a b true l es = some true := by
  rw [trefoillaw04_DagRounds.j0, if_pos rfl, awake_f]; rfl
theorem pure_holds (l : List Int) (es : List S40) (a b : Int) : ∃ k, trefoillaw04_DagRounds.f k l es a b = some true := by
  refine ⟨(0 + es.length + 1) + 1, ?_⟩
  generalize hK : 0 + es.length + 1 = K
  unfold trefoillaw04_DagRounds.f
  rw [awake_f, Option.bind_some, if_pos rfl]
  by_cases hf : l.length ≤ 70 ∧ es.length ≤ 300
  · have hfew : trefoillaw04_Few.f l es = some true := by rw [few_f]; simpa using hf
    have hl : l.length ≤ 1000 := by omega
    have he : es.length ≤ 1000 := by omega
    rw [hfew, Option.bind_some, if_pos rfl, own_f l es hl he, Option.bind_some, check_f l es hl he, Option.bind_some]
    by_cases hz : checkL l (es.map pr) = 0
    · rw [if_pos hz]
      by_cases h1 : (es.length : Int) ≥ 256
      · rw [if_pos h1]; exact j0_true _ _ _ _ _
      · rw [if_neg h1]
        by_cases h2 : a < 0
        · rw [if_pos h2]; exact j0_true _ _ _ _ _
        · rw [if_neg h2]
          by_cases h3 : b < 0
          · rw [if_pos h3]; exact j0_true _ _ _ _ _
          · rw [if_neg h3]
            by_cases h4 : a ≥ (l.length : Int)
            · rw [if_pos h4]; exact j0_true _ _ _ _ _
            · rw [if_neg h4]
              by_cases h5 : b ≥ (l.length : Int)
              · rw [decide_eq_true h5]; exact j0_true _ _ _ _ _
              · rw [decide_eq_false h5]
                have hlen : (es.map pr).length < 256 := by rw [List.length_map]; omega
                have hck : dag_Check.f l (es ++ [⟨a, b⟩]) = some (checkL l (es.map pr ++ [(a, b)])) := by
                  rw [check_f l _ hl (by simp; omega), List.map_append]; rfl
                rw [trefoillaw04_DagRounds.j0, if_neg (by simp), own_f l es hl he, Option.bind_some, if_pos (by show es.length < _; omega), hck, Option.bind_some]
                have hab : (0 ≤ a ∧ a < l.length) ∧ 0 ≤ b ∧ b < l.length := by omega
                by_cases hq : a = b
                · rw [if_pos hq, ← hK, trefoillaw04_DagRounds.j1, if_pos rfl, more_odd hz hlen hab.1 hab.2 (.inl hq)]; rfl
                · have hnear : trefoilref04_Near.f K l es a b = some (decide ((a, b) ∈ es.map pr)) := by
                    rw [← hK]; exact near_run l es a b he es.length 0 (by omega) (fun j hj => absurd hj (by omega)) 0
                  rw [if_neg hq, hnear, Option.bind_some, ← hK, trefoillaw04_DagRounds.j1]
                  by_cases hm : (a, b) ∈ es.map pr
                  · rw [decide_eq_true hm, if_pos rfl, more_odd hz hlen hab.1 hab.2 (.inr hm)]; rfl
                  · rw [decide_eq_false hm, if_neg (by simp), own_f l es hl he, Option.bind_some, before_f l es b a hl he, Option.bind_some, more_even hz hlen hab.1 hab.2 hq hm]
                    cases beforeL l (es.map pr) b a with
                    | true => decide
                    | false => decide
    · rw [if_neg hz]; exact j0_true _ _ _ _ _
  · have hfew : trefoillaw04_Few.f l es = some false := by rw [few_f]; simp only [decide_eq_false hf]
    rw [hfew, Option.bind_some, if_neg (by simp)]
    exact j0_true _ _ _ _ _
/-- The graph as the printed contract reads it. -/
theorem edges_C {w : World} {B : Option Addr} {es : List (Int × Int)} (h : EdC w B es) (hm : es.length ≤ maxLen) : Kd.C k40 w B es.length (es.map fun e => ⟨e.1, e.2⟩) := by
  refine ⟨by simp, by unfold maxLen at hm; omega, fun h0 => ?_⟩
  obtain ⟨ad, rfl, hc⟩ := h h0
  refine ⟨ad, rfl, fun j p hp => ?_⟩
  have hj : j < es.length := by
    rcases Nat.lt_or_ge j es.length with h | h
    · exact h
    · rw [List.getElem?_eq_none (by simpa using h)] at hp; cases hp
  rw [List.getElem?_map, List.getElem?_eq_getElem hj] at hp
  simp only [Option.map_some, Option.some.injEq] at hp
  subst hp
  have hd : es.getD j (0, 0) = es[j] := by rw [List.getD_eq_getElem?_getD, List.getElem?_eq_getElem hj]; rfl
  obtain ⟨h1, h2⟩ := hc j hj
  rw [hd] at h1 h2
  refine ⟨[.int .i64 es[j].1, .int .i64 es[j].2], rfl, k40_mk w ⟨es[j].1, es[j].2⟩, fun i u hi => ?_⟩
  match i, hi with
  | 0, hi => simp at hi; subst hi; exact h1
  | 1, hi => simp at hi; subst hi; exact h2
theorem walk (A0 : Option Addr) (c0 : Nat) (l0 : List Int) (B0 : Option Addr) (d0 : Nat) (es0 : List (Int × Int)) (a1 : Int) (a2 : Int) (w : World) (h0 : DagIn w A0 c0 l0 B0 d0 es0) (h1 : (Lit.int .i64 a1).wf = true) (h2 : (Lit.int .i64 a2).wf = true) :
    Calls Try.prog 8 #[.agg #[.slice A0 l0.length c0, .slice B0 es0.length d0], .int .i64 a1, .int .i64 a2] w fun e w' => e = .returned (.bool true) ∧ Below w.heap.size w w' := by
  obtain ⟨k, hk⟩ := pure_holds l0 (es0.map fun e => ⟨e.1, e.2⟩) a1 a2
  have := trefoillaw04_DagRounds.calls k A0 c0 l0 B0 d0 (es0.map fun e => ⟨e.1, e.2⟩) a1 a2 true w (Kd.C_of_reads (d := (0 : Int)) (h1 := fun _ => rfl) h0.2.1) h0.1 (by rw [List.length_map]; exact edges_C h0.2.2.2.2.2.1 h0.2.2.2.2.1) (by rw [List.length_map]; exact h0.2.2.2.1) hk
  rw [List.length_map] at this
  exact this
end Go.Proofs.Ytjkindoedkjnbaa.PDagRounds
