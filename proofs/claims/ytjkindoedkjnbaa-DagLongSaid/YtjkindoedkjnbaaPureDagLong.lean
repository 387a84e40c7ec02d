/- The law DagLong comes to true. Plain Lean over the printed function. -/
import Derived.Test.YtjkindoedkjnbaaDagFacts
import Derived.Test.YtjkindoedkjnbaaDagOpen
import Derived.Test.YtjkindoedkjnbaaPDagLongx10
import Derived.Test.YtjkindoedkjnbaaDagFar
set_option linter.unusedVariables false
set_option linter.unusedSimpArgs false
namespace Go.Proofs.Ytjkindoedkjnbaa.PDagLong
open Go.RowKit Go.Proofs.YtjkindoedkjnbaaW.PrintWords
open Go.Proofs.Ytjkindoedkjnbaa DagPlain

def pr (x : S40) : Int × Int := (x.f0, x.f1)
theorem wrap_small {x : Int} (h : 0 ≤ x ∧ x ≤ 1000) : wrap64 x = x := by unfold wrap64; omega
theorem rd_at (es : List S40) (x : Nat) (h : x < es.length) : rd_T40 es (x : Int) = es[x] := by unfold rd_T40; simp [List.getD_eq_getElem?_getD, h]
theorem own_f (l : List Int) (es : List S40) (hl : l.length ≤ 1000) (he : es.length ≤ 1000) : trefoillaw04_Own.f l es = some (l, es) := by
  unfold trefoillaw04_Own.f
  simp only [Option.bind_some, List.length_nil, List.nil_append]
  rw [if_pos (by omega), if_pos (by omega)]
theorem few_f (l : List Int) (es : List S40) : trefoillaw04_Few.f l es = some (decide (l.length ≤ 70 ∧ es.length ≤ 300)) := by
  unfold trefoillaw04_Few.f
  split
  · rw [Option.some.injEq]
    exact decide_eq_decide.2 (by omega)
  · rw [Option.some.injEq]
    exact (decide_eq_false (by omega)).symm
theorem awake_f : trefoillaw04_awake.f = some true := rfl
theorem check_f (l : List Int) (es : List S40) (hl : l.length ≤ 1000) (he : es.length ≤ 1000) : dag_Check.f l es = some (checkL l (es.map pr)) := by unfold dag_Check.f; rw [if_pos ⟨hl, he⟩]; rfl
theorem total_f (l : List Int) (es : List S40) (hl : l.length ≤ 1000) (he : es.length ≤ 1000) : dag_Total.f l es = some (totL l (es.map pr)) := by unfold dag_Total.f; rw [if_pos ⟨hl, he⟩]; rfl
theorem long_f (l : List Int) (es : List S40) (hl : l.length ≤ 1000) (he : es.length ≤ 1000) : dag_Long.f l es = some (longL l (es.map pr)) := by unfold dag_Long.f; rw [if_pos ⟨hl, he⟩]; rfl

theorem l1_run (l : List Int) (es : List S40) (a b : Int) (hz : checkL l (es.map pr) = 0) (hl : l.length ≤ 70) (he : es.length ≤ 300) : ∀ (m x : Nat), x + m = es.length → ∀ k, trefoillaw04_DagLong.l1 (k + m + 1) (totL l (es.map pr)) (longL l (es.map pr)) (x : Int) l es a b = some true := by
  have hl2 : l.length ≤ 1000 := by omega
  have he2 : es.length ≤ 1000 := by omega
  have htot : totL l (es.map pr) = l.sum := by unfold totL; rw [if_pos hz]
  intro m
  induction m with
  | zero =>
    intro x hx k
    have he3 : (es ++ [(⟨a, b⟩ : S40)]).length ≤ 1000 := by simp; omega
    have hmap : (es ++ [(⟨a, b⟩ : S40)]).map pr = es.map pr ++ [(a, b)] := by rw [List.map_append]; rfl
    rw [show k + 0 + 1 = k + 1 by omega, trefoillaw04_DagLong.l1, if_neg (by omega), own_f l es hl2 he2, Option.bind_some, if_pos (by show es.length < _; omega), Option.bind_some, if_pos (by rw [htot]; exact long_total hz), own_f l _ hl2 he3, Option.bind_some, check_f l _ hl2 he3, Option.bind_some, hmap]
    by_cases hz2 : checkL l (es.map pr ++ [(a, b)]) = 0
    · rw [if_pos hz2, Option.bind_some, long_f l _ hl2 he3, Option.bind_some, hmap, if_pos (long_mono hz hz2 (fun e h => List.mem_append.2 (.inl h))), total_f l _ hl2 he3, Option.bind_some, hmap, htot]
      unfold totL
      rw [if_pos hz2]
      simp
    · rw [if_neg hz2]
  | succ m ihm =>
    intro x hx k
    have hxl : x < es.length := by omega
    have e : wrap64 ((x : Int) + 1) = ((x + 1 : Nat) : Int) := by rw [wrap_small (by omega)]; omega
    obtain ⟨y1, y2, y3, y4, y5⟩ := ordL_yes hz
    have hmem : pr es[x] ∈ es.map pr := List.mem_map.2 ⟨_, List.getElem_mem hxl, rfl⟩
    have hft := oddEs_in y3 _ hmem
    have hf : 0 ≤ es[x].f0 ∧ es[x].f0 < l.length := hft.1
    have ht : 0 ≤ es[x].f1 ∧ es[x].f1 < l.length := hft.2
    have hed : rd l es[x].f0 + rd l es[x].f1 ≤ longL l (es.map pr) := long_edge hz _ hmem
    have hw0 : 0 ≤ rd l es[x].f0 ∧ rd l es[x].f0 ≤ 1000 := work_nn hz _
    have hw1 : 0 ≤ rd l es[x].f1 ∧ rd l es[x].f1 ≤ 1000 := work_nn hz _
    have hws : wrap64 (rd l es[x].f0 + rd l es[x].f1) = rd l es[x].f0 + rd l es[x].f1 := by unfold wrap64; omega
    rw [show k + (m + 1) + 1 = (k + m + 1) + 1 by omega, trefoillaw04_DagLong.l1, if_pos (by omega), if_pos (by omega), rd_at es x hxl, if_pos hf.1, if_pos hf.2, if_pos ht.1, if_pos ht.2, hws, if_neg (by omega), e]
    exact ihm (x + 1) (by omega) k
theorem l0_run (l : List Int) (es : List S40) (a b : Int) (hz : checkL l (es.map pr) = 0) (hl : l.length ≤ 70) (he : es.length ≤ 300) : ∀ (m x : Nat), x + m = l.length → ∀ k, trefoillaw04_DagLong.l0 (k + m + 1) (totL l (es.map pr)) (longL l (es.map pr)) (x : Int) l es a b = trefoillaw04_DagLong.l1 k (totL l (es.map pr)) (longL l (es.map pr)) 0 l es a b := by
  intro m
  induction m with
  | zero =>
    intro x hx k
    rw [show k + 0 + 1 = k + 1 by omega, trefoillaw04_DagLong.l0, if_neg (by omega)]
  | succ m ihm =>
    intro x hx k
    have e : wrap64 ((x : Int) + 1) = ((x + 1 : Nat) : Int) := by rw [wrap_small (by omega)]; omega
    have hw : rd l (x : Int) ≤ longL l (es.map pr) := by
      have := long_work hz x (by omega)
      unfold rd
      simpa using this
    rw [show k + (m + 1) + 1 = (k + m + 1) + 1 by omega, trefoillaw04_DagLong.l0, if_pos (by omega), if_pos (by omega), if_neg (by omega), e]
    exact ihm (x + 1) (by omega) k
theorem pure_holds (l : List Int) (es : List S40) (a b : Int) : ∃ k, trefoillaw04_DagLong.f k l es a b = some true := by
  refine ⟨((0 + es.length + 1) + l.length + 1) + 1, ?_⟩
  unfold trefoillaw04_DagLong.f
  rw [awake_f, Option.bind_some, if_pos rfl]
  by_cases hf : l.length ≤ 70 ∧ es.length ≤ 300
  · have hfew : trefoillaw04_Few.f l es = some true := by rw [few_f]; simpa using hf
    have hl : l.length ≤ 1000 := by omega
    have he : es.length ≤ 1000 := by omega
    rw [hfew, Option.bind_some, if_pos rfl, own_f l es hl he, Option.bind_some, check_f l es hl he, Option.bind_some]
    by_cases hz : checkL l (es.map pr) = 0
    · have h1 := l1_run l es a b hz hf.1 hf.2 es.length 0 (by omega) 0
      have h0 := l0_run l es a b hz hf.1 hf.2 l.length 0 (by omega) (0 + es.length + 1)
      rw [hz, show ((0 : Int) != 0) = false by decide, trefoillaw04_DagLong.j0, if_neg (by simp), own_f l es hl he, Option.bind_some, total_f l es hl he, Option.bind_some, Option.bind_some, long_f l es hl he, Option.bind_some]
      exact h0.trans h1
    · rw [show (checkL l (es.map pr) != 0) = true from bne_iff_ne.2 hz, trefoillaw04_DagLong.j0, if_pos rfl, awake_f]; rfl
  · have hfew : trefoillaw04_Few.f l es = some false := by rw [few_f]; simp only [decide_eq_false hf]
    rw [hfew, Option.bind_some, if_neg (by simp), trefoillaw04_DagLong.j0, if_pos rfl, awake_f]
    rfl
/-- The graph as the printed contract reads it. -/
theorem edges_C {w : World} {B : Option Addr} {es : List (Int × Int)} (h : EdC w B es) (hm : es.length ≤ maxLen) : Kd.C k40 w B es.length (es.map fun e => ⟨e.1, e.2⟩) := by
  refine ⟨by simp, by unfold maxLen at hm; omega, fun h0 => ?_⟩
  obtain ⟨ad, rfl, hc⟩ := h h0
  refine ⟨ad, rfl, fun j p hp => ?_⟩
  have hj : j < es.length := by
    rcases Nat.lt_or_ge j es.length with h | h
    · exact h
    · rw [List.getElem?_eq_none (by simpa using h)] at hp; cases hp
  rw [List.getElem?_map, List.getElem?_eq_getElem hj] at hp
  simp only [Option.map_some, Option.some.injEq] at hp
  subst hp
  have hd : es.getD j (0, 0) = es[j] := by rw [List.getD_eq_getElem?_getD, List.getElem?_eq_getElem hj]; rfl
  obtain ⟨h1, h2⟩ := hc j hj
  rw [hd] at h1 h2
  refine ⟨[.int .i64 es[j].1, .int .i64 es[j].2], rfl, k40_mk w ⟨es[j].1, es[j].2⟩, fun i u hi => ?_⟩
  match i, hi with
  | 0, hi => simp at hi; subst hi; exact h1
  | 1, hi => simp at hi; subst hi; exact h2
theorem walk (A0 : Option Addr) (c0 : Nat) (l0 : List Int) (B0 : Option Addr) (d0 : Nat) (es0 : List (Int × Int)) (x1 y1 : Int) (w : World) (h0 : DagIn w A0 c0 l0 B0 d0 es0) (h1 : I64 x1 ∧ I64 y1) :
    Calls Try.prog 6 #[.agg #[.slice A0 l0.length c0, .slice B0 es0.length d0], .agg #[.int .i64 x1, .int .i64 y1]] w fun e w' => e = .returned (.bool true) ∧ Below w.heap.size w w' := by
  obtain ⟨k, hk⟩ := pure_holds l0 (es0.map fun e => ⟨e.1, e.2⟩) x1 y1
  have := trefoillaw04_DagLong.calls k A0 c0 l0 B0 d0 (es0.map fun e => ⟨e.1, e.2⟩) x1 y1 true w (Kd.C_of_reads (d := (0 : Int)) (h1 := fun _ => rfl) h0.2.1) h0.1 (by rw [List.length_map]; exact edges_C h0.2.2.2.2.2.1 h0.2.2.2.2.1) (by rw [List.length_map]; exact h0.2.2.2.1) hk
  rw [List.length_map] at this
  exact this
end Go.Proofs.Ytjkindoedkjnbaa.PDagLong
