/- The law DagOrder comes to true. Plain Lean over the printed function. -/
import Derived.Test.YtjkindoedkjnbaaDagFacts
import Derived.Test.YtjkindoedkjnbaaDagOpen
import Derived.Test.YtjkindoedkjnbaaPDagOrderx10
set_option linter.unusedVariables false
set_option linter.unusedSimpArgs false
namespace Go.Proofs.Ytjkindoedkjnbaa.PDagOrder
open Go.RowKit Go.Proofs.YtjkindoedkjnbaaW.PrintWords
open Go.Proofs.Ytjkindoedkjnbaa DagPlain

def pr (x : S40) : Int × Int := (x.f0, x.f1)
def Inv (n : Nat) (ord : List Int) (i : Nat) (pl : List Int) : Prop :=
  pl.length = n ∧ (∀ j, j < i → pl.getD (ord.getD j 0).toNat 0 = (j : Int) + 1) ∧ ∀ v : Nat, (∀ j, j < i → ord.getD j 0 ≠ (v : Int)) → pl.getD v 0 = 0
theorem wrap_small {x : Int} (h : 0 ≤ x ∧ x ≤ 1000) : wrap64 x = x := by unfold wrap64; omega
theorem l0_run (n : Nat) (l : List Int) (es : List S40) (ord : List Int) (hnd : ord.Nodup) (hin : ∀ x ∈ ord, 0 ≤ x ∧ x < n) (hlen : ord.length ≤ 100) : ∀ (m i : Nat) (pl : List Int), i + m = ord.length → Inv n ord i pl →
    ∃ pl', Inv n ord ord.length pl' ∧ ∀ k, trefoillaw04_DagOrder.l0 (k + m + 1) ord pl (i : Int) l es = trefoillaw04_DagOrder.l1 k ord pl' 0 l es
  | 0, i, pl, hi, hI => by
    obtain rfl : i = ord.length := by omega
    refine ⟨pl, hI, fun k => ?_⟩
    simp only [Nat.add_zero, trefoillaw04_DagOrder.l0]
    rw [if_neg (by omega)]
  | m + 1, i, pl, hi, hI => by
    have hil : i < ord.length := by omega
    have hm := getD_mem ord i hil
    have hb := hin _ hm
    obtain ⟨x, hx⟩ : ∃ x, x = ord.getD i 0 := ⟨_, rfl⟩
    rw [← hx] at hm hb
    have hz : pl.getD x.toNat 0 = 0 := hI.2.2 x.toNat (fun j hj e => by
      have : j = i := nodup_getD hnd (by omega) hil (by rw [e, ← hx]; omega)
      omega)
    have hI2 : Inv n ord (i + 1) (pl.set x.toNat ((i : Int) + 1)) := by
      refine ⟨by rw [List.length_set]; exact hI.1, fun j hj => ?_, fun v hv => ?_⟩
      · rw [getD_set]
        by_cases e : j = i
        · subst e; rw [← hx, if_pos ⟨rfl, by rw [hI.1]; omega⟩]
        · rw [if_neg ?_]
          · exact hI.2.1 j (by omega)
          · rintro ⟨h1, _⟩
            have hbj := hin _ (getD_mem ord j (by omega))
            exact e (nodup_getD hnd (by omega) hil (by rw [← hx]; omega))
      · rw [getD_set, if_neg ?_]
        · exact hI.2.2 v (fun j hj => hv j (by omega))
        · rintro ⟨h1, _⟩
          exact hv i (by omega) (by rw [← hx]; omega)
    obtain ⟨pl', hp, hr⟩ := l0_run n l es ord hnd hin hlen m (i + 1) _ (by omega) hI2
    refine ⟨pl', hp, fun k => ?_⟩
    rw [← hr k, show k + (m + 1) + 1 = (k + m + 1) + 1 by omega]
    conv => lhs; simp only [trefoillaw04_DagOrder.l0]
    have hrd : rd ord (i : Int) = x := by unfold rd; rw [hx]; simp
    rw [hrd, if_pos (by omega), if_pos (by omega), if_neg (by omega), if_neg (by rw [hI.1]; omega), if_pos hb.1, if_pos (by rw [hI.1]; exact hb.2), if_pos (by unfold rd; exact hz), wrap_small (by omega)]
    rfl
theorem l1_run (n : Nat) (l : List Int) (es : List S40) (ord pl : List Int) (hI : Inv n ord ord.length pl) (hg : Good (es.map pr) ord) (hes : es.length ≤ 1000) (hin : ∀ e ∈ es.map pr, (0 ≤ e.1 ∧ e.1 < n) ∧ 0 ≤ e.2 ∧ e.2 < n) (hcov : ∀ b : Int, 0 ≤ b ∧ b < n → b ∈ ord) :
    ∀ (m x : Nat), x + m = es.length → ∀ k, trefoillaw04_DagOrder.l1 (k + m + 1) ord pl (x : Int) l es = some ((ord.length : Int) == (l.length : Int))
  | 0, x, hx, k => by
    simp only [Nat.add_zero, trefoillaw04_DagOrder.l1]
    rw [if_neg (by omega)]
  | m + 1, x, hx, k => by
    have hxl : x < es.length := by omega
    have hr : rd_T40 es (x : Int) = es[x] := by unfold rd_T40; simp [List.getD_eq_getElem?_getD, hxl]
    have hmem : pr es[x] ∈ es.map pr := List.mem_map.2 ⟨_, List.getElem_mem hxl, rfl⟩
    have hft := hin _ hmem
    have hf : 0 ≤ es[x].f0 ∧ es[x].f0 < n := hft.1
    have ht : 0 ≤ es[x].f1 ∧ es[x].f1 < n := hft.2
    clear hft
    obtain ⟨j, hj, hjt⟩ := mem_getD (hcov _ ht)
    obtain ⟨i, hij, hif⟩ := hg.2 j hj _ hmem hjt.symm
    have h1 := hI.2.1 j hj
    have h2 := hI.2.1 i (by omega)
    rw [hjt] at h1
    rw [hif] at h2
    have hlt : ¬ rd pl es[x].f0 ≥ rd pl es[x].f1 := by
      unfold rd
      have h3 : pl.getD es[x].f1.toNat 0 = (j : Int) + 1 := h1
      have h4 : pl.getD es[x].f0.toNat 0 = (i : Int) + 1 := h2
      rw [h3, h4]
      omega
    have ih := l1_run n l es ord pl hI hg hes hin hcov m (x + 1) (by omega) k
    rw [show k + (m + 1) + 1 = (k + m + 1) + 1 by omega]
    rw [trefoillaw04_DagOrder.l1]
    rw [hr, if_pos (by omega), if_pos (by omega), if_pos hf.1, if_pos (by rw [hI.1]; exact hf.2), if_pos ht.1, if_pos (by rw [hI.1]; exact ht.2), if_neg hlt, wrap_small (by omega)]
    exact ih
theorem own_f (l : List Int) (es : List S40) (hl : l.length ≤ 1000) (he : es.length ≤ 1000) : trefoillaw04_Own.f l es = some (l, es) := by
  unfold trefoillaw04_Own.f
  simp only [Option.bind_some, List.length_nil, List.nil_append]
  rw [if_pos (by omega), if_pos (by omega)]
theorem few_f (l : List Int) (es : List S40) : trefoillaw04_Few.f l es = some (decide (l.length ≤ 70 ∧ es.length ≤ 300)) := by
  unfold trefoillaw04_Few.f
  split
  · rw [Option.some.injEq]
    exact decide_eq_decide.2 (by omega)
  · rw [Option.some.injEq]
    exact (decide_eq_false (by omega)).symm
theorem pure_holds (l : List Int) (es : List S40) : ∃ k, trefoillaw04_DagOrder.f k l es = some true := by
  have ha : trefoillaw04_awake.f = some true := rfl
  by_cases hf : l.length ≤ 70 ∧ es.length ≤ 300
  · have hfew : trefoillaw04_Few.f l es = some true := by rw [few_f]; simpa using hf
    have hown := own_f l es (by omega) (by omega)
    have hord : dag_Order.f l es = some (ordL l (es.map pr)) := by unfold dag_Order.f; rw [if_pos ⟨by omega, by omega⟩]; rfl
    have hchk : dag_Check.f l es = some (checkL l (es.map pr)) := by unfold dag_Check.f; rw [if_pos ⟨by omega, by omega⟩]; rfl
    by_cases hz : checkL l (es.map pr) = 0
    · obtain ⟨g1, g2, g3, g4⟩ := ordL_good hz
      obtain ⟨y1, y2, y3, y4, y5⟩ := ordL_yes hz
      have hlt := l0_run l.length l es (ordL l (es.map pr)) g1.1 g3 (by rw [g2]; omega) (ordL l (es.map pr)).length 0 (List.replicate l.length 0) (by omega) ⟨by simp, fun j hj => absurd hj (by omega), fun v _ => by simp [List.getD_eq_getElem?_getD, List.getElem?_replicate]; split <;> rfl⟩
      obtain ⟨pl', hI, hrun⟩ := hlt
      have h1 := l1_run l.length l es (ordL l (es.map pr)) pl' hI g1 (by omega) (oddEs_in y3) g4 es.length 0 (by omega) 0
      refine ⟨((0 + es.length + 1) + (ordL l (es.map pr)).length + 1) + 1, ?_⟩
      unfold trefoillaw04_DagOrder.f
      rw [ha]
      simp only [Option.bind_some]
      rw [if_pos trivial, hfew]
      simp only [Option.bind_some, Bool.not_true, trefoillaw04_DagOrder.j0]
      rw [if_neg (by simp), hown]
      simp only [Option.bind_some]
      rw [hord]
      simp only [Option.bind_some]
      rw [hchk, hz]
      simp only [Option.bind_some]
      rw [if_pos trivial, if_pos (by omega), if_pos (by omega)]
      have h2 := hrun (0 + es.length + 1)
      simp only [Int.toNat_natCast]
      rw [show ((0 : Nat) : Int) = 0 from rfl] at h1 h2
      rw [h2, h1, g2]
      simp
    · have ho : ordL l (es.map pr) = [] := by unfold ordL; rw [if_neg hz]
      refine ⟨1, ?_⟩
      unfold trefoillaw04_DagOrder.f
      rw [ha]
      simp only [Option.bind_some]
      rw [if_pos trivial, hfew]
      simp only [Option.bind_some, Bool.not_true, trefoillaw04_DagOrder.j0]
      rw [if_neg (by simp), hown]
      simp only [Option.bind_some]
      rw [hord, ho]
      simp only [Option.bind_some]
      rw [hchk]
      simp only [Option.bind_some]
      rw [if_neg hz]
      rfl
  · have hfew : trefoillaw04_Few.f l es = some false := by rw [few_f]; simp only [decide_eq_false hf]
    refine ⟨1, ?_⟩
    unfold trefoillaw04_DagOrder.f
    rw [ha]
    simp only [Option.bind_some]
    rw [if_pos trivial, hfew]
    simp only [Option.bind_some, Bool.not_false, trefoillaw04_DagOrder.j0]
    rw [if_pos trivial, ha]
    rfl
/-- The graph as the printed contract reads it. -/
theorem edges_C {w : World} {B : Option Addr} {es : List (Int × Int)} (h : EdC w B es) (hm : es.length ≤ maxLen) : Kd.C k40 w B es.length (es.map fun e => ⟨e.1, e.2⟩) := by
  refine ⟨by simp, by unfold maxLen at hm; omega, fun h0 => ?_⟩
  obtain ⟨ad, rfl, hc⟩ := h h0
  refine ⟨ad, rfl, fun j p hp => ?_⟩
  have hj : j < es.length := by
    rcases Nat.lt_or_ge j es.length with h | h
    · exact h
    · rw [List.getElem?_eq_none (by simpa using h)] at hp; cases hp
  rw [List.getElem?_map, List.getElem?_eq_getElem hj] at hp
  simp only [Option.map_some, Option.some.injEq] at hp
  subst hp
  have hd : es.getD j (0, 0) = es[j] := by rw [List.getD_eq_getElem?_getD, List.getElem?_eq_getElem hj]; rfl
  obtain ⟨h1, h2⟩ := hc j hj
  rw [hd] at h1 h2
  refine ⟨[.int .i64 es[j].1, .int .i64 es[j].2], rfl, k40_mk w ⟨es[j].1, es[j].2⟩, fun i u hi => ?_⟩
  match i, hi with
  | 0, hi => simp at hi; subst hi; exact h1
  | 1, hi => simp at hi; subst hi; exact h2
theorem walk (A : Option Addr) (c : Nat) (l : List Int) (B : Option Addr) (d : Nat) (es : List (Int × Int)) (w : World) (h : DagIn w A c l B d es) :
    Calls Try.prog 5 #[.agg #[.slice A l.length c, .slice B es.length d]] w fun e w' => e = .returned (.bool true) ∧ Below w.heap.size w w' := by
  obtain ⟨h1, h2, h3, h4, h5, h6, h7⟩ := h
  obtain ⟨k, hk⟩ := pure_holds l (es.map fun e => ⟨e.1, e.2⟩)
  have := trefoillaw04_DagOrder.calls k A c l B d (es.map fun e => ⟨e.1, e.2⟩) true w (Kd.C_of_reads (d := (0 : Int)) (h1 := fun _ => rfl) h2) h1 (by rw [List.length_map]; exact edges_C h6 h5) (by rw [List.length_map]; exact h4) hk
  rw [List.length_map] at this
  exact this
end Go.Proofs.Ytjkindoedkjnbaa.PDagOrder
