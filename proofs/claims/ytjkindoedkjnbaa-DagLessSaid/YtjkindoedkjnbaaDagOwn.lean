/- trefoillaw04.Own and Few: a graph of the call's own memory; whether it is small. (From the printed contracts: PDagLessx9.) -/
import Derived.Test.YtjkindoedkjnbaaDagFewer
import Derived.Test.YtjkindoedkjnbaaDagOpen
import Derived.Test.YtjkindoedkjnbaaDagAwake
import Derived.Test.YtjkindoedkjnbaaPDagLessx9
set_option linter.unusedVariables false
set_option linter.unusedSimpArgs false
namespace Go.Proofs.Ytjkindoedkjnbaa
open Go.RowKit Go.Sort
open Go.Proofs.YtjkindoedkjnbaaW.PrintWords
open DagPlain
open PDagLess (S40 k40 rd_T40 at_T40 k40_mk k40_openM)

theorem add_next (ad : Addr) (k : Nat) : (⟨(ad.add k).block, (ad.add k).off + 1, none⟩ : Addr) = ad.add (k + 1) := by
  unfold Addr.add
  by_cases h : k = 0
  · subst h; simp
  · rw [if_neg h, if_neg (by omega)]; simp; omega
theorem EdR.C {w : World} {B : Option Addr} {es : List (Int × Int)} (h : EdR w B es) (hm : es.length ≤ 1000) : Kd.C k40 w B es.length (es.map fun e => ⟨e.1, e.2⟩) := by
  refine ⟨by simp, by omega, fun h0 => ?_⟩
  obtain ⟨ad, rfl, hc⟩ := h h0
  refine ⟨ad, rfl, fun j p hp => ?_⟩
  have hj : j < es.length := by
    rcases Nat.lt_or_ge j es.length with h | h
    · exact h
    · rw [List.getElem?_eq_none (by simpa using h)] at hp; cases hp
  rw [List.getElem?_map, List.getElem?_eq_getElem hj] at hp
  simp only [Option.map_some, Option.some.injEq] at hp
  subst hp
  have hd : es.getD j (0, 0) = es[j] := by rw [List.getD_eq_getElem?_getD, List.getElem?_eq_getElem hj]; rfl
  obtain ⟨h1, h2⟩ := hc j hj
  rw [hd] at h1 h2
  rw [add_next] at h2
  refine ⟨[.int .i64 es[j].1, .int .i64 es[j].2], rfl, k40_mk w ⟨es[j].1, es[j].2⟩, fun i u hi => ?_⟩
  match i, hi with
  | 0, hi => simp at hi; subst hi; exact h1
  | 1, hi => simp at hi; subst hi; exact h2
theorem EdR.of_C {w : World} {B : Option Addr} {es : List (Int × Int)} (hr : Kd.C k40 w B es.length (es.map fun e => ⟨e.1, e.2⟩)) : EdR w B es := fun h0 => by
  obtain ⟨ad, e, _, _⟩ := at_T40 hr 0 (by omega) (by omega)
  refine ⟨ad, e, fun i hi => ?_⟩
  obtain ⟨ad', e', h1, h2⟩ := at_T40 hr (i : Int) (by omega) (by omega)
  obtain rfl : ad' = ad := Option.some.inj (e'.symm.trans e)
  have hq : es.getD i (0, 0) = ((rd_T40 (es.map fun e => ⟨e.1, e.2⟩) (i : Int)).f0, (rd_T40 (es.map fun e => ⟨e.1, e.2⟩) (i : Int)).f1) := by
    simp [rd_T40, List.getD_eq_getElem?_getD, List.getElem?_map, List.getElem?_eq_getElem hi]
  rw [hq]
  exact ⟨h1, h2⟩
/-- A graph that is read, in w. -/
def GR (w : World) (A : Option Addr) (c : Nat) (l : List Int) (B : Option Addr) (d : Nat) (es : List (Int × Int)) : Prop :=
  (l.length ≤ c ∧ ReadsInt w .i64 A l.length l) ∧ es.length ≤ d ∧ EdR w B es
theorem GR.below {w w' : World} {A : Option Addr} {c : Nat} {l : List Int} {B : Option Addr} {d : Nat} {es : List (Int × Int)} (h : GR w A c l B d es) (hb : Below w.heap.size w w') : GR w' A c l B d es :=
  ⟨⟨h.1.1, h.1.2.below hb⟩, h.2.1, h.2.2.below hb⟩
/-- The edges lie in the call's own block. -/
def EW (base : Nat) (w : World) (B : Option Addr) (d n : Nat) : Prop := ∃ inner, w.ownsRow base 40 2 (.slice B n d) n inner
def OwnPost (w : World) (l : List Int) (es : List (Int × Int)) (e : Ending) (w' : World) : Prop :=
  ∃ A c B d, e = .returned (.agg #[.slice A l.length c, .slice B es.length d]) ∧ GR w' A c l B d es ∧ EW w.heap.size w' B d es.length ∧ (∀ a b, A = some a → B = some b → a.block ≠ b.block) ∧ Below w.heap.size w w'
theorem own_call (A : Option Addr) (c : Nat) (l : List Int) (B : Option Addr) (d : Nat) (es : List (Int × Int)) (w : World) (hg : GR w A c l B d es) (hn : l.length ≤ 1000) (hm : es.length ≤ 1000) :
    Calls Try.prog 13 #[.agg #[.slice A l.length c, .slice B es.length d]] w (OwnPost w l es) := by
  obtain ⟨⟨h1, h2⟩, h3, h4⟩ := hg
  have hf : PDagLess.trefoillaw04_Own.f l (es.map fun e => ⟨e.1, e.2⟩) = some (l, es.map fun e => ⟨e.1, e.2⟩) := by
    unfold PDagLess.trefoillaw04_Own.f
    simp only [Option.bind_some, List.length_nil, List.nil_append]
    rw [if_pos (by omega), if_pos (by rw [List.length_map]; omega)]
  have hp := PDagLess.trefoillaw04_Own.calls A c l B d (es.map fun e => ⟨e.1, e.2⟩) l (es.map fun e => ⟨e.1, e.2⟩) w (Kd.C_of_reads (d := (0 : Int)) (h1 := fun _ => rfl) h2) h1 (by rw [List.length_map]; exact h4.C hm) (by rw [List.length_map]; exact h3) hf
  rw [List.length_map] at hp
  refine hp.mono ?_
  rintro e w' ⟨v0, v1, rfl, r0, r1, hb⟩
  obtain ⟨A', c', rfl, k1, k2⟩ := Kd.R_reads r0
  obtain ⟨B', d', rfl, k3, k4⟩ := Kd.R_reads r1
  obtain ⟨inner, k5⟩ := Kd.R_own r1
  obtain ⟨inner0, k6⟩ := Kd.R_own r0
  rw [List.length_map] at k3 k4 k5 ⊢
  exact ⟨A', c', B', d', rfl, ⟨⟨k1, Kd.reads_of_C (d := (0 : Int)) k2⟩, k3, EdR.of_C k4⟩, ⟨inner, k5⟩, fun a b ha hb he => by
    subst ha hb
    obtain ⟨x, hx⟩ := own_typed k6 a.block rfl
    obtain ⟨y, hy⟩ := own_typed k5 b.block rfl
    rw [he, hy] at hx
    injection hx with hx
    injection hx with _ hx
    exact absurd hx (by decide), hb⟩
theorem few_call (A : Option Addr) (c : Nat) (l : List Int) (B : Option Addr) (d : Nat) (es : List (Int × Int)) (w : World) :
    Calls Try.prog 11 #[.agg #[.slice A l.length c, .slice B es.length d]] w fun e w' => e = .returned (.bool (decide (l.length ≤ 70 ∧ es.length ≤ 300))) ∧ Below w.heap.size w w' := by
  by_cases h1 : l.length ≤ 70
  · by_cases h2 : es.length ≤ 300
    · have h : decide (l.length ≤ 70 ∧ es.length ≤ 300) = true := by simp [h1, h2]
      rw [h]
      go_enter Try.func11, Try.ntmps11
      go_wp2
      go_ret
      exact ⟨by simp <;> omega, (Below.refl _ _).alloc (Nat.le_refl _) _⟩
    · have h : decide (l.length ≤ 70 ∧ es.length ≤ 300) = false := by simp [h2]
      rw [h]
      go_enter Try.func11, Try.ntmps11
      go_wp2
      go_ret
      exact ⟨by simp <;> omega, (Below.refl _ _).alloc (Nat.le_refl _) _⟩
  · have h : decide (l.length ≤ 70 ∧ es.length ≤ 300) = false := by simp [h1]
    rw [h]
    go_enter Try.func11, Try.ntmps11
    go_wp2
    go_ret
    exact ⟨by simp <;> omega, (Below.refl _ _).alloc (Nat.le_refl _) _⟩
end Go.Proofs.Ytjkindoedkjnbaa
