/- The law ListFill comes to true. Plain Lean over the printed functions. -/
import Derived.Test.YtmbhjhanafmidaaFKLstLaw
import Derived.Test.YtmbhjhanafmidaaFKMSchC
import Derived.Test.YtmbhjhanafmidaaFKMSchC
import Derived.Test.YtmbhjhanafmidaaFKPListFillx13
set_option linter.unusedVariables false
set_option linter.unusedSimpArgs false
set_option linter.unusedSectionVars false
namespace Go.Proofs.Ytmbhjhanafmidaa.PListFill
open Go.RowKit Go.Proofs.YtmbhjhanafmidaaW.PrintWords Go.Proofs.YtmbhjhanafmidaaW.PrintLast
open Go.Proofs.Ytmbhjhanafmidaa DagPlain SchPlain

theorem ev_use {α β : Type} {g : Nat → Option α} {a : α} (h : Ev g a) {G f : Nat → Option β} {r : β} (hs : ∀ k, g k = some a → G (k + 1) = f k) (hf : Ev f r) : Ev G r := by
  obtain ⟨K, hK⟩ := h
  obtain ⟨K', hK'⟩ := hf
  refine ⟨max K K' + 1, fun k hk => ?_⟩
  obtain ⟨m, rfl⟩ : ∃ m, k = m + 1 := ⟨k - 1, by omega⟩
  rw [hs m (hK m (by omega)), hK' m (by omega)]
theorem ev_use2 {α α' β : Type} {g : Nat → Option α} {a : α} (h : Ev g a) {g' : Nat → Option α'} {a' : α'} (h' : Ev g' a') {G f : Nat → Option β} {r : β} (hs : ∀ k, g k = some a → g' k = some a' → G (k + 1) = f k) (hf : Ev f r) : Ev G r := by
  obtain ⟨K2, hK2⟩ := h'
  obtain ⟨K, hK⟩ := h
  obtain ⟨K', hK'⟩ := hf
  refine ⟨max (max K K2) K' + 1, fun k hk => ?_⟩
  obtain ⟨m, rfl⟩ : ∃ m, k = m + 1 := ⟨k - 1, by omega⟩
  rw [hs m (hK m (by omega)) (hK2 m (by omega)), hK' m (by omega)]
theorem wrap_up {x : Nat} (h : x ≤ 1000000) : wrap64 ((x : Int) + 1) = ((x + 1 : Nat) : Int) := by unfold wrap64; omega
theorem rdn (zs : List Int) (i : Nat) : rd zs (i : Int) = zs.getD i 0 := by unfold rd; rw [Int.toNat_natCast]
theorem has_ev (zs : List Int) (x : Int) (hz : zs.length ≤ 1000) : Ev (fun k => trefoilref04_Has.f k zs x) (zs.contains x) := by
  unfold trefoilref04_Has.f
  have key : ∀ (m i : Nat), i + m = zs.length → Ev (fun k => trefoilref04_Has.l0 k zs x (i : Int)) ((zs.drop i).contains x) := by
    intro m
    induction m with
    | zero =>
      intro i hx
      rw [List.drop_of_length_le (by omega)]
      exact Ev.step (f := fun _ => some false) (fun k => by rw [trefoilref04_Has.l0, if_neg (by omega)]) (Ev.now _)
    | succ m ih =>
      intro i hx
      have r1 : rd zs (i : Int) = zs[i] := by unfold rd; simp [List.getD_eq_getElem?_getD, show i < zs.length by omega]
      rw [List.drop_eq_getElem_cons (by omega), List.contains_cons]
      by_cases hc : zs[i] = x
      · rw [hc, beq_self_eq_true, Bool.true_or]
        exact Ev.step (f := fun _ => some true) (fun k => by rw [trefoilref04_Has.l0, if_pos (by omega), if_pos (by omega), r1, if_pos hc]) (Ev.now _)
      · rw [show (x == zs[i]) = false by simpa using fun e => hc e.symm, Bool.false_or]
        refine Ev.step (fun k => ?_) (ih (i + 1) (by omega))
        rw [trefoilref04_Has.l0, if_pos (by omega), if_pos (by omega), r1, if_neg hc, wrap_up (by omega)]
  have := key zs.length 0 (by omega)
  rw [List.drop_zero] at this
  exact this
theorem own_f (l : List Int) (es : List S85) (hl : l.length ≤ 1000) (he : es.length ≤ 1000) : trefoillaw04_Own.f l es = some (l, es) := by
  unfold trefoillaw04_Own.f
  simp only [Option.bind_some, List.length_nil, List.nil_append]
  rw [if_pos (by omega), if_pos (by omega)]
theorem ownc_f (on left : List Int) (hl : on.length ≤ 1000) (he : left.length ≤ 1000) : trefoillaw11_Own.f on left = some (on, left) := by
  unfold trefoillaw11_Own.f
  simp only [Option.bind_some, List.length_nil, List.nil_append]
  rw [if_pos (by omega), if_pos (by omega)]
def fewB (l : List Int) (es : List S85) (on left : List Int) : Bool := decide (l.length ≤ 70 ∧ es.length ≤ 300 ∧ on.length ≤ 12 ∧ left.length ≤ 70)
theorem few_f (l : List Int) (es : List S85) (on left : List Int) : trefoillaw11_few.f l es on left = some (fewB l es on left) := by
  unfold trefoillaw11_few.f trefoillaw04_Few.f fewB
  by_cases h1 : l.length ≤ 70
  · rw [if_pos (by omega), Option.bind_some]
    by_cases h2 : es.length ≤ 300
    · rw [if_pos (show decide ((es.length : Int) ≤ 300) = true from decide_eq_true (by omega))]
      by_cases h3 : on.length ≤ 12
      · rw [if_pos (by omega)]
        exact congrArg some (decide_eq_decide.2 (by omega))
      · rw [if_neg (by omega), decide_eq_false (by omega)]
    · rw [if_neg (by simp; omega), decide_eq_false (by omega)]
  · rw [if_neg (by omega), Option.bind_some, if_neg (by simp), decide_eq_false (by omega)]
def pr (x : S85) : Int × Int := (x.f0, x.f1)
theorem check_f (l : List Int) (es : List S85) (on left : List Int) (hl : l.length ≤ 1000) (he : es.length ≤ 1000) (ho : on.length ≤ 1000) (hlf : left.length ≤ 1000) : list_Check.f l es on left = some (LstPlain.crewR l (es.map pr) on left) := by
  unfold list_Check.f
  rw [if_pos ⟨⟨hl, he⟩, ho, hlf⟩]; rfl
theorem crew_vc {l on left : List Int} {es : List (Int × Int)} (h : LstPlain.crewR l es on left = 0) : LstPlain.VC es on left ∧ (1 ≤ on.length ∧ on.length ≤ 8) ∧ left.length = l.length ∧ DagPlain.checkL l es = 0 := by
  unfold LstPlain.crewR at h
  by_cases hz : DagPlain.checkL l es = 0
  · rw [if_pos hz] at h
    cases hr : LstPlain.rightC l es on left with
    | false => rw [hr, if_neg (by simp)] at h; cases h
    | true => obtain ⟨a, b, c⟩ := LstPlain.vc_of hr; exact ⟨a, b, c, hz⟩
  · rw [if_neg hz] at h; exact absurd h hz
theorem crew_of {l on left : List Int} {es : List (Int × Int)} (hz : DagPlain.checkL l es = 0) (h : LstPlain.VC es on left) (h1 : 1 ≤ on.length ∧ on.length ≤ 8) (h2 : left.length = l.length) : LstPlain.crewR l es on left = 0 := by
  unfold LstPlain.crewR
  rw [if_pos hz, if_pos (LstPlain.vc_right h h1 h2)]
theorem fill_f (l : List Int) (es : List S85) (on left : List Int) (hl : l.length ≤ 1000) (he : es.length ≤ 1000) (ho : on.length ≤ 1000) (hlf : left.length ≤ 1000) : list_Fill.f l es on left = some (LstPlain.fillR l (es.map pr) on left) := by
  unfold list_Fill.f
  rw [if_pos ⟨⟨hl, he⟩, ho, hlf⟩]; rfl
theorem ready_f (l : List Int) (es : List S85) (on left : List Int) (hl : l.length ≤ 1000) (he : es.length ≤ 1000) (ho : on.length ≤ 1000) (hlf : left.length ≤ 1000) (hc : LstPlain.crewR l (es.map pr) on left = 0) (hin : ∀ x ∈ es, (0 : Int) ≤ x.f0 ∧ x.f0 < (left.length : Int)) :
    list_Ready.f l es on left = some (LstPlain.readyL (es.map pr) on left) := by
  unfold list_Ready.f list_ready.f
  rw [check_f l es on left hl he ho hlf, Option.bind_some, hc, if_pos rfl, if_pos ⟨⟨⟨hl, he⟩, ho, hlf⟩, hin⟩]; rfl
theorem ints_refl (a : List Int) (ha : a.length ≤ 1000) : Ev (fun k => trefoilref02_Ints.f k a a) true := by
  have key : ∀ (m i : Nat), i + m = a.length → Ev (fun k => trefoilref02_Ints.l0 k a a (i : Int)) true := by
    intro m
    induction m with
    | zero => intro i hi; exact Ev.step (f := fun _ => some true) (fun k => by rw [trefoilref02_Ints.l0, if_neg (by omega)]) (Ev.now _)
    | succ m ih =>
      intro i hi
      refine Ev.step (fun k => ?_) (ih (i + 1) (by omega))
      rw [trefoilref02_Ints.l0, if_pos (by omega), if_pos (by omega), if_pos (by omega), if_pos rfl, wrap_up (by omega)]
  refine Ev.congr (fun k => ?_) (key a.length 0 (by omega))
  unfold trefoilref02_Ints.f
  rw [if_pos rfl]; rfl
theorem same_refl (a b : List Int) (ha : a.length ≤ 1000) (hb : b.length ≤ 1000) : Ev (fun k => trefoilref11_Same.f k a b a b) true := by
  unfold trefoilref11_Same.f
  refine Ev.bind (ints_refl a ha) ?_
  simp only [if_true]
  exact Ev.bind (ints_refl b hb) (Ev.now _)
theorem fill_same (r on : List Int) (h : r = [] ∨ ∀ c, c < on.length → on.getD c 0 ≠ -1) : LstPlain.fillL r on = on := by
  have key : ∀ k, k ≤ on.length → fillK r on k = (on, r) := by
    intro k
    induction k with
    | zero => intro _; rfl
    | succ k ih =>
      intro hk
      rw [fillK_next, ih (by omega)]
      unfold LstPlain.fillS
      rcases h with rfl | h
      · split <;> rfl
      · rw [if_neg (h k (by omega))]
  have := key on.length (Nat.le_refl _)
  unfold LstPlain.fillL
  unfold fillK at this
  rw [this]
section
/-- What a fill has brought. -/
structure FB (l : List Int) (es : List S85) (on left X : List Int) : Prop where
  hl : l.length ≤ 70
  he : es.length ≤ 300
  ho : on.length ≤ 12
  hf : left.length ≤ 70
  xl : X.length = on.length
  old : ∀ i, i < on.length → on.getD i 0 ≠ -1 → X.getD i 0 = on.getD i 0
  ck : LstPlain.crewR l (es.map pr) X left = 0
  rd : LstPlain.readyL (es.map pr) X left = [] ∨ ∀ c, c < X.length → X.getD c 0 ≠ -1
  hin : ∀ x ∈ es, (0 : Int) ≤ x.f0 ∧ x.f0 < (left.length : Int)
variable {l on left X : List Int} {es : List S85}
theorem FB.l0 (h : FB l es on left X) : ∀ (m i : Nat), i + m = on.length → Ev (fun k => trefoillaw11_ListFill.l0 k (i : Int) l es on left X left) true := by
  intro m
  obtain ⟨hl, he, ho, hf, xl, old, ck, rdy, hin⟩ := h
  induction m with
  | zero =>
    intro i hi
    have e1 := own_f l es (by omega) (by omega)
    have e2 := ownc_f X left (by omega) (by omega)
    have e3 := fill_f l es X left (by omega) (by omega) (by omega) (by omega)
    have e4 := ready_f l es X left (by omega) (by omega) (by omega) (by omega) ck hin
    have e5 := check_f l es X left (by omega) (by omega) (by omega) (by omega)
    rw [ck] at e5
    have e6 : LstPlain.fillR l (es.map pr) X left = (X, left, 0) := by
      unfold LstPlain.fillR
      rw [ck, if_pos rfl, if_pos rfl, fill_same _ _ rdy]
    rw [e6] at e3
    have i1 := ints_refl left (by omega)
    have i2 := same_refl X left (by omega) (by omega)
    by_cases hr : LstPlain.readyL (es.map pr) X left = []
    · rw [hr] at e4
      refine ev_use2 i1 i2 (f := fun _ => some true) (fun k h1 h2 => ?_) (Ev.now _)
      rw [trefoillaw11_ListFill.l0, if_neg (by omega)]
      simp only [e1, e2, e3, e4, e5, Option.bind_some, List.length_nil, h1, h2, if_true]
      simp
    · have hx : ∀ c, c < X.length → X.getD c 0 ≠ -1 := rdy.resolve_left hr
      have hh := has_ev X (-1) (by omega)
      rw [show X.contains (-1) = false by
        rw [Bool.eq_false_iff]; intro h
        obtain ⟨c, hc, e⟩ := LstPlain.getD_mem_of (show (-1 : Int) ∈ X by simpa using h)
        exact hx c hc e] at hh
      have hlen : ¬ ((LstPlain.readyL (es.map pr) X left).length : Int) = 0 := fun h => hr (List.eq_nil_of_length_eq_zero (by omega))
      refine ev_use2 hh i2 (f := fun k => (trefoilref02_Ints.f k left left).bind fun t => if t = true then some true else some false) (fun k h1 h2 => ?_) (Ev.bind i1 (by simpa using Ev.now true))
      rw [trefoillaw11_ListFill.l0, if_neg (by omega)]
      simp only [e1, e2, e3, e4, e5, Option.bind_some, if_neg hlen, h1, h2, if_true]
      simp
  | succ m ih =>
    intro i hi
    have hn := ih (i + 1) (by omega)
    refine Ev.step (fun k => ?_) hn
    rw [trefoillaw11_ListFill.l0, if_pos (by omega), if_neg (by omega), if_pos (by omega), rdn, rdn]
    by_cases h1 : on.getD i 0 = -1
    · rw [if_pos h1, wrap_up (by omega)]
    · rw [if_neg h1, if_pos (by omega), if_pos (old i (by omega) h1), wrap_up (by omega)]
end
theorem j_true (l : List Int) (es : List S85) (on left : List Int) : Ev (fun k => trefoillaw11_ListFill.j0 k true l es on left) true :=
  Ev.step (f := fun _ => some true) (fun k => by rw [trefoillaw11_ListFill.j0, if_pos rfl]; rfl) (Ev.now _)
theorem edges_in {l : List Int} {es : List S85} (hz : DagPlain.checkL l (es.map pr) = 0) : ∀ x ∈ es, (0 : Int) ≤ x.f0 ∧ x.f0 < (l.length : Int) := fun x hx => by
  obtain ⟨y1, y2, y3, y4, y5⟩ := ordL_yes hz
  exact (oddEs_in y3 (pr x) (List.mem_map_of_mem hx)).1
theorem fb {l on left : List Int} {es : List S85} (hf : l.length ≤ 70 ∧ es.length ≤ 300 ∧ on.length ≤ 12 ∧ left.length ≤ 70) (h : LstPlain.crewR l (es.map pr) on left = 0) : FB l es on left (LstPlain.fillL (LstPlain.readyL (es.map pr) on left) on) := by
  obtain ⟨hv, h1, h2, hz⟩ := crew_vc h
  have xl : (LstPlain.fillL (LstPlain.readyL (es.map pr) on left) on).length = on.length := LstPlain.fill_len
  refine ⟨hf.1, hf.2.1, hf.2.2.1, hf.2.2.2, xl, fun i hi hne => LstPlain.fill_old hi hne, crew_of hz (LstPlain.fill_vc hv) (by omega) h2, ?_, fun x hx => by have := edges_in hz x hx; omega⟩
  by_cases hr : LstPlain.readyL (es.map pr) (LstPlain.fillL (LstPlain.readyL (es.map pr) on left) on) left = []
  · exact .inl hr
  · exact .inr fun c hc e => hr (LstPlain.fill_idle (by omega) e)
theorem run (l : List Int) (es : List S85) (on left : List Int) : ∃ k, trefoillaw11_ListFill.f k l es on left = some true := by
  have h : Ev (fun k => trefoillaw11_ListFill.f k l es on left) true := by
    unfold trefoillaw11_ListFill.f
    simp only [show trefoillaw11_awake.f = some true from rfl, Option.bind_some, if_true, few_f]
    by_cases hf : l.length ≤ 70 ∧ es.length ≤ 300 ∧ on.length ≤ 12 ∧ left.length ≤ 70
    · rw [show fewB l es on left = true from decide_eq_true hf, Bool.not_true]
      by_cases hz : LstPlain.crewR l (es.map pr) on left = 0
      · refine Ev.step (fun k => ?_) ((fb hf hz).l0 on.length 0 (by omega))
        rw [trefoillaw11_ListFill.j0, if_neg (by simp), own_f l es (by omega) (by omega), Option.bind_some, ownc_f on left (by omega) (by omega), Option.bind_some, fill_f l es on left (by omega) (by omega) (by omega) (by omega), Option.bind_some]
        unfold LstPlain.fillR
        rw [hz, if_pos rfl, if_pos rfl]
        rfl
      · refine ev_use (same_refl [] [] (by simp) (by simp)) (f := fun _ => some true) (fun k hk => ?_) (Ev.now _)
        rw [trefoillaw11_ListFill.j0, if_neg (by simp), own_f l es (by omega) (by omega), Option.bind_some, ownc_f on left (by omega) (by omega), Option.bind_some, fill_f l es on left (by omega) (by omega) (by omega) (by omega), Option.bind_some]
        unfold LstPlain.fillR
        rw [if_neg hz, if_neg hz, if_neg hz, hk]
        rfl
    · rw [show fewB l es on left = false from decide_eq_false hf, Bool.not_false]
      exact j_true l es on left
  obtain ⟨K, hK⟩ := h
  exact ⟨K, hK K (Nat.le_refl _)⟩
theorem edges_C {w : World} {B : Option Addr} {es : List (Int × Int)} (h : EdC w B es) (hm : es.length ≤ maxLen) : Kd.C k85 w B es.length (es.map fun e => ⟨e.1, e.2⟩) := by
  refine ⟨by simp, by unfold maxLen at hm; omega, fun h0 => ?_⟩
  obtain ⟨ad, rfl, hc⟩ := h h0
  refine ⟨ad, rfl, fun j p hp => ?_⟩
  have hj : j < es.length := by
    rcases Nat.lt_or_ge j es.length with h | h
    · exact h
    · rw [List.getElem?_eq_none (by simpa using h)] at hp; cases hp
  rw [List.getElem?_map, List.getElem?_eq_getElem hj] at hp
  simp only [Option.map_some, Option.some.injEq] at hp
  subst hp
  have hd : es.getD j (0, 0) = es[j] := by rw [List.getD_eq_getElem?_getD, List.getElem?_eq_getElem hj]; rfl
  obtain ⟨h1, h2⟩ := hc j hj
  rw [hd] at h1 h2
  refine ⟨[.int .i64 es[j].1, .int .i64 es[j].2], rfl, k85_mk w ⟨es[j].1, es[j].2⟩, fun i u hi => ?_⟩
  match i, hi with
  | 0, hi => simp at hi; subst hi; exact h1
  | 1, hi => simp at hi; subst hi; exact h2
theorem walk (A : Option Addr) (c : Nat) (l : List Int) (B : Option Addr) (d : Nat) (es : List (Int × Int)) (O : Option Addr) (oc : Nat) (on : List Int) (L : Option Addr) (lc : Nat) (left : List Int) (w : World) (h0 : DagIn w A c l B d es) (h1 : CrewIn w O oc on L lc left) :
    Calls Try.prog 5 #[.agg #[.slice A l.length c, .slice B es.length d], .agg #[.slice O on.length oc, .slice L left.length lc]] w fun e w' => e = .returned (.bool true) ∧ Below w.heap.size w w' := by
  obtain ⟨k, hk⟩ := run l (es.map fun e => ⟨e.1, e.2⟩) on left
  have := trefoillaw11_ListFill.calls k A c l B d (es.map fun e => ⟨e.1, e.2⟩) O oc on L lc left true w (Kd.C_of_reads (d := (0 : Int)) (h1 := fun _ => rfl) h0.2.1) h0.1 (by rw [List.length_map]; exact edges_C h0.2.2.2.2.2.1 h0.2.2.2.2.1) (by rw [List.length_map]; exact h0.2.2.2.1) (Kd.C_of_reads (d := (0 : Int)) (h1 := fun _ => rfl) h1.1.2.1) h1.1.1 (Kd.C_of_reads (d := (0 : Int)) (h1 := fun _ => rfl) h1.2.2.1) h1.2.1 hk rfl
  rw [List.length_map] at this
  exact this
end Go.Proofs.Ytmbhjhanafmidaa.PListFill
