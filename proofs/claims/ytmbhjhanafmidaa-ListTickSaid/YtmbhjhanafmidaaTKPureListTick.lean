/- The law ListTick comes to true. Plain Lean over the printed functions. -/
import Derived.Test.YtmbhjhanafmidaaTKLstLaw
import Derived.Test.YtmbhjhanafmidaaTKMSchC
import Derived.Test.YtmbhjhanafmidaaTKMSchC
import Derived.Test.YtmbhjhanafmidaaTKPListTickx13
set_option linter.unusedVariables false
set_option linter.unusedSimpArgs false
set_option linter.unusedSectionVars false
namespace Go.Proofs.Ytmbhjhanafmidaa.PListTick
open Go.RowKit Go.Proofs.YtmbhjhanafmidaaW.PrintWords Go.Proofs.YtmbhjhanafmidaaW.PrintLast
open Go.Proofs.Ytmbhjhanafmidaa DagPlain SchPlain

theorem ev_use {α β : Type} {g : Nat → Option α} {a : α} (h : Ev g a) {G f : Nat → Option β} {r : β} (hs : ∀ k, g k = some a → G (k + 1) = f k) (hf : Ev f r) : Ev G r := by
  obtain ⟨K, hK⟩ := h
  obtain ⟨K', hK'⟩ := hf
  refine ⟨max K K' + 1, fun k hk => ?_⟩
  obtain ⟨m, rfl⟩ : ∃ m, k = m + 1 := ⟨k - 1, by omega⟩
  rw [hs m (hK m (by omega)), hK' m (by omega)]
theorem ev_use2 {α α' β : Type} {g : Nat → Option α} {a : α} (h : Ev g a) {g' : Nat → Option α'} {a' : α'} (h' : Ev g' a') {G f : Nat → Option β} {r : β} (hs : ∀ k, g k = some a → g' k = some a' → G (k + 1) = f k) (hf : Ev f r) : Ev G r := by
  obtain ⟨K2, hK2⟩ := h'
  obtain ⟨K, hK⟩ := h
  obtain ⟨K', hK'⟩ := hf
  refine ⟨max (max K K2) K' + 1, fun k hk => ?_⟩
  obtain ⟨m, rfl⟩ : ∃ m, k = m + 1 := ⟨k - 1, by omega⟩
  rw [hs m (hK m (by omega)) (hK2 m (by omega)), hK' m (by omega)]
theorem wrap_up {x : Nat} (h : x ≤ 1000000) : wrap64 ((x : Int) + 1) = ((x + 1 : Nat) : Int) := by unfold wrap64; omega
theorem rdn (zs : List Int) (i : Nat) : rd zs (i : Int) = zs.getD i 0 := by unfold rd; rw [Int.toNat_natCast]
theorem has_ev (zs : List Int) (x : Int) (hz : zs.length ≤ 1000) : Ev (fun k => trefoilref04_Has.f k zs x) (zs.contains x) := by
  unfold trefoilref04_Has.f
  have key : ∀ (m i : Nat), i + m = zs.length → Ev (fun k => trefoilref04_Has.l0 k zs x (i : Int)) ((zs.drop i).contains x) := by
    intro m
    induction m with
    | zero =>
      intro i hx
      rw [List.drop_of_length_le (by omega)]
      exact Ev.step (f := fun _ => some false) (fun k => by rw [trefoilref04_Has.l0, if_neg (by omega)]) (Ev.now _)
    | succ m ih =>
      intro i hx
      have r1 : rd zs (i : Int) = zs[i] := by unfold rd; simp [List.getD_eq_getElem?_getD, show i < zs.length by omega]
      rw [List.drop_eq_getElem_cons (by omega), List.contains_cons]
      by_cases hc : zs[i] = x
      · rw [hc, beq_self_eq_true, Bool.true_or]
        exact Ev.step (f := fun _ => some true) (fun k => by rw [trefoilref04_Has.l0, if_pos (by omega), if_pos (by omega), r1, if_pos hc]) (Ev.now _)
      · rw [show (x == zs[i]) = false by simpa using fun e => hc e.symm, Bool.false_or]
        refine Ev.step (fun k => ?_) (ih (i + 1) (by omega))
        rw [trefoilref04_Has.l0, if_pos (by omega), if_pos (by omega), r1, if_neg hc, wrap_up (by omega)]
  have := key zs.length 0 (by omega)
  rw [List.drop_zero] at this
  exact this
theorem own_f (l : List Int) (es : List S85) (hl : l.length ≤ 1000) (he : es.length ≤ 1000) : trefoillaw04_Own.f l es = some (l, es) := by
  unfold trefoillaw04_Own.f
  simp only [Option.bind_some, List.length_nil, List.nil_append]
  rw [if_pos (by omega), if_pos (by omega)]
theorem ownc_f (on left : List Int) (hl : on.length ≤ 1000) (he : left.length ≤ 1000) : trefoillaw11_Own.f on left = some (on, left) := by
  unfold trefoillaw11_Own.f
  simp only [Option.bind_some, List.length_nil, List.nil_append]
  rw [if_pos (by omega), if_pos (by omega)]
def fewB (l : List Int) (es : List S85) (on left : List Int) : Bool := decide (l.length ≤ 70 ∧ es.length ≤ 300 ∧ on.length ≤ 12 ∧ left.length ≤ 70)
theorem few_f (l : List Int) (es : List S85) (on left : List Int) : trefoillaw11_few.f l es on left = some (fewB l es on left) := by
  unfold trefoillaw11_few.f trefoillaw04_Few.f fewB
  by_cases h1 : l.length ≤ 70
  · rw [if_pos (by omega), Option.bind_some]
    by_cases h2 : es.length ≤ 300
    · rw [if_pos (show decide ((es.length : Int) ≤ 300) = true from decide_eq_true (by omega))]
      by_cases h3 : on.length ≤ 12
      · rw [if_pos (by omega)]
        exact congrArg some (decide_eq_decide.2 (by omega))
      · rw [if_neg (by omega), decide_eq_false (by omega)]
    · rw [if_neg (by simp; omega), decide_eq_false (by omega)]
  · rw [if_neg (by omega), Option.bind_some, if_neg (by simp), decide_eq_false (by omega)]
def pr (x : S85) : Int × Int := (x.f0, x.f1)
theorem check_f (l : List Int) (es : List S85) (on left : List Int) (hl : l.length ≤ 1000) (he : es.length ≤ 1000) (ho : on.length ≤ 1000) (hlf : left.length ≤ 1000) : list_Check.f l es on left = some (LstPlain.crewR l (es.map pr) on left) := by
  unfold list_Check.f
  rw [if_pos ⟨⟨hl, he⟩, ho, hlf⟩]; rfl
theorem crew_vc {l on left : List Int} {es : List (Int × Int)} (h : LstPlain.crewR l es on left = 0) : LstPlain.VC es on left ∧ (1 ≤ on.length ∧ on.length ≤ 8) ∧ left.length = l.length ∧ DagPlain.checkL l es = 0 := by
  unfold LstPlain.crewR at h
  by_cases hz : DagPlain.checkL l es = 0
  · rw [if_pos hz] at h
    cases hr : LstPlain.rightC l es on left with
    | false => rw [hr, if_neg (by simp)] at h; cases h
    | true => obtain ⟨a, b, c⟩ := LstPlain.vc_of hr; exact ⟨a, b, c, hz⟩
  · rw [if_neg hz] at h; exact absurd h hz
theorem crew_of {l on left : List Int} {es : List (Int × Int)} (hz : DagPlain.checkL l es = 0) (h : LstPlain.VC es on left) (h1 : 1 ≤ on.length ∧ on.length ≤ 8) (h2 : left.length = l.length) : LstPlain.crewR l es on left = 0 := by
  unfold LstPlain.crewR
  rw [if_pos hz, if_pos (LstPlain.vc_right h h1 h2)]
theorem tick_f (l : List Int) (es : List S85) (on left : List Int) (hl : l.length ≤ 1000) (he : es.length ≤ 1000) (ho : on.length ≤ 1000) (hlf : left.length ≤ 1000) : list_Tick.f l es on left = some (LstPlain.tickQ l (es.map pr) on left) := by
  unfold list_Tick.f
  rw [if_pos ⟨⟨hl, he⟩, ho, hlf⟩]; rfl
section
variable (l : List Int) (es : List S85) (on left X Y V : List Int)
/-- What a tick has brought: the crew behind it, and who is done. -/
structure TB (l : List Int) (es : List S85) (on left X Y V : List Int) : Prop where
  hl : l.length ≤ 70
  he : es.length ≤ 300
  ho : on.length ≤ 12
  hf : left.length ≤ 70
  vl : V.length ≤ 1000
  xl : X.length = on.length
  yl : Y.length = left.length
  xs : ∀ i, i < on.length → X.getD i 0 = if on.getD i 0 ≠ -1 ∧ left.getD (on.getD i 0).toNat 0 = 1 then -1 else on.getD i 0
  ys : ∀ i : Nat, i < left.length → Y.getD i 0 = left.getD i 0 - if (i : Int) ∈ on then 1 else 0
  vs : ∀ x, x ∈ V ↔ x ∈ on ∧ x ≠ -1 ∧ left.getD x.toNat 0 = 1
  lo : ∀ i : Nat, i < left.length → 0 ≤ left.getD i 0 ∧ left.getD i 0 ≤ 1000
  on_ : ∀ i, i < on.length → on.getD i 0 ≠ -1 → 0 ≤ on.getD i 0
  ck : LstPlain.crewR l (es.map pr) X Y = 0
variable {l es on left X Y V}
theorem TB.l1 (h : TB l es on left X Y V) : ∀ (m i : Nat), i + m = on.length → Ev (fun k => trefoillaw11_ListTick.l1 k V (i : Int) l es on left X Y) true := by
  intro m
  obtain ⟨hl, he, ho, hf, vl, xl, yl, xs, ys, vs, lo, on_, ck⟩ := h
  induction m with
  | zero =>
    intro i hi
    refine Ev.step (f := fun _ => some true) (fun k => ?_) (Ev.now _)
    rw [trefoillaw11_ListTick.l1, if_neg (by omega), own_f l es (by omega) (by omega), Option.bind_some, ownc_f X Y (by omega) (by omega), Option.bind_some, check_f l es X Y (by omega) (by omega) (by omega) (by omega), Option.bind_some, ck]
    rfl
  | succ m ih =>
    intro i hi
    have hx := xs i (by omega)
    have hn := ih (i + 1) (by omega)
    by_cases h1 : on.getD i 0 = -1
    · rw [if_neg (fun h => h.1 h1)] at hx
      refine Ev.step (fun k => ?_) hn
      rw [trefoillaw11_ListTick.l1, if_pos (by omega), if_neg (by omega), if_pos (by omega), if_pos (by omega), rdn, rdn, hx, if_pos rfl, if_neg (by omega), wrap_up (by omega)]
    · have h0 := on_ i (by omega) h1
      have hm : on.getD i 0 ∈ on := getD_row_mem (by omega) rfl
      have hev := has_ev V (on.getD i 0) vl
      have hv := vs (on.getD i 0)
      by_cases h2 : left.getD (on.getD i 0).toNat 0 = 1
      · rw [if_pos ⟨h1, h2⟩] at hx
        rw [show V.contains (on.getD i 0) = true by simpa using hv.2 ⟨hm, h1, h2⟩] at hev
        refine ev_use hev (fun k hk => ?_) hn
        rw [trefoillaw11_ListTick.l1, if_pos (by omega), if_neg (by omega), if_pos (by omega), if_pos (by omega), rdn, rdn, hx, if_neg (by omega), if_pos rfl, hk, Option.bind_some, if_pos rfl, wrap_up (by omega)]
      · rw [if_neg (fun h => h2 h.2)] at hx
        rw [show V.contains (on.getD i 0) = false by rw [Bool.eq_false_iff]; intro h; exact h2 (hv.1 (by simpa using h)).2.2] at hev
        refine ev_use hev (fun k hk => ?_) hn
        rw [trefoillaw11_ListTick.l1, if_pos (by omega), if_neg (by omega), if_pos (by omega), if_pos (by omega), rdn, rdn, hx, if_pos rfl, if_pos (by omega), hk, Option.bind_some, if_neg (by simp), wrap_up (by omega)]
theorem TB.l0 (h : TB l es on left X Y V) : ∀ (m i : Nat), i + m = left.length → Ev (fun k => trefoillaw11_ListTick.l0 k V (i : Int) l es on left X Y) true := by
  intro m
  have h' := h
  obtain ⟨hl, he, ho, hf, vl, xl, yl, xs, ys, vs, lo, on_, ck⟩ := h'
  induction m with
  | zero =>
    intro i hi
    refine Ev.step (fun k => ?_) (h.l1 on.length 0 (by omega))
    rw [trefoillaw11_ListTick.l0, if_neg (by omega)]
    rfl
  | succ m ih =>
    intro i hi
    have hy := ys i (by omega)
    have hn := ih (i + 1) (by omega)
    have hlo := lo i (by omega)
    have hv := vs (i : Int)
    rw [Int.toNat_natCast] at hv
    have he1 := has_ev on (i : Int) (by omega)
    have he2 := has_ev V (i : Int) vl
    by_cases hm : (i : Int) ∈ on
    · rw [if_pos hm] at hy
      rw [show on.contains (i : Int) = true by simpa using hm] at he1
      have hc : V.contains (i : Int) = (left.getD i 0 == 1) := by
        rw [Bool.eq_iff_iff]
        simp only [List.contains_iff_mem, beq_iff_eq]
        exact ⟨fun h => (hv.1 h).2.2, fun h => hv.2 ⟨hm, by omega, h⟩⟩
      rw [hc] at he2
      refine ev_use2 he1 he2 (fun k hk hk2 => ?_) hn
      rw [trefoillaw11_ListTick.l0, if_pos (by omega), hk, Option.bind_some, if_pos rfl, if_neg (by omega), if_pos (by omega), if_pos (by omega), rdn, rdn, hy, if_pos (by unfold wrap64; omega), hk2, Option.bind_some, if_pos rfl, if_neg (by simp), wrap_up (by omega)]
    · rw [if_neg hm, Int.sub_zero] at hy
      rw [show on.contains (i : Int) = false by simpa using hm] at he1
      rw [show V.contains (i : Int) = false by rw [Bool.eq_false_iff]; intro h; exact hm (hv.1 (by simpa using h)).1] at he2
      refine ev_use2 he1 he2 (fun k hk hk2 => ?_) hn
      rw [trefoillaw11_ListTick.l0, if_pos (by omega), hk, Option.bind_some, if_neg (by simp), if_neg (by omega), if_pos (by omega), if_pos (by omega), rdn, rdn, hy, if_pos (by unfold wrap64; omega), hk2, Option.bind_some, if_neg (by omega), if_neg (by simp), wrap_up (by omega)]
end
theorem j_true (l : List Int) (es : List S85) (on left : List Int) : Ev (fun k => trefoillaw11_ListTick.j0 k true l es on left) true :=
  Ev.step (f := fun _ => some true) (fun k => by rw [trefoillaw11_ListTick.j0, if_pos rfl]; rfl) (Ev.now _)
theorem tb {l on left : List Int} {es : List S85} (hf : l.length ≤ 70 ∧ es.length ≤ 300 ∧ on.length ≤ 12 ∧ left.length ≤ 70) (h : LstPlain.crewR l (es.map pr) on left = 0) : TB l es on left (LstPlain.tickL on left).1 (LstPlain.tickL on left).2.1 (sortL (LstPlain.tickL on left).2.2) := by
  obtain ⟨hv, h1, h2, hz⟩ := crew_vc h
  obtain ⟨l1, l2⟩ := LstPlain.tick_len hv
  have l3 : (LstPlain.tickL on left).2.2.length ≤ on.length := (tickK_len on left on.length).2.2
  exact ⟨hf.1, hf.2.1, hf.2.2.1, hf.2.2.2, by rw [sortL_len]; omega, l1, l2, fun i hi => LstPlain.tick_on hv hi, fun i hi => LstPlain.tick_left hv hi,
    fun x => (mem_sortL (zs := (LstPlain.tickL on left).2.2) (x := x)).trans (LstPlain.tick_out hv), fun i hi => hv.lo _ (getD_mem left i hi), fun i hi hne => (hv.on_ i hi hne).1.1,
    crew_of hz (LstPlain.tick_vc hv) (by omega) (by omega)⟩
theorem run (l : List Int) (es : List S85) (on left : List Int) : ∃ k, trefoillaw11_ListTick.f k l es on left = some true := by
  have h : Ev (fun k => trefoillaw11_ListTick.f k l es on left) true := by
    unfold trefoillaw11_ListTick.f
    simp only [show trefoillaw11_awake.f = some true from rfl, Option.bind_some, if_true, few_f]
    by_cases hf : l.length ≤ 70 ∧ es.length ≤ 300 ∧ on.length ≤ 12 ∧ left.length ≤ 70
    · rw [show fewB l es on left = true from decide_eq_true hf, Bool.not_true]
      by_cases hz : LstPlain.crewR l (es.map pr) on left = 0
      · refine Ev.step (fun k => ?_) ((tb hf hz).l0 left.length 0 (by omega))
        rw [trefoillaw11_ListTick.j0, if_neg (by simp), own_f l es (by omega) (by omega), Option.bind_some, ownc_f on left (by omega) (by omega), Option.bind_some, tick_f l es on left (by omega) (by omega) (by omega) (by omega), Option.bind_some]
        unfold LstPlain.tickQ
        rw [hz, if_pos rfl, if_pos rfl]
        rfl
      · refine Ev.step (f := fun _ => some true) (fun k => ?_) (Ev.now _)
        rw [trefoillaw11_ListTick.j0, if_neg (by simp), own_f l es (by omega) (by omega), Option.bind_some, ownc_f on left (by omega) (by omega), Option.bind_some, tick_f l es on left (by omega) (by omega) (by omega) (by omega), Option.bind_some]
        unfold LstPlain.tickQ
        rw [if_neg hz, if_neg hz]
        rfl
    · rw [show fewB l es on left = false from decide_eq_false hf, Bool.not_false]
      exact j_true l es on left
  obtain ⟨K, hK⟩ := h
  exact ⟨K, hK K (Nat.le_refl _)⟩
theorem edges_C {w : World} {B : Option Addr} {es : List (Int × Int)} (h : EdC w B es) (hm : es.length ≤ maxLen) : Kd.C k85 w B es.length (es.map fun e => ⟨e.1, e.2⟩) := by
  refine ⟨by simp, by unfold maxLen at hm; omega, fun h0 => ?_⟩
  obtain ⟨ad, rfl, hc⟩ := h h0
  refine ⟨ad, rfl, fun j p hp => ?_⟩
  have hj : j < es.length := by
    rcases Nat.lt_or_ge j es.length with h | h
    · exact h
    · rw [List.getElem?_eq_none (by simpa using h)] at hp; cases hp
  rw [List.getElem?_map, List.getElem?_eq_getElem hj] at hp
  simp only [Option.map_some, Option.some.injEq] at hp
  subst hp
  have hd : es.getD j (0, 0) = es[j] := by rw [List.getD_eq_getElem?_getD, List.getElem?_eq_getElem hj]; rfl
  obtain ⟨h1, h2⟩ := hc j hj
  rw [hd] at h1 h2
  refine ⟨[.int .i64 es[j].1, .int .i64 es[j].2], rfl, k85_mk w ⟨es[j].1, es[j].2⟩, fun i u hi => ?_⟩
  match i, hi with
  | 0, hi => simp at hi; subst hi; exact h1
  | 1, hi => simp at hi; subst hi; exact h2
theorem walk (A : Option Addr) (c : Nat) (l : List Int) (B : Option Addr) (d : Nat) (es : List (Int × Int)) (O : Option Addr) (oc : Nat) (on : List Int) (L : Option Addr) (lc : Nat) (left : List Int) (w : World) (h0 : DagIn w A c l B d es) (h1 : CrewIn w O oc on L lc left) :
    Calls Try.prog 6 #[.agg #[.slice A l.length c, .slice B es.length d], .agg #[.slice O on.length oc, .slice L left.length lc]] w fun e w' => e = .returned (.bool true) ∧ Below w.heap.size w w' := by
  obtain ⟨k, hk⟩ := run l (es.map fun e => ⟨e.1, e.2⟩) on left
  have := trefoillaw11_ListTick.calls k A c l B d (es.map fun e => ⟨e.1, e.2⟩) O oc on L lc left true w (Kd.C_of_reads (d := (0 : Int)) (h1 := fun _ => rfl) h0.2.1) h0.1 (by rw [List.length_map]; exact edges_C h0.2.2.2.2.2.1 h0.2.2.2.2.1) (by rw [List.length_map]; exact h0.2.2.2.1) (Kd.C_of_reads (d := (0 : Int)) (h1 := fun _ => rfl) h1.1.2.1) h1.1.1 (Kd.C_of_reads (d := (0 : Int)) (h1 := fun _ => rfl) h1.2.2.1) h1.2.1 hk rfl
  rw [List.length_map] at this
  exact this
end Go.Proofs.Ytmbhjhanafmidaa.PListTick
