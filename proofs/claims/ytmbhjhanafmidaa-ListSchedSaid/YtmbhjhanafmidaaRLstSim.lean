/- Layer 11: what a run makes is a schedule of layer 10: it may be, and no core is idle needlessly. Plain facts. -/
import Derived.Test.YtmbhjhanafmidaaRMLstB
import Derived.Test.YtmbhjhanafmidaaRMSchC
import Derived.Test.YtmbhjhanafmidaaRMSchC
set_option linter.unusedVariables false
set_option linter.unusedSimpArgs false
namespace LstPlain
open DagPlain SchPlain Go.Proofs.Ytmbhjhanafmidaa
def stS (es : List (Int × Int)) (s : List Int × List Int) : Nat → List Int × List Int
  | 0 => s
  | k + 1 => stepR es (stS es s k)
theorem stS_shift (es : List (Int × Int)) (s : List Int × List Int) : ∀ k, stS es (stepR es s) k = stS es s (k + 1)
  | 0 => rfl
  | k + 1 => congrArg (stepR es) (stS_shift es s k)
theorem runT_get (es : List (Int × Int)) : ∀ (g : Nat) (s : List Int × List Int) (k : Nat), k < (runT es g s).length → (runT es g s).getD k [] = rowR es (stS es s k) ∧ (stS es s k).2.any posN = true
  | 0, s, k, h => by simp [runT] at h
  | g + 1, s, k, h => by
    cases hp : s.2.any posN with
    | false => rw [runT_stop hp] at h; simp at h
    | true =>
      rw [runT_next hp] at h ⊢
      cases k with
      | zero => exact ⟨rfl, hp⟩
      | succ k =>
        have := runT_get es g (stepR es s) k (by simpa using h)
        rw [stS_shift] at this
        exact this
section
variable {l : List Int} {es : List (Int × Int)} {cores : Nat} {need : List Int}
theorem RI.at {s : List Int × List Int} (h : RI l es cores s) : ∀ k, RI l es cores (stS es s k)
  | 0 => h
  | k + 1 => (RI.at h k).step
theorem runT_end (hz : checkL l es = 0) (hc : 1 ≤ cores) : ∀ (g : Nat) (s : List Int × List Int), RI l es cores s → s.2.sum ≤ g → (stS es s (runT es g s).length).2.any posN = false
  | 0, s, h, hs => by
    have h0 : s.2.sum ≤ 0 := by simpa using hs
    exact sum_zero h.vc.lo h0
  | g + 1, s, h, hs => by
    cases hp : s.2.any posN with
    | false => rw [runT_stop hp]; exact hp
    | true =>
      rw [runT_next hp, List.length_cons, ← stS_shift]
      exact runT_end hz hc g _ h.step (by have := h.less hz hc hp; omega)
structure Sim (need : List Int) (s : List Int × List Int) (t : Seen) (k : Nat) : Prop where
  ran : ∀ n : Nat, n < need.length → t.ran.getD n 0 = need.getD n 0 - s.2.getD n 0
  fin : ∀ n : Nat, n < need.length → (s.2.getD n 0 = 0 → 0 ≤ t.fin.getD n 0 ∧ t.fin.getD n 0 ≤ k) ∧ (s.2.getD n 0 ≠ 0 → t.fin.getD n 0 = -1)
  on_ : ∀ n : Nat, n < need.length → ∀ c, c < s.1.length → s.1.getD c 0 = (n : Int) → t.last.getD n (0, 0) = ((k : Int) - 1, (c : Int))
  run : ∀ n : Nat, n < need.length → 0 < t.ran.getD n 0 → s.2.getD n 0 ≠ 0 → (n : Int) ∈ s.1
theorem sim_free {s : List Int × List Int} {t : Seen} {k : Nat} (h : Sim need s t k) (hin : ∀ e ∈ es, 0 ≤ e.1 ∧ e.1 < need.length) (n : Int) : freeB es t n k = freeC es s.2 n := by
  rw [Bool.eq_iff_iff, free_iff]
  unfold freeB
  rw [Bool.not_eq_true', List.any_eq_false]
  constructor
  · intro hf e he e2
    have := hf e he
    unfold waitE doneB at this
    simp only [Bool.and_eq_true, beq_iff_eq, Bool.not_eq_true', Bool.and_eq_false_iff, decide_eq_false_iff_not, not_and, e2, not_or, Decidable.not_not, true_implies] at this
    have hi := hin e he
    by_cases h0 : s.2.getD e.1.toNat 0 = 0
    · exact h0
    · have := (h.fin e.1.toNat (by omega)).2 h0; omega
  · intro hf e he
    have hi := hin e he
    unfold waitE doneB
    simp only [Bool.and_eq_true, beq_iff_eq, Bool.not_eq_true', Bool.and_eq_false_iff, decide_eq_false_iff_not, not_and, not_or, Decidable.not_not]
    intro e2
    exact (h.fin e.1.toNat (by omega)).1 (hf e he e2)
theorem sim_row {s : List Int × List Int} {t : Seen} {k : Nat} (h : Sim need s t k) (hr : RI l es cores s) (hl : need.length = l.length) (hin : ∀ e ∈ es, 0 ≤ e.1 ∧ e.1 < need.length) : rowE es need t (rowR es s) k = 0 := by
  have hv := fill_vc hr.vc
  have hll := hr.ll
  have hrl : (rowR es s).length = s.1.length := fill_len
  refine rowE_none (fun c hc => ?_)
  unfold badC
  by_cases hx : (rowR es s).getD c 0 = -1
  · rw [hx]; rfl
  · obtain ⟨⟨x0, x1⟩, x2, x3⟩ := hv.on_ c hc hx
    obtain ⟨n, hn⟩ : ∃ n : Nat, (rowR es s).getD c 0 = (n : Int) := ⟨((rowR es s).getD c 0).toNat, by unfold rowR; omega⟩
    have hu := hv.one
    change (rowR es s).getD c 0 < _ at x1
    change s.2.getD ((rowR es s).getD c 0).toNat 0 ≠ 0 at x2
    change freeC es s.2 ((rowR es s).getD c 0) = true at x3
    have hu' : ∀ c', c' < (rowR es s).length → (rowR es s).getD c' 0 = (n : Int) → c' = c := fun c' hc' e => hu c' c hc' hc (by show (rowR es s).getD c' 0 ≠ -1; omega) (e.trans hn.symm)
    rw [hn] at x1 x2 x3
    rw [Int.toNat_natCast] at x2
    have hnl : n < need.length := by omega
    have h1 := h.ran n hnl
    have hlo := hr.vc.lo _ (getD_mem s.2 n (by omega))
    have hone : oneE es need t (rowR es s) k c = 0 := by
      unfold oneE
      rw [hn, if_neg (by omega), if_neg ?_, Int.toNat_natCast, if_neg (by omega), if_neg ?_, if_neg ?_]
      · rintro ⟨-, hf⟩
        rw [sim_free h hin, x3] at hf
        cases hf
      · unfold splitB
        rw [Int.toNat_natCast, Bool.and_eq_true, decide_eq_true_eq]
        rintro ⟨r0, hb⟩
        obtain ⟨c', hc', e'⟩ := mem_getD_row (h.run n hnl r0 x2)
        have e2 : (rowR es s).getD c' 0 = (n : Int) := (fill_old hc' (by rw [e']; omega)).trans e'
        obtain rfl := hu' c' (by omega) e2
        rw [h.on_ n hnl c' hc' e'] at hb
        simp at hb
      · intro hm
        rw [List.contains_iff_mem] at hm
        obtain ⟨c', hc', e⟩ := List.mem_take_iff_getElem.1 hm
        have := hu' c' (by omega) (by rw [List.getD_eq_getElem?_getD, List.getElem?_eq_getElem (by omega)]; exact e)
        omega
    rw [hone]
    simp
theorem sim_next {s : List Int × List Int} {t : Seen} {k : Nat} (h : Sim need s t k) (hr : RI l es cores s) (hl : need.length = l.length) (hin : ∀ e ∈ es, 0 ≤ e.1 ∧ e.1 < need.length) (hls : LenS t need.length) : Sim need (stepR es s) (runRow need t (rowR es s) k) (k + 1) := by
  have hv := fill_vc hr.vc
  have hll := hr.ll
  have hrl : (rowR es s).length = s.1.length := fill_len
  have hok := row_ok (sim_row h hr hl hin)
  have ht : (stepR es s).1.length = (rowR es s).length := (tick_len hv).1
  have hleft : ∀ n : Nat, n < need.length → (stepR es s).2.getD n 0 = s.2.getD n 0 - if (n : Int) ∈ rowR es s then 1 else 0 := fun n hn => tick_left hv (by omega)
  have hon : ∀ c, c < (rowR es s).length → (stepR es s).1.getD c 0 = if (rowR es s).getD c 0 ≠ -1 ∧ s.2.getD ((rowR es s).getD c 0).toNat 0 = 1 then -1 else (rowR es s).getD c 0 := fun c hc => tick_on hv hc
  have hon' : ∀ (n c : Nat), c < (rowR es s).length → (stepR es s).1.getD c 0 = (n : Int) → (rowR es s).getD c 0 = (n : Int) := fun n c hc e => by
    rw [hon c hc] at e
    split at e
    · omega
    · exact e
  have hat : ∀ n : Nat, n < need.length → (n : Int) ∈ rowR es s → ∀ c, c < (rowR es s).length → (rowR es s).getD c 0 = (n : Int) → (runRow need t (rowR es s) k).ran.getD n 0 = t.ran.getD n 0 + 1 ∧ (runRow need t (rowR es s) k).last.getD n (0, 0) = ((k : Int), (c : Int)) ∧ (runRow need t (rowR es s) k).fin.getD n 0 = if t.ran.getD n 0 + 1 = need.getD n 0 then (k : Int) + 1 else t.fin.getD n 0 := fun n hn hm c hc e => by
    have := row_at hok hls hn hc e
    unfold At at this
    simp only [Prod.mk.injEq] at this
    exact this
  have hfar : ∀ n : Nat, (n : Int) ∉ rowR es s → (runRow need t (rowR es s) k).ran.getD n 0 = t.ran.getD n 0 ∧ (runRow need t (rowR es s) k).last.getD n (0, 0) = t.last.getD n (0, 0) ∧ (runRow need t (rowR es s) k).fin.getD n 0 = t.fin.getD n 0 := fun n hm => by
    have := row_far hok hm
    unfold At at this
    simp only [Prod.mk.injEq] at this
    exact this
  have hnz : ∀ n : Nat, n < need.length → (n : Int) ∈ rowR es s → s.2.getD n 0 ≠ 0 := fun n hn hm => by have := (on_pos hv hm).2; omega
  constructor
  · intro n hn
    have h1 := h.ran n hn
    by_cases hm : (n : Int) ∈ rowR es s
    · obtain ⟨c, hc, e⟩ := mem_getD_row hm
      rw [(hat n hn hm c hc e).1, hleft n hn, if_pos hm]; omega
    · rw [(hfar n hm).1, hleft n hn, if_neg hm]; omega
  · intro n hn
    have h1 := h.ran n hn
    have h2 := h.fin n hn
    by_cases hm : (n : Int) ∈ rowR es s
    · obtain ⟨c, hc, e⟩ := mem_getD_row hm
      have h3 := hnz n hn hm
      rw [(hat n hn hm c hc e).2.2, hleft n hn, if_pos hm]
      constructor
      · intro h0; rw [if_pos (by omega)]; omega
      · intro h0; rw [if_neg (by omega)]; exact h2.2 h3
    · rw [(hfar n hm).2.2, hleft n hn, if_neg hm, Int.sub_zero]
      exact ⟨fun h0 => by have := h2.1 h0; omega, h2.2⟩
  · intro n hn c hc e
    have hc' : c < (rowR es s).length := by omega
    have e2 := hon' n c hc' e
    rw [(hat n hn (getD_row_mem hc' e2) c hc' e2).2.1]
    refine Prod.ext ?_ rfl
    show (k : Int) = ((k + 1 : Nat) : Int) - 1
    omega
  · intro n hn h0 h1
    by_cases hm : (n : Int) ∈ rowR es s
    · obtain ⟨c, hc, e⟩ := mem_getD_row hm
      rw [hleft n hn, if_pos hm] at h1
      refine getD_row_mem (c := c) (by omega) ?_
      rw [hon c hc, e, Int.toNat_natCast, if_neg (by omega)]
    · rw [(hfar n hm).1] at h0
      rw [hleft n hn, if_neg hm] at h1
      obtain ⟨c, hc, e⟩ := mem_getD_row (h.run n hn h0 (by omega))
      exact absurd (fill_mem (h.run n hn h0 (by omega)) (by omega)) hm
theorem sim_lazy {s : List Int × List Int} {t : Seen} {k : Nat} (h : Sim need s t k) (hr : RI l es cores s) (hl : need.length = l.length) (hin : ∀ e ∈ es, 0 ≤ e.1 ∧ e.1 < need.length) (hpos : ∀ n : Nat, n < need.length → 1 ≤ need.getD n 0) {n : Nat} (hn : n < need.length) : lazyN es t (rowR es s) k n = false := by
  rw [Bool.eq_false_iff]
  intro hz
  have hll := hr.ll
  unfold lazyN at hz
  simp only [Bool.and_eq_true, beq_iff_eq, Bool.not_eq_true', List.contains_iff_mem] at hz
  obtain ⟨⟨⟨h0, h1⟩, h2⟩, h3⟩ := hz
  obtain ⟨c, hc, e⟩ := mem_getD_row h1
  have hrl : (rowR es s).length = s.1.length := fill_len
  have hnil := fill_idle (es := es) (on := s.1) (left := s.2) (c := c) (by omega) e
  have h4 := h.ran n hn
  have h5 := hpos n hn
  rw [sim_free h hin] at h3
  have : (n : Int) ∈ readyL es (fillL (readyL es s.1 s.2) s.1) s.2 := mem_ready.2 ⟨⟨by omega, by omega⟩, by rw [Int.toNat_natCast]; omega, (by rw [← List.contains_iff_mem]; exact fun hm => by have e3 := h2.symm.trans hm; cases e3), h3⟩
  rw [hnil] at this
  cases this
theorem sim_zero (N : Nat) (hpos : ∀ n : Nat, n < need.length → 1 ≤ need.getD n 0) : Sim need (List.replicate N (-1), need) (begin_ need.length) 0 := by
  have hf : ∀ n : Nat, n < need.length → (begin_ need.length).fin.getD n 0 = -1 ∧ (begin_ need.length).ran.getD n 0 = 0 := fun n hn => by
    unfold begin_
    simp [List.getD_eq_getElem?_getD, List.getElem?_replicate, hn]
  have hr : ∀ c, c < N → (List.replicate N (-1 : Int)).getD c 0 = -1 := fun c hc => by simp [List.getD_eq_getElem?_getD, List.getElem?_replicate, hc]
  constructor
  · intro n hn
    rw [(hf n hn).2]; show 0 = need.getD n 0 - need.getD n 0; omega
  · intro n hn
    have h1 := hpos n hn
    refine ⟨fun h0 => ?_, fun _ => (hf n hn).1⟩
    change need.getD n 0 = 0 at h0
    omega
  · intro n hn c hc e
    rw [hr c (by simpa using hc)] at e; omega
  · intro n hn h0 _
    rw [(hf n hn).2] at h0; omega
variable {N : Nat} {g : Nat} (hri : RI l es N (List.replicate N (-1), need)) (hl : need.length = l.length) (hin : ∀ e ∈ es, 0 ≤ e.1 ∧ e.1 < need.length) (hpos : ∀ n : Nat, n < need.length → 1 ≤ need.getD n 0)
include hri hl hin hpos
theorem sim_all (k : Nat) : k ≤ (runT es g (List.replicate N (-1), need)).length → Sim need (stS es (List.replicate N (-1), need) k) (stAt need (runT es g (List.replicate N (-1), need)) k) k := by
  induction k with
  | zero => exact fun _ => sim_zero N hpos
  | succ k ih =>
    intro h
    have ih := ih (by omega)
    have hg := (runT_get es g (List.replicate N (-1), need) k (by omega)).1
    show Sim need (stepR es _) (runRow need _ ((runT es g (List.replicate N (-1), need)).getD k []) k) (k + 1)
    rw [hg]
    exact sim_next ih (hri.at k) hl hin (stAt_len need _ k)
theorem sim_ok (k : Nat) (h : k < (runT es g (List.replicate N (-1), need)).length) : rowErr es need (runT es g (List.replicate N (-1), need)) k = 0 := by
  unfold rowErr
  rw [(runT_get es g _ k h).1]
  exact sim_row (sim_all hri hl hin hpos k (by omega)) (hri.at k) hl hin
theorem sim_greedy (k : Nat) (h : k < (runT es g (List.replicate N (-1), need)).length) : greedyAt es need (runT es g (List.replicate N (-1), need)) k = true := by
  unfold greedyAt
  rw [(runT_get es g _ k h).1, Bool.not_eq_true', List.any_eq_false]
  intro n hn
  rw [sim_lazy (sim_all hri hl hin hpos k (by omega)) (hri.at k) hl hin hpos (by simpa using hn)]
  simp
theorem sim_ends (hz : checkL l es = 0) (hc : 1 ≤ N) (hg : need.sum ≤ g) : (∀ n : Nat, n < need.length → 0 ≤ E_ need (runT es g (List.replicate N (-1), need)) n ∧ E_ need (runT es g (List.replicate N (-1), need)) n ≤ (runT es g (List.replicate N (-1), need)).length) ∧
    ((runT es g (List.replicate N (-1), need)).length = 0 ∨ ∃ n, n < need.length ∧ ((runT es g (List.replicate N (-1), need)).length : Int) = E_ need (runT es g (List.replicate N (-1), need)) n) := by
  have hend := runT_end hz hc g _ hri hg
  have hsa := fun k hk => sim_all (g := g) hri hl hin hpos k hk
  have hget := runT_get es g (List.replicate N (-1), need)
  have hok := fun k hk => sim_ok (g := g) hri hl hin hpos k hk
  generalize runT es g (List.replicate N (-1), need) = ts at *
  have hE := hri.at ts.length
  have hzero : ∀ n : Nat, n < need.length → (stS es (List.replicate N (-1), need) ts.length).2.getD n 0 = 0 := fun n hn => by
    have hll := hE.ll
    by_cases h0 : (stS es (List.replicate N (-1), need) ts.length).2.getD n 0 = 0
    · exact h0
    · rw [(any_pos hE.vc.lo).2 ⟨n, by omega, h0⟩] at hend; cases hend
  refine ⟨fun n hn => ((hsa ts.length (Nat.le_refl _)).fin n hn).1 (hzero n hn), ?_⟩
  rcases Nat.eq_zero_or_pos ts.length with h0 | h0
  · exact .inl h0
  · right
    obtain ⟨k, hk⟩ : ∃ k, ts.length = k + 1 := ⟨ts.length - 1, by omega⟩
    obtain ⟨g1, g2⟩ := hget k (by omega)
    have hrk := hri.at k
    have hv := fill_vc hrk.vc
    have hb := some_runs hz hrk.vc hrk.ll (by rw [hrk.on_]; exact hc) ((any_pos hrk.vc.lo).1 g2)
    change 1 ≤ busyRow (rowR es _) at hb
    obtain ⟨x, hx, hne⟩ : ∃ x ∈ rowR es (stS es (List.replicate N (-1), need) k), x ≠ -1 := by
      refine Classical.byContradiction fun hno => ?_
      have : (rowR es (stS es (List.replicate N (-1), need) k)).filter (fun x : Int => x != -1) = [] := List.filter_eq_nil_iff.2 (fun y hy hy2 => hno ⟨y, hy, by simpa using hy2⟩)
      unfold busyRow at hb
      rw [this] at hb
      simp at hb
    obtain ⟨c, hc', e⟩ := mem_getD_row hx
    have hin' := hv.on_ c hc' (by show (rowR es _).getD c 0 ≠ -1; rw [e]; exact hne)
    change (0 ≤ (rowR es _).getD c 0 ∧ (rowR es _).getD c 0 < _) ∧ _ at hin'
    rw [e] at hin'
    have hll := hrk.ll
    obtain ⟨n, rfl⟩ : ∃ n : Nat, x = (n : Int) := ⟨x.toNat, by omega⟩
    have hn : n < need.length := by omega
    refine ⟨n, hn, ?_⟩
    have hrow := row_ok (hok k (by omega))
    rw [g1] at hrow
    have hat := row_at hrow (stAt_len need ts k) hn hc' e
    have hr1 := (hsa ts.length (Nat.le_refl _)).ran n hn
    rw [hzero n hn, hk] at hr1
    have hst : stAt need ts (k + 1) = runRow need (stAt need ts k) (rowR es (stS es (List.replicate N (-1), need) k)) k := by rw [← g1]; rfl
    rw [hst] at hr1
    unfold At at hat
    simp only [Prod.mk.injEq] at hat
    unfold E_
    rw [hk, hst, hat.2.2, if_pos (by omega)]
    omega
end
/-- A whole run, as layer 10 sees it. -/
theorem run_sched {l : List Int} {es : List (Int × Int)} {need : List Int} {c : Int} (h : runE l es need c = 0) (hs : need.sum ≤ 4096) :
    lookR l es need c (runR l es need c) = 0 ∧ greedyL l es need c (runR l es need c) = true ∧ (∀ n : Nat, n < need.length → 0 ≤ E_ need (runR l es need c) n ∧ E_ need (runR l es need c) n ≤ (runR l es need c).length) ∧
    ((runR l es need c).length = 0 ∨ ∃ n, n < need.length ∧ ((runR l es need c).length : Int) = E_ need (runR l es need c) n) ∧ ((runR l es need c).length : Int) ≤ boundL l es need c := by
  obtain ⟨h0, hp⟩ := runE_ok h
  obtain ⟨h1, h2, h3, h4⟩ := look_nil h0
  have hrb := (valid_of h0).rb
  have hr : runR l es need c = runT es need.sum.toNat (List.replicate c.toNat (-1), need) := if_pos h
  have hsn := sum_nonneg need (fun y hy => by have := hp y hy; omega)
  have hri : RI l es c.toNat (List.replicate c.toNat (-1), need) := ⟨vc_new hp c.toNat, by simp, h3⟩
  have hin : ∀ e ∈ es, 0 ≤ e.1 ∧ e.1 < need.length := fun e he => by
    obtain ⟨y1, y2, y3, y4, y5⟩ := ordL_yes h1
    rw [h3]; exact (oddEs_in y3 e he).1
  have hpos : ∀ n : Nat, n < need.length → 1 ≤ need.getD n 0 := fun n hn => (hp _ (getD_mem need n hn)).1
  obtain ⟨-, b2, -, b4⟩ := run_all h
  have hok := fun k hk => sim_ok (g := need.sum.toNat) hri h3 hin hpos k hk
  have hgr := fun k hk => sim_greedy (g := need.sum.toNat) hri h3 hin hpos k hk
  obtain ⟨e1, e2⟩ := sim_ends (g := need.sum.toNat) hri h3 hin hpos h1 (by omega) (by omega)
  rw [← hr] at hok hgr e1 e2
  have hV : Valid l es need c (runR l es need c) := ⟨h1, hrb, by omega, b4, hok⟩
  have hL : lookR l es need c (runR l es need c) = 0 := by
    unfold lookR
    have hf : formB l need c (runR l es need c) = true := by
      unfold formB
      rw [hrb, decide_eq_true (by omega), Bool.true_and, Bool.true_and, Bool.not_eq_true', List.any_eq_false]
      intro r hr2
      simpa using b4 r hr2
    rw [if_neg (by omega), hf, if_neg (by simp)]
    unfold lookE
    rw [find_none (fun j hj => by rw [hok j hj]; rfl)]
  have hG : greedyL l es need c (runR l es need c) = true := by
    unfold greedyL
    rw [decide_eq_true hL, Bool.true_and, List.all_eq_true]
    intro k hk
    exact hgr k (by simpa using hk)
  refine ⟨hL, hG, e1, e2, ?_⟩
  have hg := (graham hV hG (fun n hn => (e1 n hn).1) (last := (runR l es need c).length) (fun n hn => (e1 n hn).2) (e2.imp (fun e => by omega) (fun e => e))).1
  obtain ⟨r1, r2⟩ := right1 ((look_one l es need h2).symm.trans h0)
  rw [bound_at r1 r2 c h2.1 h2.2]
  exact Int.le_ediv_of_mul_le (by omega) (by rw [Int.mul_comm]; exact hg)
end LstPlain
