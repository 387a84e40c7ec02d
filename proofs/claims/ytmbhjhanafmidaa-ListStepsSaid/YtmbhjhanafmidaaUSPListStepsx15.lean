/- Written by a program of this work: each theorem says that a call of the Go function comes to what the Lean function beside it tells, under the conditions that it names; Lean checks it. -/
import Derived.Test.YtmbhjhanafmidaaUSPListStepsx0
import Derived.Test.YtmbhjhanafmidaaUSPListStepsx14
import Derived.Test.YtmbhjhanafmidaaUSZr
namespace Go.Proofs.Ytmbhjhanafmidaa.PListSteps
open Go.Proofs.Ytmbhjhanafmidaa.PAw Go.Proofs.Ytmbhjhanafmidaa.Zr Go.RowKit Go.Proofs.YtmbhjhanafmidaaW.PrintWords Go.Proofs.YtmbhjhanafmidaaW.PrintLast Go.Proofs.YtmbhjhanafmidaaW.PrintMore
attribute [local go_sem] max2_int min2_int max_two min_two max_three min_three max_four min_four   -- for this text's walks alone
set_option linter.unusedVariables false
set_option linter.unusedSimpArgs false
def trefoilref11_Over.l0 : Nat → List Int → Int → List Int → List Int → Option (Bool)
 | 0, _, _, _, _ => none
 | k + 1, x7, x8, x340000, x340001 => if x8 < (x7.length : Int) then (if 0 ≤ x8 then (if 0 ≤ (rd x7 x8) then (if (rd x7 x8) < (x340001.length : Int) then (if (rd x340001 (rd x7 x8)) > 0 then (some false) else (trefoilref11_Over.l0 k x7 (wrap64 (x8 + 1)) x340000 x340001)) else (none)) else (none)) else (none)) else (some true)
def trefoilref11_Over.f (k : Nat) (l0_0 : List Int) (l0_1 : List (S85)) (l1_0 : List Int) (l1_1 : List Int) (a2 : Int) : Option (Bool) := (trefoilref04_Preds.f k l0_0 l0_1 a2).bind fun t340 => (trefoilref11_Over.l0 k t340 0 l1_0 l1_1)
set_option maxHeartbeats 8000000 in
set_option maxRecDepth 100000 in
theorem trefoilref11_Over.calls (k : Nat) (A0_0 : Option Addr) (c0_0 : Nat) (l0_0 : List Int) (A0_1 : Option Addr) (c0_1 : Nat) (l0_1 : List (S85)) (A1_0 : Option Addr) (c1_0 : Nat) (l1_0 : List Int) (A1_1 : Option Addr) (c1_1 : Nat) (l1_1 : List Int) (a2 : Int) (r : Bool) (w : World) (hr0_0 : Kd.C (Kd.int .i64) w A0_0 l0_0.length l0_0) (hc0_0 : l0_0.length ≤ c0_0) (hr0_1 : Kd.C k85 w A0_1 l0_1.length l0_1) (hc0_1 : l0_1.length ≤ c0_1) (hr1_0 : Kd.C (Kd.int .i64) w A1_0 l1_0.length l1_0) (hc1_0 : l1_0.length ≤ c1_0) (hr1_1 : Kd.C (Kd.int .i64) w A1_1 l1_1.length l1_1) (hc1_1 : l1_1.length ≤ c1_1) (h : trefoilref11_Over.f k l0_0 l0_1 l1_0 l1_1 a2 = some r) :
  Calls Try.prog 42 #[.agg #[.slice A0_0 l0_0.length c0_0, .slice A0_1 l0_1.length c0_1], .agg #[.slice A1_0 l1_0.length c1_0, .slice A1_1 l1_1.length c1_1], .int .i64 a2] w fun e w' => e = .returned (.bool r) ∧ Below w.heap.size w w' := by
 have hu25 := Try.underlying25
 have hu27 := Try.underlying27
 have HR0_0 := Z0 hr0_0
 have HC0_0 := Z0 hc0_0
 clear hr0_0 hc0_0
 have HR0_1 := Z0 hr0_1
 have HC0_1 := Z0 hc0_1
 clear hr0_1 hc0_1
 have HR1_0 := Z0 hr1_0
 have HC1_0 := Z0 hc1_0
 clear hr1_0 hc1_0
 have HR1_1 := Z0 hr1_1
 have HC1_1 := Z0 hc1_1
 clear hr1_1 hc1_1
 have HB := Z0 (Below.refl w.heap.size w)
 have H : ((trefoilref04_Preds.f k l0_0 l0_1 a2).bind fun t340 => (trefoilref11_Over.l0 k t340 0 l1_0 l1_1)) = some r := h
 clear h
 replace H := Option.bind_eq_some_iff.mp H
 obtain ⟨t340, A40, H⟩ := H
 have A4 := Z0 A40
 clear A40
 have H' := Z0 H
 clear H
 go_enter Try.func42, Try.ntmps42
 go_wp2_with (first | ((with_reducible refine gate_dst (N := 3) rfl ?_); refine zx (N := 3) #[.slice A0_0 l0_0.length c0_0, .slice A0_1 l0_1.length c0_1] 25 ?_; intro gb338 hg w5 hbox hb; have BK338 := Z0 (hbox); have GW338 := Z0 (zh w hg HB); have GE338 := Z0 (zh w hg HB); replace HB := Z0 (below_step (zb HB) hb); clear hb hbox hg) | ((with_reducible refine gate_dst (N := 4) rfl ?_); refine zx (N := 4) #[.slice A1_0 l1_0.length c1_0, .slice A1_1 l1_1.length c1_1] 27 ?_; intro gb339 hg w6 hbox hb; have BK339 := Z0 (hbox); have GW339 := Z0 (zh w hg HB); have GE339 := Z0 (zh w hg HB); replace HB := Z0 (below_step (zb HB) hb); have NB338_339 := Z0 (zl hg BK338); have NB339_338 := Z0 (zu hg BK338); replace BK338 := Z0 (zkb BK338 hb); clear hb hbox hg; have hnb7 := NB338_339.out; have hnc7 := NB339_338.out; have hcz8_0 := kz0 BK338; have hcz8_1 := kz1 BK338; have hfz8_0 := blk_frozen BK338.out 0; have hfz8_1 := blk_frozen BK338.out 1) | (go_at_call 63; (with_reducible refine (trefoilref04_Preds.calls k _ _ l0_0 _ _ l0_1 a2 t340 _ ?side1 ?side2 ?side3 ?side4 A4.out).mono ?_); (case side1 => exact zc (Kd.C_below HR0_0.out HB.out)); (case side2 => exact HC0_0.out); (case side3 => exact zc (Kd.C_below HR0_1.out HB.out)); (case side4 => exact HC0_1.out); rintro e w9 ⟨v341, rfl, ho0, hb⟩; have HO342 := Z0 (rl ho0 (below_size (zb HB))); replace BK338 := Z0 (zkb BK338 hb); replace BK339 := Z0 (zkb BK339 hb); replace HB := Z0 (below_step (zb HB) hb); (try clear hb); (try clear hb2); (try clear hk); (try clear hi); (try clear ho0)))
 repeat (go_quiet (first | ((with_reducible refine gate_dst (N := 3) rfl ?_); refine zx (N := 3) #[.slice A0_0 l0_0.length c0_0, .slice A0_1 l0_1.length c0_1] 25 ?_; intro gb338 hg w5 hbox hb; have BK338 := Z0 (hbox); have GW338 := Z0 (zh w hg HB); have GE338 := Z0 (zh w hg HB); replace HB := Z0 (below_step (zb HB) hb); clear hb hbox hg) | ((with_reducible refine gate_dst (N := 4) rfl ?_); refine zx (N := 4) #[.slice A1_0 l1_0.length c1_0, .slice A1_1 l1_1.length c1_1] 27 ?_; intro gb339 hg w6 hbox hb; have BK339 := Z0 (hbox); have GW339 := Z0 (zh w hg HB); have GE339 := Z0 (zh w hg HB); replace HB := Z0 (below_step (zb HB) hb); have NB338_339 := Z0 (zl hg BK338); have NB339_338 := Z0 (zu hg BK338); replace BK338 := Z0 (zkb BK338 hb); clear hb hbox hg; have hnb7 := NB338_339.out; have hnc7 := NB339_338.out; have hcz8_0 := kz0 BK338; have hcz8_1 := kz1 BK338; have hfz8_0 := blk_frozen BK338.out 0; have hfz8_1 := blk_frozen BK338.out 1) | (go_at_call 63; (with_reducible refine (trefoilref04_Preds.calls k _ _ l0_0 _ _ l0_1 a2 t340 _ ?side1 ?side2 ?side3 ?side4 A4.out).mono ?_); (case side1 => exact zc (Kd.C_below HR0_0.out HB.out)); (case side2 => exact HC0_0.out); (case side3 => exact zc (Kd.C_below HR0_1.out HB.out)); (case side4 => exact HC0_1.out); rintro e w9 ⟨v341, rfl, ho0, hb⟩; have HO342 := Z0 (rl ho0 (below_size (zb HB))); replace BK338 := Z0 (zkb BK338 hb); replace BK339 := Z0 (zkb BK339 hb); replace HB := Z0 (below_step (zb HB) hb); (try clear hb); (try clear hb2); (try clear hk); (try clear hi); (try clear ho0))); try go_wp2_with (first | ((with_reducible refine gate_dst (N := 3) rfl ?_); refine zx (N := 3) #[.slice A0_0 l0_0.length c0_0, .slice A0_1 l0_1.length c0_1] 25 ?_; intro gb338 hg w5 hbox hb; have BK338 := Z0 (hbox); have GW338 := Z0 (zh w hg HB); have GE338 := Z0 (zh w hg HB); replace HB := Z0 (below_step (zb HB) hb); clear hb hbox hg) | ((with_reducible refine gate_dst (N := 4) rfl ?_); refine zx (N := 4) #[.slice A1_0 l1_0.length c1_0, .slice A1_1 l1_1.length c1_1] 27 ?_; intro gb339 hg w6 hbox hb; have BK339 := Z0 (hbox); have GW339 := Z0 (zh w hg HB); have GE339 := Z0 (zh w hg HB); replace HB := Z0 (below_step (zb HB) hb); have NB338_339 := Z0 (zl hg BK338); have NB339_338 := Z0 (zu hg BK338); replace BK338 := Z0 (zkb BK338 hb); clear hb hbox hg; have hnb7 := NB338_339.out; have hnc7 := NB339_338.out; have hcz8_0 := kz0 BK338; have hcz8_1 := kz1 BK338; have hfz8_0 := blk_frozen BK338.out 0; have hfz8_1 := blk_frozen BK338.out 1) | (go_at_call 63; (with_reducible refine (trefoilref04_Preds.calls k _ _ l0_0 _ _ l0_1 a2 t340 _ ?side1 ?side2 ?side3 ?side4 A4.out).mono ?_); (case side1 => exact zc (Kd.C_below HR0_0.out HB.out)); (case side2 => exact HC0_0.out); (case side3 => exact zc (Kd.C_below HR0_1.out HB.out)); (case side4 => exact HC0_1.out); rintro e w9 ⟨v341, rfl, ho0, hb⟩; have HO342 := Z0 (rl ho0 (below_size (zb HB))); replace BK338 := Z0 (zkb BK338 hb); replace BK339 := Z0 (zkb BK339 hb); replace HB := Z0 (below_step (zb HB) hb); (try clear hb); (try clear hb2); (try clear hk); (try clear hi); (try clear ho0))))
 go_loopg [8] k (fun kq v8 w' => ∃ (x8_1 : Int), v8 = .int .i64 x8_1 ∧ Aside0 (trefoilref11_Over.l0 kq t340 x8_1 l1_0 l1_1 = some r) ∧ Aside0 (kq ≤ k) ∧ Aside0 (Kd.R (Kd.int .i64) 3 w' w.heap.size (fun _ => True) v341 t340) ∧ Aside0 (w'.heap[gb338]? = some (.cells #[(.slice A0_0 l0_0.length c0_0), (.slice A0_1 l0_1.length c0_1)] 25 (0, 0))) ∧ Aside0 (w'.heap[gb339]? = some (.cells #[(.slice A1_0 l1_0.length c1_0), (.slice A1_1 l1_1.length c1_1)] 27 (0, 0))) ∧ Aside0 (Below w.heap.size w w'))
 case atStart => exact ⟨(0), zs, H', ⟨Nat.le_refl _⟩, ⟨by (with_reducible repeat (first | apply ra | apply rn | apply rd_)); exact HO342.out⟩, ⟨zk BK338⟩, ⟨zk BK339⟩, ⟨zb HB⟩⟩
 case round =>
  clear H'
  try clear c1
  try clear p2
  try clear c4
  try clear c7
  try clear hcz8_0
  try clear hcz8_1
  try clear hfz8_0
  try clear hfz8_1
  obtain ⟨x8_1, rfl, HA, HK1, HO_7, BK338, BK339, HB⟩ := hrel
  cases gk with
  | zero => exact absurd HA.out (by simp [trefoilref11_Over.l0])
  | succ k1 =>
   have H := HA.out
   clear HA
   simp only [trefoilref11_Over.l0] at H
   by_cases c10 : x8_1 < (t340.length : Int)
   ·rw [if_pos c10] at H
    have c10b0 : decide (x8_1 < (t340.length : Int)) = true := decide_eq_true c10
    clear c10
    by_cases c11 : 0 ≤ x8_1
    ·rw [if_pos c11] at H
     have c11b0 : decide (0 ≤ x8_1) = true := decide_eq_true c11
     clear c11
     by_cases c12 : 0 ≤ (rd t340 x8_1)
     ·rw [if_pos c12] at H
      have c12b0 : decide (0 ≤ (rd t340 x8_1)) = true := decide_eq_true c12
      clear c12
      by_cases c13 : (rd t340 x8_1) < (l1_1.length : Int)
      ·rw [if_pos c13] at H
       have c13b0 : decide ((rd t340 x8_1) < (l1_1.length : Int)) = true := decide_eq_true c13
       clear c13
       by_cases c14 : (rd l1_1 (rd t340 x8_1)) > 0
       ·rw [if_pos c14] at H
        have c14b0 : decide (0 < (rd l1_1 (rd t340 x8_1))) = true := decide_eq_true c14
        clear c14
        obtain rfl := Option.some.inj H
        obtain ⟨Ao15, co15, eo15⟩ := Kd.R_slice HO_7.out
        subst eo15
        have hnb16 := NB339_338.out
        have hnc16 := NB338_339.out
        have hcz17_0 := kz0 BK339
        have hcz17_1 := kz1 BK339
        have hfz17_0 := blk_frozen BK339.out 0
        have hfz17_1 := blk_frozen BK339.out 1
        have p343 : 0 ≤ (x8_1 : Int) := od
        have q343 : x8_1 < (t340.length : Int) := od
        obtain ⟨ad343, e343, hx343_0⟩ := Kd.at_int (rr HO_7.out).2.2 x8_1 p343 q343
        cases e343
        replace p343 := eq_true p343
        replace q343 := eq_true q343
        have p344 : 0 ≤ ((rd t340 x8_1) : Int) := od
        have q344 : (rd t340 x8_1) < (l1_1.length : Int) := od
        obtain ⟨ad344, e344, hx344_0⟩ := Kd.at_int HR1_1.out (rd t340 x8_1) p344 q344
        cases e344
        replace hx344_0 := (HB.out.cell (bl w _ hx344_0)).trans hx344_0
        replace p344 := eq_true p344
        replace q344 := eq_true q344
        go_wp2
        repeat (go_quiet (fail); try go_wp2)
        go_ret
        exact ⟨ze, zb HB⟩
       ·rw [if_neg c14] at H
        have c14b0 : decide (0 < (rd l1_1 (rd t340 x8_1))) = false := decide_eq_false c14
        clear c14
        have H' := Z0 H
        clear H
        obtain ⟨Ao18, co18, eo18⟩ := Kd.R_slice HO_7.out
        subst eo18
        have hnb19 := NB339_338.out
        have hnc19 := NB338_339.out
        have hcz20_0 := kz0 BK339
        have hcz20_1 := kz1 BK339
        have hfz20_0 := blk_frozen BK339.out 0
        have hfz20_1 := blk_frozen BK339.out 1
        have p343 : 0 ≤ (x8_1 : Int) := od
        have q343 : x8_1 < (t340.length : Int) := od
        obtain ⟨ad343, e343, hx343_0⟩ := Kd.at_int (rr HO_7.out).2.2 x8_1 p343 q343
        cases e343
        replace p343 := eq_true p343
        replace q343 := eq_true q343
        have p344 : 0 ≤ ((rd t340 x8_1) : Int) := od
        have q344 : (rd t340 x8_1) < (l1_1.length : Int) := od
        obtain ⟨ad344, e344, hx344_0⟩ := Kd.at_int HR1_1.out (rd t340 x8_1) p344 q344
        cases e344
        replace hx344_0 := (HB.out.cell (bl w _ hx344_0)).trans hx344_0
        replace p344 := eq_true p344
        replace q344 := eq_true q344
        go_wp2
        repeat (go_quiet (fail); try go_wp2)
        go_roundg k1
        case measure => have := HK1.out; omega
        case rel => exact ⟨(wrap64 (x8_1 + 1)), zs, H', ⟨by have := HK1.out; omega⟩, ⟨by (with_reducible repeat (first | apply ra | apply rn | apply rd_)); exact HO_7.out⟩, ⟨zk BK338⟩, ⟨zk BK339⟩, ⟨zb HB⟩⟩
      ·rw [if_neg c13] at H
       exact absurd H (by simp)
     ·rw [if_neg c12] at H
      exact absurd H (by simp)
    ·rw [if_neg c11] at H
     exact absurd H (by simp)
   ·rw [if_neg c10] at H
    have c10b0 : decide (x8_1 < (t340.length : Int)) = false := decide_eq_false c10
    clear c10
    obtain rfl := Option.some.inj H
    obtain ⟨Ao21, co21, eo21⟩ := Kd.R_slice HO_7.out
    subst eo21
    go_wp2
    repeat (go_quiet (fail); try go_wp2)
    go_ret
    exact ⟨ze, zb HB⟩
end Go.Proofs.Ytmbhjhanafmidaa.PListSteps
