/- Written by a program of this work: each theorem says that a call of the Go function comes to what the Lean function beside it tells, under the conditions that it names; Lean checks it. -/
import Derived.Test.YtmbhjhanafmidaaULPListRunsx0
import Derived.Test.YtmbhjhanafmidaaULZr
namespace Go.Proofs.Ytmbhjhanafmidaa.PListRuns
open Go.Proofs.Ytmbhjhanafmidaa.Zr Go.RowKit Go.Proofs.YtmbhjhanafmidaaW.PrintWords Go.Proofs.YtmbhjhanafmidaaW.PrintLast Go.Proofs.YtmbhjhanafmidaaW.PrintMore
attribute [local go_sem] max2_int min2_int max_two min_two max_three min_three max_four min_four   -- for this text's walks alone
set_option linter.unusedVariables false
set_option linter.unusedSimpArgs false
def trefoilref04_Has.l0 : Nat → List Int → Int → Int → Option (Bool)
 | 0, _, _, _ => none
 | k + 1, x0, x1, x5 => if x5 < (x0.length : Int) then (if 0 ≤ x5 then (if (rd x0 x5) = x1 then (some true) else (trefoilref04_Has.l0 k x0 x1 (wrap64 (x5 + 1)))) else (none)) else (some false)
def trefoilref04_Has.f (k : Nat) (l0 : List Int) (a1 : Int) : Option (Bool) := trefoilref04_Has.l0 k l0 a1 0
set_option maxHeartbeats 8000000 in
set_option maxRecDepth 100000 in
theorem trefoilref04_Has.calls (k : Nat) (A0 : Option Addr) (c0 : Nat) (l0 : List Int) (a1 : Int) (r : Bool) (w : World) (hr0 : Kd.C (Kd.int .i64) w A0 l0.length l0) (hc0 : l0.length ≤ c0) (h : trefoilref04_Has.f k l0 a1 = some r) :
  Calls Try.prog 31 #[.slice A0 l0.length c0, .int .i64 a1] w fun e w' => e = .returned (.bool r) ∧ Drawn0 w w' := by
 have HR0 := Z0 hr0
 have HC0 := Z0 hc0
 clear hr0 hc0
 have H : (trefoilref04_Has.l0 k l0 a1 0) = some r := h
 clear h
 have H' := Z0 H
 clear H
 go_enter Try.func31, Try.ntmps31
 go_wp2
 go_loopg [5] k (fun kq v5 w' => ∃ (x5_1 : Int), v5 = .int .i64 x5_1 ∧ Aside0 (trefoilref04_Has.l0 kq l0 a1 x5_1 = some r) ∧ Aside0 (kq ≤ k) ∧ Drawn0 w w')
 case atStart => exact ⟨(0), zs, H', ⟨Nat.le_refl _⟩, by repeat (first | exact Drawn0.refl _ | apply Drawn0.step)⟩
 case round =>
  clear H'
  try clear p2
  obtain ⟨x5_1, rfl, HA, HK1, ⟨m1, rfl⟩⟩ := hrel
  cases gk with
  | zero => exact absurd HA.out (by simp [trefoilref04_Has.l0])
  | succ k1 =>
   have H := HA.out
   clear HA
   simp only [trefoilref04_Has.l0] at H
   by_cases c3 : x5_1 < (l0.length : Int)
   ·rw [if_pos c3] at H
    have c3b0 : decide (x5_1 < (l0.length : Int)) = true := decide_eq_true c3
    clear c3
    by_cases c4 : 0 ≤ x5_1
    ·rw [if_pos c4] at H
     have c4b0 : decide (0 ≤ x5_1) = true := decide_eq_true c4
     clear c4
     by_cases c5 : (rd l0 x5_1) = a1
     ·rw [if_pos c5] at H
      have c5b0 : ((rd l0 x5_1) == a1) = true := beq_iff_eq.mpr c5
      have c5b1 : ((rd l0 x5_1) != a1) = false := bne_eq_false_iff_eq.mpr c5
      clear c5
      obtain rfl := Option.some.inj H
      have p320 : 0 ≤ (x5_1 : Int) := od
      have q320 : x5_1 < (l0.length : Int) := od
      obtain ⟨ad320, e320, hx320_0⟩ := Kd.at_int HR0.out x5_1 p320 q320
      cases e320
      replace p320 := eq_true p320
      replace q320 := eq_true q320
      go_wp2
      go_ret
      exact ⟨by first | rfl | (simp; done) | (simp [*]; done), by repeat (first | exact Drawn0.refl _ | apply Drawn0.step)⟩
     ·rw [if_neg c5] at H
      have c5b0 : ((rd l0 x5_1) == a1) = false := beq_eq_false_iff_ne.mpr c5
      have c5b1 : ((rd l0 x5_1) != a1) = true := bne_iff_ne.mpr c5
      have H' := Z0 H
      clear H
      have p320 : 0 ≤ (x5_1 : Int) := od
      have q320 : x5_1 < (l0.length : Int) := od
      obtain ⟨ad320, e320, hx320_0⟩ := Kd.at_int HR0.out x5_1 p320 q320
      cases e320
      replace p320 := eq_true p320
      replace q320 := eq_true q320
      go_wp2
      go_roundg k1
      case measure => have := HK1.out; omega
      case rel => exact ⟨(wrap64 (x5_1 + 1)), zs, H', ⟨by have := HK1.out; omega⟩, by repeat (first | exact Drawn0.refl _ | apply Drawn0.step)⟩
    ·rw [if_neg c4] at H
     exact absurd H (by simp)
   ·rw [if_neg c3] at H
    have c3b0 : decide (x5_1 < (l0.length : Int)) = false := decide_eq_false c3
    clear c3
    obtain rfl := Option.some.inj H
    go_wp2
    go_ret
    exact ⟨by first | rfl | (simp; done) | (simp [*]; done), by repeat (first | exact Drawn0.refl _ | apply Drawn0.step)⟩
def trefoilref04_Near.l0 : Nat → Int → Int → Int → List Int → List (S85) → Option (Bool)
 | 0, _, _, _, _, _ => none
 | k + 1, x1, x2, x7, x322000, x322001 => if x7 < (x322001.length : Int) then (if 0 ≤ x7 then (if ((rd_T85 x322001 x7).f0) = x1 then (if ((rd_T85 x322001 x7).f1) = x2 then (some true) else (trefoilref04_Near.l0 k x1 x2 (wrap64 (x7 + 1)) x322000 x322001)) else (trefoilref04_Near.l0 k x1 x2 (wrap64 (x7 + 1)) x322000 x322001)) else (none)) else (some false)
def trefoilref04_Near.f (k : Nat) (l0_0 : List Int) (l0_1 : List (S85)) (a1 : Int) (a2 : Int) : Option (Bool) := trefoilref04_Near.l0 k a1 a2 0 l0_0 l0_1
set_option maxHeartbeats 8000000 in
set_option maxRecDepth 100000 in
theorem trefoilref04_Near.calls (k : Nat) (A0_0 : Option Addr) (c0_0 : Nat) (l0_0 : List Int) (A0_1 : Option Addr) (c0_1 : Nat) (l0_1 : List (S85)) (a1 : Int) (a2 : Int) (r : Bool) (w : World) (hr0_0 : Kd.C (Kd.int .i64) w A0_0 l0_0.length l0_0) (hc0_0 : l0_0.length ≤ c0_0) (hr0_1 : Kd.C k85 w A0_1 l0_1.length l0_1) (hc0_1 : l0_1.length ≤ c0_1) (h : trefoilref04_Near.f k l0_0 l0_1 a1 a2 = some r) :
  Calls Try.prog 86 #[.agg #[.slice A0_0 l0_0.length c0_0, .slice A0_1 l0_1.length c0_1], .int .i64 a1, .int .i64 a2] w fun e w' => e = .returned (.bool r) ∧ Below w.heap.size w w' := by
 have hu25 := Try.underlying25
 have HR0_0 := Z0 hr0_0
 have HC0_0 := Z0 hc0_0
 clear hr0_0 hc0_0
 have HR0_1 := Z0 hr0_1
 have HC0_1 := Z0 hc0_1
 clear hr0_1 hc0_1
 have HB := Z0 (Below.refl w.heap.size w)
 have H : (trefoilref04_Near.l0 k a1 a2 0 l0_0 l0_1) = some r := h
 clear h
 have H' := Z0 H
 clear H
 go_enter Try.func86, Try.ntmps86
 go_wp2_with (first | ((with_reducible refine gate_dst (N := 3) rfl ?_); refine zx (N := 3) #[.slice A0_0 l0_0.length c0_0, .slice A0_1 l0_1.length c0_1] 25 ?_; intro gb321 hg w4 hbox hb; have BK321 := Z0 (hbox); have GW321 := Z0 (zh w hg HB); have GE321 := Z0 (zh w hg HB); replace HB := Z0 (below_step (zb HB) hb); clear hb hbox hg))
 go_loopg [7] k (fun kq v7 w' => ∃ (x7_1 : Int), v7 = .int .i64 x7_1 ∧ Aside0 (trefoilref04_Near.l0 kq a1 a2 x7_1 l0_0 l0_1 = some r) ∧ Aside0 (kq ≤ k) ∧ Aside0 (w'.heap[gb321]? = some (.cells #[(.slice A0_0 l0_0.length c0_0), (.slice A0_1 l0_1.length c0_1)] 25 (0, 0))) ∧ Aside0 (Below w.heap.size w w'))
 case atStart => exact ⟨(0), zs, H', ⟨Nat.le_refl _⟩, ⟨zk BK321⟩, ⟨zb HB⟩⟩
 case round =>
  clear H'
  try clear p2
  obtain ⟨x7_1, rfl, HA, HK1, BK321, HB⟩ := hrel
  cases gk with
  | zero => exact absurd HA.out (by simp [trefoilref04_Near.l0])
  | succ k1 =>
   have H := HA.out
   clear HA
   simp only [trefoilref04_Near.l0] at H
   by_cases c5 : x7_1 < (l0_1.length : Int)
   ·rw [if_pos c5] at H
    have c5b0 : decide (x7_1 < (l0_1.length : Int)) = true := decide_eq_true c5
    clear c5
    by_cases c6 : 0 ≤ x7_1
    ·rw [if_pos c6] at H
     have c6b0 : decide (0 ≤ x7_1) = true := decide_eq_true c6
     clear c6
     by_cases c7 : ((rd_T85 l0_1 x7_1).f0) = a1
     ·rw [if_pos c7] at H
      have c7b0 : (((rd_T85 l0_1 x7_1).f0) == a1) = true := beq_iff_eq.mpr c7
      have c7b1 : (((rd_T85 l0_1 x7_1).f0) != a1) = false := bne_eq_false_iff_eq.mpr c7
      clear c7
      by_cases c8 : ((rd_T85 l0_1 x7_1).f1) = a2
      ·rw [if_pos c8] at H
       have c8b0 : (((rd_T85 l0_1 x7_1).f1) == a2) = true := beq_iff_eq.mpr c8
       have c8b1 : (((rd_T85 l0_1 x7_1).f1) != a2) = false := bne_eq_false_iff_eq.mpr c8
       clear c8
       obtain rfl := Option.some.inj H
       have hcz9_0 := kz0 BK321
       have hcz9_1 := kz1 BK321
       have hfz9_0 := blk_frozen BK321.out 0
       have hfz9_1 := blk_frozen BK321.out 1
       have p322 : 0 ≤ (x7_1 : Int) := od
       have q322 : x7_1 < (l0_1.length : Int) := od
       obtain ⟨ad322, e322, hx322_0, hx322_1⟩ := at_T85 HR0_1.out x7_1 p322 q322
       cases e322
       replace hx322_0 := (HB.out.cell (bl w _ hx322_0)).trans hx322_0
       replace hx322_1 := (HB.out.cell (bl w _ hx322_1)).trans hx322_1
       replace p322 := eq_true p322
       replace q322 := eq_true q322
       have p323 : 0 ≤ (x7_1 : Int) := od
       have q323 : x7_1 < (l0_1.length : Int) := od
       obtain ⟨ad323, e323, hx323_0, hx323_1⟩ := at_T85 HR0_1.out x7_1 p323 q323
       obtain rfl : ad322 = ad323 := (by injection e323)
       replace hx323_0 := (HB.out.cell (bl w _ hx323_0)).trans hx323_0
       replace hx323_1 := (HB.out.cell (bl w _ hx323_1)).trans hx323_1
       replace p323 := eq_true p323
       replace q323 := eq_true q323
       go_wp2
       go_ret
       exact ⟨ze, zb HB⟩
      ·rw [if_neg c8] at H
       have c8b0 : (((rd_T85 l0_1 x7_1).f1) == a2) = false := beq_eq_false_iff_ne.mpr c8
       have c8b1 : (((rd_T85 l0_1 x7_1).f1) != a2) = true := bne_iff_ne.mpr c8
       have H' := Z0 H
       clear H
       have hcz10_0 := kz0 BK321
       have hcz10_1 := kz1 BK321
       have hfz10_0 := blk_frozen BK321.out 0
       have hfz10_1 := blk_frozen BK321.out 1
       have p322 : 0 ≤ (x7_1 : Int) := od
       have q322 : x7_1 < (l0_1.length : Int) := od
       obtain ⟨ad322, e322, hx322_0, hx322_1⟩ := at_T85 HR0_1.out x7_1 p322 q322
       cases e322
       replace hx322_0 := (HB.out.cell (bl w _ hx322_0)).trans hx322_0
       replace hx322_1 := (HB.out.cell (bl w _ hx322_1)).trans hx322_1
       replace p322 := eq_true p322
       replace q322 := eq_true q322
       have p323 : 0 ≤ (x7_1 : Int) := od
       have q323 : x7_1 < (l0_1.length : Int) := od
       obtain ⟨ad323, e323, hx323_0, hx323_1⟩ := at_T85 HR0_1.out x7_1 p323 q323
       obtain rfl : ad322 = ad323 := (by injection e323)
       replace hx323_0 := (HB.out.cell (bl w _ hx323_0)).trans hx323_0
       replace hx323_1 := (HB.out.cell (bl w _ hx323_1)).trans hx323_1
       replace p323 := eq_true p323
       replace q323 := eq_true q323
       go_wp2
       go_roundg k1
       case measure => have := HK1.out; omega
       case rel => exact ⟨(wrap64 (x7_1 + 1)), zs, H', ⟨by have := HK1.out; omega⟩, ⟨zk BK321⟩, ⟨zb HB⟩⟩
     ·rw [if_neg c7] at H
      have c7b0 : (((rd_T85 l0_1 x7_1).f0) == a1) = false := beq_eq_false_iff_ne.mpr c7
      have c7b1 : (((rd_T85 l0_1 x7_1).f0) != a1) = true := bne_iff_ne.mpr c7
      have H' := Z0 H
      clear H
      have hcz11_0 := kz0 BK321
      have hcz11_1 := kz1 BK321
      have hfz11_0 := blk_frozen BK321.out 0
      have hfz11_1 := blk_frozen BK321.out 1
      have p322 : 0 ≤ (x7_1 : Int) := od
      have q322 : x7_1 < (l0_1.length : Int) := od
      obtain ⟨ad322, e322, hx322_0, hx322_1⟩ := at_T85 HR0_1.out x7_1 p322 q322
      cases e322
      replace hx322_0 := (HB.out.cell (bl w _ hx322_0)).trans hx322_0
      replace hx322_1 := (HB.out.cell (bl w _ hx322_1)).trans hx322_1
      replace p322 := eq_true p322
      replace q322 := eq_true q322
      go_wp2
      go_roundg k1
      case measure => have := HK1.out; omega
      case rel => exact ⟨(wrap64 (x7_1 + 1)), zs, H', ⟨by have := HK1.out; omega⟩, ⟨zk BK321⟩, ⟨zb HB⟩⟩
    ·rw [if_neg c6] at H
     exact absurd H (by simp)
   ·rw [if_neg c5] at H
    have c5b0 : decide (x7_1 < (l0_1.length : Int)) = false := decide_eq_false c5
    clear c5
    obtain rfl := Option.some.inj H
    have hcz12_0 := kz0 BK321
    have hcz12_1 := kz1 BK321
    have hfz12_0 := blk_frozen BK321.out 0
    have hfz12_1 := blk_frozen BK321.out 1
    go_wp2
    go_ret
    exact ⟨ze, zb HB⟩
def trefoilref04_Preds.l0 : Nat → Int → List Int → Int → List Int → List (S85) → Option (List Int)
 | 0, _, _, _, _, _ => none
 | k + 1, x1, x5, x6, x325000, x325001 => if x6 < (x325000.length : Int) then ((trefoilref04_Near.f k x325000 x325001 x6 x1).bind fun t328 => (if t328 = true then (if x5.length < 17592186044416 then (trefoilref04_Preds.l0 k x1 (x5 ++ [x6]) (wrap64 (x6 + 1)) x325000 x325001) else (none)) else (trefoilref04_Preds.l0 k x1 x5 (wrap64 (x6 + 1)) x325000 x325001))) else (some x5)
def trefoilref04_Preds.f (k : Nat) (l0_0 : List Int) (l0_1 : List (S85)) (a1 : Int) : Option (List Int) := trefoilref04_Preds.l0 k a1 (([] : List Int)) 0 l0_0 l0_1
set_option maxHeartbeats 8000000 in
set_option maxRecDepth 100000 in
theorem trefoilref04_Preds.calls (k : Nat) (A0_0 : Option Addr) (c0_0 : Nat) (l0_0 : List Int) (A0_1 : Option Addr) (c0_1 : Nat) (l0_1 : List (S85)) (a1 : Int) (r : List Int) (w : World) (hr0_0 : Kd.C (Kd.int .i64) w A0_0 l0_0.length l0_0) (hc0_0 : l0_0.length ≤ c0_0) (hr0_1 : Kd.C k85 w A0_1 l0_1.length l0_1) (hc0_1 : l0_1.length ≤ c0_1) (h : trefoilref04_Preds.f k l0_0 l0_1 a1 = some r) :
  Calls Try.prog 63 #[.agg #[.slice A0_0 l0_0.length c0_0, .slice A0_1 l0_1.length c0_1], .int .i64 a1] w fun e w' => ∃ v0_ : Value, e = .returned (v0_) ∧ Kd.R (Kd.int .i64) 3 w' w.heap.size (fun _ => True) v0_ r ∧ Below w.heap.size w w' := by
 have hu25 := Try.underlying25
 have HR0_0 := Z0 hr0_0
 have HC0_0 := Z0 hc0_0
 clear hr0_0 hc0_0
 have HR0_1 := Z0 hr0_1
 have HC0_1 := Z0 hc0_1
 clear hr0_1 hc0_1
 have HB := Z0 (Below.refl w.heap.size w)
 have H : (trefoilref04_Preds.l0 k a1 (([] : List Int)) 0 l0_0 l0_1) = some r := h
 clear h
 obtain ⟨y325, hy325⟩ : ∃ y_ : List Int, y_ = (([] : List Int)) := ⟨_, rfl⟩
 replace H : (trefoilref04_Preds.l0 k a1 y325 0 l0_0 l0_1) = some r := by first | (rw [hy325]; with_reducible exact H) | (have H2_ := (Option.bind_some _ _).symm.trans H; rw [hy325]; with_reducible exact H2_) | (have H2_ := (Option.bind_some _ _).symm.trans H; with_reducible exact H2_) | with_reducible exact H | (rw [hy325]; exact H) | exact H
 have Ny325 := Z0 hy325
 clear hy325
 have H' := Z0 H
 clear H
 go_enter Try.func63, Try.ntmps63
 go_wp2_with (first | ((with_reducible refine gate_dst (N := 2) rfl ?_); refine zx (N := 2) #[.slice A0_0 l0_0.length c0_0, .slice A0_1 l0_1.length c0_1] 25 ?_; intro gb324 hg w3 hbox hb; have BK324 := Z0 (hbox); have GW324 := Z0 (zh w hg HB); have GE324 := Z0 (zh w hg HB); replace HB := Z0 (below_step (zb HB) hb); clear hb hbox hg) | ((with_reducible refine gate_dst (N := 7) rfl ?_); refine zz (N := 7) 3 [] Ny325 (Reps.none _ _) ?_; intro v326 w4 ho5 hb; have HO327 := Z0 (rl ho5 (below_size (zb HB))); replace BK324 := Z0 (zkb BK324 hb); replace HB := Z0 (below_step (zb HB) hb); clear hb ho5))
 go_loopg [5, 6] k (fun kq v5 v6 w' => ∃ (x5_1 : List Int) (x6_1 : Int), v6 = .int .i64 x6_1 ∧ Aside0 (trefoilref04_Preds.l0 kq a1 x5_1 x6_1 l0_0 l0_1 = some r) ∧ Aside0 (kq ≤ k) ∧ Aside0 (Kd.R (Kd.int .i64) 3 w' w.heap.size (fun _ => True) v5 x5_1) ∧ Aside0 (w'.heap[gb324]? = some (.cells #[(.slice A0_0 l0_0.length c0_0), (.slice A0_1 l0_1.length c0_1)] 25 (0, 0))) ∧ Aside0 (Below w.heap.size w w'))
 case atStart => exact ⟨(y325), (0), zs, H', ⟨Nat.le_refl _⟩, ⟨by (with_reducible repeat (first | apply ra | apply rn | apply rd_)); exact HO327.out⟩, ⟨zk BK324⟩, ⟨zb HB⟩⟩
 case round =>
  clear H'
  try clear p2
  obtain ⟨x5_1, x6_1, rfl, HA, HK1, HO_5, BK324, HB⟩ := hrel
  cases gk with
  | zero => exact absurd HA.out (by simp [trefoilref04_Preds.l0])
  | succ k1 =>
   have H := HA.out
   clear HA
   simp only [trefoilref04_Preds.l0] at H
   by_cases c6 : x6_1 < (l0_0.length : Int)
   ·rw [if_pos c6] at H
    have c6b0 : decide (x6_1 < (l0_0.length : Int)) = true := decide_eq_true c6
    clear c6
    replace H := Option.bind_eq_some_iff.mp H
    obtain ⟨t328, A70, H⟩ := H
    have A7 := Z0 A70
    clear A70
    by_cases c8 : t328 = true
    ·subst c8
     rw [if_pos rfl] at H
     by_cases c9 : x5_1.length < 17592186044416
     ·rw [if_pos c9] at H
      have LMc9 := Z0 c9
      clear c9
      obtain ⟨y329, hy329⟩ : ∃ y_ : List Int, y_ = (x5_1 ++ [x6_1]) := ⟨_, rfl⟩
      replace H : (trefoilref04_Preds.l0 k1 a1 y329 (wrap64 (x6_1 + 1)) l0_0 l0_1) = some r := by first | (rw [hy329]; with_reducible exact H) | (have H2_ := (Option.bind_some _ _).symm.trans H; rw [hy329]; with_reducible exact H2_) | (have H2_ := (Option.bind_some _ _).symm.trans H; with_reducible exact H2_) | with_reducible exact H | (rw [hy329]; exact H) | exact H
      have Ny329 := Z0 hy329
      clear hy329
      have H' := Z0 H
      clear H
      have hcz10_0 := kz0 BK324
      have hcz10_1 := kz1 BK324
      have hfz10_0 := blk_frozen BK324.out 0
      have hfz10_1 := blk_frozen BK324.out 1
      go_wp2_with (first | ((with_reducible refine gate_callee (f := 86) rfl ?_); refine goesL_ (some 18) rfl rfl Try.func86 (by kernel_rfl) rfl #[.agg #[.slice A0_0 l0_0.length c0_0, .slice A0_1 l0_1.length c0_1], .int .i64 x6_1, .int .i64 a1] rfl (by (try simp only [List.map_toArray, List.map_cons, List.map_nil]); first | done | rfl | (simp only [List.length_drop, List.length_take]; rfl)) ?_; (with_reducible refine (trefoilref04_Near.calls k1 _ _ l0_0 _ _ l0_1 x6_1 a1 true _ ?side1 ?side2 ?side3 ?side4 A7.out).mono ?_); (case side1 => exact zc (Kd.C_below HR0_0.out HB.out)); (case side2 => exact HC0_0.out); (case side3 => exact zc (Kd.C_below HR0_1.out HB.out)); (case side4 => exact HC0_1.out); rintro e w11 ⟨rfl, hb⟩; refine ⟨_, rfl, ?_⟩; have n0_ := Z0 (rbe (zr HO_5) hb); have n1_ := Z0 (zkb BK324 hb); have n2_ := Z0 (below_step (zb HB) hb); clear HO_5; clear BK324; clear HB; have HO_5 := n0_; have BK324 := n1_; have HB := n2_; clear n0_ n1_ n2_; (try clear hb); (try clear hb2); (try clear hk); (try clear hi)) | ((with_reducible refine gate_builtin (b := .append) (xs := #[.tmp 19, .tmp 21]) rfl ?_); at_builtin; refine Kd.R_append (Kd.int .i64) (w0 := w) w.heap.size rfl (.tmp 19) (.tmp 21) 22 3 (.int .i64 0) 8 rfl Try.underlying22 info3 rfl (by decide) (by omega) u5 x5_1 x6_1 [.int .i64 x6_1] (fun _ => True) (fun _ => False) rfl rfl ?aP (fun _ hk => hk.elim) ?aF ?aO ?aB ?aS ?aL ?_; (case aP => exact rfl); (case aB => exact (zb HB)); (case aF => exact (fun _ _ => trivial)); (case aO => exact (zr HO_5)); (case aS => exact (below_size (zb HB))); (case aL => have := LMc9.out; omega); intro v330 w12 ho hb hg hat; rw [← Ny329.out] at ho; have n0_ := Z0 (blk_grown (g := gb324) (o := .cells #[.slice A0_0 l0_0.length c0_0, .slice A0_1 l0_1.length c0_1] 25 (0, 0)) (zk BK324) hg (Kd.R_ne HO_5.out BK324.out (by decide))); have n1_ := Z0 (hb); have n2_ := Z0 (ho); clear BK324; clear HB; clear HO_5; have BK324 := n0_; have HB := n1_; have HO331 := n2_; clear n0_ n1_ n2_; clear ho hb hg hat))
      go_roundg k1
      case measure => have := HK1.out; omega
      case rel => exact ⟨(y329), (wrap64 (x6_1 + 1)), zs, H', ⟨by have := HK1.out; omega⟩, ⟨by (with_reducible repeat (first | apply ra | apply rn | apply rd_)); exact HO331.out⟩, ⟨zk BK324⟩, ⟨zb HB⟩⟩
     ·rw [if_neg c9] at H
      exact absurd H (by simp)
    ·replace c8 := Bool.eq_false_iff.mpr c8
     subst c8
     rw [if_neg nft] at H
     have H' := Z0 H
     clear H
     have hcz13_0 := kz0 BK324
     have hcz13_1 := kz1 BK324
     have hfz13_0 := blk_frozen BK324.out 0
     have hfz13_1 := blk_frozen BK324.out 1
     go_wp2_with (first | ((with_reducible refine gate_callee (f := 86) rfl ?_); refine goesL_ (some 18) rfl rfl Try.func86 (by kernel_rfl) rfl #[.agg #[.slice A0_0 l0_0.length c0_0, .slice A0_1 l0_1.length c0_1], .int .i64 x6_1, .int .i64 a1] rfl (by (try simp only [List.map_toArray, List.map_cons, List.map_nil]); first | done | rfl | (simp only [List.length_drop, List.length_take]; rfl)) ?_; (with_reducible refine (trefoilref04_Near.calls k1 _ _ l0_0 _ _ l0_1 x6_1 a1 false _ ?side1 ?side2 ?side3 ?side4 A7.out).mono ?_); (case side1 => exact zc (Kd.C_below HR0_0.out HB.out)); (case side2 => exact HC0_0.out); (case side3 => exact zc (Kd.C_below HR0_1.out HB.out)); (case side4 => exact HC0_1.out); rintro e w14 ⟨rfl, hb⟩; refine ⟨_, rfl, ?_⟩; have n0_ := Z0 (rbe (zr HO_5) hb); have n1_ := Z0 (zkb BK324 hb); have n2_ := Z0 (below_step (zb HB) hb); clear HO_5; clear BK324; clear HB; have HO_5 := n0_; have BK324 := n1_; have HB := n2_; clear n0_ n1_ n2_; (try clear hb); (try clear hb2); (try clear hk); (try clear hi)))
     go_roundg k1
     case measure => have := HK1.out; omega
     case rel => exact ⟨(x5_1), (wrap64 (x6_1 + 1)), zs, H', ⟨by have := HK1.out; omega⟩, ⟨by (with_reducible repeat (first | apply ra | apply rn | apply rd_)); exact HO_5.out⟩, ⟨zk BK324⟩, ⟨zb HB⟩⟩
   ·rw [if_neg c6] at H
    have c6b0 : decide (x6_1 < (l0_0.length : Int)) = false := decide_eq_false c6
    clear c6
    obtain rfl := Option.some.inj H
    have hcz15_0 := kz0 BK324
    have hcz15_1 := kz1 BK324
    have hfz15_0 := blk_frozen BK324.out 0
    have hfz15_1 := blk_frozen BK324.out 1
    go_wp2
    go_ret
    exact ⟨_, ze, by (with_reducible repeat (first | apply ra | apply rn | apply rd_)); exact HO_5.out, zb HB⟩
def trefoilref11_Over.l0 : Nat → List Int → Int → List Int → List Int → Option (Bool)
 | 0, _, _, _, _ => none
 | k + 1, x7, x8, x334000, x334001 => if x8 < (x7.length : Int) then (if 0 ≤ x8 then (if 0 ≤ (rd x7 x8) then (if (rd x7 x8) < (x334001.length : Int) then (if (rd x334001 (rd x7 x8)) > 0 then (some false) else (trefoilref11_Over.l0 k x7 (wrap64 (x8 + 1)) x334000 x334001)) else (none)) else (none)) else (none)) else (some true)
def trefoilref11_Over.f (k : Nat) (l0_0 : List Int) (l0_1 : List (S85)) (l1_0 : List Int) (l1_1 : List Int) (a2 : Int) : Option (Bool) := (trefoilref04_Preds.f k l0_0 l0_1 a2).bind fun t334 => (trefoilref11_Over.l0 k t334 0 l1_0 l1_1)
set_option maxHeartbeats 8000000 in
set_option maxRecDepth 100000 in
theorem trefoilref11_Over.calls (k : Nat) (A0_0 : Option Addr) (c0_0 : Nat) (l0_0 : List Int) (A0_1 : Option Addr) (c0_1 : Nat) (l0_1 : List (S85)) (A1_0 : Option Addr) (c1_0 : Nat) (l1_0 : List Int) (A1_1 : Option Addr) (c1_1 : Nat) (l1_1 : List Int) (a2 : Int) (r : Bool) (w : World) (hr0_0 : Kd.C (Kd.int .i64) w A0_0 l0_0.length l0_0) (hc0_0 : l0_0.length ≤ c0_0) (hr0_1 : Kd.C k85 w A0_1 l0_1.length l0_1) (hc0_1 : l0_1.length ≤ c0_1) (hr1_0 : Kd.C (Kd.int .i64) w A1_0 l1_0.length l1_0) (hc1_0 : l1_0.length ≤ c1_0) (hr1_1 : Kd.C (Kd.int .i64) w A1_1 l1_1.length l1_1) (hc1_1 : l1_1.length ≤ c1_1) (h : trefoilref11_Over.f k l0_0 l0_1 l1_0 l1_1 a2 = some r) :
  Calls Try.prog 42 #[.agg #[.slice A0_0 l0_0.length c0_0, .slice A0_1 l0_1.length c0_1], .agg #[.slice A1_0 l1_0.length c1_0, .slice A1_1 l1_1.length c1_1], .int .i64 a2] w fun e w' => e = .returned (.bool r) ∧ Below w.heap.size w w' := by
 have hu25 := Try.underlying25
 have hu27 := Try.underlying27
 have HR0_0 := Z0 hr0_0
 have HC0_0 := Z0 hc0_0
 clear hr0_0 hc0_0
 have HR0_1 := Z0 hr0_1
 have HC0_1 := Z0 hc0_1
 clear hr0_1 hc0_1
 have HR1_0 := Z0 hr1_0
 have HC1_0 := Z0 hc1_0
 clear hr1_0 hc1_0
 have HR1_1 := Z0 hr1_1
 have HC1_1 := Z0 hc1_1
 clear hr1_1 hc1_1
 have HB := Z0 (Below.refl w.heap.size w)
 have H : ((trefoilref04_Preds.f k l0_0 l0_1 a2).bind fun t334 => (trefoilref11_Over.l0 k t334 0 l1_0 l1_1)) = some r := h
 clear h
 replace H := Option.bind_eq_some_iff.mp H
 obtain ⟨t334, A40, H⟩ := H
 have A4 := Z0 A40
 clear A40
 have H' := Z0 H
 clear H
 go_enter Try.func42, Try.ntmps42
 go_wp2_with (first | ((with_reducible refine gate_dst (N := 3) rfl ?_); refine zx (N := 3) #[.slice A0_0 l0_0.length c0_0, .slice A0_1 l0_1.length c0_1] 25 ?_; intro gb332 hg w5 hbox hb; have BK332 := Z0 (hbox); have GW332 := Z0 (zh w hg HB); have GE332 := Z0 (zh w hg HB); replace HB := Z0 (below_step (zb HB) hb); clear hb hbox hg) | ((with_reducible refine gate_dst (N := 4) rfl ?_); refine zx (N := 4) #[.slice A1_0 l1_0.length c1_0, .slice A1_1 l1_1.length c1_1] 27 ?_; intro gb333 hg w6 hbox hb; have BK333 := Z0 (hbox); have GW333 := Z0 (zh w hg HB); have GE333 := Z0 (zh w hg HB); replace HB := Z0 (below_step (zb HB) hb); have NB332_333 := Z0 (zl hg BK332); have NB333_332 := Z0 (zu hg BK332); replace BK332 := Z0 (zkb BK332 hb); clear hb hbox hg; have hnb7 := NB332_333.out; have hnc7 := NB333_332.out; have hcz8_0 := kz0 BK332; have hcz8_1 := kz1 BK332; have hfz8_0 := blk_frozen BK332.out 0; have hfz8_1 := blk_frozen BK332.out 1) | (go_at_call 63; (with_reducible refine (trefoilref04_Preds.calls k _ _ l0_0 _ _ l0_1 a2 t334 _ ?side1 ?side2 ?side3 ?side4 A4.out).mono ?_); (case side1 => exact zc (Kd.C_below HR0_0.out HB.out)); (case side2 => exact HC0_0.out); (case side3 => exact zc (Kd.C_below HR0_1.out HB.out)); (case side4 => exact HC0_1.out); rintro e w9 ⟨v335, rfl, ho0, hb⟩; have HO336 := Z0 (rl ho0 (below_size (zb HB))); replace BK332 := Z0 (zkb BK332 hb); replace BK333 := Z0 (zkb BK333 hb); replace HB := Z0 (below_step (zb HB) hb); (try clear hb); (try clear hb2); (try clear hk); (try clear hi); (try clear ho0)))
 repeat (go_quiet (first | ((with_reducible refine gate_dst (N := 3) rfl ?_); refine zx (N := 3) #[.slice A0_0 l0_0.length c0_0, .slice A0_1 l0_1.length c0_1] 25 ?_; intro gb332 hg w5 hbox hb; have BK332 := Z0 (hbox); have GW332 := Z0 (zh w hg HB); have GE332 := Z0 (zh w hg HB); replace HB := Z0 (below_step (zb HB) hb); clear hb hbox hg) | ((with_reducible refine gate_dst (N := 4) rfl ?_); refine zx (N := 4) #[.slice A1_0 l1_0.length c1_0, .slice A1_1 l1_1.length c1_1] 27 ?_; intro gb333 hg w6 hbox hb; have BK333 := Z0 (hbox); have GW333 := Z0 (zh w hg HB); have GE333 := Z0 (zh w hg HB); replace HB := Z0 (below_step (zb HB) hb); have NB332_333 := Z0 (zl hg BK332); have NB333_332 := Z0 (zu hg BK332); replace BK332 := Z0 (zkb BK332 hb); clear hb hbox hg; have hnb7 := NB332_333.out; have hnc7 := NB333_332.out; have hcz8_0 := kz0 BK332; have hcz8_1 := kz1 BK332; have hfz8_0 := blk_frozen BK332.out 0; have hfz8_1 := blk_frozen BK332.out 1) | (go_at_call 63; (with_reducible refine (trefoilref04_Preds.calls k _ _ l0_0 _ _ l0_1 a2 t334 _ ?side1 ?side2 ?side3 ?side4 A4.out).mono ?_); (case side1 => exact zc (Kd.C_below HR0_0.out HB.out)); (case side2 => exact HC0_0.out); (case side3 => exact zc (Kd.C_below HR0_1.out HB.out)); (case side4 => exact HC0_1.out); rintro e w9 ⟨v335, rfl, ho0, hb⟩; have HO336 := Z0 (rl ho0 (below_size (zb HB))); replace BK332 := Z0 (zkb BK332 hb); replace BK333 := Z0 (zkb BK333 hb); replace HB := Z0 (below_step (zb HB) hb); (try clear hb); (try clear hb2); (try clear hk); (try clear hi); (try clear ho0))); try go_wp2_with (first | ((with_reducible refine gate_dst (N := 3) rfl ?_); refine zx (N := 3) #[.slice A0_0 l0_0.length c0_0, .slice A0_1 l0_1.length c0_1] 25 ?_; intro gb332 hg w5 hbox hb; have BK332 := Z0 (hbox); have GW332 := Z0 (zh w hg HB); have GE332 := Z0 (zh w hg HB); replace HB := Z0 (below_step (zb HB) hb); clear hb hbox hg) | ((with_reducible refine gate_dst (N := 4) rfl ?_); refine zx (N := 4) #[.slice A1_0 l1_0.length c1_0, .slice A1_1 l1_1.length c1_1] 27 ?_; intro gb333 hg w6 hbox hb; have BK333 := Z0 (hbox); have GW333 := Z0 (zh w hg HB); have GE333 := Z0 (zh w hg HB); replace HB := Z0 (below_step (zb HB) hb); have NB332_333 := Z0 (zl hg BK332); have NB333_332 := Z0 (zu hg BK332); replace BK332 := Z0 (zkb BK332 hb); clear hb hbox hg; have hnb7 := NB332_333.out; have hnc7 := NB333_332.out; have hcz8_0 := kz0 BK332; have hcz8_1 := kz1 BK332; have hfz8_0 := blk_frozen BK332.out 0; have hfz8_1 := blk_frozen BK332.out 1) | (go_at_call 63; (with_reducible refine (trefoilref04_Preds.calls k _ _ l0_0 _ _ l0_1 a2 t334 _ ?side1 ?side2 ?side3 ?side4 A4.out).mono ?_); (case side1 => exact zc (Kd.C_below HR0_0.out HB.out)); (case side2 => exact HC0_0.out); (case side3 => exact zc (Kd.C_below HR0_1.out HB.out)); (case side4 => exact HC0_1.out); rintro e w9 ⟨v335, rfl, ho0, hb⟩; have HO336 := Z0 (rl ho0 (below_size (zb HB))); replace BK332 := Z0 (zkb BK332 hb); replace BK333 := Z0 (zkb BK333 hb); replace HB := Z0 (below_step (zb HB) hb); (try clear hb); (try clear hb2); (try clear hk); (try clear hi); (try clear ho0))))
 go_loopg [8] k (fun kq v8 w' => ∃ (x8_1 : Int), v8 = .int .i64 x8_1 ∧ Aside0 (trefoilref11_Over.l0 kq t334 x8_1 l1_0 l1_1 = some r) ∧ Aside0 (kq ≤ k) ∧ Aside0 (Kd.R (Kd.int .i64) 3 w' w.heap.size (fun _ => True) v335 t334) ∧ Aside0 (w'.heap[gb332]? = some (.cells #[(.slice A0_0 l0_0.length c0_0), (.slice A0_1 l0_1.length c0_1)] 25 (0, 0))) ∧ Aside0 (w'.heap[gb333]? = some (.cells #[(.slice A1_0 l1_0.length c1_0), (.slice A1_1 l1_1.length c1_1)] 27 (0, 0))) ∧ Aside0 (Below w.heap.size w w'))
 case atStart => exact ⟨(0), zs, H', ⟨Nat.le_refl _⟩, ⟨by (with_reducible repeat (first | apply ra | apply rn | apply rd_)); exact HO336.out⟩, ⟨zk BK332⟩, ⟨zk BK333⟩, ⟨zb HB⟩⟩
 case round =>
  clear H'
  try clear c1
  try clear p2
  try clear c4
  try clear c7
  try clear hcz8_0
  try clear hcz8_1
  try clear hfz8_0
  try clear hfz8_1
  obtain ⟨x8_1, rfl, HA, HK1, HO_7, BK332, BK333, HB⟩ := hrel
  cases gk with
  | zero => exact absurd HA.out (by simp [trefoilref11_Over.l0])
  | succ k1 =>
   have H := HA.out
   clear HA
   simp only [trefoilref11_Over.l0] at H
   by_cases c10 : x8_1 < (t334.length : Int)
   ·rw [if_pos c10] at H
    have c10b0 : decide (x8_1 < (t334.length : Int)) = true := decide_eq_true c10
    clear c10
    by_cases c11 : 0 ≤ x8_1
    ·rw [if_pos c11] at H
     have c11b0 : decide (0 ≤ x8_1) = true := decide_eq_true c11
     clear c11
     by_cases c12 : 0 ≤ (rd t334 x8_1)
     ·rw [if_pos c12] at H
      have c12b0 : decide (0 ≤ (rd t334 x8_1)) = true := decide_eq_true c12
      clear c12
      by_cases c13 : (rd t334 x8_1) < (l1_1.length : Int)
      ·rw [if_pos c13] at H
       have c13b0 : decide ((rd t334 x8_1) < (l1_1.length : Int)) = true := decide_eq_true c13
       clear c13
       by_cases c14 : (rd l1_1 (rd t334 x8_1)) > 0
       ·rw [if_pos c14] at H
        have c14b0 : decide (0 < (rd l1_1 (rd t334 x8_1))) = true := decide_eq_true c14
        clear c14
        obtain rfl := Option.some.inj H
        obtain ⟨Ao15, co15, eo15⟩ := Kd.R_slice HO_7.out
        subst eo15
        have hnb16 := NB333_332.out
        have hnc16 := NB332_333.out
        have hcz17_0 := kz0 BK333
        have hcz17_1 := kz1 BK333
        have hfz17_0 := blk_frozen BK333.out 0
        have hfz17_1 := blk_frozen BK333.out 1
        have p337 : 0 ≤ (x8_1 : Int) := od
        have q337 : x8_1 < (t334.length : Int) := od
        obtain ⟨ad337, e337, hx337_0⟩ := Kd.at_int (rr HO_7.out).2.2 x8_1 p337 q337
        cases e337
        replace p337 := eq_true p337
        replace q337 := eq_true q337
        have p338 : 0 ≤ ((rd t334 x8_1) : Int) := od
        have q338 : (rd t334 x8_1) < (l1_1.length : Int) := od
        obtain ⟨ad338, e338, hx338_0⟩ := Kd.at_int HR1_1.out (rd t334 x8_1) p338 q338
        cases e338
        replace hx338_0 := (HB.out.cell (bl w _ hx338_0)).trans hx338_0
        replace p338 := eq_true p338
        replace q338 := eq_true q338
        go_wp2
        repeat (go_quiet (fail); try go_wp2)
        go_ret
        exact ⟨ze, zb HB⟩
       ·rw [if_neg c14] at H
        have c14b0 : decide (0 < (rd l1_1 (rd t334 x8_1))) = false := decide_eq_false c14
        clear c14
        have H' := Z0 H
        clear H
        obtain ⟨Ao18, co18, eo18⟩ := Kd.R_slice HO_7.out
        subst eo18
        have hnb19 := NB333_332.out
        have hnc19 := NB332_333.out
        have hcz20_0 := kz0 BK333
        have hcz20_1 := kz1 BK333
        have hfz20_0 := blk_frozen BK333.out 0
        have hfz20_1 := blk_frozen BK333.out 1
        have p337 : 0 ≤ (x8_1 : Int) := od
        have q337 : x8_1 < (t334.length : Int) := od
        obtain ⟨ad337, e337, hx337_0⟩ := Kd.at_int (rr HO_7.out).2.2 x8_1 p337 q337
        cases e337
        replace p337 := eq_true p337
        replace q337 := eq_true q337
        have p338 : 0 ≤ ((rd t334 x8_1) : Int) := od
        have q338 : (rd t334 x8_1) < (l1_1.length : Int) := od
        obtain ⟨ad338, e338, hx338_0⟩ := Kd.at_int HR1_1.out (rd t334 x8_1) p338 q338
        cases e338
        replace hx338_0 := (HB.out.cell (bl w _ hx338_0)).trans hx338_0
        replace p338 := eq_true p338
        replace q338 := eq_true q338
        go_wp2
        repeat (go_quiet (fail); try go_wp2)
        go_roundg k1
        case measure => have := HK1.out; omega
        case rel => exact ⟨(wrap64 (x8_1 + 1)), zs, H', ⟨by have := HK1.out; omega⟩, ⟨by (with_reducible repeat (first | apply ra | apply rn | apply rd_)); exact HO_7.out⟩, ⟨zk BK332⟩, ⟨zk BK333⟩, ⟨zb HB⟩⟩
      ·rw [if_neg c13] at H
       exact absurd H (by simp)
     ·rw [if_neg c12] at H
      exact absurd H (by simp)
    ·rw [if_neg c11] at H
     exact absurd H (by simp)
   ·rw [if_neg c10] at H
    have c10b0 : decide (x8_1 < (t334.length : Int)) = false := decide_eq_false c10
    clear c10
    obtain rfl := Option.some.inj H
    obtain ⟨Ao21, co21, eo21⟩ := Kd.R_slice HO_7.out
    subst eo21
    go_wp2
    repeat (go_quiet (fail); try go_wp2)
    go_ret
    exact ⟨ze, zb HB⟩
def trefoilref11_Ready.l0 : Nat → List Int → Int → List Int → List (S85) → List Int → List Int → Option (List Int)
 | 0, _, _, _, _, _, _ => none
 | k + 1, x5, x6, x340000, x340001, x341000, x341001 => if x6 < (x341001.length : Int) then (if 0 ≤ x6 then (if (rd x341001 x6) > 0 then ((trefoilref04_Has.f k x341000 x6).bind fun t345 => (if t345 = true then (trefoilref11_Ready.l0 k x5 (wrap64 (x6 + 1)) x340000 x340001 x341000 x341001) else ((trefoilref11_Over.f k x340000 x340001 x341000 x341001 x6).bind fun t346 => (if t346 = true then (if x5.length < 17592186044416 then (trefoilref11_Ready.l0 k (x5 ++ [x6]) (wrap64 (x6 + 1)) x340000 x340001 x341000 x341001) else (none)) else (trefoilref11_Ready.l0 k x5 (wrap64 (x6 + 1)) x340000 x340001 x341000 x341001))))) else (trefoilref11_Ready.l0 k x5 (wrap64 (x6 + 1)) x340000 x340001 x341000 x341001)) else (none)) else (some x5)
def trefoilref11_Ready.f (k : Nat) (l0_0 : List Int) (l0_1 : List (S85)) (l1_0 : List Int) (l1_1 : List Int) : Option (List Int) := trefoilref11_Ready.l0 k (([] : List Int)) 0 l0_0 l0_1 l1_0 l1_1
set_option maxHeartbeats 8000000 in
set_option maxRecDepth 100000 in
theorem trefoilref11_Ready.calls (k : Nat) (A0_0 : Option Addr) (c0_0 : Nat) (l0_0 : List Int) (A0_1 : Option Addr) (c0_1 : Nat) (l0_1 : List (S85)) (A1_0 : Option Addr) (c1_0 : Nat) (l1_0 : List Int) (A1_1 : Option Addr) (c1_1 : Nat) (l1_1 : List Int) (r : List Int) (w : World) (hr0_0 : Kd.C (Kd.int .i64) w A0_0 l0_0.length l0_0) (hc0_0 : l0_0.length ≤ c0_0) (hr0_1 : Kd.C k85 w A0_1 l0_1.length l0_1) (hc0_1 : l0_1.length ≤ c0_1) (hr1_0 : Kd.C (Kd.int .i64) w A1_0 l1_0.length l1_0) (hc1_0 : l1_0.length ≤ c1_0) (hr1_1 : Kd.C (Kd.int .i64) w A1_1 l1_1.length l1_1) (hc1_1 : l1_1.length ≤ c1_1) (h : trefoilref11_Ready.f k l0_0 l0_1 l1_0 l1_1 = some r) :
  Calls Try.prog 23 #[.agg #[.slice A0_0 l0_0.length c0_0, .slice A0_1 l0_1.length c0_1], .agg #[.slice A1_0 l1_0.length c1_0, .slice A1_1 l1_1.length c1_1]] w fun e w' => ∃ v0_ : Value, e = .returned (v0_) ∧ Kd.R (Kd.int .i64) 3 w' w.heap.size (fun _ => True) v0_ r ∧ Below w.heap.size w w' := by
 have hu25 := Try.underlying25
 have hu27 := Try.underlying27
 have HR0_0 := Z0 hr0_0
 have HC0_0 := Z0 hc0_0
 clear hr0_0 hc0_0
 have HR0_1 := Z0 hr0_1
 have HC0_1 := Z0 hc0_1
 clear hr0_1 hc0_1
 have HR1_0 := Z0 hr1_0
 have HC1_0 := Z0 hc1_0
 clear hr1_0 hc1_0
 have HR1_1 := Z0 hr1_1
 have HC1_1 := Z0 hc1_1
 clear hr1_1 hc1_1
 have HB := Z0 (Below.refl w.heap.size w)
 have H : (trefoilref11_Ready.l0 k (([] : List Int)) 0 l0_0 l0_1 l1_0 l1_1) = some r := h
 clear h
 obtain ⟨y341, hy341⟩ : ∃ y_ : List Int, y_ = (([] : List Int)) := ⟨_, rfl⟩
 replace H : (trefoilref11_Ready.l0 k y341 0 l0_0 l0_1 l1_0 l1_1) = some r := by first | (rw [hy341]; with_reducible exact H) | (have H2_ := (Option.bind_some _ _).symm.trans H; rw [hy341]; with_reducible exact H2_) | (have H2_ := (Option.bind_some _ _).symm.trans H; with_reducible exact H2_) | with_reducible exact H | (rw [hy341]; exact H) | exact H
 have Ny341 := Z0 hy341
 clear hy341
 have H' := Z0 H
 clear H
 go_enter Try.func23, Try.ntmps23
 go_wp2_with (first | ((with_reducible refine gate_dst (N := 2) rfl ?_); refine zx (N := 2) #[.slice A0_0 l0_0.length c0_0, .slice A0_1 l0_1.length c0_1] 25 ?_; intro gb339 hg w3 hbox hb; have BK339 := Z0 (hbox); have GW339 := Z0 (zh w hg HB); have GE339 := Z0 (zh w hg HB); replace HB := Z0 (below_step (zb HB) hb); clear hb hbox hg) | ((with_reducible refine gate_dst (N := 3) rfl ?_); refine zx (N := 3) #[.slice A1_0 l1_0.length c1_0, .slice A1_1 l1_1.length c1_1] 27 ?_; intro gb340 hg w4 hbox hb; have BK340 := Z0 (hbox); have GW340 := Z0 (zh w hg HB); have GE340 := Z0 (zh w hg HB); replace HB := Z0 (below_step (zb HB) hb); have NB339_340 := Z0 (zl hg BK339); have NB340_339 := Z0 (zu hg BK339); replace BK339 := Z0 (zkb BK339 hb); clear hb hbox hg) | ((with_reducible refine gate_dst (N := 7) rfl ?_); refine zz (N := 7) 3 [] Ny341 (Reps.none _ _) ?_; intro v342 w5 ho6 hb; have HO343 := Z0 (rl ho6 (below_size (zb HB))); replace BK339 := Z0 (zkb BK339 hb); replace BK340 := Z0 (zkb BK340 hb); replace HB := Z0 (below_step (zb HB) hb); clear hb ho6))
 go_loopg [5, 6] k (fun kq v5 v6 w' => ∃ (x5_1 : List Int) (x6_1 : Int), v6 = .int .i64 x6_1 ∧ Aside0 (trefoilref11_Ready.l0 kq x5_1 x6_1 l0_0 l0_1 l1_0 l1_1 = some r) ∧ Aside0 (kq ≤ k) ∧ Aside0 (Kd.R (Kd.int .i64) 3 w' w.heap.size (fun _ => True) v5 x5_1) ∧ Aside0 (w'.heap[gb339]? = some (.cells #[(.slice A0_0 l0_0.length c0_0), (.slice A0_1 l0_1.length c0_1)] 25 (0, 0))) ∧ Aside0 (w'.heap[gb340]? = some (.cells #[(.slice A1_0 l1_0.length c1_0), (.slice A1_1 l1_1.length c1_1)] 27 (0, 0))) ∧ Aside0 (Below w.heap.size w w'))
 case atStart => exact ⟨(y341), (0), zs, H', ⟨Nat.le_refl _⟩, ⟨by (with_reducible repeat (first | apply ra | apply rn | apply rd_)); exact HO343.out⟩, ⟨zk BK339⟩, ⟨zk BK340⟩, ⟨zb HB⟩⟩
 case round =>
  clear H'
  try clear c1
  try clear c2
  try clear p2
  obtain ⟨x5_1, x6_1, rfl, HA, HK1, HO_5, BK339, BK340, HB⟩ := hrel
  cases gk with
  | zero => exact absurd HA.out (by simp [trefoilref11_Ready.l0])
  | succ k1 =>
   have H := HA.out
   clear HA
   simp only [trefoilref11_Ready.l0] at H
   by_cases c7 : x6_1 < (l1_1.length : Int)
   ·rw [if_pos c7] at H
    have c7b0 : decide (x6_1 < (l1_1.length : Int)) = true := decide_eq_true c7
    clear c7
    by_cases c8 : 0 ≤ x6_1
    ·rw [if_pos c8] at H
     have c8b0 : decide (0 ≤ x6_1) = true := decide_eq_true c8
     clear c8
     by_cases c9 : (rd l1_1 x6_1) > 0
     ·rw [if_pos c9] at H
      have c9b0 : decide (0 < (rd l1_1 x6_1)) = true := decide_eq_true c9
      clear c9
      replace H := Option.bind_eq_some_iff.mp H
      obtain ⟨t345, A100, H⟩ := H
      have A10 := Z0 A100
      clear A100
      by_cases c11 : t345 = true
      ·subst c11
       rw [if_pos rfl] at H
       have H' := Z0 H
       clear H
       have hnb12 := NB340_339.out
       have hnc12 := NB339_340.out
       have hcz13_0 := kz0 BK340
       have hcz13_1 := kz1 BK340
       have hfz13_0 := blk_frozen BK340.out 0
       have hfz13_1 := blk_frozen BK340.out 1
       have p344 : 0 ≤ (x6_1 : Int) := od
       have q344 : x6_1 < (l1_1.length : Int) := od
       obtain ⟨ad344, e344, hx344_0⟩ := Kd.at_int HR1_1.out x6_1 p344 q344
       cases e344
       replace hx344_0 := (HB.out.cell (bl w _ hx344_0)).trans hx344_0
       replace p344 := eq_true p344
       replace q344 := eq_true q344
       go_wp2_with (first | (go_at_call 31; (with_reducible refine (trefoilref04_Has.calls k1 _ _ l1_0 x6_1 true _ ?side1 ?side2 A10.out).mono ?_); (case side1 => exact zc (Kd.C_below HR1_0.out HB.out)); (case side2 => exact HC1_0.out); rintro e w' ⟨rfl, ⟨nd, rfl⟩⟩))
       go_roundg k1
       case measure => have := HK1.out; omega
       case rel => exact ⟨(x5_1), (wrap64 (x6_1 + 1)), zs, H', ⟨by have := HK1.out; omega⟩, ⟨by (with_reducible repeat (first | apply ra | apply rn | apply rd_)); exact HO_5.out⟩, ⟨zk BK339⟩, ⟨zk BK340⟩, ⟨zb HB⟩⟩
      ·replace c11 := Bool.eq_false_iff.mpr c11
       subst c11
       rw [if_neg nft] at H
       replace H := Option.bind_eq_some_iff.mp H
       obtain ⟨t346, A140, H⟩ := H
       have A14 := Z0 A140
       clear A140
       by_cases c15 : t346 = true
       ·subst c15
        rw [if_pos rfl] at H
        by_cases c16 : x5_1.length < 17592186044416
        ·rw [if_pos c16] at H
         have LMc16 := Z0 c16
         clear c16
         obtain ⟨y347, hy347⟩ : ∃ y_ : List Int, y_ = (x5_1 ++ [x6_1]) := ⟨_, rfl⟩
         replace H : (trefoilref11_Ready.l0 k1 y347 (wrap64 (x6_1 + 1)) l0_0 l0_1 l1_0 l1_1) = some r := by first | (rw [hy347]; with_reducible exact H) | (have H2_ := (Option.bind_some _ _).symm.trans H; rw [hy347]; with_reducible exact H2_) | (have H2_ := (Option.bind_some _ _).symm.trans H; with_reducible exact H2_) | with_reducible exact H | (rw [hy347]; exact H) | exact H
         have Ny347 := Z0 hy347
         clear hy347
         have H' := Z0 H
         clear H
         have hnb17 := NB340_339.out
         have hnc17 := NB339_340.out
         have hcz18_0 := kz0 BK340
         have hcz18_1 := kz1 BK340
         have hfz18_0 := blk_frozen BK340.out 0
         have hfz18_1 := blk_frozen BK340.out 1
         have p344 : 0 ≤ (x6_1 : Int) := od
         have q344 : x6_1 < (l1_1.length : Int) := od
         obtain ⟨ad344, e344, hx344_0⟩ := Kd.at_int HR1_1.out x6_1 p344 q344
         cases e344
         replace hx344_0 := (HB.out.cell (bl w _ hx344_0)).trans hx344_0
         replace p344 := eq_true p344
         replace q344 := eq_true q344
         go_wp2_with (first | (go_at_call 31; (with_reducible refine (trefoilref04_Has.calls k1 _ _ l1_0 x6_1 false _ ?side1 ?side2 A10.out).mono ?_); (case side1 => exact zc (Kd.C_below HR1_0.out HB.out)); (case side2 => exact HC1_0.out); rintro e w' ⟨rfl, ⟨nd, rfl⟩⟩; have hcz19_0 := kz0 BK339; have hcz19_1 := kz1 BK339; have hfz19_0 := blk_frozen BK339.out 0; have hfz19_1 := blk_frozen BK339.out 1) | (go_at_call 42; (with_reducible refine (trefoilref11_Over.calls k1 _ _ l0_0 _ _ l0_1 _ _ l1_0 _ _ l1_1 x6_1 true _ ?side1 ?side2 ?side3 ?side4 ?side5 ?side6 ?side7 ?side8 A14.out).mono ?_); (case side1 => repeat (first | exact (Kd.C_below HR0_0.out (zb HB)) | (with_reducible refine Kd.C_alloc ?_ _) | (with_reducible refine Kd.C_drewN ?_ _) | (with_reducible refine Kd.C_drew ?_))); (case side2 => exact HC0_0.out); (case side3 => repeat (first | exact (Kd.C_below HR0_1.out (zb HB)) | (with_reducible refine Kd.C_alloc ?_ _) | (with_reducible refine Kd.C_drewN ?_ _) | (with_reducible refine Kd.C_drew ?_))); (case side4 => exact HC0_1.out); (case side5 => repeat (first | exact (Kd.C_below HR1_0.out (zb HB)) | (with_reducible refine Kd.C_alloc ?_ _) | (with_reducible refine Kd.C_drewN ?_ _) | (with_reducible refine Kd.C_drew ?_))); (case side6 => exact HC1_0.out); (case side7 => repeat (first | exact (Kd.C_below HR1_1.out (zb HB)) | (with_reducible refine Kd.C_alloc ?_ _) | (with_reducible refine Kd.C_drewN ?_ _) | (with_reducible refine Kd.C_drew ?_))); (case side8 => exact HC1_1.out); rintro e w20 ⟨rfl, hb⟩; have n0_ := Z0 (rbe (zr HO_5) hb); have n1_ := Z0 (zkb BK339 hb); have n2_ := Z0 (zkb BK340 hb); have n3_ := Z0 (below_step (zb HB) hb); clear HO_5; clear BK339; clear BK340; clear HB; have HO_5 := n0_; have BK339 := n1_; have BK340 := n2_; have HB := n3_; clear n0_ n1_ n2_ n3_; (try clear hb); (try clear hb2); (try clear hk); (try clear hi)) | ((with_reducible refine gate_builtin (b := .append) (xs := #[.tmp 34, .tmp 36]) rfl ?_); at_builtin; refine Kd.R_append (Kd.int .i64) (w0 := w) w.heap.size rfl (.tmp 34) (.tmp 36) 22 3 (.int .i64 0) 8 rfl Try.underlying22 info3 rfl (by decide) (by omega) u5 x5_1 x6_1 [.int .i64 x6_1] (fun _ => True) (fun _ => False) rfl rfl ?aP (fun _ hk => hk.elim) ?aF ?aO ?aB ?aS ?aL ?_; (case aP => exact rfl); (case aB => exact (zb HB)); (case aF => exact (fun _ _ => trivial)); (case aO => exact (zr HO_5)); (case aS => exact (below_size (zb HB))); (case aL => have := LMc16.out; omega); intro v348 w21 ho hb hg hat; rw [← Ny347.out] at ho; have n0_ := Z0 (blk_grown (g := gb339) (o := .cells #[.slice A0_0 l0_0.length c0_0, .slice A0_1 l0_1.length c0_1] 25 (0, 0)) (zk BK339) hg (Kd.R_ne HO_5.out BK339.out (by decide))); have n1_ := Z0 (blk_grown (g := gb340) (o := .cells #[.slice A1_0 l1_0.length c1_0, .slice (some ad344) l1_1.length c1_1] 27 (0, 0)) (zk BK340) hg (Kd.R_ne HO_5.out BK340.out (by decide))); have n2_ := Z0 (hb); have n3_ := Z0 (ho); clear BK339; clear BK340; clear HB; clear HO_5; have BK339 := n0_; have BK340 := n1_; have HB := n2_; have HO349 := n3_; clear n0_ n1_ n2_ n3_; clear ho hb hg hat))
         go_roundg k1
         case measure => have := HK1.out; omega
         case rel => exact ⟨(y347), (wrap64 (x6_1 + 1)), zs, H', ⟨by have := HK1.out; omega⟩, ⟨by (with_reducible repeat (first | apply ra | apply rn | apply rd_)); exact HO349.out⟩, ⟨zk BK339⟩, ⟨zk BK340⟩, ⟨zb HB⟩⟩
        ·rw [if_neg c16] at H
         exact absurd H (by simp)
       ·replace c15 := Bool.eq_false_iff.mpr c15
        subst c15
        rw [if_neg nft] at H
        have H' := Z0 H
        clear H
        have hnb22 := NB340_339.out
        have hnc22 := NB339_340.out
        have hcz23_0 := kz0 BK340
        have hcz23_1 := kz1 BK340
        have hfz23_0 := blk_frozen BK340.out 0
        have hfz23_1 := blk_frozen BK340.out 1
        have p344 : 0 ≤ (x6_1 : Int) := od
        have q344 : x6_1 < (l1_1.length : Int) := od
        obtain ⟨ad344, e344, hx344_0⟩ := Kd.at_int HR1_1.out x6_1 p344 q344
        cases e344
        replace hx344_0 := (HB.out.cell (bl w _ hx344_0)).trans hx344_0
        replace p344 := eq_true p344
        replace q344 := eq_true q344
        go_wp2_with (first | (go_at_call 31; (with_reducible refine (trefoilref04_Has.calls k1 _ _ l1_0 x6_1 false _ ?side1 ?side2 A10.out).mono ?_); (case side1 => exact zc (Kd.C_below HR1_0.out HB.out)); (case side2 => exact HC1_0.out); rintro e w' ⟨rfl, ⟨nd, rfl⟩⟩; have hcz24_0 := kz0 BK339; have hcz24_1 := kz1 BK339; have hfz24_0 := blk_frozen BK339.out 0; have hfz24_1 := blk_frozen BK339.out 1) | (go_at_call 42; (with_reducible refine (trefoilref11_Over.calls k1 _ _ l0_0 _ _ l0_1 _ _ l1_0 _ _ l1_1 x6_1 false _ ?side1 ?side2 ?side3 ?side4 ?side5 ?side6 ?side7 ?side8 A14.out).mono ?_); (case side1 => repeat (first | exact (Kd.C_below HR0_0.out (zb HB)) | (with_reducible refine Kd.C_alloc ?_ _) | (with_reducible refine Kd.C_drewN ?_ _) | (with_reducible refine Kd.C_drew ?_))); (case side2 => exact HC0_0.out); (case side3 => repeat (first | exact (Kd.C_below HR0_1.out (zb HB)) | (with_reducible refine Kd.C_alloc ?_ _) | (with_reducible refine Kd.C_drewN ?_ _) | (with_reducible refine Kd.C_drew ?_))); (case side4 => exact HC0_1.out); (case side5 => repeat (first | exact (Kd.C_below HR1_0.out (zb HB)) | (with_reducible refine Kd.C_alloc ?_ _) | (with_reducible refine Kd.C_drewN ?_ _) | (with_reducible refine Kd.C_drew ?_))); (case side6 => exact HC1_0.out); (case side7 => repeat (first | exact (Kd.C_below HR1_1.out (zb HB)) | (with_reducible refine Kd.C_alloc ?_ _) | (with_reducible refine Kd.C_drewN ?_ _) | (with_reducible refine Kd.C_drew ?_))); (case side8 => exact HC1_1.out); rintro e w25 ⟨rfl, hb⟩; have n0_ := Z0 (rbe (zr HO_5) hb); have n1_ := Z0 (zkb BK339 hb); have n2_ := Z0 (zkb BK340 hb); have n3_ := Z0 (below_step (zb HB) hb); clear HO_5; clear BK339; clear BK340; clear HB; have HO_5 := n0_; have BK339 := n1_; have BK340 := n2_; have HB := n3_; clear n0_ n1_ n2_ n3_; (try clear hb); (try clear hb2); (try clear hk); (try clear hi)))
        go_roundg k1
        case measure => have := HK1.out; omega
        case rel => exact ⟨(x5_1), (wrap64 (x6_1 + 1)), zs, H', ⟨by have := HK1.out; omega⟩, ⟨by (with_reducible repeat (first | apply ra | apply rn | apply rd_)); exact HO_5.out⟩, ⟨zk BK339⟩, ⟨zk BK340⟩, ⟨zb HB⟩⟩
     ·rw [if_neg c9] at H
      have c9b0 : decide (0 < (rd l1_1 x6_1)) = false := decide_eq_false c9
      clear c9
      have H' := Z0 H
      clear H
      have hnb26 := NB340_339.out
      have hnc26 := NB339_340.out
      have hcz27_0 := kz0 BK340
      have hcz27_1 := kz1 BK340
      have hfz27_0 := blk_frozen BK340.out 0
      have hfz27_1 := blk_frozen BK340.out 1
      have p344 : 0 ≤ (x6_1 : Int) := od
      have q344 : x6_1 < (l1_1.length : Int) := od
      obtain ⟨ad344, e344, hx344_0⟩ := Kd.at_int HR1_1.out x6_1 p344 q344
      cases e344
      replace hx344_0 := (HB.out.cell (bl w _ hx344_0)).trans hx344_0
      replace p344 := eq_true p344
      replace q344 := eq_true q344
      go_wp2
      go_roundg k1
      case measure => have := HK1.out; omega
      case rel => exact ⟨(x5_1), (wrap64 (x6_1 + 1)), zs, H', ⟨by have := HK1.out; omega⟩, ⟨by (with_reducible repeat (first | apply ra | apply rn | apply rd_)); exact HO_5.out⟩, ⟨zk BK339⟩, ⟨zk BK340⟩, ⟨zb HB⟩⟩
    ·rw [if_neg c8] at H
     exact absurd H (by simp)
   ·rw [if_neg c7] at H
    have c7b0 : decide (x6_1 < (l1_1.length : Int)) = false := decide_eq_false c7
    clear c7
    obtain rfl := Option.some.inj H
    have hnb28 := NB340_339.out
    have hnc28 := NB339_340.out
    have hcz29_0 := kz0 BK340
    have hcz29_1 := kz1 BK340
    have hfz29_0 := blk_frozen BK340.out 0
    have hfz29_1 := blk_frozen BK340.out 1
    go_wp2
    go_ret
    exact ⟨_, ze, by (with_reducible repeat (first | apply ra | apply rn | apply rd_)); exact HO_5.out, zb HB⟩
end Go.Proofs.Ytmbhjhanafmidaa.PListRuns
