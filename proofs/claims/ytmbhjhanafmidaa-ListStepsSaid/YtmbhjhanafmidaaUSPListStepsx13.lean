/- Written by a program of this work: each theorem says that a call of the Go function comes to what the Lean function beside it tells, under the conditions that it names; Lean checks it. -/
import Derived.Test.YtmbhjhanafmidaaUSPListStepsx0
import Derived.Test.YtmbhjhanafmidaaUSPListStepsx1
import Derived.Test.YtmbhjhanafmidaaUSPListStepsx12
import Derived.Test.YtmbhjhanafmidaaUSZr
import Derived.Test.YtmbhjhanafmidaaUSZq
namespace Go.Proofs.Ytmbhjhanafmidaa.PListSteps
open Go.Proofs.Ytmbhjhanafmidaa.PAw Go.Proofs.Ytmbhjhanafmidaa.Zr Go.RowKit Go.Proofs.YtmbhjhanafmidaaW.PrintWords Go.Proofs.YtmbhjhanafmidaaW.PrintLast Go.Proofs.YtmbhjhanafmidaaW.PrintMore
attribute [local go_sem] max2_int min2_int max_two min_two max_three min_three max_four min_four   -- for this text's walks alone
set_option linter.unusedVariables false
set_option linter.unusedSimpArgs false
attribute [local go_sem high] eqA85
mutual
def trefoilref04_Plain.j0 : Nat → Bool → List Int → List (S85) → Option (Int)
 | 0, _, _, _ => none
 | k + 1, x16, x305000, x305001 => if x16 = true then (some 40) else (trefoilref04_Plain.l0 k 0 x305000 x305001)
def trefoilref04_Plain.l0 : Nat → Int → List Int → List (S85) → Option (Int)
 | 0, _, _, _ => none
 | k + 1, x3, x305000, x305001 => if x3 < (x305000.length : Int) then (if 0 ≤ x3 then (if (rd x305000 x3) < 0 then (some 41) else (if (rd x305000 x3) > 1000 then (some 41) else (trefoilref04_Plain.l0 k (wrap64 (x3 + 1)) x305000 x305001))) else (none)) else (trefoilref04_Plain.l1 k 0 x305000 x305001)
def trefoilref04_Plain.l1 : Nat → Int → List Int → List (S85) → Option (Int)
 | 0, _, _, _ => none
 | k + 1, x4, x305000, x305001 => if x4 < (x305001.length : Int) then (if 0 ≤ x4 then ((trefoilref04_node.f x305000 x305001 ((rd_T85 x305001 x4).f0)).bind fun t309 => (if t309 = true then ((trefoilref04_node.f x305000 x305001 ((rd_T85 x305001 x4).f1)).bind fun t310 => (if t310 = true then (trefoilref04_Plain.j3 k x4 (((rd_T85 x305001 x4).f0) == ((rd_T85 x305001 x4).f1)) x305000 x305001 ((rd_T85 x305001 x4).f0) ((rd_T85 x305001 x4).f1)) else (trefoilref04_Plain.j3 k x4 true x305000 x305001 ((rd_T85 x305001 x4).f0) ((rd_T85 x305001 x4).f1)))) else (trefoilref04_Plain.j3 k x4 true x305000 x305001 ((rd_T85 x305001 x4).f0) ((rd_T85 x305001 x4).f1)))) else (none)) else (some 0)
def trefoilref04_Plain.j3 : Nat → Int → Bool → List Int → List (S85) → Int → Int → Option (Int)
 | 0, _, _, _, _, _, _ => none
 | k + 1, x4, x68, x305000, x305001, x309000, x309001 => if x68 = true then (some 42) else (trefoilref04_Plain.l2 k x4 0 x305000 x305001 x309000 x309001)
def trefoilref04_Plain.l2 : Nat → Int → Int → List Int → List (S85) → Int → Int → Option (Int)
 | 0, _, _, _, _, _, _ => none
 | k + 1, x4, x6, x305000, x305001, x309000, x309001 => if x6 < x4 then (if 0 ≤ x6 then (if x6 < (x305001.length : Int) then (if (((rd_T85 x305001 x6).f0) == x309000 && (((rd_T85 x305001 x6).f1) == x309001)) = true then (some 42) else (trefoilref04_Plain.l2 k x4 (wrap64 (x6 + 1)) x305000 x305001 x309000 x309001)) else (none)) else (none)) else (trefoilref04_Plain.l1 k (wrap64 (x4 + 1)) x305000 x305001)
end
def trefoilref04_Plain.f (k : Nat) (l0_0 : List Int) (l0_1 : List (S85)) : Option (Int) := if (l0_0.length : Int) > 64 then (trefoilref04_Plain.j0 k true l0_0 l0_1) else (trefoilref04_Plain.j0 k (decide ((l0_1.length : Int) > 256)) l0_0 l0_1)
set_option maxHeartbeats 8000000 in
set_option maxRecDepth 100000 in
theorem trefoilref04_Plain.calls (k : Nat) (A0_0 : Option Addr) (c0_0 : Nat) (l0_0 : List Int) (A0_1 : Option Addr) (c0_1 : Nat) (l0_1 : List (S85)) (r : Int) (w : World) (hr0_0 : Kd.C (Kd.int .i64) w A0_0 l0_0.length l0_0) (hc0_0 : l0_0.length ≤ c0_0) (hr0_1 : Kd.C k85 w A0_1 l0_1.length l0_1) (hc0_1 : l0_1.length ≤ c0_1) (h : trefoilref04_Plain.f k l0_0 l0_1 = some r) :
  Calls Try.prog 61 #[.agg #[.slice A0_0 l0_0.length c0_0, .slice A0_1 l0_1.length c0_1]] w fun e w' => e = .returned (.int .i64 r) ∧ Below w.heap.size w w' := by
 have hu25 := Try.underlying25
 have hu85 := Try.underlying85
 have HR0_0 := Z0 hr0_0
 have HC0_0 := Z0 hc0_0
 clear hr0_0 hc0_0
 have HR0_1 := Z0 hr0_1
 have HC0_1 := Z0 hc0_1
 clear hr0_1 hc0_1
 have HB := Z0 (Below.refl w.heap.size w)
 have H : (if (l0_0.length : Int) > 64 then (trefoilref04_Plain.j0 k true l0_0 l0_1) else (trefoilref04_Plain.j0 k (decide ((l0_1.length : Int) > 256)) l0_0 l0_1)) = some r := h
 clear h
 have HC2 := Z0 H
 clear H
 go_enter Try.func61, Try.ntmps61
 go_upto_region 1 with (first | ((with_reducible refine gate_dst (N := 1) rfl ?_); (try (refine gate_guard (by rfl) ?_; dsimp only)); refine zx (N := 1) #[.slice A0_0 l0_0.length c0_0, .slice A0_1 l0_1.length c0_1] 25 ?_; intro gb304 hg w3 hbox hb; have BK304 := Z0 (hbox); have GW304 := Z0 (zh w hg HB); have GE304 := Z0 (zh w hg HB); replace HB := Z0 (below_step (zb HB) hb); clear hb hbox hg))
 repeat (go_quiet (first | ((with_reducible refine gate_dst (N := 1) rfl ?_); (try (refine gate_guard (by rfl) ?_; dsimp only)); refine zx (N := 1) #[.slice A0_0 l0_0.length c0_0, .slice A0_1 l0_1.length c0_1] 25 ?_; intro gb304 hg w3 hbox hb; have BK304 := Z0 (hbox); have GW304 := Z0 (zh w hg HB); have GE304 := Z0 (zh w hg HB); replace HB := Z0 (below_step (zb HB) hb); clear hb hbox hg)); go_upto_region 1 with (first | ((with_reducible refine gate_dst (N := 1) rfl ?_); (try (refine gate_guard (by rfl) ?_; dsimp only)); refine zx (N := 1) #[.slice A0_0 l0_0.length c0_0, .slice A0_1 l0_1.length c0_1] 25 ?_; intro gb304 hg w3 hbox hb; have BK304 := Z0 (hbox); have GW304 := Z0 (zh w hg HB); have GE304 := Z0 (zh w hg HB); replace HB := Z0 (below_step (zb HB) hb); clear hb hbox hg)))
 (try simp only [Act.put, y0, y1, y2])
 go_cut [16] (fun v16 wc => ∃ (kq : Nat) (x16_1 : Bool), v16 = .bool x16_1 ∧ Aside0 (trefoilref04_Plain.j0 kq x16_1 l0_0 l0_1 = some r) ∧ Aside0 (kq ≤ k) ∧ Aside0 (wc.heap[gb304]? = some (.cells #[(.slice A0_0 l0_0.length c0_0), (.slice A0_1 l0_1.length c0_1)] 25 (0, 0))) ∧ Aside0 (Below w.heap.size w wc))
 case first =>
  have H := HC2.out
  clear HC2
  by_cases c4 : (l0_0.length : Int) > 64
  ·rw [if_pos c4] at H
   have c4b0 : decide (64 < (l0_0.length : Int)) = true := decide_eq_true c4
   have c4b1 : decide (64 < l0_0.length) = true := decide_eq_true (by omega)
   clear c4
   (first | rw [c4b0] | (simp only [i64_w, i32_w]; rw [c4b0]) | skip)
   have H' := Z0 H
   clear H
   have hcz5_0 := kz0 BK304
   have hcz5_1 := kz1 BK304
   have hfz5_0 := blk_frozen BK304.out 0
   have hfz5_1 := blk_frozen BK304.out 1
   go_wp2
   repeat (go_quiet (fail); try go_wp2)
   go_meet
   case rel => exact ⟨_, (true), zs, H', ⟨by first | omega | exact Nat.le_refl _⟩, ⟨zk BK304⟩, ⟨zb HB⟩⟩
  ·rw [if_neg c4] at H
   have c4b0 : decide (64 < (l0_0.length : Int)) = false := decide_eq_false c4
   have c4b1 : decide (64 < l0_0.length) = false := decide_eq_false (by omega)
   clear c4
   (first | rw [c4b0] | (simp only [i64_w, i32_w]; rw [c4b0]) | skip)
   have H' := Z0 H
   clear H
   have hcz6_0 := kz0 BK304
   have hcz6_1 := kz1 BK304
   have hfz6_0 := blk_frozen BK304.out 0
   have hfz6_1 := blk_frozen BK304.out 1
   go_wp2
   repeat (go_quiet (fail); try go_wp2)
   go_meet
   case rel => exact ⟨_, (decide ((l0_1.length : Int) > 256)), zs, H', ⟨by first | omega | exact Nat.le_refl _⟩, ⟨zk BK304⟩, ⟨zb HB⟩⟩
 case rest =>
  clear HC2
  try clear p2
  try clear c4
  try clear c4b0
  try clear c4b1
  try clear c6
  try clear hcz5_0
  try clear hcz5_1
  try clear hcz6_0
  try clear hcz6_1
  try clear hfz5_0
  try clear hfz5_1
  try clear hfz6_0
  try clear hfz6_1
  obtain ⟨kq, x16_1, rfl, HA, HJ1, BK304, HB⟩ := hcut
  cases kq with
  | zero => exact absurd HA.out (by simp [trefoilref04_Plain.j0])
  | succ kj1 =>
   have H := HA.out
   clear HA
   simp only [trefoilref04_Plain.j0] at H
   by_cases c7 : x16_1 = true
   ·subst c7
    rw [if_pos rfl] at H
    obtain rfl := Option.some.inj H
    go_wp2
    repeat (go_quiet (fail); try go_wp2)
    go_ret
    exact ⟨ze, zb HB⟩
   ·replace c7 := Bool.eq_false_iff.mpr c7
    subst c7
    rw [if_neg nft] at H
    have H' := Z0 H
    clear H
    go_wp2
    repeat (go_quiet (fail); try go_wp2)
    go_loopg [3] kj1 (fun kq v3 w' => ∃ (x3_2 : Int), v3 = .int .i64 x3_2 ∧ Aside0 (trefoilref04_Plain.l0 kq x3_2 l0_0 l0_1 = some r) ∧ Aside0 (kq ≤ kj1) ∧ Aside0 (w'.heap[gb304]? = some (.cells #[(.slice A0_0 l0_0.length c0_0), (.slice A0_1 l0_1.length c0_1)] 25 (0, 0))) ∧ Aside0 (Below w.heap.size w w'))
    case atStart => exact ⟨(0), zs, H', ⟨Nat.le_refl _⟩, ⟨zk BK304⟩, ⟨zb HB⟩⟩
    case round =>
     clear H'
     try clear p2
     try clear c4
     try clear c4b0
     try clear c4b1
     try clear c6
     try clear c7
     try clear hcz5_0
     try clear hcz5_1
     try clear hcz6_0
     try clear hcz6_1
     try clear hfz5_0
     try clear hfz5_1
     try clear hfz6_0
     try clear hfz6_1
     try clear p2
     obtain ⟨x3_2, rfl, HA, HK2, BK304, HB⟩ := hrel
     cases gk with
     | zero => exact absurd HA.out (by simp [trefoilref04_Plain.l0])
     | succ k2 =>
      have H := HA.out
      clear HA
      simp only [trefoilref04_Plain.l0] at H
      by_cases c8 : x3_2 < (l0_0.length : Int)
      ·rw [if_pos c8] at H
       have c8b0 : decide (x3_2 < (l0_0.length : Int)) = true := decide_eq_true c8
       clear c8
       by_cases c9 : 0 ≤ x3_2
       rotate_left
       ·rw [if_neg c9] at H
        exact absurd H (by simp)
       rw [if_pos c9] at H
       have c9b0 : decide (0 ≤ x3_2) = true := decide_eq_true c9
       clear c9
       by_cases c10 : (rd l0_0 x3_2) < 0
       ·rw [if_pos c10] at H
        have c10b0 : decide ((rd l0_0 x3_2) < 0) = true := decide_eq_true c10
        clear c10
        obtain rfl := Option.some.inj H
        have hcz11_0 := kz0 BK304
        have hcz11_1 := kz1 BK304
        have hfz11_0 := blk_frozen BK304.out 0
        have hfz11_1 := blk_frozen BK304.out 1
        have p305 : 0 ≤ (x3_2 : Int) := od
        have q305 : x3_2 < (l0_0.length : Int) := od
        obtain ⟨ad305, e305, hx305_0⟩ := Kd.at_int HR0_0.out x3_2 p305 q305
        cases e305
        replace hx305_0 := (HB.out.cell (bl w _ hx305_0)).trans hx305_0
        replace p305 := eq_true p305
        replace q305 := eq_true q305
        go_wp2
        repeat (go_quiet (fail); try go_wp2)
        go_ret
        exact ⟨ze, zb HB⟩
       ·rw [if_neg c10] at H
        have c10b0 : decide ((rd l0_0 x3_2) < 0) = false := decide_eq_false c10
        clear c10
        by_cases c12 : (rd l0_0 x3_2) > 1000
        ·rw [if_pos c12] at H
         have c12b0 : decide (1000 < (rd l0_0 x3_2)) = true := decide_eq_true c12
         clear c12
         obtain rfl := Option.some.inj H
         have hcz13_0 := kz0 BK304
         have hcz13_1 := kz1 BK304
         have hfz13_0 := blk_frozen BK304.out 0
         have hfz13_1 := blk_frozen BK304.out 1
         have p305 : 0 ≤ (x3_2 : Int) := od
         have q305 : x3_2 < (l0_0.length : Int) := od
         obtain ⟨ad305, e305, hx305_0⟩ := Kd.at_int HR0_0.out x3_2 p305 q305
         cases e305
         replace hx305_0 := (HB.out.cell (bl w _ hx305_0)).trans hx305_0
         replace p305 := eq_true p305
         replace q305 := eq_true q305
         have p306 : 0 ≤ (x3_2 : Int) := od
         have q306 : x3_2 < (l0_0.length : Int) := od
         obtain ⟨ad306, e306, hx306_0⟩ := Kd.at_int HR0_0.out x3_2 p306 q306
         obtain rfl : ad305 = ad306 := (by injection e306)
         replace hx306_0 := (HB.out.cell (bl w _ hx306_0)).trans hx306_0
         replace p306 := eq_true p306
         replace q306 := eq_true q306
         go_wp2
         repeat (go_quiet (fail); try go_wp2)
         go_ret
         exact ⟨ze, zb HB⟩
        ·rw [if_neg c12] at H
         have c12b0 : decide (1000 < (rd l0_0 x3_2)) = false := decide_eq_false c12
         clear c12
         have H' := Z0 H
         clear H
         have hcz14_0 := kz0 BK304
         have hcz14_1 := kz1 BK304
         have hfz14_0 := blk_frozen BK304.out 0
         have hfz14_1 := blk_frozen BK304.out 1
         have p305 : 0 ≤ (x3_2 : Int) := od
         have q305 : x3_2 < (l0_0.length : Int) := od
         obtain ⟨ad305, e305, hx305_0⟩ := Kd.at_int HR0_0.out x3_2 p305 q305
         cases e305
         replace hx305_0 := (HB.out.cell (bl w _ hx305_0)).trans hx305_0
         replace p305 := eq_true p305
         replace q305 := eq_true q305
         have p306 : 0 ≤ (x3_2 : Int) := od
         have q306 : x3_2 < (l0_0.length : Int) := od
         obtain ⟨ad306, e306, hx306_0⟩ := Kd.at_int HR0_0.out x3_2 p306 q306
         obtain rfl : ad305 = ad306 := (by injection e306)
         replace hx306_0 := (HB.out.cell (bl w _ hx306_0)).trans hx306_0
         replace p306 := eq_true p306
         replace q306 := eq_true q306
         go_wp2
         repeat (go_quiet (fail); try go_wp2)
         go_roundg k2
         case measure => have := HJ1.out; have := HK2.out; omega
         case rel => exact ⟨(wrap64 (x3_2 + 1)), zs, H', ⟨by have := HJ1.out; have := HK2.out; omega⟩, ⟨zk BK304⟩, ⟨zb HB⟩⟩
      ·rw [if_neg c8] at H
       have c8b0 : decide (x3_2 < (l0_0.length : Int)) = false := decide_eq_false c8
       clear c8
       have H' := Z0 H
       clear H
       have hcz15_0 := kz0 BK304
       have hcz15_1 := kz1 BK304
       have hfz15_0 := blk_frozen BK304.out 0
       have hfz15_1 := blk_frozen BK304.out 1
       go_wp2
       repeat (go_quiet (fail); try go_wp2)
       go_loopg [4] k2 (fun kq v4 w' => ∃ (x4_3 : Int), v4 = .int .i64 x4_3 ∧ Aside0 (trefoilref04_Plain.l1 kq x4_3 l0_0 l0_1 = some r) ∧ Aside0 (kq ≤ k2) ∧ Aside0 (w'.heap[gb304]? = some (.cells #[(.slice A0_0 l0_0.length c0_0), (.slice A0_1 l0_1.length c0_1)] 25 (0, 0))) ∧ Aside0 (Below w.heap.size w w'))
       case atStart => exact ⟨(0), zs, H', ⟨Nat.le_refl _⟩, ⟨zk BK304⟩, ⟨zb HB⟩⟩
       case round =>
        clear H'
        try clear c1
        try clear p2
        try clear p3
        try clear q3
        try clear hx3
        try clear c4
        try clear c4b0
        try clear c4b1
        try clear c6
        try clear p6
        try clear c7
        try clear c8
        try clear c8b0
        try clear c9
        try clear c9b0
        try clear c10
        try clear c10b0
        try clear c12
        try clear c12b0
        try clear hcz11_0
        try clear hcz11_1
        try clear hcz13_0
        try clear hcz13_1
        try clear hcz14_0
        try clear hcz14_1
        try clear hcz15_0
        try clear hcz15_1
        try clear hcz5_0
        try clear hcz5_1
        try clear hcz6_0
        try clear hcz6_1
        try clear hfz11_0
        try clear hfz11_1
        try clear hfz13_0
        try clear hfz13_1
        try clear hfz14_0
        try clear hfz14_1
        try clear hfz15_0
        try clear hfz15_1
        try clear hfz5_0
        try clear hfz5_1
        try clear hfz6_0
        try clear hfz6_1
        try clear hx305_0
        try clear hx306_0
        try clear p2
        try clear p305
        try clear p306
        try clear q305
        try clear q306
        obtain ⟨x4_3, rfl, HA, HK3, BK304, HB⟩ := hrel
        cases gk with
        | zero => exact absurd HA.out (by simp [trefoilref04_Plain.l1])
        | succ k3 =>
         have H := HA.out
         clear HA
         simp only [trefoilref04_Plain.l1] at H
         by_cases c16 : x4_3 < (l0_1.length : Int)
         rotate_left
         ·rw [if_neg c16] at H
          have c16b0 : decide (x4_3 < (l0_1.length : Int)) = false := decide_eq_false c16
          clear c16
          obtain rfl := Option.some.inj H
          have hcz57_0 := kz0 BK304
          have hcz57_1 := kz1 BK304
          have hfz57_0 := blk_frozen BK304.out 0
          have hfz57_1 := blk_frozen BK304.out 1
          go_wp2
          repeat (go_quiet (fail); try go_wp2)
          go_ret
          exact ⟨ze, zb HB⟩
         rw [if_pos c16] at H
         have c16b0 : decide (x4_3 < (l0_1.length : Int)) = true := decide_eq_true c16
         clear c16
         by_cases c17 : 0 ≤ x4_3
         rotate_left
         ·rw [if_neg c17] at H
          exact absurd H (by simp)
         rw [if_pos c17] at H
         have c17b0 : decide (0 ≤ x4_3) = true := decide_eq_true c17
         clear c17
         have HC18 := Z0 H
         clear H
         have hcz19_0 := kz0 BK304
         have hcz19_1 := kz1 BK304
         have hfz19_0 := blk_frozen BK304.out 0
         have hfz19_1 := blk_frozen BK304.out 1
         have p307 : 0 ≤ (x4_3 : Int) := od
         have q307 : x4_3 < (l0_1.length : Int) := od
         obtain ⟨ad307, e307, hx307_0, hx307_1⟩ := at_T85 HR0_1.out x4_3 p307 q307
         cases e307
         replace hx307_0 := (HB.out.cell (bl w _ hx307_0)).trans hx307_0
         replace hx307_1 := (HB.out.cell (bl w _ hx307_1)).trans hx307_1
         replace p307 := eq_true p307
         replace q307 := eq_true q307
         go_upto_region 12 with (first | ((with_reducible refine gate_dst (N := 5) rfl ?_); (try (refine gate_guard (by rfl) ?_; dsimp only)); refine zx (N := 5) #[.int .i64 0, .int .i64 0] 85 ?_; intro gb308 hg w20 hbox hb; have BK308 := Z0 (hbox); have GW308 := Z0 (zh w hg HB); have GE308 := Z0 (zh w hg HB); replace HB := Z0 (below_step (zb HB) hb); have NB304_308 := Z0 (zl hg BK304); have NB308_304 := Z0 (zu hg BK304); replace BK304 := Z0 (zkb BK304 hb); clear hb hbox hg; have hnb21 := NB308_304.out; have hnc21 := NB304_308.out; have hcz22_0 := kz0 BK308; have hcz22_1 := kz1 BK308; have hfz22_0 := blk_frozen BK308.out 0; have hfz22_1 := blk_frozen BK308.out 1))
         repeat (go_quiet (first | ((with_reducible refine gate_dst (N := 5) rfl ?_); (try (refine gate_guard (by rfl) ?_; dsimp only)); refine zx (N := 5) #[.int .i64 0, .int .i64 0] 85 ?_; intro gb308 hg w20 hbox hb; have BK308 := Z0 (hbox); have GW308 := Z0 (zh w hg HB); have GE308 := Z0 (zh w hg HB); replace HB := Z0 (below_step (zb HB) hb); have NB304_308 := Z0 (zl hg BK304); have NB308_304 := Z0 (zu hg BK304); replace BK304 := Z0 (zkb BK304 hb); clear hb hbox hg; have hnb21 := NB308_304.out; have hnc21 := NB304_308.out; have hcz22_0 := kz0 BK308; have hcz22_1 := kz1 BK308; have hfz22_0 := blk_frozen BK308.out 0; have hfz22_1 := blk_frozen BK308.out 1)); go_upto_region 12 with (first | ((with_reducible refine gate_dst (N := 5) rfl ?_); (try (refine gate_guard (by rfl) ?_; dsimp only)); refine zx (N := 5) #[.int .i64 0, .int .i64 0] 85 ?_; intro gb308 hg w20 hbox hb; have BK308 := Z0 (hbox); have GW308 := Z0 (zh w hg HB); have GE308 := Z0 (zh w hg HB); replace HB := Z0 (below_step (zb HB) hb); have NB304_308 := Z0 (zl hg BK304); have NB308_304 := Z0 (zu hg BK304); replace BK304 := Z0 (zkb BK304 hb); clear hb hbox hg; have hnb21 := NB308_304.out; have hnc21 := NB304_308.out; have hcz22_0 := kz0 BK308; have hcz22_1 := kz1 BK308; have hfz22_0 := blk_frozen BK308.out 0; have hfz22_1 := blk_frozen BK308.out 1)))
         (try simp only [Act.put, y0, y1, y2])
         go_cut [68] (fun v68 wc => ∃ (kq : Nat) (x68_17 : Bool), v68 = .bool x68_17 ∧ Aside0 (trefoilref04_Plain.j3 kq x4_3 x68_17 l0_0 l0_1 ((rd_T85 l0_1 x4_3).f0) ((rd_T85 l0_1 x4_3).f1) = some r) ∧ Aside0 (kq ≤ k3) ∧ Aside0 (wc.heap[gb304]? = some (.cells #[(.slice A0_0 l0_0.length c0_0), (.slice (some ad307) l0_1.length c0_1)] 25 (0, 0))) ∧ Aside0 (wc.heap[gb308]? = some (.cells #[.int .i64 ((rd_T85 l0_1 x4_3).f0), .int .i64 ((rd_T85 l0_1 x4_3).f1)] 85 (0, 0))) ∧ Aside0 (Below w.heap.size w wc))
         case first =>
          have H := HC18.out
          clear HC18
          replace H := Option.bind_eq_some_iff.mp H
          obtain ⟨t309, A230, H⟩ := H
          have A23 := Z0 A230
          clear A230
          by_cases c24 : t309 = true
          rotate_left
          ·replace c24 := Bool.eq_false_iff.mpr c24
           subst c24
           rw [if_neg nft] at H
           have H' := Z0 H
           clear H
           have hnb42 := NB304_308.out
           have hnc42 := NB308_304.out
           have hcz43_0 := kz0 BK304
           have hcz43_1 := kz1 BK304
           have hfz43_0 := blk_frozen BK304.out 0
           have hfz43_1 := blk_frozen BK304.out 1
           have hcz44_0 := kz0 BK308
           have hcz44_1 := kz1 BK308
           have hfz44_0 := blk_frozen BK308.out 0
           have hfz44_1 := blk_frozen BK308.out 1
           go_wp2_with (first | (go_at_call 85; (with_reducible refine (trefoilref04_node.calls _ _ l0_0 _ _ l0_1 ((rd_T85 l0_1 x4_3).f0) false _ ?side1 ?side2 ?side3 ?side4 A23.out).mono ?_); (case side1 => exact Kd.C_below HR0_0.out (zb HB)); (case side2 => exact HC0_0.out); (case side3 => exact Kd.C_below HR0_1.out (zb HB)); (case side4 => exact HC0_1.out); rintro e w45 ⟨rfl, hb⟩; replace BK304 := Z0 (kb (g := gb304) (o := .cells #[.slice A0_0 l0_0.length c0_0, .slice (some ad307) l0_1.length c0_1] 25 (0, 0)) (by (with_reducible repeat (first | refine kn ?_ _ | refine kd_ ?_ | refine ka ?_ _)); refine blk_far ?_ NB304_308.out _; (with_reducible repeat (first | refine kn ?_ _ | refine kd_ ?_ | refine ka ?_ _)); refine blk_far ?_ NB304_308.out _; (with_reducible repeat (first | refine kn ?_ _ | refine kd_ ?_ | refine ka ?_ _)); exact BK304.out) hb); replace BK308 := Z0 (kb (g := gb308) (o := .cells #[.int .i64 ((rd_T85 l0_1 x4_3).f0), .int .i64 ((rd_T85 l0_1 x4_3).f1)] 85 (0, 0)) (by (with_reducible repeat (first | refine kn ?_ _ | refine kd_ ?_ | refine ka ?_ _)); refine blk_put (cs := #[.int .i64 ((rd_T85 l0_1 x4_3).f0), .int .i64 0]) ?_ 1 _ rfl; (with_reducible repeat (first | refine kn ?_ _ | refine kd_ ?_ | refine ka ?_ _)); refine blk_put (cs := #[.int .i64 0, .int .i64 0]) ?_ 0 _ rfl; (with_reducible repeat (first | refine kn ?_ _ | refine kd_ ?_ | refine ka ?_ _)); exact BK308.out) hb); replace HB := Z0 (below_step (zb HB) hb); (try clear hb); (try clear hb2); (try clear hk); (try clear hi)))
           repeat (go_quiet (first | (go_at_call 85; (with_reducible refine (trefoilref04_node.calls _ _ l0_0 _ _ l0_1 ((rd_T85 l0_1 x4_3).f0) false _ ?side1 ?side2 ?side3 ?side4 A23.out).mono ?_); (case side1 => exact Kd.C_below HR0_0.out (zb HB)); (case side2 => exact HC0_0.out); (case side3 => exact Kd.C_below HR0_1.out (zb HB)); (case side4 => exact HC0_1.out); rintro e w45 ⟨rfl, hb⟩; replace BK304 := Z0 (kb (g := gb304) (o := .cells #[.slice A0_0 l0_0.length c0_0, .slice (some ad307) l0_1.length c0_1] 25 (0, 0)) (by (with_reducible repeat (first | refine kn ?_ _ | refine kd_ ?_ | refine ka ?_ _)); refine blk_far ?_ NB304_308.out _; (with_reducible repeat (first | refine kn ?_ _ | refine kd_ ?_ | refine ka ?_ _)); refine blk_far ?_ NB304_308.out _; (with_reducible repeat (first | refine kn ?_ _ | refine kd_ ?_ | refine ka ?_ _)); exact BK304.out) hb); replace BK308 := Z0 (kb (g := gb308) (o := .cells #[.int .i64 ((rd_T85 l0_1 x4_3).f0), .int .i64 ((rd_T85 l0_1 x4_3).f1)] 85 (0, 0)) (by (with_reducible repeat (first | refine kn ?_ _ | refine kd_ ?_ | refine ka ?_ _)); refine blk_put (cs := #[.int .i64 ((rd_T85 l0_1 x4_3).f0), .int .i64 0]) ?_ 1 _ rfl; (with_reducible repeat (first | refine kn ?_ _ | refine kd_ ?_ | refine ka ?_ _)); refine blk_put (cs := #[.int .i64 0, .int .i64 0]) ?_ 0 _ rfl; (with_reducible repeat (first | refine kn ?_ _ | refine kd_ ?_ | refine ka ?_ _)); exact BK308.out) hb); replace HB := Z0 (below_step (zb HB) hb); (try clear hb); (try clear hb2); (try clear hk); (try clear hi))); try go_wp2_with (first | (go_at_call 85; (with_reducible refine (trefoilref04_node.calls _ _ l0_0 _ _ l0_1 ((rd_T85 l0_1 x4_3).f0) false _ ?side1 ?side2 ?side3 ?side4 A23.out).mono ?_); (case side1 => exact Kd.C_below HR0_0.out (zb HB)); (case side2 => exact HC0_0.out); (case side3 => exact Kd.C_below HR0_1.out (zb HB)); (case side4 => exact HC0_1.out); rintro e w45 ⟨rfl, hb⟩; replace BK304 := Z0 (kb (g := gb304) (o := .cells #[.slice A0_0 l0_0.length c0_0, .slice (some ad307) l0_1.length c0_1] 25 (0, 0)) (by (with_reducible repeat (first | refine kn ?_ _ | refine kd_ ?_ | refine ka ?_ _)); refine blk_far ?_ NB304_308.out _; (with_reducible repeat (first | refine kn ?_ _ | refine kd_ ?_ | refine ka ?_ _)); refine blk_far ?_ NB304_308.out _; (with_reducible repeat (first | refine kn ?_ _ | refine kd_ ?_ | refine ka ?_ _)); exact BK304.out) hb); replace BK308 := Z0 (kb (g := gb308) (o := .cells #[.int .i64 ((rd_T85 l0_1 x4_3).f0), .int .i64 ((rd_T85 l0_1 x4_3).f1)] 85 (0, 0)) (by (with_reducible repeat (first | refine kn ?_ _ | refine kd_ ?_ | refine ka ?_ _)); refine blk_put (cs := #[.int .i64 ((rd_T85 l0_1 x4_3).f0), .int .i64 0]) ?_ 1 _ rfl; (with_reducible repeat (first | refine kn ?_ _ | refine kd_ ?_ | refine ka ?_ _)); refine blk_put (cs := #[.int .i64 0, .int .i64 0]) ?_ 0 _ rfl; (with_reducible repeat (first | refine kn ?_ _ | refine kd_ ?_ | refine ka ?_ _)); exact BK308.out) hb); replace HB := Z0 (below_step (zb HB) hb); (try clear hb); (try clear hb2); (try clear hk); (try clear hi))))
           go_meet
           case rel => exact ⟨_, (true), zs, H', ⟨by have := HJ1.out; have := HK2.out; have := HK3.out; first | omega | exact Nat.le_refl _⟩, ⟨zk BK304⟩, ⟨zk BK308⟩, ⟨zb HB⟩⟩
          subst c24
          rw [if_pos rfl] at H
          replace H := Option.bind_eq_some_iff.mp H
          obtain ⟨t310, A250, H⟩ := H
          have A25 := Z0 A250
          clear A250
          by_cases c26 : t310 = true
          ·subst c26
           rw [if_pos rfl] at H
           have H' := Z0 H
           clear H
           have hnb27 := NB304_308.out
           have hnc27 := NB308_304.out
           have hcz28_0 := kz0 BK304
           have hcz28_1 := kz1 BK304
           have hfz28_0 := blk_frozen BK304.out 0
           have hfz28_1 := blk_frozen BK304.out 1
           have hcz29_0 := kz0 BK308
           have hcz29_1 := kz1 BK308
           have hfz29_0 := blk_frozen BK308.out 0
           have hfz29_1 := blk_frozen BK308.out 1
           go_wp2_with (first | (go_at_call 85; (with_reducible refine (trefoilref04_node.calls _ _ l0_0 _ _ l0_1 ((rd_T85 l0_1 x4_3).f0) true _ ?side1 ?side2 ?side3 ?side4 A23.out).mono ?_); (case side1 => exact Kd.C_below HR0_0.out (zb HB)); (case side2 => exact HC0_0.out); (case side3 => exact Kd.C_below HR0_1.out (zb HB)); (case side4 => exact HC0_1.out); rintro e w30 ⟨rfl, hb⟩; replace BK304 := Z0 (kb (g := gb304) (o := .cells #[.slice A0_0 l0_0.length c0_0, .slice (some ad307) l0_1.length c0_1] 25 (0, 0)) (by (with_reducible repeat (first | refine kn ?_ _ | refine kd_ ?_ | refine ka ?_ _)); refine blk_far ?_ NB304_308.out _; (with_reducible repeat (first | refine kn ?_ _ | refine kd_ ?_ | refine ka ?_ _)); refine blk_far ?_ NB304_308.out _; (with_reducible repeat (first | refine kn ?_ _ | refine kd_ ?_ | refine ka ?_ _)); exact BK304.out) hb); replace BK308 := Z0 (kb (g := gb308) (o := .cells #[.int .i64 ((rd_T85 l0_1 x4_3).f0), .int .i64 ((rd_T85 l0_1 x4_3).f1)] 85 (0, 0)) (by (with_reducible repeat (first | refine kn ?_ _ | refine kd_ ?_ | refine ka ?_ _)); refine blk_put (cs := #[.int .i64 ((rd_T85 l0_1 x4_3).f0), .int .i64 0]) ?_ 1 _ rfl; (with_reducible repeat (first | refine kn ?_ _ | refine kd_ ?_ | refine ka ?_ _)); refine blk_put (cs := #[.int .i64 0, .int .i64 0]) ?_ 0 _ rfl; (with_reducible repeat (first | refine kn ?_ _ | refine kd_ ?_ | refine ka ?_ _)); exact BK308.out) hb); replace HB := Z0 (below_step (zb HB) hb); (try clear hb); (try clear hb2); (try clear hk); (try clear hi); have hcz31_0 := kz0 BK304; have hcz31_1 := kz1 BK304; have hfz31_0 := blk_frozen BK304.out 0; have hfz31_1 := blk_frozen BK304.out 1; have hcz32_0 := kz0 BK308; have hcz32_1 := kz1 BK308; have hfz32_0 := blk_frozen BK308.out 0; have hfz32_1 := blk_frozen BK308.out 1) | (go_at_call 85; (with_reducible refine (trefoilref04_node.calls _ _ l0_0 _ _ l0_1 ((rd_T85 l0_1 x4_3).f1) true _ ?side1 ?side2 ?side3 ?side4 A25.out).mono ?_); (case side1 => exact zc (Kd.C_below HR0_0.out HB.out)); (case side2 => exact HC0_0.out); (case side3 => exact zc (Kd.C_below HR0_1.out HB.out)); (case side4 => exact HC0_1.out); rintro e w33 ⟨rfl, hb⟩; replace BK304 := Z0 (zkb BK304 hb); replace BK308 := Z0 (zkb BK308 hb); replace HB := Z0 (below_step (zb HB) hb); (try clear hb); (try clear hb2); (try clear hk); (try clear hi); have hcz34_0 := kz0 BK308; have hcz34_1 := kz1 BK308; have hfz34_0 := blk_frozen BK308.out 0; have hfz34_1 := blk_frozen BK308.out 1))
           repeat (go_quiet (first | (go_at_call 85; (with_reducible refine (trefoilref04_node.calls _ _ l0_0 _ _ l0_1 ((rd_T85 l0_1 x4_3).f0) true _ ?side1 ?side2 ?side3 ?side4 A23.out).mono ?_); (case side1 => exact Kd.C_below HR0_0.out (zb HB)); (case side2 => exact HC0_0.out); (case side3 => exact Kd.C_below HR0_1.out (zb HB)); (case side4 => exact HC0_1.out); rintro e w30 ⟨rfl, hb⟩; replace BK304 := Z0 (kb (g := gb304) (o := .cells #[.slice A0_0 l0_0.length c0_0, .slice (some ad307) l0_1.length c0_1] 25 (0, 0)) (by (with_reducible repeat (first | refine kn ?_ _ | refine kd_ ?_ | refine ka ?_ _)); refine blk_far ?_ NB304_308.out _; (with_reducible repeat (first | refine kn ?_ _ | refine kd_ ?_ | refine ka ?_ _)); refine blk_far ?_ NB304_308.out _; (with_reducible repeat (first | refine kn ?_ _ | refine kd_ ?_ | refine ka ?_ _)); exact BK304.out) hb); replace BK308 := Z0 (kb (g := gb308) (o := .cells #[.int .i64 ((rd_T85 l0_1 x4_3).f0), .int .i64 ((rd_T85 l0_1 x4_3).f1)] 85 (0, 0)) (by (with_reducible repeat (first | refine kn ?_ _ | refine kd_ ?_ | refine ka ?_ _)); refine blk_put (cs := #[.int .i64 ((rd_T85 l0_1 x4_3).f0), .int .i64 0]) ?_ 1 _ rfl; (with_reducible repeat (first | refine kn ?_ _ | refine kd_ ?_ | refine ka ?_ _)); refine blk_put (cs := #[.int .i64 0, .int .i64 0]) ?_ 0 _ rfl; (with_reducible repeat (first | refine kn ?_ _ | refine kd_ ?_ | refine ka ?_ _)); exact BK308.out) hb); replace HB := Z0 (below_step (zb HB) hb); (try clear hb); (try clear hb2); (try clear hk); (try clear hi); have hcz31_0 := kz0 BK304; have hcz31_1 := kz1 BK304; have hfz31_0 := blk_frozen BK304.out 0; have hfz31_1 := blk_frozen BK304.out 1; have hcz32_0 := kz0 BK308; have hcz32_1 := kz1 BK308; have hfz32_0 := blk_frozen BK308.out 0; have hfz32_1 := blk_frozen BK308.out 1) | (go_at_call 85; (with_reducible refine (trefoilref04_node.calls _ _ l0_0 _ _ l0_1 ((rd_T85 l0_1 x4_3).f1) true _ ?side1 ?side2 ?side3 ?side4 A25.out).mono ?_); (case side1 => exact zc (Kd.C_below HR0_0.out HB.out)); (case side2 => exact HC0_0.out); (case side3 => exact zc (Kd.C_below HR0_1.out HB.out)); (case side4 => exact HC0_1.out); rintro e w33 ⟨rfl, hb⟩; replace BK304 := Z0 (zkb BK304 hb); replace BK308 := Z0 (zkb BK308 hb); replace HB := Z0 (below_step (zb HB) hb); (try clear hb); (try clear hb2); (try clear hk); (try clear hi); have hcz34_0 := kz0 BK308; have hcz34_1 := kz1 BK308; have hfz34_0 := blk_frozen BK308.out 0; have hfz34_1 := blk_frozen BK308.out 1)); try go_wp2_with (first | (go_at_call 85; (with_reducible refine (trefoilref04_node.calls _ _ l0_0 _ _ l0_1 ((rd_T85 l0_1 x4_3).f0) true _ ?side1 ?side2 ?side3 ?side4 A23.out).mono ?_); (case side1 => exact Kd.C_below HR0_0.out (zb HB)); (case side2 => exact HC0_0.out); (case side3 => exact Kd.C_below HR0_1.out (zb HB)); (case side4 => exact HC0_1.out); rintro e w30 ⟨rfl, hb⟩; replace BK304 := Z0 (kb (g := gb304) (o := .cells #[.slice A0_0 l0_0.length c0_0, .slice (some ad307) l0_1.length c0_1] 25 (0, 0)) (by (with_reducible repeat (first | refine kn ?_ _ | refine kd_ ?_ | refine ka ?_ _)); refine blk_far ?_ NB304_308.out _; (with_reducible repeat (first | refine kn ?_ _ | refine kd_ ?_ | refine ka ?_ _)); refine blk_far ?_ NB304_308.out _; (with_reducible repeat (first | refine kn ?_ _ | refine kd_ ?_ | refine ka ?_ _)); exact BK304.out) hb); replace BK308 := Z0 (kb (g := gb308) (o := .cells #[.int .i64 ((rd_T85 l0_1 x4_3).f0), .int .i64 ((rd_T85 l0_1 x4_3).f1)] 85 (0, 0)) (by (with_reducible repeat (first | refine kn ?_ _ | refine kd_ ?_ | refine ka ?_ _)); refine blk_put (cs := #[.int .i64 ((rd_T85 l0_1 x4_3).f0), .int .i64 0]) ?_ 1 _ rfl; (with_reducible repeat (first | refine kn ?_ _ | refine kd_ ?_ | refine ka ?_ _)); refine blk_put (cs := #[.int .i64 0, .int .i64 0]) ?_ 0 _ rfl; (with_reducible repeat (first | refine kn ?_ _ | refine kd_ ?_ | refine ka ?_ _)); exact BK308.out) hb); replace HB := Z0 (below_step (zb HB) hb); (try clear hb); (try clear hb2); (try clear hk); (try clear hi); have hcz31_0 := kz0 BK304; have hcz31_1 := kz1 BK304; have hfz31_0 := blk_frozen BK304.out 0; have hfz31_1 := blk_frozen BK304.out 1; have hcz32_0 := kz0 BK308; have hcz32_1 := kz1 BK308; have hfz32_0 := blk_frozen BK308.out 0; have hfz32_1 := blk_frozen BK308.out 1) | (go_at_call 85; (with_reducible refine (trefoilref04_node.calls _ _ l0_0 _ _ l0_1 ((rd_T85 l0_1 x4_3).f1) true _ ?side1 ?side2 ?side3 ?side4 A25.out).mono ?_); (case side1 => exact zc (Kd.C_below HR0_0.out HB.out)); (case side2 => exact HC0_0.out); (case side3 => exact zc (Kd.C_below HR0_1.out HB.out)); (case side4 => exact HC0_1.out); rintro e w33 ⟨rfl, hb⟩; replace BK304 := Z0 (zkb BK304 hb); replace BK308 := Z0 (zkb BK308 hb); replace HB := Z0 (below_step (zb HB) hb); (try clear hb); (try clear hb2); (try clear hk); (try clear hi); have hcz34_0 := kz0 BK308; have hcz34_1 := kz1 BK308; have hfz34_0 := blk_frozen BK308.out 0; have hfz34_1 := blk_frozen BK308.out 1)))
           go_meet
           case rel => exact ⟨_, ((((rd_T85 l0_1 x4_3).f0) == ((rd_T85 l0_1 x4_3).f1))), zs, H', ⟨by have := HJ1.out; have := HK2.out; have := HK3.out; first | omega | exact Nat.le_refl _⟩, ⟨zk BK304⟩, ⟨zk BK308⟩, ⟨zb HB⟩⟩
          ·replace c26 := Bool.eq_false_iff.mpr c26
           subst c26
           rw [if_neg nft] at H
           have H' := Z0 H
           clear H
           have hnb35 := NB304_308.out
           have hnc35 := NB308_304.out
           have hcz36_0 := kz0 BK304
           have hcz36_1 := kz1 BK304
           have hfz36_0 := blk_frozen BK304.out 0
           have hfz36_1 := blk_frozen BK304.out 1
           have hcz37_0 := kz0 BK308
           have hcz37_1 := kz1 BK308
           have hfz37_0 := blk_frozen BK308.out 0
           have hfz37_1 := blk_frozen BK308.out 1
           go_wp2_with (first | (go_at_call 85; (with_reducible refine (trefoilref04_node.calls _ _ l0_0 _ _ l0_1 ((rd_T85 l0_1 x4_3).f0) true _ ?side1 ?side2 ?side3 ?side4 A23.out).mono ?_); (case side1 => exact Kd.C_below HR0_0.out (zb HB)); (case side2 => exact HC0_0.out); (case side3 => exact Kd.C_below HR0_1.out (zb HB)); (case side4 => exact HC0_1.out); rintro e w38 ⟨rfl, hb⟩; replace BK304 := Z0 (kb (g := gb304) (o := .cells #[.slice A0_0 l0_0.length c0_0, .slice (some ad307) l0_1.length c0_1] 25 (0, 0)) (by (with_reducible repeat (first | refine kn ?_ _ | refine kd_ ?_ | refine ka ?_ _)); refine blk_far ?_ NB304_308.out _; (with_reducible repeat (first | refine kn ?_ _ | refine kd_ ?_ | refine ka ?_ _)); refine blk_far ?_ NB304_308.out _; (with_reducible repeat (first | refine kn ?_ _ | refine kd_ ?_ | refine ka ?_ _)); exact BK304.out) hb); replace BK308 := Z0 (kb (g := gb308) (o := .cells #[.int .i64 ((rd_T85 l0_1 x4_3).f0), .int .i64 ((rd_T85 l0_1 x4_3).f1)] 85 (0, 0)) (by (with_reducible repeat (first | refine kn ?_ _ | refine kd_ ?_ | refine ka ?_ _)); refine blk_put (cs := #[.int .i64 ((rd_T85 l0_1 x4_3).f0), .int .i64 0]) ?_ 1 _ rfl; (with_reducible repeat (first | refine kn ?_ _ | refine kd_ ?_ | refine ka ?_ _)); refine blk_put (cs := #[.int .i64 0, .int .i64 0]) ?_ 0 _ rfl; (with_reducible repeat (first | refine kn ?_ _ | refine kd_ ?_ | refine ka ?_ _)); exact BK308.out) hb); replace HB := Z0 (below_step (zb HB) hb); (try clear hb); (try clear hb2); (try clear hk); (try clear hi); have hcz39_0 := kz0 BK304; have hcz39_1 := kz1 BK304; have hfz39_0 := blk_frozen BK304.out 0; have hfz39_1 := blk_frozen BK304.out 1; have hcz40_0 := kz0 BK308; have hcz40_1 := kz1 BK308; have hfz40_0 := blk_frozen BK308.out 0; have hfz40_1 := blk_frozen BK308.out 1) | (go_at_call 85; (with_reducible refine (trefoilref04_node.calls _ _ l0_0 _ _ l0_1 ((rd_T85 l0_1 x4_3).f1) false _ ?side1 ?side2 ?side3 ?side4 A25.out).mono ?_); (case side1 => exact zc (Kd.C_below HR0_0.out HB.out)); (case side2 => exact HC0_0.out); (case side3 => exact zc (Kd.C_below HR0_1.out HB.out)); (case side4 => exact HC0_1.out); rintro e w41 ⟨rfl, hb⟩; replace BK304 := Z0 (zkb BK304 hb); replace BK308 := Z0 (zkb BK308 hb); replace HB := Z0 (below_step (zb HB) hb); (try clear hb); (try clear hb2); (try clear hk); (try clear hi)))
           repeat (go_quiet (first | (go_at_call 85; (with_reducible refine (trefoilref04_node.calls _ _ l0_0 _ _ l0_1 ((rd_T85 l0_1 x4_3).f0) true _ ?side1 ?side2 ?side3 ?side4 A23.out).mono ?_); (case side1 => exact Kd.C_below HR0_0.out (zb HB)); (case side2 => exact HC0_0.out); (case side3 => exact Kd.C_below HR0_1.out (zb HB)); (case side4 => exact HC0_1.out); rintro e w38 ⟨rfl, hb⟩; replace BK304 := Z0 (kb (g := gb304) (o := .cells #[.slice A0_0 l0_0.length c0_0, .slice (some ad307) l0_1.length c0_1] 25 (0, 0)) (by (with_reducible repeat (first | refine kn ?_ _ | refine kd_ ?_ | refine ka ?_ _)); refine blk_far ?_ NB304_308.out _; (with_reducible repeat (first | refine kn ?_ _ | refine kd_ ?_ | refine ka ?_ _)); refine blk_far ?_ NB304_308.out _; (with_reducible repeat (first | refine kn ?_ _ | refine kd_ ?_ | refine ka ?_ _)); exact BK304.out) hb); replace BK308 := Z0 (kb (g := gb308) (o := .cells #[.int .i64 ((rd_T85 l0_1 x4_3).f0), .int .i64 ((rd_T85 l0_1 x4_3).f1)] 85 (0, 0)) (by (with_reducible repeat (first | refine kn ?_ _ | refine kd_ ?_ | refine ka ?_ _)); refine blk_put (cs := #[.int .i64 ((rd_T85 l0_1 x4_3).f0), .int .i64 0]) ?_ 1 _ rfl; (with_reducible repeat (first | refine kn ?_ _ | refine kd_ ?_ | refine ka ?_ _)); refine blk_put (cs := #[.int .i64 0, .int .i64 0]) ?_ 0 _ rfl; (with_reducible repeat (first | refine kn ?_ _ | refine kd_ ?_ | refine ka ?_ _)); exact BK308.out) hb); replace HB := Z0 (below_step (zb HB) hb); (try clear hb); (try clear hb2); (try clear hk); (try clear hi); have hcz39_0 := kz0 BK304; have hcz39_1 := kz1 BK304; have hfz39_0 := blk_frozen BK304.out 0; have hfz39_1 := blk_frozen BK304.out 1; have hcz40_0 := kz0 BK308; have hcz40_1 := kz1 BK308; have hfz40_0 := blk_frozen BK308.out 0; have hfz40_1 := blk_frozen BK308.out 1) | (go_at_call 85; (with_reducible refine (trefoilref04_node.calls _ _ l0_0 _ _ l0_1 ((rd_T85 l0_1 x4_3).f1) false _ ?side1 ?side2 ?side3 ?side4 A25.out).mono ?_); (case side1 => exact zc (Kd.C_below HR0_0.out HB.out)); (case side2 => exact HC0_0.out); (case side3 => exact zc (Kd.C_below HR0_1.out HB.out)); (case side4 => exact HC0_1.out); rintro e w41 ⟨rfl, hb⟩; replace BK304 := Z0 (zkb BK304 hb); replace BK308 := Z0 (zkb BK308 hb); replace HB := Z0 (below_step (zb HB) hb); (try clear hb); (try clear hb2); (try clear hk); (try clear hi))); try go_wp2_with (first | (go_at_call 85; (with_reducible refine (trefoilref04_node.calls _ _ l0_0 _ _ l0_1 ((rd_T85 l0_1 x4_3).f0) true _ ?side1 ?side2 ?side3 ?side4 A23.out).mono ?_); (case side1 => exact Kd.C_below HR0_0.out (zb HB)); (case side2 => exact HC0_0.out); (case side3 => exact Kd.C_below HR0_1.out (zb HB)); (case side4 => exact HC0_1.out); rintro e w38 ⟨rfl, hb⟩; replace BK304 := Z0 (kb (g := gb304) (o := .cells #[.slice A0_0 l0_0.length c0_0, .slice (some ad307) l0_1.length c0_1] 25 (0, 0)) (by (with_reducible repeat (first | refine kn ?_ _ | refine kd_ ?_ | refine ka ?_ _)); refine blk_far ?_ NB304_308.out _; (with_reducible repeat (first | refine kn ?_ _ | refine kd_ ?_ | refine ka ?_ _)); refine blk_far ?_ NB304_308.out _; (with_reducible repeat (first | refine kn ?_ _ | refine kd_ ?_ | refine ka ?_ _)); exact BK304.out) hb); replace BK308 := Z0 (kb (g := gb308) (o := .cells #[.int .i64 ((rd_T85 l0_1 x4_3).f0), .int .i64 ((rd_T85 l0_1 x4_3).f1)] 85 (0, 0)) (by (with_reducible repeat (first | refine kn ?_ _ | refine kd_ ?_ | refine ka ?_ _)); refine blk_put (cs := #[.int .i64 ((rd_T85 l0_1 x4_3).f0), .int .i64 0]) ?_ 1 _ rfl; (with_reducible repeat (first | refine kn ?_ _ | refine kd_ ?_ | refine ka ?_ _)); refine blk_put (cs := #[.int .i64 0, .int .i64 0]) ?_ 0 _ rfl; (with_reducible repeat (first | refine kn ?_ _ | refine kd_ ?_ | refine ka ?_ _)); exact BK308.out) hb); replace HB := Z0 (below_step (zb HB) hb); (try clear hb); (try clear hb2); (try clear hk); (try clear hi); have hcz39_0 := kz0 BK304; have hcz39_1 := kz1 BK304; have hfz39_0 := blk_frozen BK304.out 0; have hfz39_1 := blk_frozen BK304.out 1; have hcz40_0 := kz0 BK308; have hcz40_1 := kz1 BK308; have hfz40_0 := blk_frozen BK308.out 0; have hfz40_1 := blk_frozen BK308.out 1) | (go_at_call 85; (with_reducible refine (trefoilref04_node.calls _ _ l0_0 _ _ l0_1 ((rd_T85 l0_1 x4_3).f1) false _ ?side1 ?side2 ?side3 ?side4 A25.out).mono ?_); (case side1 => exact zc (Kd.C_below HR0_0.out HB.out)); (case side2 => exact HC0_0.out); (case side3 => exact zc (Kd.C_below HR0_1.out HB.out)); (case side4 => exact HC0_1.out); rintro e w41 ⟨rfl, hb⟩; replace BK304 := Z0 (zkb BK304 hb); replace BK308 := Z0 (zkb BK308 hb); replace HB := Z0 (below_step (zb HB) hb); (try clear hb); (try clear hb2); (try clear hk); (try clear hi))))
           go_meet
           case rel => exact ⟨_, (true), zs, H', ⟨by have := HJ1.out; have := HK2.out; have := HK3.out; first | omega | exact Nat.le_refl _⟩, ⟨zk BK304⟩, ⟨zk BK308⟩, ⟨zb HB⟩⟩
         case rest =>
          clear HC18
          try clear c1
          try clear c2
          try clear p2
          try clear c3
          try clear p3
          try clear q3
          try clear hx3
          try clear c4
          try clear c4b0
          try clear c4b1
          try clear c6
          try clear p6
          try clear c7
          try clear c8
          try clear c8b0
          try clear c9
          try clear c9b0
          try clear c10
          try clear c10b0
          try clear c12
          try clear c12b0
          try clear c16
          try clear c16b0
          try clear c17
          try clear c17b0
          try clear c21
          try clear c24
          try clear c26
          try clear c27
          try clear p30
          try clear q30
          try clear hx30
          try clear c35
          try clear c42
          try clear hcz11_0
          try clear hcz11_1
          try clear hcz13_0
          try clear hcz13_1
          try clear hcz14_0
          try clear hcz14_1
          try clear hcz15_0
          try clear hcz15_1
          try clear hcz19_0
          try clear hcz19_1
          try clear hcz22_0
          try clear hcz22_1
          try clear hcz28_0
          try clear hcz28_1
          try clear hcz29_0
          try clear hcz29_1
          try clear hcz31_0
          try clear hcz31_1
          try clear hcz32_0
          try clear hcz32_1
          try clear hcz34_0
          try clear hcz34_1
          try clear hcz36_0
          try clear hcz36_1
          try clear hcz37_0
          try clear hcz37_1
          try clear hcz39_0
          try clear hcz39_1
          try clear hcz40_0
          try clear hcz40_1
          try clear hcz43_0
          try clear hcz43_1
          try clear hcz44_0
          try clear hcz44_1
          try clear hcz5_0
          try clear hcz5_1
          try clear hcz6_0
          try clear hcz6_1
          try clear hfz11_0
          try clear hfz11_1
          try clear hfz13_0
          try clear hfz13_1
          try clear hfz14_0
          try clear hfz14_1
          try clear hfz15_0
          try clear hfz15_1
          try clear hfz19_0
          try clear hfz19_1
          try clear hfz22_0
          try clear hfz22_1
          try clear hfz28_0
          try clear hfz28_1
          try clear hfz29_0
          try clear hfz29_1
          try clear hfz31_0
          try clear hfz31_1
          try clear hfz32_0
          try clear hfz32_1
          try clear hfz34_0
          try clear hfz34_1
          try clear hfz36_0
          try clear hfz36_1
          try clear hfz37_0
          try clear hfz37_1
          try clear hfz39_0
          try clear hfz39_1
          try clear hfz40_0
          try clear hfz40_1
          try clear hfz43_0
          try clear hfz43_1
          try clear hfz44_0
          try clear hfz44_1
          try clear hfz5_0
          try clear hfz5_1
          try clear hfz6_0
          try clear hfz6_1
          try clear hx305_0
          try clear hx306_0
          try clear hx307_0
          try clear hx307_1
          try clear p2
          try clear p3
          try clear p305
          try clear p306
          try clear p307
          try clear p6
          try clear q3
          try clear q305
          try clear q306
          try clear q307
          obtain ⟨kq, x68_17, rfl, HA, HJ17, BK304, BK308, HB⟩ := hcut
          cases kq with
          | zero => exact absurd HA.out (by simp [trefoilref04_Plain.j3])
          | succ kj17 =>
           have H := HA.out
           clear HA
           simp only [trefoilref04_Plain.j3] at H
           by_cases c46 : x68_17 = true
           ·subst c46
            rw [if_pos rfl] at H
            obtain rfl := Option.some.inj H
            go_wp2
            repeat (go_quiet (fail); try go_wp2)
            go_ret
            exact ⟨ze, zb HB⟩
           ·replace c46 := Bool.eq_false_iff.mpr c46
            subst c46
            rw [if_neg nft] at H
            have H' := Z0 H
            clear H
            go_wp2
            repeat (go_quiet (fail); try go_wp2)
            go_loopg [6] kj17 (fun kq v6 w' => ∃ (x6_5 : Int), v6 = .int .i64 x6_5 ∧ Aside0 (trefoilref04_Plain.l2 kq x4_3 x6_5 l0_0 l0_1 ((rd_T85 l0_1 x4_3).f0) ((rd_T85 l0_1 x4_3).f1) = some r) ∧ Aside0 (kq ≤ kj17) ∧ Aside0 (w'.heap[gb304]? = some (.cells #[(.slice A0_0 l0_0.length c0_0), (.slice (some ad307) l0_1.length c0_1)] 25 (0, 0))) ∧ Aside0 (w'.heap[gb308]? = some (.cells #[.int .i64 ((rd_T85 l0_1 x4_3).f0), .int .i64 ((rd_T85 l0_1 x4_3).f1)] 85 (0, 0))) ∧ Aside0 (Below w.heap.size w w'))
            case atStart => exact ⟨(0), zs, H', ⟨Nat.le_refl _⟩, ⟨zk BK304⟩, ⟨zk BK308⟩, ⟨zb HB⟩⟩
            case round =>
             clear H'
             try clear c1
             try clear c2
             try clear p2
             try clear c3
             try clear p3
             try clear q3
             try clear hx3
             try clear c4
             try clear c4b0
             try clear c4b1
             try clear c6
             try clear p6
             try clear c7
             try clear c8
             try clear c8b0
             try clear c9
             try clear c9b0
             try clear c10
             try clear c10b0
             try clear c12
             try clear c12b0
             try clear c16
             try clear c16b0
             try clear c17
             try clear c17b0
             try clear c21
             try clear c24
             try clear c26
             try clear c27
             try clear p30
             try clear q30
             try clear hx30
             try clear c35
             try clear c42
             try clear c46
             try clear hcz11_0
             try clear hcz11_1
             try clear hcz13_0
             try clear hcz13_1
             try clear hcz14_0
             try clear hcz14_1
             try clear hcz15_0
             try clear hcz15_1
             try clear hcz19_0
             try clear hcz19_1
             try clear hcz22_0
             try clear hcz22_1
             try clear hcz28_0
             try clear hcz28_1
             try clear hcz29_0
             try clear hcz29_1
             try clear hcz31_0
             try clear hcz31_1
             try clear hcz32_0
             try clear hcz32_1
             try clear hcz34_0
             try clear hcz34_1
             try clear hcz36_0
             try clear hcz36_1
             try clear hcz37_0
             try clear hcz37_1
             try clear hcz39_0
             try clear hcz39_1
             try clear hcz40_0
             try clear hcz40_1
             try clear hcz43_0
             try clear hcz43_1
             try clear hcz44_0
             try clear hcz44_1
             try clear hcz5_0
             try clear hcz5_1
             try clear hcz6_0
             try clear hcz6_1
             try clear hfz11_0
             try clear hfz11_1
             try clear hfz13_0
             try clear hfz13_1
             try clear hfz14_0
             try clear hfz14_1
             try clear hfz15_0
             try clear hfz15_1
             try clear hfz19_0
             try clear hfz19_1
             try clear hfz22_0
             try clear hfz22_1
             try clear hfz28_0
             try clear hfz28_1
             try clear hfz29_0
             try clear hfz29_1
             try clear hfz31_0
             try clear hfz31_1
             try clear hfz32_0
             try clear hfz32_1
             try clear hfz34_0
             try clear hfz34_1
             try clear hfz36_0
             try clear hfz36_1
             try clear hfz37_0
             try clear hfz37_1
             try clear hfz39_0
             try clear hfz39_1
             try clear hfz40_0
             try clear hfz40_1
             try clear hfz43_0
             try clear hfz43_1
             try clear hfz44_0
             try clear hfz44_1
             try clear hfz5_0
             try clear hfz5_1
             try clear hfz6_0
             try clear hfz6_1
             try clear hx305_0
             try clear hx306_0
             try clear hx307_0
             try clear hx307_1
             try clear p2
             try clear p3
             try clear p30
             try clear p305
             try clear p306
             try clear p307
             try clear p6
             try clear q3
             try clear q30
             try clear q305
             try clear q306
             try clear q307
             obtain ⟨x6_5, rfl, HA, HK5, BK304, BK308, HB⟩ := hrel
             cases gk with
             | zero => exact absurd HA.out (by simp [trefoilref04_Plain.l2])
             | succ k5 =>
              have H := HA.out
              clear HA
              simp only [trefoilref04_Plain.l2] at H
              by_cases c47 : x6_5 < x4_3
              rotate_left
              ·rw [if_neg c47] at H
               have c47b0 : decide (x6_5 < x4_3) = false := decide_eq_false c47
               clear c47
               have H' := Z0 H
               clear H
               go_wp2
               repeat (go_quiet (fail); try go_wp2)
               go_roundg k5
               case measure => have := HJ1.out; have := HK2.out; have := HK3.out; have := HJ17.out; have := HK5.out; omega
               case rel => exact ⟨(wrap64 (x4_3 + 1)), zs, H', ⟨by have := HJ1.out; have := HK2.out; have := HK3.out; have := HJ17.out; have := HK5.out; omega⟩, ⟨zk BK304⟩, ⟨zb HB⟩⟩
              rw [if_pos c47] at H
              have c47b0 : decide (x6_5 < x4_3) = true := decide_eq_true c47
              clear c47
              by_cases c48 : 0 ≤ x6_5
              rotate_left
              ·rw [if_neg c48] at H
               exact absurd H (by simp)
              rw [if_pos c48] at H
              have c48b0 : decide (0 ≤ x6_5) = true := decide_eq_true c48
              clear c48
              by_cases c49 : x6_5 < (l0_1.length : Int)
              rotate_left
              ·rw [if_neg c49] at H
               exact absurd H (by simp)
              rw [if_pos c49] at H
              have c49b0 : decide (x6_5 < (l0_1.length : Int)) = true := decide_eq_true c49
              clear c49
              by_cases c50 : (((rd_T85 l0_1 x6_5).f0) == ((rd_T85 l0_1 x4_3).f0) && (((rd_T85 l0_1 x6_5).f1) == ((rd_T85 l0_1 x4_3).f1))) = true
              ·rw [if_pos c50] at H
               have c50b0 : (((rd_T85 l0_1 x6_5).f0) == ((rd_T85 l0_1 x4_3).f0) && (((rd_T85 l0_1 x6_5).f1) == ((rd_T85 l0_1 x4_3).f1))) = true := c50
               (try (have c50b1 : decide (((rd_T85 l0_1 x6_5).f0) = ((rd_T85 l0_1 x4_3).f0) && (((rd_T85 l0_1 x6_5).f1) == ((rd_T85 l0_1 x4_3).f1))) = true := by simpa using c50))
               (try (have c50b2 : (((rd_T85 l0_1 x6_5).f0) == ((rd_T85 l0_1 x4_3).f0) && (((rd_T85 l0_1 x6_5).f1) == ((rd_T85 l0_1 x4_3).f1))) = true := by simpa using c50))
               clear c50
               obtain rfl := Option.some.inj H
               have hnb51 := NB304_308.out
               have hnc51 := NB308_304.out
               have hcz52_0 := kz0 BK304
               have hcz52_1 := kz1 BK304
               have hfz52_0 := blk_frozen BK304.out 0
               have hfz52_1 := blk_frozen BK304.out 1
               have p311 : 0 ≤ (x6_5 : Int) := od
               have q311 : x6_5 < (l0_1.length : Int) := od
               obtain ⟨ad311, e311, hx311_0, hx311_1⟩ := at_T85 HR0_1.out x6_5 p311 q311
               obtain rfl : ad307 = ad311 := (by injection e311)
               replace hx311_0 := (HB.out.cell (bl w _ hx311_0)).trans hx311_0
               replace hx311_1 := (HB.out.cell (bl w _ hx311_1)).trans hx311_1
               replace p311 := eq_true p311
               replace q311 := eq_true q311
               have hcz53_0 := kz0 BK308
               have hcz53_1 := kz1 BK308
               have hfz53_0 := blk_frozen BK308.out 0
               have hfz53_1 := blk_frozen BK308.out 1
               go_wp2
               repeat (go_quiet (fail); try go_wp2)
               go_ret
               exact ⟨ze, zb HB⟩
              ·rw [if_neg c50] at H
               have c50b0 : (((rd_T85 l0_1 x6_5).f0) == ((rd_T85 l0_1 x4_3).f0) && (((rd_T85 l0_1 x6_5).f1) == ((rd_T85 l0_1 x4_3).f1))) = false := by simpa using c50
               (try (have c50b1 : decide (((rd_T85 l0_1 x6_5).f0) = ((rd_T85 l0_1 x4_3).f0) && (((rd_T85 l0_1 x6_5).f1) == ((rd_T85 l0_1 x4_3).f1))) = false := by simpa using c50))
               (try (have c50b2 : (((rd_T85 l0_1 x6_5).f0) == ((rd_T85 l0_1 x4_3).f0) && (((rd_T85 l0_1 x6_5).f1) == ((rd_T85 l0_1 x4_3).f1))) = false := by simpa using c50))
               (try (have c50b3 : ¬ (((rd_T85 l0_1 x6_5).f0) = ((rd_T85 l0_1 x4_3).f0) && (((rd_T85 l0_1 x6_5).f1) == ((rd_T85 l0_1 x4_3).f1))) := by simpa using c50))
               clear c50
               have H' := Z0 H
               clear H
               have hnb54 := NB304_308.out
               have hnc54 := NB308_304.out
               have hcz55_0 := kz0 BK304
               have hcz55_1 := kz1 BK304
               have hfz55_0 := blk_frozen BK304.out 0
               have hfz55_1 := blk_frozen BK304.out 1
               have p311 : 0 ≤ (x6_5 : Int) := od
               have q311 : x6_5 < (l0_1.length : Int) := od
               obtain ⟨ad311, e311, hx311_0, hx311_1⟩ := at_T85 HR0_1.out x6_5 p311 q311
               obtain rfl : ad307 = ad311 := (by injection e311)
               replace hx311_0 := (HB.out.cell (bl w _ hx311_0)).trans hx311_0
               replace hx311_1 := (HB.out.cell (bl w _ hx311_1)).trans hx311_1
               replace p311 := eq_true p311
               replace q311 := eq_true q311
               have hcz56_0 := kz0 BK308
               have hcz56_1 := kz1 BK308
               have hfz56_0 := blk_frozen BK308.out 0
               have hfz56_1 := blk_frozen BK308.out 1
               go_wp2
               repeat (go_quiet (fail); try go_wp2)
               go_roundg k5
               case measure => have := HJ1.out; have := HK2.out; have := HK3.out; have := HJ17.out; have := HK5.out; omega
               case rel => exact ⟨(wrap64 (x6_5 + 1)), zs, H', ⟨by have := HJ1.out; have := HK2.out; have := HK3.out; have := HJ17.out; have := HK5.out; omega⟩, ⟨zk BK304⟩, ⟨zk BK308⟩, ⟨zb HB⟩⟩
end Go.Proofs.Ytmbhjhanafmidaa.PListSteps
