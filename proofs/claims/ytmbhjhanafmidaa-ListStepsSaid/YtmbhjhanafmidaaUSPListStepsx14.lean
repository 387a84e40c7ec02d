/- Written by a program of this work: each theorem says that a call of the Go function comes to what the Lean function beside it tells, under the conditions that it names; Lean checks it. -/
import Derived.Test.YtmbhjhanafmidaaUSPListStepsx0
import Derived.Test.YtmbhjhanafmidaaUSPListStepsx13
import Derived.Test.YtmbhjhanafmidaaUSZr
import Derived.Test.YtmbhjhanafmidaaUSZq
namespace Go.Proofs.Ytmbhjhanafmidaa.PListSteps
open Go.Proofs.Ytmbhjhanafmidaa.PAw Go.Proofs.Ytmbhjhanafmidaa.Zr Go.RowKit Go.Proofs.YtmbhjhanafmidaaW.PrintWords Go.Proofs.YtmbhjhanafmidaaW.PrintLast Go.Proofs.YtmbhjhanafmidaaW.PrintMore
attribute [local go_sem] max2_int min2_int max_two min_two max_three min_three max_four min_four   -- for this text's walks alone
set_option linter.unusedVariables false
set_option linter.unusedSimpArgs false
mutual
def trefoilref04_Reach.l0 : Nat → Int → List Bool → Int → List Int → List (S85) → Option (List Bool)
 | 0, _, _, _, _, _ => none
 | k + 1, x1, x5, x6, x313000, x313001 => if x6 < (x313000.length : Int) then (trefoilref04_Reach.l1 k x1 x5 x6 0 x313000 x313001) else (some x5)
def trefoilref04_Reach.l1 : Nat → Int → List Bool → Int → Int → List Int → List (S85) → Option (List Bool)
 | 0, _, _, _, _, _, _ => none
 | k + 1, x1, x5, x6, x7, x313000, x313001 => if x7 < (x313001.length : Int) then (if 0 ≤ x7 then (if ((rd_T85 x313001 x7).f0) = x1 then (if 0 ≤ ((rd_T85 x313001 x7).f1) then (if ((rd_T85 x313001 x7).f1) < (x5.length : Int) then (trefoilref04_Reach.l1 k x1 (x5.set (((rd_T85 x313001 x7).f1) : Int).toNat true) x6 (wrap64 (x7 + 1)) x313000 x313001) else (none)) else (none)) else (if 0 ≤ ((rd_T85 x313001 x7).f0) then (if ((rd_T85 x313001 x7).f0) < (x5.length : Int) then (if rdOf false x5 ((rd_T85 x313001 x7).f0) = true then (if 0 ≤ ((rd_T85 x313001 x7).f1) then (if ((rd_T85 x313001 x7).f1) < (x5.length : Int) then (trefoilref04_Reach.l1 k x1 (x5.set (((rd_T85 x313001 x7).f1) : Int).toNat true) x6 (wrap64 (x7 + 1)) x313000 x313001) else (none)) else (none)) else (trefoilref04_Reach.l1 k x1 x5 x6 (wrap64 (x7 + 1)) x313000 x313001)) else (none)) else (none))) else (none)) else (trefoilref04_Reach.l0 k x1 x5 (wrap64 (x6 + 1)) x313000 x313001)
end
def trefoilref04_Reach.f (k : Nat) (l0_0 : List Int) (l0_1 : List (S85)) (a1 : Int) : Option (List Bool) := if 0 ≤ (l0_0.length : Int) then (if ((l0_0.length : Int) : Int).toNat ≤ 281474976710656 then (trefoilref04_Reach.l0 k a1 (List.replicate ((l0_0.length : Int) : Int).toNat false) 0 l0_0 l0_1) else (none)) else (none)
set_option maxHeartbeats 8000000 in
set_option maxRecDepth 100000 in
theorem trefoilref04_Reach.calls (k : Nat) (A0_0 : Option Addr) (c0_0 : Nat) (l0_0 : List Int) (A0_1 : Option Addr) (c0_1 : Nat) (l0_1 : List (S85)) (a1 : Int) (r : List Bool) (w : World) (hr0_0 : Kd.C (Kd.int .i64) w A0_0 l0_0.length l0_0) (hc0_0 : l0_0.length ≤ c0_0) (hr0_1 : Kd.C k85 w A0_1 l0_1.length l0_1) (hc0_1 : l0_1.length ≤ c0_1) (h : trefoilref04_Reach.f k l0_0 l0_1 a1 = some r) :
  Calls Try.prog 62 #[.agg #[.slice A0_0 l0_0.length c0_0, .slice A0_1 l0_1.length c0_1], .int .i64 a1] w fun e w' => ∃ v0_ : Value, e = .returned (v0_) ∧ Kd.R Kd.bool 4 w' w.heap.size (fun _ => True) v0_ r ∧ Below w.heap.size w w' := by
 have hu25 := Try.underlying25
 have hu85 := Try.underlying85
 have HR0_0 := Z0 hr0_0
 have HC0_0 := Z0 hc0_0
 clear hr0_0 hc0_0
 have HR0_1 := Z0 hr0_1
 have HC0_1 := Z0 hc0_1
 clear hr0_1 hc0_1
 have HB := Z0 (Below.refl w.heap.size w)
 have H : (if 0 ≤ (l0_0.length : Int) then (if ((l0_0.length : Int) : Int).toNat ≤ 281474976710656 then (trefoilref04_Reach.l0 k a1 (List.replicate ((l0_0.length : Int) : Int).toNat false) 0 l0_0 l0_1) else (none)) else (none)) = some r := h
 clear h
 by_cases c3 : 0 ≤ (l0_0.length : Int)
 rotate_left
 ·rw [if_neg c3] at H
  exact absurd H (by simp)
 rw [if_pos c3] at H
 have c3b0 := eq_true c3
 have c3b1 : decide (0 ≤ (l0_0.length : Int)) = true := decide_eq_true c3
 clear c3
 by_cases c4 : ((l0_0.length : Int) : Int).toNat ≤ 281474976710656
 rotate_left
 ·rw [if_neg c4] at H
  exact absurd H (by simp)
 rw [if_pos c4] at H
 have c4b0 := eq_true c4
 have c4b1 : decide (((l0_0.length : Int) : Int).toNat ≤ 281474976710656) = true := decide_eq_true c4
 clear c4
 obtain ⟨y313, hy313⟩ : ∃ y_ : List Bool, y_ = (List.replicate ((l0_0.length : Int) : Int).toNat false) := ⟨_, rfl⟩
 replace H : (trefoilref04_Reach.l0 k a1 y313 0 l0_0 l0_1) = some r := by first | (rw [hy313]; with_reducible exact H) | (have H2_ := (Option.bind_some _ _).symm.trans H; rw [hy313]; with_reducible exact H2_) | (have H2_ := (Option.bind_some _ _).symm.trans H; with_reducible exact H2_) | with_reducible exact H | (rw [hy313]; exact H) | exact H
 have Ny313 := Z0 hy313
 clear hy313
 have H' := Z0 H
 clear H
 go_enter Try.func62, Try.ntmps62
 go_wp2_with (first | ((with_reducible refine gate_dst (N := 2) rfl ?_); refine zx (N := 2) #[.slice A0_0 l0_0.length c0_0, .slice A0_1 l0_1.length c0_1] 25 ?_; intro gb312 hg w5 hbox hb; have BK312 := Z0 (hbox); have GW312 := Z0 (zh w hg HB); have GE312 := Z0 (zh w hg HB); replace HB := Z0 (below_step (zb HB) hb); clear hb hbox hg; have hcz6_0 := kz0 BK312; have hcz6_1 := kz1 BK312; have hfz6_0 := blk_frozen BK312.out 0; have hfz6_1 := blk_frozen BK312.out 1) | ((with_reducible refine gate_dst (N := 12) rfl ?_); refine Kd.R_make Kd.bool _ 4 rfl (N := 12) rfl 81 _ _ rfl (l0_0.length : Int) rfl rfl Try.underlying81 (.bool false) 1 info4 rfl (by decide) (by omega) false (ok := fun _ => True) (okp := fun _ => True) rfl (fun _ hk => hk) trivial (of_decide_eq_true (by first | (with_reducible assumption) | assumption)) (Nat.le_trans (Nat.mul_le_mul_right _ (of_decide_eq_true (by first | (with_reducible assumption) | assumption) : (l0_0.length : Int).toNat ≤ 281474976710656)) (by omega)) (Below.refl _ _) (Nat.le_refl _) ?_; intro v314 w7 ho8 hb hg_ hnew_; clear hg_ hnew_; (first | rw [← Ny313.out] at ho8 | (simp only [Int.reduceToNat] at ho8; rw [← Ny313.out] at ho8)); have HO315 := Z0 (rl ho8 (below_size (zb HB))); replace BK312 := Z0 (zkb BK312 hb); replace HB := Z0 (below_step (zb HB) hb); clear hb ho8))
 go_loopg [6] k (fun kq v6 w' => ∃ (x5_1 : List Bool) (x6_1 : Int), v6 = .int .i64 x6_1 ∧ Aside0 (trefoilref04_Reach.l0 kq a1 x5_1 x6_1 l0_0 l0_1 = some r) ∧ Aside0 (kq ≤ k) ∧ Aside0 (Kd.R Kd.bool 4 w' w.heap.size (fun _ => True) v314 x5_1) ∧ Aside0 (w'.heap[gb312]? = some (.cells #[(.slice A0_0 l0_0.length c0_0), (.slice A0_1 l0_1.length c0_1)] 25 (0, 0))) ∧ Aside0 (Below w.heap.size w w'))
 case atStart => exact ⟨(y313), (0), zs, H', ⟨Nat.le_refl _⟩, ⟨by (with_reducible repeat (first | apply ra | apply rn | apply rd_)); exact HO315.out⟩, ⟨zk BK312⟩, ⟨zb HB⟩⟩
 case round =>
  clear H'
  try clear p2
  try clear c3
  try clear c3b0
  try clear c3b1
  try clear c4
  try clear c4b0
  try clear c4b1
  try clear c6
  try clear hcz6_0
  try clear hcz6_1
  try clear hfz6_0
  try clear hfz6_1
  obtain ⟨x5_1, x6_1, rfl, HA, HK1, HO_5, BK312, HB⟩ := hrel
  cases gk with
  | zero => exact absurd HA.out (by simp [trefoilref04_Reach.l0])
  | succ k1 =>
   have H := HA.out
   clear HA
   simp only [trefoilref04_Reach.l0] at H
   by_cases c9 : x6_1 < (l0_0.length : Int)
   rotate_left
   ·rw [if_neg c9] at H
    have c9b0 : decide (x6_1 < (l0_0.length : Int)) = false := decide_eq_false c9
    clear c9
    obtain rfl := Option.some.inj H
    have hcz47_0 := kz0 BK312
    have hcz47_1 := kz1 BK312
    have hfz47_0 := blk_frozen BK312.out 0
    have hfz47_1 := blk_frozen BK312.out 1
    go_wp2
    go_ret
    exact ⟨_, ze, by (with_reducible repeat (first | apply ra | apply rn | apply rd_)); exact HO_5.out, zb HB⟩
   rw [if_pos c9] at H
   have c9b0 : decide (x6_1 < (l0_0.length : Int)) = true := decide_eq_true c9
   clear c9
   have H' := Z0 H
   clear H
   have hcz10_0 := kz0 BK312
   have hcz10_1 := kz1 BK312
   have hfz10_0 := blk_frozen BK312.out 0
   have hfz10_1 := blk_frozen BK312.out 1
   go_wp2
   go_loopg [7] k1 (fun kq v7 w' => ∃ (x5_2 : List Bool) (x7_2 : Int), v7 = .int .i64 x7_2 ∧ Aside0 (trefoilref04_Reach.l1 kq a1 x5_2 x6_1 x7_2 l0_0 l0_1 = some r) ∧ Aside0 (kq ≤ k1) ∧ Aside0 (Kd.R Kd.bool 4 w' w.heap.size (fun _ => True) v314 x5_2) ∧ Aside0 (w'.heap[gb312]? = some (.cells #[(.slice A0_0 l0_0.length c0_0), (.slice A0_1 l0_1.length c0_1)] 25 (0, 0))) ∧ Aside0 (Below w.heap.size w w'))
   case atStart => exact ⟨(x5_1), (0), zs, H', ⟨Nat.le_refl _⟩, ⟨by (with_reducible repeat (first | apply ra | apply rn | apply rd_)); exact HO_5.out⟩, ⟨zk BK312⟩, ⟨zb HB⟩⟩
   case round =>
    clear H'
    try clear p2
    try clear c3
    try clear c3b0
    try clear c3b1
    try clear c4
    try clear c4b0
    try clear c4b1
    try clear c6
    try clear c9
    try clear c9b0
    try clear hcz10_0
    try clear hcz10_1
    try clear hcz6_0
    try clear hcz6_1
    try clear hfz10_0
    try clear hfz10_1
    try clear hfz6_0
    try clear hfz6_1
    try clear p2
    obtain ⟨x5_2, x7_2, rfl, HA, HK2, HO_5, BK312, HB⟩ := hrel
    cases gk with
    | zero => exact absurd HA.out (by simp [trefoilref04_Reach.l1])
    | succ k2 =>
     have H := HA.out
     clear HA
     simp only [trefoilref04_Reach.l1] at H
     by_cases c11 : x7_2 < (l0_1.length : Int)
     rotate_left
     ·rw [if_neg c11] at H
      have c11b0 : decide (x7_2 < (l0_1.length : Int)) = false := decide_eq_false c11
      clear c11
      have H' := Z0 H
      clear H
      have hcz46_0 := kz0 BK312
      have hcz46_1 := kz1 BK312
      have hfz46_0 := blk_frozen BK312.out 0
      have hfz46_1 := blk_frozen BK312.out 1
      go_wp2
      go_roundg k2
      case measure => have := HK1.out; have := HK2.out; omega
      case rel => exact ⟨(x5_2), (wrap64 (x6_1 + 1)), zs, H', ⟨by have := HK1.out; have := HK2.out; omega⟩, ⟨by (with_reducible repeat (first | apply ra | apply rn | apply rd_)); exact HO_5.out⟩, ⟨zk BK312⟩, ⟨zb HB⟩⟩
     rw [if_pos c11] at H
     have c11b0 : decide (x7_2 < (l0_1.length : Int)) = true := decide_eq_true c11
     clear c11
     by_cases c12 : 0 ≤ x7_2
     rotate_left
     ·rw [if_neg c12] at H
      exact absurd H (by simp)
     rw [if_pos c12] at H
     have c12b0 : decide (0 ≤ x7_2) = true := decide_eq_true c12
     clear c12
     by_cases c13 : ((rd_T85 l0_1 x7_2).f0) = a1
     ·rw [if_pos c13] at H
      have c13b0 : (((rd_T85 l0_1 x7_2).f0) == a1) = true := beq_iff_eq.mpr c13
      have c13b1 : (((rd_T85 l0_1 x7_2).f0) != a1) = false := bne_eq_false_iff_eq.mpr c13
      clear c13
      by_cases c14 : 0 ≤ ((rd_T85 l0_1 x7_2).f1)
      rotate_left
      ·rw [if_neg c14] at H
       exact absurd H (by simp)
      rw [if_pos c14] at H
      have c14b0 : decide (0 ≤ ((rd_T85 l0_1 x7_2).f1)) = true := decide_eq_true c14
      clear c14
      by_cases c15 : ((rd_T85 l0_1 x7_2).f1) < (x5_2.length : Int)
      rotate_left
      ·rw [if_neg c15] at H
       exact absurd H (by simp)
      rw [if_pos c15] at H
      have c15b0 : decide (((rd_T85 l0_1 x7_2).f1) < (x5_2.length : Int)) = true := decide_eq_true c15
      clear c15
      obtain ⟨y318, hy318⟩ : ∃ y_ : List Bool, y_ = (x5_2.set (((rd_T85 l0_1 x7_2).f1) : Int).toNat true) := ⟨_, rfl⟩
      replace H : (trefoilref04_Reach.l1 k2 a1 y318 x6_1 (wrap64 (x7_2 + 1)) l0_0 l0_1) = some r := by first | (rw [hy318]; with_reducible exact H) | (have H2_ := (Option.bind_some _ _).symm.trans H; rw [hy318]; with_reducible exact H2_) | (have H2_ := (Option.bind_some _ _).symm.trans H; with_reducible exact H2_) | with_reducible exact H | (rw [hy318]; exact H) | exact H
      have Ny318 := Z0 hy318
      clear hy318
      have H' := Z0 H
      clear H
      have hcz17_0 := kz0 BK312
      have hcz17_1 := kz1 BK312
      have hfz17_0 := blk_frozen BK312.out 0
      have hfz17_1 := blk_frozen BK312.out 1
      have p316 : 0 ≤ (x7_2 : Int) := od
      have q316 : x7_2 < (l0_1.length : Int) := od
      obtain ⟨ad316, e316, hx316_0, hx316_1⟩ := at_T85 HR0_1.out x7_2 p316 q316
      cases e316
      replace hx316_0 := (HB.out.cell (bl w _ hx316_0)).trans hx316_0
      replace hx316_1 := (HB.out.cell (bl w _ hx316_1)).trans hx316_1
      replace p316 := eq_true p316
      replace q316 := eq_true q316
      go_wp2_with (first | ((with_reducible refine gate_dst (N := 8) rfl ?_); refine zx (N := 8) #[.int .i64 0, .int .i64 0] 85 ?_; intro gb317 hg w18 hbox hb; have n0_ := Z0 (rbe (zr HO_5) hb); have n1_ := Z0 (zkb BK312 hb); have n2_ := Z0 (below_step (zb HB) hb); have n3_ := Z0 (hbox); have n4_ := Z0 (zh w hg HB); have n5_ := Z0 (zh w hg HB); have n6_ := Z0 (zl hg BK312); have n7_ := Z0 (zu hg BK312); clear HO_5; clear BK312; clear HB; have HO_5 := n0_; have BK312 := n1_; have HB := n2_; have BK317 := n3_; have GW317 := n4_; have GE317 := n5_; have NB312_317 := n6_; have NB317_312 := n7_; clear n0_ n1_ n2_ n3_ n4_ n5_ n6_ n7_; clear hb hbox hg; have hnb19 := NB317_312.out; have hnc19 := NB312_317.out; have hcz20_0 := kz0 BK317; have hcz20_1 := kz1 BK317; have hfz20_0 := blk_frozen BK317.out 0; have hfz20_1 := blk_frozen BK317.out 1) | ((with_reducible refine gate_store (t := 85) (p := 8) rfl ?_); refine store_event (t := 85) (p := 8) (v := ?vo_w21) (w1 := ((w18.setCell ⟨gb317, 0, none⟩ (.int .i64 ((rd_T85 l0_1 x7_2).f0))).setCell ⟨gb317, 1, none⟩ (.int .i64 ((rd_T85 l0_1 x7_2).f1)))) ?hg ?ho ?hn ?hr ?_; (case ho => rfl); (case hg => rfl); (case hn => rfl); (case hr => first | (go_simp; done) | (go_simp; rfl)); intro w21 hw; have n0_ : Aside0 (Kd.R Kd.bool 4 w21 w.heap.size (fun _ => True) v314 x5_2) := ⟨(by rw [hw]; exact (by (with_reducible repeat (first | apply ra | apply rn | apply rd_)); exact rm (Kd.R_far (p := ⟨gb317, 1, none⟩) (Kd.R_far (p := ⟨gb317, 0, none⟩) (Kd.R_types HO_5.out BK317.out (by decide)) (fun _ hk => hk.2) (.int .i64 ((rd_T85 l0_1 x7_2).f0))) (fun _ hk => hk.2) (.int .i64 ((rd_T85 l0_1 x7_2).f1))) (fun _ hk => trivial)))⟩; have n1_ : Aside0 (w21.heap[gb312]? = some (.cells #[.slice A0_0 l0_0.length c0_0, .slice (some ad316) l0_1.length c0_1] 25 (0, 0))) := ⟨(by rw [hw]; exact (by (with_reducible repeat (first | refine kn ?_ _ | refine kd_ ?_ | refine ka ?_ _)); refine blk_far ?_ NB312_317.out _; (with_reducible repeat (first | refine kn ?_ _ | refine kd_ ?_ | refine ka ?_ _)); refine blk_far ?_ NB312_317.out _; (with_reducible repeat (first | refine kn ?_ _ | refine kd_ ?_ | refine ka ?_ _)); exact BK312.out))⟩; have n2_ : Aside0 (w21.heap[gb317]? = some (.cells #[.int .i64 ((rd_T85 l0_1 x7_2).f0), .int .i64 ((rd_T85 l0_1 x7_2).f1)] 85 (0, 0))) := ⟨(by rw [hw]; exact (by (with_reducible repeat (first | refine kn ?_ _ | refine kd_ ?_ | refine ka ?_ _)); refine blk_put (cs := #[.int .i64 ((rd_T85 l0_1 x7_2).f0), .int .i64 0]) ?_ 1 _ rfl; (with_reducible repeat (first | refine kn ?_ _ | refine kd_ ?_ | refine ka ?_ _)); refine blk_put (cs := #[.int .i64 0, .int .i64 0]) ?_ 0 _ rfl; (with_reducible repeat (first | refine kn ?_ _ | refine kd_ ?_ | refine ka ?_ _)); exact BK317.out))⟩; have n3_ : Aside0 (Below w.heap.size w w21) := ⟨(by rw [hw]; exact (zb HB))⟩; clear hw; clear HO_5; clear BK312; clear BK317; clear HB; have HO_5 := n0_; have BK312 := n1_; have BK317 := n2_; have HB := n3_; clear n0_ n1_ n2_ n3_; have hcz22_0 := kz0 BK317; have hcz22_1 := kz1 BK317; have hfz22_0 := blk_frozen BK317.out 0; have hfz22_1 := blk_frozen BK317.out 1; have p16 : 0 ≤ (((rd_T85 l0_1 x7_2).f1) : Int) := od; have q16 : (((rd_T85 l0_1 x7_2).f1) : Int) < ((x5_2.length : Int) : Int) := od; obtain ⟨go16, co16, eo16, gb16, gl16, cl16, HG16⟩ := Kd.R_form HO_5.out (by omega); (first | cases eo16 | (injection eo16 with ea_ en_ ec_; (first | subst ea_ | (injection ea_ with ea_; subst ea_)); subst ec_; clear en_)); have GB16 := Z0 gb16; have GG16 := Z0 HG16; clear gb16 gl16 HG16; obtain ⟨hx16_0, hf16_0⟩ := Kd.R_celln false HO_5.out (((rd_T85 l0_1 x7_2).f1) : Int) p16 q16; replace p16 := eq_true p16; replace q16 := eq_true q16; obtain ⟨hy23_, hz23_⟩ := Kd.R_celln false HO_5.out (((rd_T85 l0_1 x7_2).f1) : Int) (of_decide_eq_true (by first | (with_reducible assumption) | assumption)) (of_decide_eq_true (by first | (with_reducible assumption) | assumption)); have HP23 := Kd.R_putg HO_5.out (((rd_T85 l0_1 x7_2).f1) : Int) true) | ((with_reducible refine gate_store (t := 4) (p := 46) rfl ?_); refine store_event (t := 4) (p := 46) (v := ?vo_w24) (w1 := (w21.setCell ⟨go16, (((rd_T85 l0_1 x7_2).f1) : Int).toNat, none⟩ (.bool true))) ?hg ?ho ?hn ?hr ?_; (case ho => rfl); (case hg => rfl); (case hn => rfl); (case hr => first | (go_simp; done) | (go_simp; rfl)); intro w24 hw; have hg : w21.grownBy w24 (some go16) := (by rw [hw]; exact HP23.2); have hp_ : Kd.R Kd.bool 4 w24 w.heap.size (fun _ => True) (.slice (some ⟨go16, 0, none⟩) x5_2.length co16) y318 := (by rw [hw, Ny318.out]; exact HP23.1); clear HP23; have n0_ := Z0 (hp_); have n1_ := Z0 (blk_grown (g := gb312) (o := .cells #[.slice A0_0 l0_0.length c0_0, .slice (some ad316) l0_1.length c0_1] 25 (0, 0)) (zk BK312) hg (Kd.R_ne HO_5.out BK312.out (by decide))); have n2_ := Z0 (blk_grown (g := gb317) (o := .cells #[.int .i64 ((rd_T85 l0_1 x7_2).f0), .int .i64 ((rd_T85 l0_1 x7_2).f1)] 85 (0, 0)) (zk BK317) hg (Kd.R_ne HO_5.out BK317.out (by decide))); have n3_ := Z0 ((by rw [hw]; exact ws (HB.out) GB16.out : Below w.heap.size w w24)); clear HO_5; clear BK312; clear BK317; clear HB; have HO_5 := n0_; have BK312 := n1_; have BK317 := n2_; have HB := n3_; clear n0_ n1_ n2_ n3_; clear hg hw hp_))
      go_roundg k2
      case measure => have := HK1.out; have := HK2.out; omega
      case rel => exact ⟨(y318), (wrap64 (x7_2 + 1)), zs, H', ⟨by have := HK1.out; have := HK2.out; omega⟩, ⟨by (with_reducible repeat (first | apply ra | apply rn | apply rd_)); exact HO_5.out⟩, ⟨zk BK312⟩, ⟨zb HB⟩⟩
     ·rw [if_neg c13] at H
      have c13b0 : (((rd_T85 l0_1 x7_2).f0) == a1) = false := beq_eq_false_iff_ne.mpr c13
      have c13b1 : (((rd_T85 l0_1 x7_2).f0) != a1) = true := bne_iff_ne.mpr c13
      by_cases c25 : 0 ≤ ((rd_T85 l0_1 x7_2).f0)
      rotate_left
      ·rw [if_neg c25] at H
       exact absurd H (by simp)
      rw [if_pos c25] at H
      have c25b0 : decide (0 ≤ ((rd_T85 l0_1 x7_2).f0)) = true := decide_eq_true c25
      clear c25
      by_cases c26 : ((rd_T85 l0_1 x7_2).f0) < (x5_2.length : Int)
      rotate_left
      ·rw [if_neg c26] at H
       exact absurd H (by simp)
      rw [if_pos c26] at H
      have c26b0 : decide (((rd_T85 l0_1 x7_2).f0) < (x5_2.length : Int)) = true := decide_eq_true c26
      clear c26
      obtain ⟨bq27, hbq27⟩ : ∃ b_ : Bool, b_ = (rdOf false x5_2 ((rd_T85 l0_1 x7_2).f0)) := ⟨_, rfl⟩
      replace H : (if bq27 = true then (if 0 ≤ ((rd_T85 l0_1 x7_2).f1) then (if ((rd_T85 l0_1 x7_2).f1) < (x5_2.length : Int) then (trefoilref04_Reach.l1 k2 a1 (x5_2.set (((rd_T85 l0_1 x7_2).f1) : Int).toNat true) x6_1 (wrap64 (x7_2 + 1)) l0_0 l0_1) else (none)) else (none)) else (trefoilref04_Reach.l1 k2 a1 x5_2 x6_1 (wrap64 (x7_2 + 1)) l0_0 l0_1)) = some r := by rw [← hbq27] at H; exact H
      have Nbq27 := Z0 hbq27
      clear hbq27
      by_cases c28 : bq27 = true
      rotate_left
      ·replace c28 := Bool.eq_false_iff.mpr c28
       subst c28
       rw [if_neg nft] at H
       have H' := Z0 H
       clear H
       have hcz41_0 := kz0 BK312
       have hcz41_1 := kz1 BK312
       have hfz41_0 := blk_frozen BK312.out 0
       have hfz41_1 := blk_frozen BK312.out 1
       have p316 : 0 ≤ (x7_2 : Int) := od
       have q316 : x7_2 < (l0_1.length : Int) := od
       obtain ⟨ad316, e316, hx316_0, hx316_1⟩ := at_T85 HR0_1.out x7_2 p316 q316
       cases e316
       replace hx316_0 := (HB.out.cell (bl w _ hx316_0)).trans hx316_0
       replace hx316_1 := (HB.out.cell (bl w _ hx316_1)).trans hx316_1
       replace p316 := eq_true p316
       replace q316 := eq_true q316
       go_wp2_with (first | ((with_reducible refine gate_dst (N := 8) rfl ?_); refine zx (N := 8) #[.int .i64 0, .int .i64 0] 85 ?_; intro gb317 hg w42 hbox hb; have n0_ := Z0 (rbe (zr HO_5) hb); have n1_ := Z0 (zkb BK312 hb); have n2_ := Z0 (below_step (zb HB) hb); have n3_ := Z0 (hbox); have n4_ := Z0 (zh w hg HB); have n5_ := Z0 (zh w hg HB); have n6_ := Z0 (zl hg BK312); have n7_ := Z0 (zu hg BK312); clear HO_5; clear BK312; clear HB; have HO_5 := n0_; have BK312 := n1_; have HB := n2_; have BK317 := n3_; have GW317 := n4_; have GE317 := n5_; have NB312_317 := n6_; have NB317_312 := n7_; clear n0_ n1_ n2_ n3_ n4_ n5_ n6_ n7_; clear hb hbox hg; have hnb43 := NB317_312.out; have hnc43 := NB312_317.out; have hcz44_0 := kz0 BK317; have hcz44_1 := kz1 BK317; have hfz44_0 := blk_frozen BK317.out 0; have hfz44_1 := blk_frozen BK317.out 1; obtain ⟨Ao45, co45, eo45⟩ := Kd.R_slice HO_5.out; subst eo45; have p319 : 0 ≤ (((rd_T85 l0_1 x7_2).f0) : Int) := od; have q319 : ((rd_T85 l0_1 x7_2).f0) < (x5_2.length : Int) := od; obtain ⟨ad319, e319, hx319_0⟩ := Kd.at_bool (rr HO_5.out).2.2 ((rd_T85 l0_1 x7_2).f0) p319 q319; (try rw [← Nbq27.out] at hx319_0); cases e319; have hn319_0 : ad319.block ≠ gb317 := Kd.own_blk (Kd.R_ne HO_5.out BK317.out (by decide)); have hn319_1 : ad319.block ≠ gb317 := Kd.own_blk (Kd.R_ne HO_5.out BK317.out (by decide)); replace hx319_0 := (cell_far (p := ⟨gb317, 0, none⟩) (by first | (rw [add_block]; exact hn319_0) | (show (Addr.add _ _).block ≠ _; rw [add_block]; exact hn319_0) | exact hn319_0) (.int .i64 ((rd_T85 l0_1 x7_2).f0))).trans hx319_0; replace hx319_0 := (cell_far (p := ⟨gb317, 1, none⟩) (by first | (rw [add_block]; exact hn319_1) | (show (Addr.add _ _).block ≠ _; rw [add_block]; exact hn319_1) | exact hn319_1) (.int .i64 ((rd_T85 l0_1 x7_2).f1))).trans hx319_0; clear hn319_0; clear hn319_1; replace p319 := eq_true p319; replace q319 := eq_true q319))
       go_roundg k2
       case measure => have := HK1.out; have := HK2.out; omega
       case rel => exact ⟨(x5_2), (wrap64 (x7_2 + 1)), zs, H', ⟨by have := HK1.out; have := HK2.out; omega⟩, ⟨by (with_reducible repeat (first | apply ra | apply rn | apply rd_)); exact rm (Kd.R_far (p := ⟨gb317, 1, none⟩) (Kd.R_far (p := ⟨gb317, 0, none⟩) (Kd.R_types HO_5.out BK317.out (by decide)) (fun _ hk => hk.2) (.int .i64 ((rd_T85 l0_1 x7_2).f0))) (fun _ hk => hk.2) (.int .i64 ((rd_T85 l0_1 x7_2).f1))) (fun _ hk => trivial)⟩, ⟨by (with_reducible repeat (first | refine kn ?_ _ | refine kd_ ?_ | refine ka ?_ _)); refine blk_far ?_ NB312_317.out _; (with_reducible repeat (first | refine kn ?_ _ | refine kd_ ?_ | refine ka ?_ _)); refine blk_far ?_ NB312_317.out _; (with_reducible repeat (first | refine kn ?_ _ | refine kd_ ?_ | refine ka ?_ _)); exact BK312.out⟩, ⟨zb HB⟩⟩
      subst c28
      rw [if_pos rfl] at H
      by_cases c29 : 0 ≤ ((rd_T85 l0_1 x7_2).f1)
      rotate_left
      ·rw [if_neg c29] at H
       exact absurd H (by simp)
      rw [if_pos c29] at H
      have c29b0 : decide (0 ≤ ((rd_T85 l0_1 x7_2).f1)) = true := decide_eq_true c29
      clear c29
      by_cases c30 : ((rd_T85 l0_1 x7_2).f1) < (x5_2.length : Int)
      rotate_left
      ·rw [if_neg c30] at H
       exact absurd H (by simp)
      rw [if_pos c30] at H
      have c30b0 : decide (((rd_T85 l0_1 x7_2).f1) < (x5_2.length : Int)) = true := decide_eq_true c30
      clear c30
      obtain ⟨y320, hy320⟩ : ∃ y_ : List Bool, y_ = (x5_2.set (((rd_T85 l0_1 x7_2).f1) : Int).toNat true) := ⟨_, rfl⟩
      replace H : (trefoilref04_Reach.l1 k2 a1 y320 x6_1 (wrap64 (x7_2 + 1)) l0_0 l0_1) = some r := by first | (rw [hy320]; with_reducible exact H) | (have H2_ := (Option.bind_some _ _).symm.trans H; rw [hy320]; with_reducible exact H2_) | (have H2_ := (Option.bind_some _ _).symm.trans H; with_reducible exact H2_) | with_reducible exact H | (rw [hy320]; exact H) | exact H
      have Ny320 := Z0 hy320
      clear hy320
      have H' := Z0 H
      clear H
      have hcz32_0 := kz0 BK312
      have hcz32_1 := kz1 BK312
      have hfz32_0 := blk_frozen BK312.out 0
      have hfz32_1 := blk_frozen BK312.out 1
      have p316 : 0 ≤ (x7_2 : Int) := od
      have q316 : x7_2 < (l0_1.length : Int) := od
      obtain ⟨ad316, e316, hx316_0, hx316_1⟩ := at_T85 HR0_1.out x7_2 p316 q316
      cases e316
      replace hx316_0 := (HB.out.cell (bl w _ hx316_0)).trans hx316_0
      replace hx316_1 := (HB.out.cell (bl w _ hx316_1)).trans hx316_1
      replace p316 := eq_true p316
      replace q316 := eq_true q316
      go_wp2_with (first | ((with_reducible refine gate_dst (N := 8) rfl ?_); refine zx (N := 8) #[.int .i64 0, .int .i64 0] 85 ?_; intro gb317 hg w33 hbox hb; have n0_ := Z0 (rbe (zr HO_5) hb); have n1_ := Z0 (zkb BK312 hb); have n2_ := Z0 (below_step (zb HB) hb); have n3_ := Z0 (hbox); have n4_ := Z0 (zh w hg HB); have n5_ := Z0 (zh w hg HB); have n6_ := Z0 (zl hg BK312); have n7_ := Z0 (zu hg BK312); clear HO_5; clear BK312; clear HB; have HO_5 := n0_; have BK312 := n1_; have HB := n2_; have BK317 := n3_; have GW317 := n4_; have GE317 := n5_; have NB312_317 := n6_; have NB317_312 := n7_; clear n0_ n1_ n2_ n3_ n4_ n5_ n6_ n7_; clear hb hbox hg; have hnb34 := NB317_312.out; have hnc34 := NB312_317.out; have hcz35_0 := kz0 BK317; have hcz35_1 := kz1 BK317; have hfz35_0 := blk_frozen BK317.out 0; have hfz35_1 := blk_frozen BK317.out 1) | ((with_reducible refine gate_store (t := 85) (p := 8) rfl ?_); refine store_event (t := 85) (p := 8) (v := ?vo_w36) (w1 := ((w33.setCell ⟨gb317, 0, none⟩ (.int .i64 ((rd_T85 l0_1 x7_2).f0))).setCell ⟨gb317, 1, none⟩ (.int .i64 ((rd_T85 l0_1 x7_2).f1)))) ?hg ?ho ?hn ?hr ?_; (case ho => rfl); (case hg => rfl); (case hn => rfl); (case hr => first | (go_simp; done) | (go_simp; rfl)); intro w36 hw; have n0_ : Aside0 (Kd.R Kd.bool 4 w36 w.heap.size (fun _ => True) v314 x5_2) := ⟨(by rw [hw]; exact (by (with_reducible repeat (first | apply ra | apply rn | apply rd_)); exact rm (Kd.R_far (p := ⟨gb317, 1, none⟩) (Kd.R_far (p := ⟨gb317, 0, none⟩) (Kd.R_types HO_5.out BK317.out (by decide)) (fun _ hk => hk.2) (.int .i64 ((rd_T85 l0_1 x7_2).f0))) (fun _ hk => hk.2) (.int .i64 ((rd_T85 l0_1 x7_2).f1))) (fun _ hk => trivial)))⟩; have n1_ : Aside0 (w36.heap[gb312]? = some (.cells #[.slice A0_0 l0_0.length c0_0, .slice (some ad316) l0_1.length c0_1] 25 (0, 0))) := ⟨(by rw [hw]; exact (by (with_reducible repeat (first | refine kn ?_ _ | refine kd_ ?_ | refine ka ?_ _)); refine blk_far ?_ NB312_317.out _; (with_reducible repeat (first | refine kn ?_ _ | refine kd_ ?_ | refine ka ?_ _)); refine blk_far ?_ NB312_317.out _; (with_reducible repeat (first | refine kn ?_ _ | refine kd_ ?_ | refine ka ?_ _)); exact BK312.out))⟩; have n2_ : Aside0 (w36.heap[gb317]? = some (.cells #[.int .i64 ((rd_T85 l0_1 x7_2).f0), .int .i64 ((rd_T85 l0_1 x7_2).f1)] 85 (0, 0))) := ⟨(by rw [hw]; exact (by (with_reducible repeat (first | refine kn ?_ _ | refine kd_ ?_ | refine ka ?_ _)); refine blk_put (cs := #[.int .i64 ((rd_T85 l0_1 x7_2).f0), .int .i64 0]) ?_ 1 _ rfl; (with_reducible repeat (first | refine kn ?_ _ | refine kd_ ?_ | refine ka ?_ _)); refine blk_put (cs := #[.int .i64 0, .int .i64 0]) ?_ 0 _ rfl; (with_reducible repeat (first | refine kn ?_ _ | refine kd_ ?_ | refine ka ?_ _)); exact BK317.out))⟩; have n3_ : Aside0 (Below w.heap.size w w36) := ⟨(by rw [hw]; exact (zb HB))⟩; clear hw; clear HO_5; clear BK312; clear BK317; clear HB; have HO_5 := n0_; have BK312 := n1_; have BK317 := n2_; have HB := n3_; clear n0_ n1_ n2_ n3_; have hcz37_0 := kz0 BK317; have hcz37_1 := kz1 BK317; have hfz37_0 := blk_frozen BK317.out 0; have hfz37_1 := blk_frozen BK317.out 1; obtain ⟨Ao38, co38, eo38⟩ := Kd.R_slice HO_5.out; subst eo38; have p319 : 0 ≤ (((rd_T85 l0_1 x7_2).f0) : Int) := od; have q319 : ((rd_T85 l0_1 x7_2).f0) < (x5_2.length : Int) := od; obtain ⟨ad319, e319, hx319_0⟩ := Kd.at_bool (rr HO_5.out).2.2 ((rd_T85 l0_1 x7_2).f0) p319 q319; (try rw [← Nbq27.out] at hx319_0); cases e319; replace p319 := eq_true p319; replace q319 := eq_true q319; have p31 : 0 ≤ (((rd_T85 l0_1 x7_2).f1) : Int) := od; have q31 : (((rd_T85 l0_1 x7_2).f1) : Int) < ((x5_2.length : Int) : Int) := od; obtain ⟨go31, co31, eo31, gb31, gl31, cl31, HG31⟩ := Kd.R_form HO_5.out (by omega); (first | cases eo31 | (injection eo31 with ea_ en_ ec_; (first | subst ea_ | (injection ea_ with ea_; subst ea_)); subst ec_; clear en_)); have GB31 := Z0 gb31; have GG31 := Z0 HG31; clear gb31 gl31 HG31; (first | simp only [add_plain] at hx319_0 | skip); obtain ⟨hx31_0, hf31_0⟩ := Kd.R_celln false HO_5.out (((rd_T85 l0_1 x7_2).f1) : Int) p31 q31; replace p31 := eq_true p31; replace q31 := eq_true q31; obtain ⟨hy39_, hz39_⟩ := Kd.R_celln false HO_5.out (((rd_T85 l0_1 x7_2).f1) : Int) (of_decide_eq_true (by first | (with_reducible assumption) | assumption)) (of_decide_eq_true (by first | (with_reducible assumption) | assumption)); have HP39 := Kd.R_putg HO_5.out (((rd_T85 l0_1 x7_2).f1) : Int) true) | ((with_reducible refine gate_store (t := 4) (p := 46) rfl ?_); refine store_event (t := 4) (p := 46) (v := ?vo_w40) (w1 := (w36.setCell ⟨go31, (((rd_T85 l0_1 x7_2).f1) : Int).toNat, none⟩ (.bool true))) ?hg ?ho ?hn ?hr ?_; (case ho => rfl); (case hg => rfl); (case hn => rfl); (case hr => first | (go_simp; done) | (go_simp; rfl)); intro w40 hw; have hg : w36.grownBy w40 (some go31) := (by rw [hw]; exact HP39.2); have hp_ : Kd.R Kd.bool 4 w40 w.heap.size (fun _ => True) (.slice (some ⟨go31, 0, none⟩) x5_2.length co38) y320 := (by rw [hw, Ny320.out]; exact HP39.1); clear HP39; have n0_ := Z0 (hp_); have n1_ := Z0 (blk_grown (g := gb312) (o := .cells #[.slice A0_0 l0_0.length c0_0, .slice (some ad316) l0_1.length c0_1] 25 (0, 0)) (zk BK312) hg (Kd.R_ne HO_5.out BK312.out (by decide))); have n2_ := Z0 (blk_grown (g := gb317) (o := .cells #[.int .i64 ((rd_T85 l0_1 x7_2).f0), .int .i64 ((rd_T85 l0_1 x7_2).f1)] 85 (0, 0)) (zk BK317) hg (Kd.R_ne HO_5.out BK317.out (by decide))); have n3_ := Z0 ((by rw [hw]; exact ws (HB.out) GB31.out : Below w.heap.size w w40)); clear HO_5; clear BK312; clear BK317; clear HB; have HO_5 := n0_; have BK312 := n1_; have BK317 := n2_; have HB := n3_; clear n0_ n1_ n2_ n3_; clear hg hw hp_))
      go_roundg k2
      case measure => have := HK1.out; have := HK2.out; omega
      case rel => exact ⟨(y320), (wrap64 (x7_2 + 1)), zs, H', ⟨by have := HK1.out; have := HK2.out; omega⟩, ⟨by (with_reducible repeat (first | apply ra | apply rn | apply rd_)); exact HO_5.out⟩, ⟨zk BK312⟩, ⟨zb HB⟩⟩
def trefoilref04_Check.l0 : Nat → Int → List Int → List (S85) → Option (Int)
 | 0, _, _, _ => none
 | k + 1, x4, x322000, x322001 => if x4 < (x322000.length : Int) then ((trefoilref04_Reach.f k x322000 x322001 x4).bind fun t323 => (if 0 ≤ x4 then (if x4 < (t323.length : Int) then (if rdOf false t323 x4 = true then (some 43) else (trefoilref04_Check.l0 k (wrap64 (x4 + 1)) x322000 x322001)) else (none)) else (none))) else (some 0)
def trefoilref04_Check.f (k : Nat) (l0_0 : List Int) (l0_1 : List (S85)) : Option (Int) := (trefoilref04_Plain.f k l0_0 l0_1).bind fun t322 => (if t322 = 0 then (trefoilref04_Check.l0 k 0 l0_0 l0_1) else (some t322))
set_option maxHeartbeats 8000000 in
set_option maxRecDepth 100000 in
theorem trefoilref04_Check.calls (k : Nat) (A0_0 : Option Addr) (c0_0 : Nat) (l0_0 : List Int) (A0_1 : Option Addr) (c0_1 : Nat) (l0_1 : List (S85)) (r : Int) (w : World) (hr0_0 : Kd.C (Kd.int .i64) w A0_0 l0_0.length l0_0) (hc0_0 : l0_0.length ≤ c0_0) (hr0_1 : Kd.C k85 w A0_1 l0_1.length l0_1) (hc0_1 : l0_1.length ≤ c0_1) (h : trefoilref04_Check.f k l0_0 l0_1 = some r) :
  Calls Try.prog 41 #[.agg #[.slice A0_0 l0_0.length c0_0, .slice A0_1 l0_1.length c0_1]] w fun e w' => e = .returned (.int .i64 r) ∧ Below w.heap.size w w' := by
 have hu25 := Try.underlying25
 have HR0_0 := Z0 hr0_0
 have HC0_0 := Z0 hc0_0
 clear hr0_0 hc0_0
 have HR0_1 := Z0 hr0_1
 have HC0_1 := Z0 hc0_1
 clear hr0_1 hc0_1
 have HB := Z0 (Below.refl w.heap.size w)
 have H : ((trefoilref04_Plain.f k l0_0 l0_1).bind fun t322 => (if t322 = 0 then (trefoilref04_Check.l0 k 0 l0_0 l0_1) else (some t322))) = some r := h
 clear h
 replace H := Option.bind_eq_some_iff.mp H
 obtain ⟨t322, A20, H⟩ := H
 have A2 := Z0 A20
 clear A20
 by_cases c3 : t322 = 0
 rotate_left
 ·rw [if_neg c3] at H
  have c3b0 : (t322 == 0) = false := beq_eq_false_iff_ne.mpr c3
  have c3b1 : (t322 != 0) = true := bne_iff_ne.mpr c3
  obtain rfl := Option.some.inj H
  go_enter Try.func41, Try.ntmps41
  go_wp2_with (first | ((with_reducible refine gate_dst (N := 1) rfl ?_); refine zx (N := 1) #[.slice A0_0 l0_0.length c0_0, .slice A0_1 l0_1.length c0_1] 25 ?_; intro gb321 hg w20 hbox hb; have BK321 := Z0 (hbox); have GW321 := Z0 (zh w hg HB); have GE321 := Z0 (zh w hg HB); replace HB := Z0 (below_step (zb HB) hb); clear hb hbox hg; have hcz21_0 := kz0 BK321; have hcz21_1 := kz1 BK321; have hfz21_0 := blk_frozen BK321.out 0; have hfz21_1 := blk_frozen BK321.out 1) | ((with_reducible refine gate_callee (f := 61) rfl ?_); refine goesL_ (some 6) rfl rfl Try.func61 (by kernel_rfl) rfl #[.agg #[.slice A0_0 l0_0.length c0_0, .slice A0_1 l0_1.length c0_1]] rfl (by (try simp only [List.map_toArray, List.map_cons, List.map_nil]); first | done | rfl | (simp only [List.length_drop, List.length_take]; rfl)) ?_; (with_reducible refine (trefoilref04_Plain.calls k _ _ l0_0 _ _ l0_1 t322 _ ?side1 ?side2 ?side3 ?side4 A2.out).mono ?_); (case side1 => exact zc (Kd.C_below HR0_0.out HB.out)); (case side2 => exact HC0_0.out); (case side3 => exact zc (Kd.C_below HR0_1.out HB.out)); (case side4 => exact HC0_1.out); rintro e w22 ⟨rfl, hb⟩; refine ⟨_, rfl, ?_⟩; replace BK321 := Z0 (zkb BK321 hb); replace HB := Z0 (below_step (zb HB) hb); (try clear hb); (try clear hb2); (try clear hk); (try clear hi)))
  go_ret
  exact ⟨ze, zb HB⟩
 rw [if_pos c3] at H
 have c3b0 : (t322 == 0) = true := beq_iff_eq.mpr c3
 have c3b1 : (t322 != 0) = false := bne_eq_false_iff_eq.mpr c3
 clear c3
 have H' := Z0 H
 clear H
 go_enter Try.func41, Try.ntmps41
 go_wp2_with (first | ((with_reducible refine gate_dst (N := 1) rfl ?_); refine zx (N := 1) #[.slice A0_0 l0_0.length c0_0, .slice A0_1 l0_1.length c0_1] 25 ?_; intro gb321 hg w4 hbox hb; have BK321 := Z0 (hbox); have GW321 := Z0 (zh w hg HB); have GE321 := Z0 (zh w hg HB); replace HB := Z0 (below_step (zb HB) hb); clear hb hbox hg; have hcz5_0 := kz0 BK321; have hcz5_1 := kz1 BK321; have hfz5_0 := blk_frozen BK321.out 0; have hfz5_1 := blk_frozen BK321.out 1) | ((with_reducible refine gate_callee (f := 61) rfl ?_); refine goesL_ (some 6) rfl rfl Try.func61 (by kernel_rfl) rfl #[.agg #[.slice A0_0 l0_0.length c0_0, .slice A0_1 l0_1.length c0_1]] rfl (by (try simp only [List.map_toArray, List.map_cons, List.map_nil]); first | done | rfl | (simp only [List.length_drop, List.length_take]; rfl)) ?_; (with_reducible refine (trefoilref04_Plain.calls k _ _ l0_0 _ _ l0_1 t322 _ ?side1 ?side2 ?side3 ?side4 A2.out).mono ?_); (case side1 => exact zc (Kd.C_below HR0_0.out HB.out)); (case side2 => exact HC0_0.out); (case side3 => exact zc (Kd.C_below HR0_1.out HB.out)); (case side4 => exact HC0_1.out); rintro e w6 ⟨rfl, hb⟩; refine ⟨_, rfl, ?_⟩; replace BK321 := Z0 (zkb BK321 hb); replace HB := Z0 (below_step (zb HB) hb); (try clear hb); (try clear hb2); (try clear hk); (try clear hi)))
 go_loopg [4] k (fun kq v4 w' => ∃ (x4_1 : Int), v4 = .int .i64 x4_1 ∧ Aside0 (trefoilref04_Check.l0 kq x4_1 l0_0 l0_1 = some r) ∧ Aside0 (kq ≤ k) ∧ Aside0 (w'.heap[gb321]? = some (.cells #[(.slice A0_0 l0_0.length c0_0), (.slice A0_1 l0_1.length c0_1)] 25 (0, 0))) ∧ Aside0 (Below w.heap.size w w'))
 case atStart => exact ⟨(0), zs, H', ⟨Nat.le_refl _⟩, ⟨zk BK321⟩, ⟨zb HB⟩⟩
 case round =>
  clear H'
  try clear p2
  try clear c3
  try clear c3b0
  try clear c3b1
  try clear c4
  try clear c6
  try clear hcz5_0
  try clear hcz5_1
  try clear hfz5_0
  try clear hfz5_1
  obtain ⟨x4_1, rfl, HA, HK1, BK321, HB⟩ := hrel
  cases gk with
  | zero => exact absurd HA.out (by simp [trefoilref04_Check.l0])
  | succ k1 =>
   have H := HA.out
   clear HA
   simp only [trefoilref04_Check.l0] at H
   by_cases c7 : x4_1 < (l0_0.length : Int)
   rotate_left
   ·rw [if_neg c7] at H
    have c7b0 : decide (x4_1 < (l0_0.length : Int)) = false := decide_eq_false c7
    clear c7
    obtain rfl := Option.some.inj H
    have hcz19_0 := kz0 BK321
    have hcz19_1 := kz1 BK321
    have hfz19_0 := blk_frozen BK321.out 0
    have hfz19_1 := blk_frozen BK321.out 1
    go_wp2
    go_ret
    exact ⟨ze, zb HB⟩
   rw [if_pos c7] at H
   have c7b0 : decide (x4_1 < (l0_0.length : Int)) = true := decide_eq_true c7
   clear c7
   replace H := Option.bind_eq_some_iff.mp H
   obtain ⟨t323, A80, H⟩ := H
   have A8 := Z0 A80
   clear A80
   by_cases c9 : 0 ≤ x4_1
   rotate_left
   ·rw [if_neg c9] at H
    exact absurd H (by simp)
   rw [if_pos c9] at H
   have c9b0 : decide (0 ≤ x4_1) = true := decide_eq_true c9
   clear c9
   by_cases c10 : x4_1 < (t323.length : Int)
   rotate_left
   ·rw [if_neg c10] at H
    exact absurd H (by simp)
   rw [if_pos c10] at H
   have c10b0 : decide (x4_1 < (t323.length : Int)) = true := decide_eq_true c10
   clear c10
   obtain ⟨bq11, hbq11⟩ : ∃ b_ : Bool, b_ = (rdOf false t323 x4_1) := ⟨_, rfl⟩
   replace H : (if bq11 = true then (some 43) else (trefoilref04_Check.l0 k1 (wrap64 (x4_1 + 1)) l0_0 l0_1)) = some r := by rw [← hbq11] at H; exact H
   have Nbq11 := Z0 hbq11
   clear hbq11
   by_cases c12 : bq11 = true
   ·subst c12
    rw [if_pos rfl] at H
    obtain rfl := Option.some.inj H
    have hcz13_0 := kz0 BK321
    have hcz13_1 := kz1 BK321
    have hfz13_0 := blk_frozen BK321.out 0
    have hfz13_1 := blk_frozen BK321.out 1
    go_wp2_with (first | ((with_reducible refine gate_callee (f := 62) rfl ?_); refine goesL_ (some 19) rfl rfl Try.func62 (by kernel_rfl) rfl #[.agg #[.slice A0_0 l0_0.length c0_0, .slice A0_1 l0_1.length c0_1], .int .i64 x4_1] rfl (by (try simp only [List.map_toArray, List.map_cons, List.map_nil]); first | done | rfl | (simp only [List.length_drop, List.length_take]; rfl)) ?_; (with_reducible refine (trefoilref04_Reach.calls k1 _ _ l0_0 _ _ l0_1 x4_1 t323 _ ?side1 ?side2 ?side3 ?side4 A8.out).mono ?_); (case side1 => exact zc (Kd.C_below HR0_0.out HB.out)); (case side2 => exact HC0_0.out); (case side3 => exact zc (Kd.C_below HR0_1.out HB.out)); (case side4 => exact HC0_1.out); rintro e w14 ⟨v324, rfl, ho0, hb⟩; refine ⟨_, rfl, ?_⟩; have HO325 := Z0 (rl ho0 (below_size (zb HB))); replace BK321 := Z0 (zkb BK321 hb); replace HB := Z0 (below_step (zb HB) hb); (try clear hb); (try clear hb2); (try clear hk); (try clear hi); (try clear ho0); obtain ⟨Ao15, co15, eo15⟩ := Kd.R_slice HO325.out; subst eo15; have p326 : 0 ≤ (x4_1 : Int) := od; have q326 : x4_1 < (t323.length : Int) := od; obtain ⟨ad326, e326, hx326_0⟩ := Kd.at_bool (rr HO325.out).2.2 x4_1 p326 q326; (try rw [← Nbq11.out] at hx326_0); cases e326; replace p326 := eq_true p326; replace q326 := eq_true q326))
    go_ret
    exact ⟨ze, zb HB⟩
   ·replace c12 := Bool.eq_false_iff.mpr c12
    subst c12
    rw [if_neg nft] at H
    have H' := Z0 H
    clear H
    have hcz16_0 := kz0 BK321
    have hcz16_1 := kz1 BK321
    have hfz16_0 := blk_frozen BK321.out 0
    have hfz16_1 := blk_frozen BK321.out 1
    go_wp2_with (first | ((with_reducible refine gate_callee (f := 62) rfl ?_); refine goesL_ (some 19) rfl rfl Try.func62 (by kernel_rfl) rfl #[.agg #[.slice A0_0 l0_0.length c0_0, .slice A0_1 l0_1.length c0_1], .int .i64 x4_1] rfl (by (try simp only [List.map_toArray, List.map_cons, List.map_nil]); first | done | rfl | (simp only [List.length_drop, List.length_take]; rfl)) ?_; (with_reducible refine (trefoilref04_Reach.calls k1 _ _ l0_0 _ _ l0_1 x4_1 t323 _ ?side1 ?side2 ?side3 ?side4 A8.out).mono ?_); (case side1 => exact zc (Kd.C_below HR0_0.out HB.out)); (case side2 => exact HC0_0.out); (case side3 => exact zc (Kd.C_below HR0_1.out HB.out)); (case side4 => exact HC0_1.out); rintro e w17 ⟨v324, rfl, ho0, hb⟩; refine ⟨_, rfl, ?_⟩; have HO325 := Z0 (rl ho0 (below_size (zb HB))); replace BK321 := Z0 (zkb BK321 hb); replace HB := Z0 (below_step (zb HB) hb); (try clear hb); (try clear hb2); (try clear hk); (try clear hi); (try clear ho0); obtain ⟨Ao18, co18, eo18⟩ := Kd.R_slice HO325.out; subst eo18; have p326 : 0 ≤ (x4_1 : Int) := od; have q326 : x4_1 < (t323.length : Int) := od; obtain ⟨ad326, e326, hx326_0⟩ := Kd.at_bool (rr HO325.out).2.2 x4_1 p326 q326; (try rw [← Nbq11.out] at hx326_0); cases e326; replace p326 := eq_true p326; replace q326 := eq_true q326))
    go_roundg k1
    case measure => have := HK1.out; omega
    case rel => exact ⟨(wrap64 (x4_1 + 1)), zs, H', ⟨by have := HK1.out; omega⟩, ⟨zk BK321⟩, ⟨zb HB⟩⟩
def trefoilref04_Near.l0 : Nat → Int → Int → Int → List Int → List (S85) → Option (Bool)
 | 0, _, _, _, _, _ => none
 | k + 1, x1, x2, x7, x328000, x328001 => if x7 < (x328001.length : Int) then (if 0 ≤ x7 then (if ((rd_T85 x328001 x7).f0) = x1 then (if ((rd_T85 x328001 x7).f1) = x2 then (some true) else (trefoilref04_Near.l0 k x1 x2 (wrap64 (x7 + 1)) x328000 x328001)) else (trefoilref04_Near.l0 k x1 x2 (wrap64 (x7 + 1)) x328000 x328001)) else (none)) else (some false)
def trefoilref04_Near.f (k : Nat) (l0_0 : List Int) (l0_1 : List (S85)) (a1 : Int) (a2 : Int) : Option (Bool) := trefoilref04_Near.l0 k a1 a2 0 l0_0 l0_1
set_option maxHeartbeats 8000000 in
set_option maxRecDepth 100000 in
theorem trefoilref04_Near.calls (k : Nat) (A0_0 : Option Addr) (c0_0 : Nat) (l0_0 : List Int) (A0_1 : Option Addr) (c0_1 : Nat) (l0_1 : List (S85)) (a1 : Int) (a2 : Int) (r : Bool) (w : World) (hr0_0 : Kd.C (Kd.int .i64) w A0_0 l0_0.length l0_0) (hc0_0 : l0_0.length ≤ c0_0) (hr0_1 : Kd.C k85 w A0_1 l0_1.length l0_1) (hc0_1 : l0_1.length ≤ c0_1) (h : trefoilref04_Near.f k l0_0 l0_1 a1 a2 = some r) :
  Calls Try.prog 86 #[.agg #[.slice A0_0 l0_0.length c0_0, .slice A0_1 l0_1.length c0_1], .int .i64 a1, .int .i64 a2] w fun e w' => e = .returned (.bool r) ∧ Below w.heap.size w w' := by
 have hu25 := Try.underlying25
 have HR0_0 := Z0 hr0_0
 have HC0_0 := Z0 hc0_0
 clear hr0_0 hc0_0
 have HR0_1 := Z0 hr0_1
 have HC0_1 := Z0 hc0_1
 clear hr0_1 hc0_1
 have HB := Z0 (Below.refl w.heap.size w)
 have H : (trefoilref04_Near.l0 k a1 a2 0 l0_0 l0_1) = some r := h
 clear h
 have H' := Z0 H
 clear H
 go_enter Try.func86, Try.ntmps86
 go_wp2_with (first | ((with_reducible refine gate_dst (N := 3) rfl ?_); refine zx (N := 3) #[.slice A0_0 l0_0.length c0_0, .slice A0_1 l0_1.length c0_1] 25 ?_; intro gb327 hg w4 hbox hb; have BK327 := Z0 (hbox); have GW327 := Z0 (zh w hg HB); have GE327 := Z0 (zh w hg HB); replace HB := Z0 (below_step (zb HB) hb); clear hb hbox hg))
 go_loopg [7] k (fun kq v7 w' => ∃ (x7_1 : Int), v7 = .int .i64 x7_1 ∧ Aside0 (trefoilref04_Near.l0 kq a1 a2 x7_1 l0_0 l0_1 = some r) ∧ Aside0 (kq ≤ k) ∧ Aside0 (w'.heap[gb327]? = some (.cells #[(.slice A0_0 l0_0.length c0_0), (.slice A0_1 l0_1.length c0_1)] 25 (0, 0))) ∧ Aside0 (Below w.heap.size w w'))
 case atStart => exact ⟨(0), zs, H', ⟨Nat.le_refl _⟩, ⟨zk BK327⟩, ⟨zb HB⟩⟩
 case round =>
  clear H'
  try clear p2
  obtain ⟨x7_1, rfl, HA, HK1, BK327, HB⟩ := hrel
  cases gk with
  | zero => exact absurd HA.out (by simp [trefoilref04_Near.l0])
  | succ k1 =>
   have H := HA.out
   clear HA
   simp only [trefoilref04_Near.l0] at H
   by_cases c5 : x7_1 < (l0_1.length : Int)
   rotate_left
   ·rw [if_neg c5] at H
    have c5b0 : decide (x7_1 < (l0_1.length : Int)) = false := decide_eq_false c5
    clear c5
    obtain rfl := Option.some.inj H
    have hcz12_0 := kz0 BK327
    have hcz12_1 := kz1 BK327
    have hfz12_0 := blk_frozen BK327.out 0
    have hfz12_1 := blk_frozen BK327.out 1
    go_wp2
    go_ret
    exact ⟨ze, zb HB⟩
   rw [if_pos c5] at H
   have c5b0 : decide (x7_1 < (l0_1.length : Int)) = true := decide_eq_true c5
   clear c5
   by_cases c6 : 0 ≤ x7_1
   rotate_left
   ·rw [if_neg c6] at H
    exact absurd H (by simp)
   rw [if_pos c6] at H
   have c6b0 : decide (0 ≤ x7_1) = true := decide_eq_true c6
   clear c6
   by_cases c7 : ((rd_T85 l0_1 x7_1).f0) = a1
   rotate_left
   ·rw [if_neg c7] at H
    have c7b0 : (((rd_T85 l0_1 x7_1).f0) == a1) = false := beq_eq_false_iff_ne.mpr c7
    have c7b1 : (((rd_T85 l0_1 x7_1).f0) != a1) = true := bne_iff_ne.mpr c7
    have H' := Z0 H
    clear H
    have hcz11_0 := kz0 BK327
    have hcz11_1 := kz1 BK327
    have hfz11_0 := blk_frozen BK327.out 0
    have hfz11_1 := blk_frozen BK327.out 1
    have p328 : 0 ≤ (x7_1 : Int) := od
    have q328 : x7_1 < (l0_1.length : Int) := od
    obtain ⟨ad328, e328, hx328_0, hx328_1⟩ := at_T85 HR0_1.out x7_1 p328 q328
    cases e328
    replace hx328_0 := (HB.out.cell (bl w _ hx328_0)).trans hx328_0
    replace hx328_1 := (HB.out.cell (bl w _ hx328_1)).trans hx328_1
    replace p328 := eq_true p328
    replace q328 := eq_true q328
    go_wp2
    go_roundg k1
    case measure => have := HK1.out; omega
    case rel => exact ⟨(wrap64 (x7_1 + 1)), zs, H', ⟨by have := HK1.out; omega⟩, ⟨zk BK327⟩, ⟨zb HB⟩⟩
   rw [if_pos c7] at H
   have c7b0 : (((rd_T85 l0_1 x7_1).f0) == a1) = true := beq_iff_eq.mpr c7
   have c7b1 : (((rd_T85 l0_1 x7_1).f0) != a1) = false := bne_eq_false_iff_eq.mpr c7
   clear c7
   by_cases c8 : ((rd_T85 l0_1 x7_1).f1) = a2
   ·rw [if_pos c8] at H
    have c8b0 : (((rd_T85 l0_1 x7_1).f1) == a2) = true := beq_iff_eq.mpr c8
    have c8b1 : (((rd_T85 l0_1 x7_1).f1) != a2) = false := bne_eq_false_iff_eq.mpr c8
    clear c8
    obtain rfl := Option.some.inj H
    have hcz9_0 := kz0 BK327
    have hcz9_1 := kz1 BK327
    have hfz9_0 := blk_frozen BK327.out 0
    have hfz9_1 := blk_frozen BK327.out 1
    have p328 : 0 ≤ (x7_1 : Int) := od
    have q328 : x7_1 < (l0_1.length : Int) := od
    obtain ⟨ad328, e328, hx328_0, hx328_1⟩ := at_T85 HR0_1.out x7_1 p328 q328
    cases e328
    replace hx328_0 := (HB.out.cell (bl w _ hx328_0)).trans hx328_0
    replace hx328_1 := (HB.out.cell (bl w _ hx328_1)).trans hx328_1
    replace p328 := eq_true p328
    replace q328 := eq_true q328
    have p329 : 0 ≤ (x7_1 : Int) := od
    have q329 : x7_1 < (l0_1.length : Int) := od
    obtain ⟨ad329, e329, hx329_0, hx329_1⟩ := at_T85 HR0_1.out x7_1 p329 q329
    obtain rfl : ad328 = ad329 := (by injection e329)
    replace hx329_0 := (HB.out.cell (bl w _ hx329_0)).trans hx329_0
    replace hx329_1 := (HB.out.cell (bl w _ hx329_1)).trans hx329_1
    replace p329 := eq_true p329
    replace q329 := eq_true q329
    go_wp2
    go_ret
    exact ⟨ze, zb HB⟩
   ·rw [if_neg c8] at H
    have c8b0 : (((rd_T85 l0_1 x7_1).f1) == a2) = false := beq_eq_false_iff_ne.mpr c8
    have c8b1 : (((rd_T85 l0_1 x7_1).f1) != a2) = true := bne_iff_ne.mpr c8
    have H' := Z0 H
    clear H
    have hcz10_0 := kz0 BK327
    have hcz10_1 := kz1 BK327
    have hfz10_0 := blk_frozen BK327.out 0
    have hfz10_1 := blk_frozen BK327.out 1
    have p328 : 0 ≤ (x7_1 : Int) := od
    have q328 : x7_1 < (l0_1.length : Int) := od
    obtain ⟨ad328, e328, hx328_0, hx328_1⟩ := at_T85 HR0_1.out x7_1 p328 q328
    cases e328
    replace hx328_0 := (HB.out.cell (bl w _ hx328_0)).trans hx328_0
    replace hx328_1 := (HB.out.cell (bl w _ hx328_1)).trans hx328_1
    replace p328 := eq_true p328
    replace q328 := eq_true q328
    have p329 : 0 ≤ (x7_1 : Int) := od
    have q329 : x7_1 < (l0_1.length : Int) := od
    obtain ⟨ad329, e329, hx329_0, hx329_1⟩ := at_T85 HR0_1.out x7_1 p329 q329
    obtain rfl : ad328 = ad329 := (by injection e329)
    replace hx329_0 := (HB.out.cell (bl w _ hx329_0)).trans hx329_0
    replace hx329_1 := (HB.out.cell (bl w _ hx329_1)).trans hx329_1
    replace p329 := eq_true p329
    replace q329 := eq_true q329
    go_wp2
    go_roundg k1
    case measure => have := HK1.out; omega
    case rel => exact ⟨(wrap64 (x7_1 + 1)), zs, H', ⟨by have := HK1.out; omega⟩, ⟨zk BK327⟩, ⟨zb HB⟩⟩
def trefoilref04_Preds.l0 : Nat → Int → List Int → Int → List Int → List (S85) → Option (List Int)
 | 0, _, _, _, _, _ => none
 | k + 1, x1, x5, x6, x331000, x331001 => if x6 < (x331000.length : Int) then ((trefoilref04_Near.f k x331000 x331001 x6 x1).bind fun t334 => (if t334 = true then (if x5.length < 17592186044416 then (trefoilref04_Preds.l0 k x1 (x5 ++ [x6]) (wrap64 (x6 + 1)) x331000 x331001) else (none)) else (trefoilref04_Preds.l0 k x1 x5 (wrap64 (x6 + 1)) x331000 x331001))) else (some x5)
def trefoilref04_Preds.f (k : Nat) (l0_0 : List Int) (l0_1 : List (S85)) (a1 : Int) : Option (List Int) := trefoilref04_Preds.l0 k a1 (([] : List Int)) 0 l0_0 l0_1
set_option maxHeartbeats 8000000 in
set_option maxRecDepth 100000 in
theorem trefoilref04_Preds.calls (k : Nat) (A0_0 : Option Addr) (c0_0 : Nat) (l0_0 : List Int) (A0_1 : Option Addr) (c0_1 : Nat) (l0_1 : List (S85)) (a1 : Int) (r : List Int) (w : World) (hr0_0 : Kd.C (Kd.int .i64) w A0_0 l0_0.length l0_0) (hc0_0 : l0_0.length ≤ c0_0) (hr0_1 : Kd.C k85 w A0_1 l0_1.length l0_1) (hc0_1 : l0_1.length ≤ c0_1) (h : trefoilref04_Preds.f k l0_0 l0_1 a1 = some r) :
  Calls Try.prog 63 #[.agg #[.slice A0_0 l0_0.length c0_0, .slice A0_1 l0_1.length c0_1], .int .i64 a1] w fun e w' => ∃ v0_ : Value, e = .returned (v0_) ∧ Kd.R (Kd.int .i64) 3 w' w.heap.size (fun _ => True) v0_ r ∧ Below w.heap.size w w' := by
 have hu25 := Try.underlying25
 have HR0_0 := Z0 hr0_0
 have HC0_0 := Z0 hc0_0
 clear hr0_0 hc0_0
 have HR0_1 := Z0 hr0_1
 have HC0_1 := Z0 hc0_1
 clear hr0_1 hc0_1
 have HB := Z0 (Below.refl w.heap.size w)
 have H : (trefoilref04_Preds.l0 k a1 (([] : List Int)) 0 l0_0 l0_1) = some r := h
 clear h
 obtain ⟨y331, hy331⟩ : ∃ y_ : List Int, y_ = (([] : List Int)) := ⟨_, rfl⟩
 replace H : (trefoilref04_Preds.l0 k a1 y331 0 l0_0 l0_1) = some r := by first | (rw [hy331]; with_reducible exact H) | (have H2_ := (Option.bind_some _ _).symm.trans H; rw [hy331]; with_reducible exact H2_) | (have H2_ := (Option.bind_some _ _).symm.trans H; with_reducible exact H2_) | with_reducible exact H | (rw [hy331]; exact H) | exact H
 have Ny331 := Z0 hy331
 clear hy331
 have H' := Z0 H
 clear H
 go_enter Try.func63, Try.ntmps63
 go_wp2_with (first | ((with_reducible refine gate_dst (N := 2) rfl ?_); refine zx (N := 2) #[.slice A0_0 l0_0.length c0_0, .slice A0_1 l0_1.length c0_1] 25 ?_; intro gb330 hg w3 hbox hb; have BK330 := Z0 (hbox); have GW330 := Z0 (zh w hg HB); have GE330 := Z0 (zh w hg HB); replace HB := Z0 (below_step (zb HB) hb); clear hb hbox hg) | ((with_reducible refine gate_dst (N := 7) rfl ?_); refine zz (N := 7) 3 [] Ny331 (Reps.none _ _) ?_; intro v332 w4 ho5 hb; have HO333 := Z0 (rl ho5 (below_size (zb HB))); replace BK330 := Z0 (zkb BK330 hb); replace HB := Z0 (below_step (zb HB) hb); clear hb ho5))
 go_loopg [5, 6] k (fun kq v5 v6 w' => ∃ (x5_1 : List Int) (x6_1 : Int), v6 = .int .i64 x6_1 ∧ Aside0 (trefoilref04_Preds.l0 kq a1 x5_1 x6_1 l0_0 l0_1 = some r) ∧ Aside0 (kq ≤ k) ∧ Aside0 (Kd.R (Kd.int .i64) 3 w' w.heap.size (fun _ => True) v5 x5_1) ∧ Aside0 (w'.heap[gb330]? = some (.cells #[(.slice A0_0 l0_0.length c0_0), (.slice A0_1 l0_1.length c0_1)] 25 (0, 0))) ∧ Aside0 (Below w.heap.size w w'))
 case atStart => exact ⟨(y331), (0), zs, H', ⟨Nat.le_refl _⟩, ⟨by (with_reducible repeat (first | apply ra | apply rn | apply rd_)); exact HO333.out⟩, ⟨zk BK330⟩, ⟨zb HB⟩⟩
 case round =>
  clear H'
  try clear p2
  obtain ⟨x5_1, x6_1, rfl, HA, HK1, HO_5, BK330, HB⟩ := hrel
  cases gk with
  | zero => exact absurd HA.out (by simp [trefoilref04_Preds.l0])
  | succ k1 =>
   have H := HA.out
   clear HA
   simp only [trefoilref04_Preds.l0] at H
   by_cases c6 : x6_1 < (l0_0.length : Int)
   rotate_left
   ·rw [if_neg c6] at H
    have c6b0 : decide (x6_1 < (l0_0.length : Int)) = false := decide_eq_false c6
    clear c6
    obtain rfl := Option.some.inj H
    have hcz15_0 := kz0 BK330
    have hcz15_1 := kz1 BK330
    have hfz15_0 := blk_frozen BK330.out 0
    have hfz15_1 := blk_frozen BK330.out 1
    go_wp2
    go_ret
    exact ⟨_, ze, by (with_reducible repeat (first | apply ra | apply rn | apply rd_)); exact HO_5.out, zb HB⟩
   rw [if_pos c6] at H
   have c6b0 : decide (x6_1 < (l0_0.length : Int)) = true := decide_eq_true c6
   clear c6
   replace H := Option.bind_eq_some_iff.mp H
   obtain ⟨t334, A70, H⟩ := H
   have A7 := Z0 A70
   clear A70
   by_cases c8 : t334 = true
   rotate_left
   ·replace c8 := Bool.eq_false_iff.mpr c8
    subst c8
    rw [if_neg nft] at H
    have H' := Z0 H
    clear H
    have hcz13_0 := kz0 BK330
    have hcz13_1 := kz1 BK330
    have hfz13_0 := blk_frozen BK330.out 0
    have hfz13_1 := blk_frozen BK330.out 1
    go_wp2_with (first | ((with_reducible refine gate_callee (f := 86) rfl ?_); refine goesL_ (some 18) rfl rfl Try.func86 (by kernel_rfl) rfl #[.agg #[.slice A0_0 l0_0.length c0_0, .slice A0_1 l0_1.length c0_1], .int .i64 x6_1, .int .i64 a1] rfl (by (try simp only [List.map_toArray, List.map_cons, List.map_nil]); first | done | rfl | (simp only [List.length_drop, List.length_take]; rfl)) ?_; (with_reducible refine (trefoilref04_Near.calls k1 _ _ l0_0 _ _ l0_1 x6_1 a1 false _ ?side1 ?side2 ?side3 ?side4 A7.out).mono ?_); (case side1 => exact zc (Kd.C_below HR0_0.out HB.out)); (case side2 => exact HC0_0.out); (case side3 => exact zc (Kd.C_below HR0_1.out HB.out)); (case side4 => exact HC0_1.out); rintro e w14 ⟨rfl, hb⟩; refine ⟨_, rfl, ?_⟩; have n0_ := Z0 (rbe (zr HO_5) hb); have n1_ := Z0 (zkb BK330 hb); have n2_ := Z0 (below_step (zb HB) hb); clear HO_5; clear BK330; clear HB; have HO_5 := n0_; have BK330 := n1_; have HB := n2_; clear n0_ n1_ n2_; (try clear hb); (try clear hb2); (try clear hk); (try clear hi)))
    go_roundg k1
    case measure => have := HK1.out; omega
    case rel => exact ⟨(x5_1), (wrap64 (x6_1 + 1)), zs, H', ⟨by have := HK1.out; omega⟩, ⟨by (with_reducible repeat (first | apply ra | apply rn | apply rd_)); exact HO_5.out⟩, ⟨zk BK330⟩, ⟨zb HB⟩⟩
   subst c8
   rw [if_pos rfl] at H
   by_cases c9 : x5_1.length < 17592186044416
   rotate_left
   ·rw [if_neg c9] at H
    exact absurd H (by simp)
   rw [if_pos c9] at H
   have LMc9 := Z0 c9
   clear c9
   obtain ⟨y335, hy335⟩ : ∃ y_ : List Int, y_ = (x5_1 ++ [x6_1]) := ⟨_, rfl⟩
   replace H : (trefoilref04_Preds.l0 k1 a1 y335 (wrap64 (x6_1 + 1)) l0_0 l0_1) = some r := by first | (rw [hy335]; with_reducible exact H) | (have H2_ := (Option.bind_some _ _).symm.trans H; rw [hy335]; with_reducible exact H2_) | (have H2_ := (Option.bind_some _ _).symm.trans H; with_reducible exact H2_) | with_reducible exact H | (rw [hy335]; exact H) | exact H
   have Ny335 := Z0 hy335
   clear hy335
   have H' := Z0 H
   clear H
   have hcz10_0 := kz0 BK330
   have hcz10_1 := kz1 BK330
   have hfz10_0 := blk_frozen BK330.out 0
   have hfz10_1 := blk_frozen BK330.out 1
   go_wp2_with (first | ((with_reducible refine gate_callee (f := 86) rfl ?_); refine goesL_ (some 18) rfl rfl Try.func86 (by kernel_rfl) rfl #[.agg #[.slice A0_0 l0_0.length c0_0, .slice A0_1 l0_1.length c0_1], .int .i64 x6_1, .int .i64 a1] rfl (by (try simp only [List.map_toArray, List.map_cons, List.map_nil]); first | done | rfl | (simp only [List.length_drop, List.length_take]; rfl)) ?_; (with_reducible refine (trefoilref04_Near.calls k1 _ _ l0_0 _ _ l0_1 x6_1 a1 true _ ?side1 ?side2 ?side3 ?side4 A7.out).mono ?_); (case side1 => exact zc (Kd.C_below HR0_0.out HB.out)); (case side2 => exact HC0_0.out); (case side3 => exact zc (Kd.C_below HR0_1.out HB.out)); (case side4 => exact HC0_1.out); rintro e w11 ⟨rfl, hb⟩; refine ⟨_, rfl, ?_⟩; have n0_ := Z0 (rbe (zr HO_5) hb); have n1_ := Z0 (zkb BK330 hb); have n2_ := Z0 (below_step (zb HB) hb); clear HO_5; clear BK330; clear HB; have HO_5 := n0_; have BK330 := n1_; have HB := n2_; clear n0_ n1_ n2_; (try clear hb); (try clear hb2); (try clear hk); (try clear hi)) | ((with_reducible refine gate_builtin (b := .append) (xs := #[.tmp 19, .tmp 21]) rfl ?_); at_builtin; refine Kd.R_append (Kd.int .i64) (w0 := w) w.heap.size rfl (.tmp 19) (.tmp 21) 22 3 (.int .i64 0) 8 rfl Try.underlying22 info3 rfl (by decide) (by omega) u5 x5_1 x6_1 [.int .i64 x6_1] (fun _ => True) (fun _ => False) rfl rfl ?aP (fun _ hk => hk.elim) ?aF ?aO ?aB ?aS ?aL ?_; (case aP => exact rfl); (case aB => exact (zb HB)); (case aF => exact (fun _ _ => trivial)); (case aO => exact (zr HO_5)); (case aS => exact (below_size (zb HB))); (case aL => have := LMc9.out; omega); intro v336 w12 ho hb hg hat; rw [← Ny335.out] at ho; have n0_ := Z0 (blk_grown (g := gb330) (o := .cells #[.slice A0_0 l0_0.length c0_0, .slice A0_1 l0_1.length c0_1] 25 (0, 0)) (zk BK330) hg (Kd.R_ne HO_5.out BK330.out (by decide))); have n1_ := Z0 (hb); have n2_ := Z0 (ho); clear BK330; clear HB; clear HO_5; have BK330 := n0_; have HB := n1_; have HO337 := n2_; clear n0_ n1_ n2_; clear ho hb hg hat))
   go_roundg k1
   case measure => have := HK1.out; omega
   case rel => exact ⟨(y335), (wrap64 (x6_1 + 1)), zs, H', ⟨by have := HK1.out; omega⟩, ⟨by (with_reducible repeat (first | apply ra | apply rn | apply rd_)); exact HO337.out⟩, ⟨zk BK330⟩, ⟨zb HB⟩⟩
end Go.Proofs.Ytmbhjhanafmidaa.PListSteps
