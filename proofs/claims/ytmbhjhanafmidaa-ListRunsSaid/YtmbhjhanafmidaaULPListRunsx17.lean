/- Written by a program of this work: each theorem says that a call of the Go function comes to what the Lean function beside it tells, under the conditions that it names; Lean checks it. -/
import Derived.Test.YtmbhjhanafmidaaULPListRunsx0
import Derived.Test.YtmbhjhanafmidaaULPListRunsx16
import Derived.Test.YtmbhjhanafmidaaULZr
namespace Go.Proofs.Ytmbhjhanafmidaa.PListRuns
open Go.Proofs.Ytmbhjhanafmidaa.Zr Go.RowKit Go.Proofs.YtmbhjhanafmidaaW.PrintWords Go.Proofs.YtmbhjhanafmidaaW.PrintLast Go.Proofs.YtmbhjhanafmidaaW.PrintMore
attribute [local go_sem] max2_int min2_int max_two min_two max_three min_three max_four min_four   -- for this text's walks alone
set_option linter.unusedVariables false
set_option linter.unusedSimpArgs false
mutual
def trefoilref04_Reach.l0 : Nat → Int → List Bool → Int → List Int → List (S85) → Option (List Bool)
 | 0, _, _, _, _, _ => none
 | k + 1, x1, x5, x6, x382000, x382001 => if x6 < (x382000.length : Int) then (trefoilref04_Reach.l1 k x1 x5 x6 0 x382000 x382001) else (some x5)
def trefoilref04_Reach.l1 : Nat → Int → List Bool → Int → Int → List Int → List (S85) → Option (List Bool)
 | 0, _, _, _, _, _, _ => none
 | k + 1, x1, x5, x6, x7, x382000, x382001 => if x7 < (x382001.length : Int) then (if 0 ≤ x7 then (if ((rd_T85 x382001 x7).f0) = x1 then (if 0 ≤ ((rd_T85 x382001 x7).f1) then (if ((rd_T85 x382001 x7).f1) < (x5.length : Int) then (trefoilref04_Reach.l1 k x1 (x5.set (((rd_T85 x382001 x7).f1) : Int).toNat true) x6 (wrap64 (x7 + 1)) x382000 x382001) else (none)) else (none)) else (if 0 ≤ ((rd_T85 x382001 x7).f0) then (if ((rd_T85 x382001 x7).f0) < (x5.length : Int) then (if rdOf false x5 ((rd_T85 x382001 x7).f0) = true then (if 0 ≤ ((rd_T85 x382001 x7).f1) then (if ((rd_T85 x382001 x7).f1) < (x5.length : Int) then (trefoilref04_Reach.l1 k x1 (x5.set (((rd_T85 x382001 x7).f1) : Int).toNat true) x6 (wrap64 (x7 + 1)) x382000 x382001) else (none)) else (none)) else (trefoilref04_Reach.l1 k x1 x5 x6 (wrap64 (x7 + 1)) x382000 x382001)) else (none)) else (none))) else (none)) else (trefoilref04_Reach.l0 k x1 x5 (wrap64 (x6 + 1)) x382000 x382001)
end
def trefoilref04_Reach.f (k : Nat) (l0_0 : List Int) (l0_1 : List (S85)) (a1 : Int) : Option (List Bool) := if 0 ≤ (l0_0.length : Int) then (if ((l0_0.length : Int) : Int).toNat ≤ 281474976710656 then (trefoilref04_Reach.l0 k a1 (List.replicate ((l0_0.length : Int) : Int).toNat false) 0 l0_0 l0_1) else (none)) else (none)
set_option maxHeartbeats 8000000 in
set_option maxRecDepth 100000 in
theorem trefoilref04_Reach.calls (k : Nat) (A0_0 : Option Addr) (c0_0 : Nat) (l0_0 : List Int) (A0_1 : Option Addr) (c0_1 : Nat) (l0_1 : List (S85)) (a1 : Int) (r : List Bool) (w : World) (hr0_0 : Kd.C (Kd.int .i64) w A0_0 l0_0.length l0_0) (hc0_0 : l0_0.length ≤ c0_0) (hr0_1 : Kd.C k85 w A0_1 l0_1.length l0_1) (hc0_1 : l0_1.length ≤ c0_1) (h : trefoilref04_Reach.f k l0_0 l0_1 a1 = some r) :
  Calls Try.prog 62 #[.agg #[.slice A0_0 l0_0.length c0_0, .slice A0_1 l0_1.length c0_1], .int .i64 a1] w fun e w' => ∃ v0_ : Value, e = .returned (v0_) ∧ Kd.R Kd.bool 4 w' w.heap.size (fun _ => True) v0_ r ∧ Below w.heap.size w w' := by
 have hu25 := Try.underlying25
 have hu85 := Try.underlying85
 have HR0_0 := Z0 hr0_0
 have HC0_0 := Z0 hc0_0
 clear hr0_0 hc0_0
 have HR0_1 := Z0 hr0_1
 have HC0_1 := Z0 hc0_1
 clear hr0_1 hc0_1
 have HB := Z0 (Below.refl w.heap.size w)
 have H : (if 0 ≤ (l0_0.length : Int) then (if ((l0_0.length : Int) : Int).toNat ≤ 281474976710656 then (trefoilref04_Reach.l0 k a1 (List.replicate ((l0_0.length : Int) : Int).toNat false) 0 l0_0 l0_1) else (none)) else (none)) = some r := h
 clear h
 by_cases c3 : 0 ≤ (l0_0.length : Int)
 ·rw [if_pos c3] at H
  have c3b0 := eq_true c3
  have c3b1 : decide (0 ≤ (l0_0.length : Int)) = true := decide_eq_true c3
  clear c3
  by_cases c4 : ((l0_0.length : Int) : Int).toNat ≤ 281474976710656
  ·rw [if_pos c4] at H
   have c4b0 := eq_true c4
   have c4b1 : decide (((l0_0.length : Int) : Int).toNat ≤ 281474976710656) = true := decide_eq_true c4
   clear c4
   obtain ⟨y382, hy382⟩ : ∃ y_ : List Bool, y_ = (List.replicate ((l0_0.length : Int) : Int).toNat false) := ⟨_, rfl⟩
   replace H : (trefoilref04_Reach.l0 k a1 y382 0 l0_0 l0_1) = some r := by first | (rw [hy382]; with_reducible exact H) | (have H2_ := (Option.bind_some _ _).symm.trans H; rw [hy382]; with_reducible exact H2_) | (have H2_ := (Option.bind_some _ _).symm.trans H; with_reducible exact H2_) | with_reducible exact H | (rw [hy382]; exact H) | exact H
   have Ny382 := Z0 hy382
   clear hy382
   have H' := Z0 H
   clear H
   go_enter Try.func62, Try.ntmps62
   go_wp2_with (first | ((with_reducible refine gate_dst (N := 2) rfl ?_); refine zx (N := 2) #[.slice A0_0 l0_0.length c0_0, .slice A0_1 l0_1.length c0_1] 25 ?_; intro gb381 hg w5 hbox hb; have BK381 := Z0 (hbox); have GW381 := Z0 (zh w hg HB); have GE381 := Z0 (zh w hg HB); replace HB := Z0 (below_step (zb HB) hb); clear hb hbox hg; have hcz6_0 := kz0 BK381; have hcz6_1 := kz1 BK381; have hfz6_0 := blk_frozen BK381.out 0; have hfz6_1 := blk_frozen BK381.out 1) | ((with_reducible refine gate_dst (N := 12) rfl ?_); refine Kd.R_make Kd.bool _ 4 rfl (N := 12) rfl 81 _ _ rfl (l0_0.length : Int) rfl rfl Try.underlying81 (.bool false) 1 info4 rfl (by decide) (by omega) false (ok := fun _ => True) (okp := fun _ => True) rfl (fun _ hk => hk) trivial (of_decide_eq_true (by first | (with_reducible assumption) | assumption)) (Nat.le_trans (Nat.mul_le_mul_right _ (of_decide_eq_true (by first | (with_reducible assumption) | assumption) : (l0_0.length : Int).toNat ≤ 281474976710656)) (by omega)) (Below.refl _ _) (Nat.le_refl _) ?_; intro v383 w7 ho8 hb hg_ hnew_; clear hg_ hnew_; (first | rw [← Ny382.out] at ho8 | (simp only [Int.reduceToNat] at ho8; rw [← Ny382.out] at ho8)); have HO384 := Z0 (rl ho8 (below_size (zb HB))); replace BK381 := Z0 (zkb BK381 hb); replace HB := Z0 (below_step (zb HB) hb); clear hb ho8))
   go_loopg [6] k (fun kq v6 w' => ∃ (x5_1 : List Bool) (x6_1 : Int), v6 = .int .i64 x6_1 ∧ Aside0 (trefoilref04_Reach.l0 kq a1 x5_1 x6_1 l0_0 l0_1 = some r) ∧ Aside0 (kq ≤ k) ∧ Aside0 (Kd.R Kd.bool 4 w' w.heap.size (fun _ => True) v383 x5_1) ∧ Aside0 (w'.heap[gb381]? = some (.cells #[(.slice A0_0 l0_0.length c0_0), (.slice A0_1 l0_1.length c0_1)] 25 (0, 0))) ∧ Aside0 (Below w.heap.size w w'))
   case atStart => exact ⟨(y382), (0), zs, H', ⟨Nat.le_refl _⟩, ⟨by (with_reducible repeat (first | apply ra | apply rn | apply rd_)); exact HO384.out⟩, ⟨zk BK381⟩, ⟨zb HB⟩⟩
   case round =>
    clear H'
    try clear p2
    try clear c3
    try clear c3b0
    try clear c3b1
    try clear c4
    try clear c4b0
    try clear c4b1
    try clear c6
    try clear hcz6_0
    try clear hcz6_1
    try clear hfz6_0
    try clear hfz6_1
    obtain ⟨x5_1, x6_1, rfl, HA, HK1, HO_5, BK381, HB⟩ := hrel
    cases gk with
    | zero => exact absurd HA.out (by simp [trefoilref04_Reach.l0])
    | succ k1 =>
     have H := HA.out
     clear HA
     simp only [trefoilref04_Reach.l0] at H
     by_cases c9 : x6_1 < (l0_0.length : Int)
     ·rw [if_pos c9] at H
      have c9b0 : decide (x6_1 < (l0_0.length : Int)) = true := decide_eq_true c9
      clear c9
      have H' := Z0 H
      clear H
      have hcz10_0 := kz0 BK381
      have hcz10_1 := kz1 BK381
      have hfz10_0 := blk_frozen BK381.out 0
      have hfz10_1 := blk_frozen BK381.out 1
      go_wp2
      go_loopg [7] k1 (fun kq v7 w' => ∃ (x5_2 : List Bool) (x7_2 : Int), v7 = .int .i64 x7_2 ∧ Aside0 (trefoilref04_Reach.l1 kq a1 x5_2 x6_1 x7_2 l0_0 l0_1 = some r) ∧ Aside0 (kq ≤ k1) ∧ Aside0 (Kd.R Kd.bool 4 w' w.heap.size (fun _ => True) v383 x5_2) ∧ Aside0 (w'.heap[gb381]? = some (.cells #[(.slice A0_0 l0_0.length c0_0), (.slice A0_1 l0_1.length c0_1)] 25 (0, 0))) ∧ Aside0 (Below w.heap.size w w'))
      case atStart => exact ⟨(x5_1), (0), zs, H', ⟨Nat.le_refl _⟩, ⟨by (with_reducible repeat (first | apply ra | apply rn | apply rd_)); exact HO_5.out⟩, ⟨zk BK381⟩, ⟨zb HB⟩⟩
      case round =>
       clear H'
       try clear p2
       try clear c3
       try clear c3b0
       try clear c3b1
       try clear c4
       try clear c4b0
       try clear c4b1
       try clear c6
       try clear c9
       try clear c9b0
       try clear hcz10_0
       try clear hcz10_1
       try clear hcz6_0
       try clear hcz6_1
       try clear hfz10_0
       try clear hfz10_1
       try clear hfz6_0
       try clear hfz6_1
       try clear p2
       obtain ⟨x5_2, x7_2, rfl, HA, HK2, HO_5, BK381, HB⟩ := hrel
       cases gk with
       | zero => exact absurd HA.out (by simp [trefoilref04_Reach.l1])
       | succ k2 =>
        have H := HA.out
        clear HA
        simp only [trefoilref04_Reach.l1] at H
        by_cases c11 : x7_2 < (l0_1.length : Int)
        ·rw [if_pos c11] at H
         have c11b0 : decide (x7_2 < (l0_1.length : Int)) = true := decide_eq_true c11
         clear c11
         by_cases c12 : 0 ≤ x7_2
         ·rw [if_pos c12] at H
          have c12b0 : decide (0 ≤ x7_2) = true := decide_eq_true c12
          clear c12
          by_cases c13 : ((rd_T85 l0_1 x7_2).f0) = a1
          ·rw [if_pos c13] at H
           have c13b0 : (((rd_T85 l0_1 x7_2).f0) == a1) = true := beq_iff_eq.mpr c13
           have c13b1 : (((rd_T85 l0_1 x7_2).f0) != a1) = false := bne_eq_false_iff_eq.mpr c13
           clear c13
           by_cases c14 : 0 ≤ ((rd_T85 l0_1 x7_2).f1)
           ·rw [if_pos c14] at H
            have c14b0 : decide (0 ≤ ((rd_T85 l0_1 x7_2).f1)) = true := decide_eq_true c14
            clear c14
            by_cases c15 : ((rd_T85 l0_1 x7_2).f1) < (x5_2.length : Int)
            ·rw [if_pos c15] at H
             have c15b0 : decide (((rd_T85 l0_1 x7_2).f1) < (x5_2.length : Int)) = true := decide_eq_true c15
             clear c15
             obtain ⟨y387, hy387⟩ : ∃ y_ : List Bool, y_ = (x5_2.set (((rd_T85 l0_1 x7_2).f1) : Int).toNat true) := ⟨_, rfl⟩
             replace H : (trefoilref04_Reach.l1 k2 a1 y387 x6_1 (wrap64 (x7_2 + 1)) l0_0 l0_1) = some r := by first | (rw [hy387]; with_reducible exact H) | (have H2_ := (Option.bind_some _ _).symm.trans H; rw [hy387]; with_reducible exact H2_) | (have H2_ := (Option.bind_some _ _).symm.trans H; with_reducible exact H2_) | with_reducible exact H | (rw [hy387]; exact H) | exact H
             have Ny387 := Z0 hy387
             clear hy387
             have H' := Z0 H
             clear H
             have hcz17_0 := kz0 BK381
             have hcz17_1 := kz1 BK381
             have hfz17_0 := blk_frozen BK381.out 0
             have hfz17_1 := blk_frozen BK381.out 1
             have p385 : 0 ≤ (x7_2 : Int) := od
             have q385 : x7_2 < (l0_1.length : Int) := od
             obtain ⟨ad385, e385, hx385_0, hx385_1⟩ := at_T85 HR0_1.out x7_2 p385 q385
             cases e385
             replace hx385_0 := (HB.out.cell (bl w _ hx385_0)).trans hx385_0
             replace hx385_1 := (HB.out.cell (bl w _ hx385_1)).trans hx385_1
             replace p385 := eq_true p385
             replace q385 := eq_true q385
             go_wp2_with (first | ((with_reducible refine gate_dst (N := 8) rfl ?_); refine zx (N := 8) #[.int .i64 0, .int .i64 0] 85 ?_; intro gb386 hg w18 hbox hb; have n0_ := Z0 (rbe (zr HO_5) hb); have n1_ := Z0 (zkb BK381 hb); have n2_ := Z0 (below_step (zb HB) hb); have n3_ := Z0 (hbox); have n4_ := Z0 (zh w hg HB); have n5_ := Z0 (zh w hg HB); have n6_ := Z0 (zl hg BK381); have n7_ := Z0 (zu hg BK381); clear HO_5; clear BK381; clear HB; have HO_5 := n0_; have BK381 := n1_; have HB := n2_; have BK386 := n3_; have GW386 := n4_; have GE386 := n5_; have NB381_386 := n6_; have NB386_381 := n7_; clear n0_ n1_ n2_ n3_ n4_ n5_ n6_ n7_; clear hb hbox hg; have hnb19 := NB386_381.out; have hnc19 := NB381_386.out; have hcz20_0 := kz0 BK386; have hcz20_1 := kz1 BK386; have hfz20_0 := blk_frozen BK386.out 0; have hfz20_1 := blk_frozen BK386.out 1) | ((with_reducible refine gate_store (t := 85) (p := 8) rfl ?_); refine store_event (t := 85) (p := 8) (v := ?vo_w21) (w1 := ((w18.setCell ⟨gb386, 0, none⟩ (.int .i64 ((rd_T85 l0_1 x7_2).f0))).setCell ⟨gb386, 1, none⟩ (.int .i64 ((rd_T85 l0_1 x7_2).f1)))) ?hg ?ho ?hn ?hr ?_; (case ho => rfl); (case hg => rfl); (case hn => rfl); (case hr => first | (go_simp; done) | (go_simp; rfl)); intro w21 hw; have n0_ : Aside0 (Kd.R Kd.bool 4 w21 w.heap.size (fun _ => True) v383 x5_2) := ⟨(by rw [hw]; exact (by (with_reducible repeat (first | apply ra | apply rn | apply rd_)); exact rm (Kd.R_far (p := ⟨gb386, 1, none⟩) (Kd.R_far (p := ⟨gb386, 0, none⟩) (Kd.R_types HO_5.out BK386.out (by decide)) (fun _ hk => hk.2) (.int .i64 ((rd_T85 l0_1 x7_2).f0))) (fun _ hk => hk.2) (.int .i64 ((rd_T85 l0_1 x7_2).f1))) (fun _ hk => trivial)))⟩; have n1_ : Aside0 (w21.heap[gb381]? = some (.cells #[.slice A0_0 l0_0.length c0_0, .slice (some ad385) l0_1.length c0_1] 25 (0, 0))) := ⟨(by rw [hw]; exact (by (with_reducible repeat (first | refine kn ?_ _ | refine kd_ ?_ | refine ka ?_ _)); refine blk_far ?_ NB381_386.out _; (with_reducible repeat (first | refine kn ?_ _ | refine kd_ ?_ | refine ka ?_ _)); refine blk_far ?_ NB381_386.out _; (with_reducible repeat (first | refine kn ?_ _ | refine kd_ ?_ | refine ka ?_ _)); exact BK381.out))⟩; have n2_ : Aside0 (w21.heap[gb386]? = some (.cells #[.int .i64 ((rd_T85 l0_1 x7_2).f0), .int .i64 ((rd_T85 l0_1 x7_2).f1)] 85 (0, 0))) := ⟨(by rw [hw]; exact (by (with_reducible repeat (first | refine kn ?_ _ | refine kd_ ?_ | refine ka ?_ _)); refine blk_put (cs := #[.int .i64 ((rd_T85 l0_1 x7_2).f0), .int .i64 0]) ?_ 1 _ rfl; (with_reducible repeat (first | refine kn ?_ _ | refine kd_ ?_ | refine ka ?_ _)); refine blk_put (cs := #[.int .i64 0, .int .i64 0]) ?_ 0 _ rfl; (with_reducible repeat (first | refine kn ?_ _ | refine kd_ ?_ | refine ka ?_ _)); exact BK386.out))⟩; have n3_ : Aside0 (Below w.heap.size w w21) := ⟨(by rw [hw]; exact (zb HB))⟩; clear hw; clear HO_5; clear BK381; clear BK386; clear HB; have HO_5 := n0_; have BK381 := n1_; have BK386 := n2_; have HB := n3_; clear n0_ n1_ n2_ n3_; have hcz22_0 := kz0 BK386; have hcz22_1 := kz1 BK386; have hfz22_0 := blk_frozen BK386.out 0; have hfz22_1 := blk_frozen BK386.out 1; have p16 : 0 ≤ (((rd_T85 l0_1 x7_2).f1) : Int) := od; have q16 : (((rd_T85 l0_1 x7_2).f1) : Int) < ((x5_2.length : Int) : Int) := od; obtain ⟨go16, co16, eo16, gb16, gl16, cl16, HG16⟩ := Kd.R_form HO_5.out (by omega); (first | cases eo16 | (injection eo16 with ea_ en_ ec_; (first | subst ea_ | (injection ea_ with ea_; subst ea_)); subst ec_; clear en_)); have GB16 := Z0 gb16; have GG16 := Z0 HG16; clear gb16 gl16 HG16; obtain ⟨hx16_0, hf16_0⟩ := Kd.R_celln false HO_5.out (((rd_T85 l0_1 x7_2).f1) : Int) p16 q16; replace p16 := eq_true p16; replace q16 := eq_true q16; obtain ⟨hy23_, hz23_⟩ := Kd.R_celln false HO_5.out (((rd_T85 l0_1 x7_2).f1) : Int) (of_decide_eq_true (by first | (with_reducible assumption) | assumption)) (of_decide_eq_true (by first | (with_reducible assumption) | assumption)); have HP23 := Kd.R_putg HO_5.out (((rd_T85 l0_1 x7_2).f1) : Int) true) | ((with_reducible refine gate_store (t := 4) (p := 46) rfl ?_); refine store_event (t := 4) (p := 46) (v := ?vo_w24) (w1 := (w21.setCell ⟨go16, (((rd_T85 l0_1 x7_2).f1) : Int).toNat, none⟩ (.bool true))) ?hg ?ho ?hn ?hr ?_; (case ho => rfl); (case hg => rfl); (case hn => rfl); (case hr => first | (go_simp; done) | (go_simp; rfl)); intro w24 hw; have hg : w21.grownBy w24 (some go16) := (by rw [hw]; exact HP23.2); have hp_ : Kd.R Kd.bool 4 w24 w.heap.size (fun _ => True) (.slice (some ⟨go16, 0, none⟩) x5_2.length co16) y387 := (by rw [hw, Ny387.out]; exact HP23.1); clear HP23; have n0_ := Z0 (hp_); have n1_ := Z0 (blk_grown (g := gb381) (o := .cells #[.slice A0_0 l0_0.length c0_0, .slice (some ad385) l0_1.length c0_1] 25 (0, 0)) (zk BK381) hg (Kd.R_ne HO_5.out BK381.out (by decide))); have n2_ := Z0 (blk_grown (g := gb386) (o := .cells #[.int .i64 ((rd_T85 l0_1 x7_2).f0), .int .i64 ((rd_T85 l0_1 x7_2).f1)] 85 (0, 0)) (zk BK386) hg (Kd.R_ne HO_5.out BK386.out (by decide))); have n3_ := Z0 ((by rw [hw]; exact ws (HB.out) GB16.out : Below w.heap.size w w24)); clear HO_5; clear BK381; clear BK386; clear HB; have HO_5 := n0_; have BK381 := n1_; have BK386 := n2_; have HB := n3_; clear n0_ n1_ n2_ n3_; clear hg hw hp_))
             go_roundg k2
             case measure => have := HK1.out; have := HK2.out; omega
             case rel => exact ⟨(y387), (wrap64 (x7_2 + 1)), zs, H', ⟨by have := HK1.out; have := HK2.out; omega⟩, ⟨by (with_reducible repeat (first | apply ra | apply rn | apply rd_)); exact HO_5.out⟩, ⟨zk BK381⟩, ⟨zb HB⟩⟩
            ·rw [if_neg c15] at H
             exact absurd H (by simp)
           ·rw [if_neg c14] at H
            exact absurd H (by simp)
          ·rw [if_neg c13] at H
           have c13b0 : (((rd_T85 l0_1 x7_2).f0) == a1) = false := beq_eq_false_iff_ne.mpr c13
           have c13b1 : (((rd_T85 l0_1 x7_2).f0) != a1) = true := bne_iff_ne.mpr c13
           by_cases c25 : 0 ≤ ((rd_T85 l0_1 x7_2).f0)
           ·rw [if_pos c25] at H
            have c25b0 : decide (0 ≤ ((rd_T85 l0_1 x7_2).f0)) = true := decide_eq_true c25
            clear c25
            by_cases c26 : ((rd_T85 l0_1 x7_2).f0) < (x5_2.length : Int)
            ·rw [if_pos c26] at H
             have c26b0 : decide (((rd_T85 l0_1 x7_2).f0) < (x5_2.length : Int)) = true := decide_eq_true c26
             clear c26
             obtain ⟨bq27, hbq27⟩ : ∃ b_ : Bool, b_ = (rdOf false x5_2 ((rd_T85 l0_1 x7_2).f0)) := ⟨_, rfl⟩
             replace H : (if bq27 = true then (if 0 ≤ ((rd_T85 l0_1 x7_2).f1) then (if ((rd_T85 l0_1 x7_2).f1) < (x5_2.length : Int) then (trefoilref04_Reach.l1 k2 a1 (x5_2.set (((rd_T85 l0_1 x7_2).f1) : Int).toNat true) x6_1 (wrap64 (x7_2 + 1)) l0_0 l0_1) else (none)) else (none)) else (trefoilref04_Reach.l1 k2 a1 x5_2 x6_1 (wrap64 (x7_2 + 1)) l0_0 l0_1)) = some r := by rw [← hbq27] at H; exact H
             have Nbq27 := Z0 hbq27
             clear hbq27
             by_cases c28 : bq27 = true
             ·subst c28
              rw [if_pos rfl] at H
              by_cases c29 : 0 ≤ ((rd_T85 l0_1 x7_2).f1)
              ·rw [if_pos c29] at H
               have c29b0 : decide (0 ≤ ((rd_T85 l0_1 x7_2).f1)) = true := decide_eq_true c29
               clear c29
               by_cases c30 : ((rd_T85 l0_1 x7_2).f1) < (x5_2.length : Int)
               ·rw [if_pos c30] at H
                have c30b0 : decide (((rd_T85 l0_1 x7_2).f1) < (x5_2.length : Int)) = true := decide_eq_true c30
                clear c30
                obtain ⟨y389, hy389⟩ : ∃ y_ : List Bool, y_ = (x5_2.set (((rd_T85 l0_1 x7_2).f1) : Int).toNat true) := ⟨_, rfl⟩
                replace H : (trefoilref04_Reach.l1 k2 a1 y389 x6_1 (wrap64 (x7_2 + 1)) l0_0 l0_1) = some r := by first | (rw [hy389]; with_reducible exact H) | (have H2_ := (Option.bind_some _ _).symm.trans H; rw [hy389]; with_reducible exact H2_) | (have H2_ := (Option.bind_some _ _).symm.trans H; with_reducible exact H2_) | with_reducible exact H | (rw [hy389]; exact H) | exact H
                have Ny389 := Z0 hy389
                clear hy389
                have H' := Z0 H
                clear H
                have hcz32_0 := kz0 BK381
                have hcz32_1 := kz1 BK381
                have hfz32_0 := blk_frozen BK381.out 0
                have hfz32_1 := blk_frozen BK381.out 1
                have p385 : 0 ≤ (x7_2 : Int) := od
                have q385 : x7_2 < (l0_1.length : Int) := od
                obtain ⟨ad385, e385, hx385_0, hx385_1⟩ := at_T85 HR0_1.out x7_2 p385 q385
                cases e385
                replace hx385_0 := (HB.out.cell (bl w _ hx385_0)).trans hx385_0
                replace hx385_1 := (HB.out.cell (bl w _ hx385_1)).trans hx385_1
                replace p385 := eq_true p385
                replace q385 := eq_true q385
                go_wp2_with (first | ((with_reducible refine gate_dst (N := 8) rfl ?_); refine zx (N := 8) #[.int .i64 0, .int .i64 0] 85 ?_; intro gb386 hg w33 hbox hb; have n0_ := Z0 (rbe (zr HO_5) hb); have n1_ := Z0 (zkb BK381 hb); have n2_ := Z0 (below_step (zb HB) hb); have n3_ := Z0 (hbox); have n4_ := Z0 (zh w hg HB); have n5_ := Z0 (zh w hg HB); have n6_ := Z0 (zl hg BK381); have n7_ := Z0 (zu hg BK381); clear HO_5; clear BK381; clear HB; have HO_5 := n0_; have BK381 := n1_; have HB := n2_; have BK386 := n3_; have GW386 := n4_; have GE386 := n5_; have NB381_386 := n6_; have NB386_381 := n7_; clear n0_ n1_ n2_ n3_ n4_ n5_ n6_ n7_; clear hb hbox hg; have hnb34 := NB386_381.out; have hnc34 := NB381_386.out; have hcz35_0 := kz0 BK386; have hcz35_1 := kz1 BK386; have hfz35_0 := blk_frozen BK386.out 0; have hfz35_1 := blk_frozen BK386.out 1) | ((with_reducible refine gate_store (t := 85) (p := 8) rfl ?_); refine store_event (t := 85) (p := 8) (v := ?vo_w36) (w1 := ((w33.setCell ⟨gb386, 0, none⟩ (.int .i64 ((rd_T85 l0_1 x7_2).f0))).setCell ⟨gb386, 1, none⟩ (.int .i64 ((rd_T85 l0_1 x7_2).f1)))) ?hg ?ho ?hn ?hr ?_; (case ho => rfl); (case hg => rfl); (case hn => rfl); (case hr => first | (go_simp; done) | (go_simp; rfl)); intro w36 hw; have n0_ : Aside0 (Kd.R Kd.bool 4 w36 w.heap.size (fun _ => True) v383 x5_2) := ⟨(by rw [hw]; exact (by (with_reducible repeat (first | apply ra | apply rn | apply rd_)); exact rm (Kd.R_far (p := ⟨gb386, 1, none⟩) (Kd.R_far (p := ⟨gb386, 0, none⟩) (Kd.R_types HO_5.out BK386.out (by decide)) (fun _ hk => hk.2) (.int .i64 ((rd_T85 l0_1 x7_2).f0))) (fun _ hk => hk.2) (.int .i64 ((rd_T85 l0_1 x7_2).f1))) (fun _ hk => trivial)))⟩; have n1_ : Aside0 (w36.heap[gb381]? = some (.cells #[.slice A0_0 l0_0.length c0_0, .slice (some ad385) l0_1.length c0_1] 25 (0, 0))) := ⟨(by rw [hw]; exact (by (with_reducible repeat (first | refine kn ?_ _ | refine kd_ ?_ | refine ka ?_ _)); refine blk_far ?_ NB381_386.out _; (with_reducible repeat (first | refine kn ?_ _ | refine kd_ ?_ | refine ka ?_ _)); refine blk_far ?_ NB381_386.out _; (with_reducible repeat (first | refine kn ?_ _ | refine kd_ ?_ | refine ka ?_ _)); exact BK381.out))⟩; have n2_ : Aside0 (w36.heap[gb386]? = some (.cells #[.int .i64 ((rd_T85 l0_1 x7_2).f0), .int .i64 ((rd_T85 l0_1 x7_2).f1)] 85 (0, 0))) := ⟨(by rw [hw]; exact (by (with_reducible repeat (first | refine kn ?_ _ | refine kd_ ?_ | refine ka ?_ _)); refine blk_put (cs := #[.int .i64 ((rd_T85 l0_1 x7_2).f0), .int .i64 0]) ?_ 1 _ rfl; (with_reducible repeat (first | refine kn ?_ _ | refine kd_ ?_ | refine ka ?_ _)); refine blk_put (cs := #[.int .i64 0, .int .i64 0]) ?_ 0 _ rfl; (with_reducible repeat (first | refine kn ?_ _ | refine kd_ ?_ | refine ka ?_ _)); exact BK386.out))⟩; have n3_ : Aside0 (Below w.heap.size w w36) := ⟨(by rw [hw]; exact (zb HB))⟩; clear hw; clear HO_5; clear BK381; clear BK386; clear HB; have HO_5 := n0_; have BK381 := n1_; have BK386 := n2_; have HB := n3_; clear n0_ n1_ n2_ n3_; have hcz37_0 := kz0 BK386; have hcz37_1 := kz1 BK386; have hfz37_0 := blk_frozen BK386.out 0; have hfz37_1 := blk_frozen BK386.out 1; obtain ⟨Ao38, co38, eo38⟩ := Kd.R_slice HO_5.out; subst eo38; have p388 : 0 ≤ (((rd_T85 l0_1 x7_2).f0) : Int) := od; have q388 : ((rd_T85 l0_1 x7_2).f0) < (x5_2.length : Int) := od; obtain ⟨ad388, e388, hx388_0⟩ := Kd.at_bool (rr HO_5.out).2.2 ((rd_T85 l0_1 x7_2).f0) p388 q388; (try rw [← Nbq27.out] at hx388_0); cases e388; replace p388 := eq_true p388; replace q388 := eq_true q388; have p31 : 0 ≤ (((rd_T85 l0_1 x7_2).f1) : Int) := od; have q31 : (((rd_T85 l0_1 x7_2).f1) : Int) < ((x5_2.length : Int) : Int) := od; obtain ⟨go31, co31, eo31, gb31, gl31, cl31, HG31⟩ := Kd.R_form HO_5.out (by omega); (first | cases eo31 | (injection eo31 with ea_ en_ ec_; (first | subst ea_ | (injection ea_ with ea_; subst ea_)); subst ec_; clear en_)); have GB31 := Z0 gb31; have GG31 := Z0 HG31; clear gb31 gl31 HG31; (first | simp only [add_plain] at hx388_0 | skip); obtain ⟨hx31_0, hf31_0⟩ := Kd.R_celln false HO_5.out (((rd_T85 l0_1 x7_2).f1) : Int) p31 q31; replace p31 := eq_true p31; replace q31 := eq_true q31; obtain ⟨hy39_, hz39_⟩ := Kd.R_celln false HO_5.out (((rd_T85 l0_1 x7_2).f1) : Int) (of_decide_eq_true (by first | (with_reducible assumption) | assumption)) (of_decide_eq_true (by first | (with_reducible assumption) | assumption)); have HP39 := Kd.R_putg HO_5.out (((rd_T85 l0_1 x7_2).f1) : Int) true) | ((with_reducible refine gate_store (t := 4) (p := 46) rfl ?_); refine store_event (t := 4) (p := 46) (v := ?vo_w40) (w1 := (w36.setCell ⟨go31, (((rd_T85 l0_1 x7_2).f1) : Int).toNat, none⟩ (.bool true))) ?hg ?ho ?hn ?hr ?_; (case ho => rfl); (case hg => rfl); (case hn => rfl); (case hr => first | (go_simp; done) | (go_simp; rfl)); intro w40 hw; have hg : w36.grownBy w40 (some go31) := (by rw [hw]; exact HP39.2); have hp_ : Kd.R Kd.bool 4 w40 w.heap.size (fun _ => True) (.slice (some ⟨go31, 0, none⟩) x5_2.length co38) y389 := (by rw [hw, Ny389.out]; exact HP39.1); clear HP39; have n0_ := Z0 (hp_); have n1_ := Z0 (blk_grown (g := gb381) (o := .cells #[.slice A0_0 l0_0.length c0_0, .slice (some ad385) l0_1.length c0_1] 25 (0, 0)) (zk BK381) hg (Kd.R_ne HO_5.out BK381.out (by decide))); have n2_ := Z0 (blk_grown (g := gb386) (o := .cells #[.int .i64 ((rd_T85 l0_1 x7_2).f0), .int .i64 ((rd_T85 l0_1 x7_2).f1)] 85 (0, 0)) (zk BK386) hg (Kd.R_ne HO_5.out BK386.out (by decide))); have n3_ := Z0 ((by rw [hw]; exact ws (HB.out) GB31.out : Below w.heap.size w w40)); clear HO_5; clear BK381; clear BK386; clear HB; have HO_5 := n0_; have BK381 := n1_; have BK386 := n2_; have HB := n3_; clear n0_ n1_ n2_ n3_; clear hg hw hp_))
                go_roundg k2
                case measure => have := HK1.out; have := HK2.out; omega
                case rel => exact ⟨(y389), (wrap64 (x7_2 + 1)), zs, H', ⟨by have := HK1.out; have := HK2.out; omega⟩, ⟨by (with_reducible repeat (first | apply ra | apply rn | apply rd_)); exact HO_5.out⟩, ⟨zk BK381⟩, ⟨zb HB⟩⟩
               ·rw [if_neg c30] at H
                exact absurd H (by simp)
              ·rw [if_neg c29] at H
               exact absurd H (by simp)
             ·replace c28 := Bool.eq_false_iff.mpr c28
              subst c28
              rw [if_neg nft] at H
              have H' := Z0 H
              clear H
              have hcz41_0 := kz0 BK381
              have hcz41_1 := kz1 BK381
              have hfz41_0 := blk_frozen BK381.out 0
              have hfz41_1 := blk_frozen BK381.out 1
              have p385 : 0 ≤ (x7_2 : Int) := od
              have q385 : x7_2 < (l0_1.length : Int) := od
              obtain ⟨ad385, e385, hx385_0, hx385_1⟩ := at_T85 HR0_1.out x7_2 p385 q385
              cases e385
              replace hx385_0 := (HB.out.cell (bl w _ hx385_0)).trans hx385_0
              replace hx385_1 := (HB.out.cell (bl w _ hx385_1)).trans hx385_1
              replace p385 := eq_true p385
              replace q385 := eq_true q385
              go_wp2_with (first | ((with_reducible refine gate_dst (N := 8) rfl ?_); refine zx (N := 8) #[.int .i64 0, .int .i64 0] 85 ?_; intro gb386 hg w42 hbox hb; have n0_ := Z0 (rbe (zr HO_5) hb); have n1_ := Z0 (zkb BK381 hb); have n2_ := Z0 (below_step (zb HB) hb); have n3_ := Z0 (hbox); have n4_ := Z0 (zh w hg HB); have n5_ := Z0 (zh w hg HB); have n6_ := Z0 (zl hg BK381); have n7_ := Z0 (zu hg BK381); clear HO_5; clear BK381; clear HB; have HO_5 := n0_; have BK381 := n1_; have HB := n2_; have BK386 := n3_; have GW386 := n4_; have GE386 := n5_; have NB381_386 := n6_; have NB386_381 := n7_; clear n0_ n1_ n2_ n3_ n4_ n5_ n6_ n7_; clear hb hbox hg; have hnb43 := NB386_381.out; have hnc43 := NB381_386.out; have hcz44_0 := kz0 BK386; have hcz44_1 := kz1 BK386; have hfz44_0 := blk_frozen BK386.out 0; have hfz44_1 := blk_frozen BK386.out 1; obtain ⟨Ao45, co45, eo45⟩ := Kd.R_slice HO_5.out; subst eo45; have p388 : 0 ≤ (((rd_T85 l0_1 x7_2).f0) : Int) := od; have q388 : ((rd_T85 l0_1 x7_2).f0) < (x5_2.length : Int) := od; obtain ⟨ad388, e388, hx388_0⟩ := Kd.at_bool (rr HO_5.out).2.2 ((rd_T85 l0_1 x7_2).f0) p388 q388; (try rw [← Nbq27.out] at hx388_0); cases e388; have hn388_0 : ad388.block ≠ gb386 := Kd.own_blk (Kd.R_ne HO_5.out BK386.out (by decide)); have hn388_1 : ad388.block ≠ gb386 := Kd.own_blk (Kd.R_ne HO_5.out BK386.out (by decide)); replace hx388_0 := (cell_far (p := ⟨gb386, 0, none⟩) (by first | (rw [add_block]; exact hn388_0) | (show (Addr.add _ _).block ≠ _; rw [add_block]; exact hn388_0) | exact hn388_0) (.int .i64 ((rd_T85 l0_1 x7_2).f0))).trans hx388_0; replace hx388_0 := (cell_far (p := ⟨gb386, 1, none⟩) (by first | (rw [add_block]; exact hn388_1) | (show (Addr.add _ _).block ≠ _; rw [add_block]; exact hn388_1) | exact hn388_1) (.int .i64 ((rd_T85 l0_1 x7_2).f1))).trans hx388_0; clear hn388_0; clear hn388_1; replace p388 := eq_true p388; replace q388 := eq_true q388))
              go_roundg k2
              case measure => have := HK1.out; have := HK2.out; omega
              case rel => exact ⟨(x5_2), (wrap64 (x7_2 + 1)), zs, H', ⟨by have := HK1.out; have := HK2.out; omega⟩, ⟨by (with_reducible repeat (first | apply ra | apply rn | apply rd_)); exact rm (Kd.R_far (p := ⟨gb386, 1, none⟩) (Kd.R_far (p := ⟨gb386, 0, none⟩) (Kd.R_types HO_5.out BK386.out (by decide)) (fun _ hk => hk.2) (.int .i64 ((rd_T85 l0_1 x7_2).f0))) (fun _ hk => hk.2) (.int .i64 ((rd_T85 l0_1 x7_2).f1))) (fun _ hk => trivial)⟩, ⟨by (with_reducible repeat (first | refine kn ?_ _ | refine kd_ ?_ | refine ka ?_ _)); refine blk_far ?_ NB381_386.out _; (with_reducible repeat (first | refine kn ?_ _ | refine kd_ ?_ | refine ka ?_ _)); refine blk_far ?_ NB381_386.out _; (with_reducible repeat (first | refine kn ?_ _ | refine kd_ ?_ | refine ka ?_ _)); exact BK381.out⟩, ⟨zb HB⟩⟩
            ·rw [if_neg c26] at H
             exact absurd H (by simp)
           ·rw [if_neg c25] at H
            exact absurd H (by simp)
         ·rw [if_neg c12] at H
          exact absurd H (by simp)
        ·rw [if_neg c11] at H
         have c11b0 : decide (x7_2 < (l0_1.length : Int)) = false := decide_eq_false c11
         clear c11
         have H' := Z0 H
         clear H
         have hcz46_0 := kz0 BK381
         have hcz46_1 := kz1 BK381
         have hfz46_0 := blk_frozen BK381.out 0
         have hfz46_1 := blk_frozen BK381.out 1
         go_wp2
         go_roundg k2
         case measure => have := HK1.out; have := HK2.out; omega
         case rel => exact ⟨(x5_2), (wrap64 (x6_1 + 1)), zs, H', ⟨by have := HK1.out; have := HK2.out; omega⟩, ⟨by (with_reducible repeat (first | apply ra | apply rn | apply rd_)); exact HO_5.out⟩, ⟨zk BK381⟩, ⟨zb HB⟩⟩
     ·rw [if_neg c9] at H
      have c9b0 : decide (x6_1 < (l0_0.length : Int)) = false := decide_eq_false c9
      clear c9
      obtain rfl := Option.some.inj H
      have hcz47_0 := kz0 BK381
      have hcz47_1 := kz1 BK381
      have hfz47_0 := blk_frozen BK381.out 0
      have hfz47_1 := blk_frozen BK381.out 1
      go_wp2
      go_ret
      exact ⟨_, ze, by (with_reducible repeat (first | apply ra | apply rn | apply rd_)); exact HO_5.out, zb HB⟩
  ·rw [if_neg c4] at H
   exact absurd H (by simp)
 ·rw [if_neg c3] at H
  exact absurd H (by simp)
def trefoilref04_Check.l0 : Nat → Int → List Int → List (S85) → Option (Int)
 | 0, _, _, _ => none
 | k + 1, x4, x391000, x391001 => if x4 < (x391000.length : Int) then ((trefoilref04_Reach.f k x391000 x391001 x4).bind fun t392 => (if 0 ≤ x4 then (if x4 < (t392.length : Int) then (if rdOf false t392 x4 = true then (some 43) else (trefoilref04_Check.l0 k (wrap64 (x4 + 1)) x391000 x391001)) else (none)) else (none))) else (some 0)
def trefoilref04_Check.f (k : Nat) (l0_0 : List Int) (l0_1 : List (S85)) : Option (Int) := (trefoilref04_Plain.f k l0_0 l0_1).bind fun t391 => (if t391 = 0 then (trefoilref04_Check.l0 k 0 l0_0 l0_1) else (some t391))
set_option maxHeartbeats 8000000 in
set_option maxRecDepth 100000 in
theorem trefoilref04_Check.calls (k : Nat) (A0_0 : Option Addr) (c0_0 : Nat) (l0_0 : List Int) (A0_1 : Option Addr) (c0_1 : Nat) (l0_1 : List (S85)) (r : Int) (w : World) (hr0_0 : Kd.C (Kd.int .i64) w A0_0 l0_0.length l0_0) (hc0_0 : l0_0.length ≤ c0_0) (hr0_1 : Kd.C k85 w A0_1 l0_1.length l0_1) (hc0_1 : l0_1.length ≤ c0_1) (h : trefoilref04_Check.f k l0_0 l0_1 = some r) :
  Calls Try.prog 41 #[.agg #[.slice A0_0 l0_0.length c0_0, .slice A0_1 l0_1.length c0_1]] w fun e w' => e = .returned (.int .i64 r) ∧ Below w.heap.size w w' := by
 have hu25 := Try.underlying25
 have HR0_0 := Z0 hr0_0
 have HC0_0 := Z0 hc0_0
 clear hr0_0 hc0_0
 have HR0_1 := Z0 hr0_1
 have HC0_1 := Z0 hc0_1
 clear hr0_1 hc0_1
 have HB := Z0 (Below.refl w.heap.size w)
 have H : ((trefoilref04_Plain.f k l0_0 l0_1).bind fun t391 => (if t391 = 0 then (trefoilref04_Check.l0 k 0 l0_0 l0_1) else (some t391))) = some r := h
 clear h
 replace H := Option.bind_eq_some_iff.mp H
 obtain ⟨t391, A20, H⟩ := H
 have A2 := Z0 A20
 clear A20
 by_cases c3 : t391 = 0
 ·rw [if_pos c3] at H
  have c3b0 : (t391 == 0) = true := beq_iff_eq.mpr c3
  have c3b1 : (t391 != 0) = false := bne_eq_false_iff_eq.mpr c3
  clear c3
  have H' := Z0 H
  clear H
  go_enter Try.func41, Try.ntmps41
  go_wp2_with (first | ((with_reducible refine gate_dst (N := 1) rfl ?_); refine zx (N := 1) #[.slice A0_0 l0_0.length c0_0, .slice A0_1 l0_1.length c0_1] 25 ?_; intro gb390 hg w4 hbox hb; have BK390 := Z0 (hbox); have GW390 := Z0 (zh w hg HB); have GE390 := Z0 (zh w hg HB); replace HB := Z0 (below_step (zb HB) hb); clear hb hbox hg; have hcz5_0 := kz0 BK390; have hcz5_1 := kz1 BK390; have hfz5_0 := blk_frozen BK390.out 0; have hfz5_1 := blk_frozen BK390.out 1) | ((with_reducible refine gate_callee (f := 61) rfl ?_); refine goesL_ (some 6) rfl rfl Try.func61 (by kernel_rfl) rfl #[.agg #[.slice A0_0 l0_0.length c0_0, .slice A0_1 l0_1.length c0_1]] rfl (by (try simp only [List.map_toArray, List.map_cons, List.map_nil]); first | done | rfl | (simp only [List.length_drop, List.length_take]; rfl)) ?_; (with_reducible refine (trefoilref04_Plain.calls k _ _ l0_0 _ _ l0_1 t391 _ ?side1 ?side2 ?side3 ?side4 A2.out).mono ?_); (case side1 => exact zc (Kd.C_below HR0_0.out HB.out)); (case side2 => exact HC0_0.out); (case side3 => exact zc (Kd.C_below HR0_1.out HB.out)); (case side4 => exact HC0_1.out); rintro e w6 ⟨rfl, hb⟩; refine ⟨_, rfl, ?_⟩; replace BK390 := Z0 (zkb BK390 hb); replace HB := Z0 (below_step (zb HB) hb); (try clear hb); (try clear hb2); (try clear hk); (try clear hi)))
  go_loopg [4] k (fun kq v4 w' => ∃ (x4_1 : Int), v4 = .int .i64 x4_1 ∧ Aside0 (trefoilref04_Check.l0 kq x4_1 l0_0 l0_1 = some r) ∧ Aside0 (kq ≤ k) ∧ Aside0 (w'.heap[gb390]? = some (.cells #[(.slice A0_0 l0_0.length c0_0), (.slice A0_1 l0_1.length c0_1)] 25 (0, 0))) ∧ Aside0 (Below w.heap.size w w'))
  case atStart => exact ⟨(0), zs, H', ⟨Nat.le_refl _⟩, ⟨zk BK390⟩, ⟨zb HB⟩⟩
  case round =>
   clear H'
   try clear p2
   try clear c3
   try clear c3b0
   try clear c3b1
   try clear c4
   try clear c6
   try clear hcz5_0
   try clear hcz5_1
   try clear hfz5_0
   try clear hfz5_1
   obtain ⟨x4_1, rfl, HA, HK1, BK390, HB⟩ := hrel
   cases gk with
   | zero => exact absurd HA.out (by simp [trefoilref04_Check.l0])
   | succ k1 =>
    have H := HA.out
    clear HA
    simp only [trefoilref04_Check.l0] at H
    by_cases c7 : x4_1 < (l0_0.length : Int)
    ·rw [if_pos c7] at H
     have c7b0 : decide (x4_1 < (l0_0.length : Int)) = true := decide_eq_true c7
     clear c7
     replace H := Option.bind_eq_some_iff.mp H
     obtain ⟨t392, A80, H⟩ := H
     have A8 := Z0 A80
     clear A80
     by_cases c9 : 0 ≤ x4_1
     ·rw [if_pos c9] at H
      have c9b0 : decide (0 ≤ x4_1) = true := decide_eq_true c9
      clear c9
      by_cases c10 : x4_1 < (t392.length : Int)
      ·rw [if_pos c10] at H
       have c10b0 : decide (x4_1 < (t392.length : Int)) = true := decide_eq_true c10
       clear c10
       obtain ⟨bq11, hbq11⟩ : ∃ b_ : Bool, b_ = (rdOf false t392 x4_1) := ⟨_, rfl⟩
       replace H : (if bq11 = true then (some 43) else (trefoilref04_Check.l0 k1 (wrap64 (x4_1 + 1)) l0_0 l0_1)) = some r := by rw [← hbq11] at H; exact H
       have Nbq11 := Z0 hbq11
       clear hbq11
       by_cases c12 : bq11 = true
       ·subst c12
        rw [if_pos rfl] at H
        obtain rfl := Option.some.inj H
        have hcz13_0 := kz0 BK390
        have hcz13_1 := kz1 BK390
        have hfz13_0 := blk_frozen BK390.out 0
        have hfz13_1 := blk_frozen BK390.out 1
        go_wp2_with (first | ((with_reducible refine gate_callee (f := 62) rfl ?_); refine goesL_ (some 19) rfl rfl Try.func62 (by kernel_rfl) rfl #[.agg #[.slice A0_0 l0_0.length c0_0, .slice A0_1 l0_1.length c0_1], .int .i64 x4_1] rfl (by (try simp only [List.map_toArray, List.map_cons, List.map_nil]); first | done | rfl | (simp only [List.length_drop, List.length_take]; rfl)) ?_; (with_reducible refine (trefoilref04_Reach.calls k1 _ _ l0_0 _ _ l0_1 x4_1 t392 _ ?side1 ?side2 ?side3 ?side4 A8.out).mono ?_); (case side1 => exact zc (Kd.C_below HR0_0.out HB.out)); (case side2 => exact HC0_0.out); (case side3 => exact zc (Kd.C_below HR0_1.out HB.out)); (case side4 => exact HC0_1.out); rintro e w14 ⟨v393, rfl, ho0, hb⟩; refine ⟨_, rfl, ?_⟩; have HO394 := Z0 (rl ho0 (below_size (zb HB))); replace BK390 := Z0 (zkb BK390 hb); replace HB := Z0 (below_step (zb HB) hb); (try clear hb); (try clear hb2); (try clear hk); (try clear hi); (try clear ho0); obtain ⟨Ao15, co15, eo15⟩ := Kd.R_slice HO394.out; subst eo15; have p395 : 0 ≤ (x4_1 : Int) := od; have q395 : x4_1 < (t392.length : Int) := od; obtain ⟨ad395, e395, hx395_0⟩ := Kd.at_bool (rr HO394.out).2.2 x4_1 p395 q395; (try rw [← Nbq11.out] at hx395_0); cases e395; replace p395 := eq_true p395; replace q395 := eq_true q395))
        go_ret
        exact ⟨ze, zb HB⟩
       ·replace c12 := Bool.eq_false_iff.mpr c12
        subst c12
        rw [if_neg nft] at H
        have H' := Z0 H
        clear H
        have hcz16_0 := kz0 BK390
        have hcz16_1 := kz1 BK390
        have hfz16_0 := blk_frozen BK390.out 0
        have hfz16_1 := blk_frozen BK390.out 1
        go_wp2_with (first | ((with_reducible refine gate_callee (f := 62) rfl ?_); refine goesL_ (some 19) rfl rfl Try.func62 (by kernel_rfl) rfl #[.agg #[.slice A0_0 l0_0.length c0_0, .slice A0_1 l0_1.length c0_1], .int .i64 x4_1] rfl (by (try simp only [List.map_toArray, List.map_cons, List.map_nil]); first | done | rfl | (simp only [List.length_drop, List.length_take]; rfl)) ?_; (with_reducible refine (trefoilref04_Reach.calls k1 _ _ l0_0 _ _ l0_1 x4_1 t392 _ ?side1 ?side2 ?side3 ?side4 A8.out).mono ?_); (case side1 => exact zc (Kd.C_below HR0_0.out HB.out)); (case side2 => exact HC0_0.out); (case side3 => exact zc (Kd.C_below HR0_1.out HB.out)); (case side4 => exact HC0_1.out); rintro e w17 ⟨v393, rfl, ho0, hb⟩; refine ⟨_, rfl, ?_⟩; have HO394 := Z0 (rl ho0 (below_size (zb HB))); replace BK390 := Z0 (zkb BK390 hb); replace HB := Z0 (below_step (zb HB) hb); (try clear hb); (try clear hb2); (try clear hk); (try clear hi); (try clear ho0); obtain ⟨Ao18, co18, eo18⟩ := Kd.R_slice HO394.out; subst eo18; have p395 : 0 ≤ (x4_1 : Int) := od; have q395 : x4_1 < (t392.length : Int) := od; obtain ⟨ad395, e395, hx395_0⟩ := Kd.at_bool (rr HO394.out).2.2 x4_1 p395 q395; (try rw [← Nbq11.out] at hx395_0); cases e395; replace p395 := eq_true p395; replace q395 := eq_true q395))
        go_roundg k1
        case measure => have := HK1.out; omega
        case rel => exact ⟨(wrap64 (x4_1 + 1)), zs, H', ⟨by have := HK1.out; omega⟩, ⟨zk BK390⟩, ⟨zb HB⟩⟩
      ·rw [if_neg c10] at H
       exact absurd H (by simp)
     ·rw [if_neg c9] at H
      exact absurd H (by simp)
    ·rw [if_neg c7] at H
     have c7b0 : decide (x4_1 < (l0_0.length : Int)) = false := decide_eq_false c7
     clear c7
     obtain rfl := Option.some.inj H
     have hcz19_0 := kz0 BK390
     have hcz19_1 := kz1 BK390
     have hfz19_0 := blk_frozen BK390.out 0
     have hfz19_1 := blk_frozen BK390.out 1
     go_wp2
     go_ret
     exact ⟨ze, zb HB⟩
 ·rw [if_neg c3] at H
  have c3b0 : (t391 == 0) = false := beq_eq_false_iff_ne.mpr c3
  have c3b1 : (t391 != 0) = true := bne_iff_ne.mpr c3
  obtain rfl := Option.some.inj H
  go_enter Try.func41, Try.ntmps41
  go_wp2_with (first | ((with_reducible refine gate_dst (N := 1) rfl ?_); refine zx (N := 1) #[.slice A0_0 l0_0.length c0_0, .slice A0_1 l0_1.length c0_1] 25 ?_; intro gb390 hg w20 hbox hb; have BK390 := Z0 (hbox); have GW390 := Z0 (zh w hg HB); have GE390 := Z0 (zh w hg HB); replace HB := Z0 (below_step (zb HB) hb); clear hb hbox hg; have hcz21_0 := kz0 BK390; have hcz21_1 := kz1 BK390; have hfz21_0 := blk_frozen BK390.out 0; have hfz21_1 := blk_frozen BK390.out 1) | ((with_reducible refine gate_callee (f := 61) rfl ?_); refine goesL_ (some 6) rfl rfl Try.func61 (by kernel_rfl) rfl #[.agg #[.slice A0_0 l0_0.length c0_0, .slice A0_1 l0_1.length c0_1]] rfl (by (try simp only [List.map_toArray, List.map_cons, List.map_nil]); first | done | rfl | (simp only [List.length_drop, List.length_take]; rfl)) ?_; (with_reducible refine (trefoilref04_Plain.calls k _ _ l0_0 _ _ l0_1 t391 _ ?side1 ?side2 ?side3 ?side4 A2.out).mono ?_); (case side1 => exact zc (Kd.C_below HR0_0.out HB.out)); (case side2 => exact HC0_0.out); (case side3 => exact zc (Kd.C_below HR0_1.out HB.out)); (case side4 => exact HC0_1.out); rintro e w22 ⟨rfl, hb⟩; refine ⟨_, rfl, ?_⟩; replace BK390 := Z0 (zkb BK390 hb); replace HB := Z0 (below_step (zb HB) hb); (try clear hb); (try clear hb2); (try clear hk); (try clear hi)))
  go_ret
  exact ⟨ze, zb HB⟩
def trefoilref10_Form.l0 : Nat → List Int → Int → Int → List Int → List (S85) → Option (Bool)
 | 0, _, _, _, _, _ => none
 | k + 1, x1, x2, x7, x397000, x397001 => if x7 < (x1.length : Int) then (if 0 ≤ x7 then (if (rd x1 x7) < 1 then (some false) else (if (rd x1 x7) > 1000 then (some false) else (trefoilref10_Form.l0 k x1 x2 (wrap64 (x7 + 1)) x397000 x397001))) else (none)) else (if (x1.length : Int) = (x397000.length : Int) then (if x2 ≥ 1 then (some (decide (x2 ≤ 8))) else (some false)) else (some false))
def trefoilref10_Form.f (k : Nat) (l0_0 : List Int) (l0_1 : List (S85)) (l1 : List Int) (a2 : Int) : Option (Bool) := trefoilref10_Form.l0 k l1 a2 0 l0_0 l0_1
set_option maxHeartbeats 8000000 in
set_option maxRecDepth 100000 in
theorem trefoilref10_Form.calls (k : Nat) (A0_0 : Option Addr) (c0_0 : Nat) (l0_0 : List Int) (A0_1 : Option Addr) (c0_1 : Nat) (l0_1 : List (S85)) (A1 : Option Addr) (c1 : Nat) (l1 : List Int) (a2 : Int) (r : Bool) (w : World) (hr0_0 : Kd.C (Kd.int .i64) w A0_0 l0_0.length l0_0) (hc0_0 : l0_0.length ≤ c0_0) (hr0_1 : Kd.C k85 w A0_1 l0_1.length l0_1) (hc0_1 : l0_1.length ≤ c0_1) (hr1 : Kd.C (Kd.int .i64) w A1 l1.length l1) (hc1 : l1.length ≤ c1) (h : trefoilref10_Form.f k l0_0 l0_1 l1 a2 = some r) :
  Calls Try.prog 49 #[.agg #[.slice A0_0 l0_0.length c0_0, .slice A0_1 l0_1.length c0_1], .slice A1 l1.length c1, .int .i64 a2] w fun e w' => e = .returned (.bool r) ∧ Below w.heap.size w w' := by
 have hu25 := Try.underlying25
 have HR0_0 := Z0 hr0_0
 have HC0_0 := Z0 hc0_0
 clear hr0_0 hc0_0
 have HR0_1 := Z0 hr0_1
 have HC0_1 := Z0 hc0_1
 clear hr0_1 hc0_1
 have HR1 := Z0 hr1
 have HC1 := Z0 hc1
 clear hr1 hc1
 have HB := Z0 (Below.refl w.heap.size w)
 have H : (trefoilref10_Form.l0 k l1 a2 0 l0_0 l0_1) = some r := h
 clear h
 have H' := Z0 H
 clear H
 go_enter Try.func49, Try.ntmps49
 go_wp2_with (first | ((with_reducible refine gate_dst (N := 3) rfl ?_); refine zx (N := 3) #[.slice A0_0 l0_0.length c0_0, .slice A0_1 l0_1.length c0_1] 25 ?_; intro gb396 hg w4 hbox hb; have BK396 := Z0 (hbox); have GW396 := Z0 (zh w hg HB); have GE396 := Z0 (zh w hg HB); replace HB := Z0 (below_step (zb HB) hb); clear hb hbox hg))
 go_loopg [7] k (fun kq v7 w' => ∃ (x7_1 : Int), v7 = .int .i64 x7_1 ∧ Aside0 (trefoilref10_Form.l0 kq l1 a2 x7_1 l0_0 l0_1 = some r) ∧ Aside0 (kq ≤ k) ∧ Aside0 (w'.heap[gb396]? = some (.cells #[(.slice A0_0 l0_0.length c0_0), (.slice A0_1 l0_1.length c0_1)] 25 (0, 0))) ∧ Aside0 (Below w.heap.size w w'))
 case atStart => exact ⟨(0), zs, H', ⟨Nat.le_refl _⟩, ⟨zk BK396⟩, ⟨zb HB⟩⟩
 case round =>
  clear H'
  try clear c1
  try clear p2
  try clear c4
  obtain ⟨x7_1, rfl, HA, HK1, BK396, HB⟩ := hrel
  cases gk with
  | zero => exact absurd HA.out (by simp [trefoilref10_Form.l0])
  | succ k1 =>
   have H := HA.out
   clear HA
   simp only [trefoilref10_Form.l0] at H
   by_cases c5 : x7_1 < (l1.length : Int)
   ·rw [if_pos c5] at H
    have c5b0 : decide (x7_1 < (l1.length : Int)) = true := decide_eq_true c5
    clear c5
    by_cases c6 : 0 ≤ x7_1
    ·rw [if_pos c6] at H
     have c6b0 : decide (0 ≤ x7_1) = true := decide_eq_true c6
     clear c6
     by_cases c7 : (rd l1 x7_1) < 1
     ·rw [if_pos c7] at H
      have c7b0 : decide ((rd l1 x7_1) < 1) = true := decide_eq_true c7
      clear c7
      obtain rfl := Option.some.inj H
      have p397 : 0 ≤ (x7_1 : Int) := od
      have q397 : x7_1 < (l1.length : Int) := od
      obtain ⟨ad397, e397, hx397_0⟩ := Kd.at_int HR1.out x7_1 p397 q397
      cases e397
      replace hx397_0 := (HB.out.cell (bl w _ hx397_0)).trans hx397_0
      replace p397 := eq_true p397
      replace q397 := eq_true q397
      go_wp2
      go_ret
      exact ⟨ze, zb HB⟩
     ·rw [if_neg c7] at H
      have c7b0 : decide ((rd l1 x7_1) < 1) = false := decide_eq_false c7
      clear c7
      by_cases c8 : (rd l1 x7_1) > 1000
      ·rw [if_pos c8] at H
       have c8b0 : decide (1000 < (rd l1 x7_1)) = true := decide_eq_true c8
       clear c8
       obtain rfl := Option.some.inj H
       have p397 : 0 ≤ (x7_1 : Int) := od
       have q397 : x7_1 < (l1.length : Int) := od
       obtain ⟨ad397, e397, hx397_0⟩ := Kd.at_int HR1.out x7_1 p397 q397
       cases e397
       replace hx397_0 := (HB.out.cell (bl w _ hx397_0)).trans hx397_0
       replace p397 := eq_true p397
       replace q397 := eq_true q397
       have p398 : 0 ≤ (x7_1 : Int) := od
       have q398 : x7_1 < (l1.length : Int) := od
       obtain ⟨ad398, e398, hx398_0⟩ := Kd.at_int HR1.out x7_1 p398 q398
       obtain rfl : ad397 = ad398 := (by injection e398)
       replace hx398_0 := (HB.out.cell (bl w _ hx398_0)).trans hx398_0
       replace p398 := eq_true p398
       replace q398 := eq_true q398
       go_wp2
       go_ret
       exact ⟨ze, zb HB⟩
      ·rw [if_neg c8] at H
       have c8b0 : decide (1000 < (rd l1 x7_1)) = false := decide_eq_false c8
       clear c8
       have H' := Z0 H
       clear H
       have p397 : 0 ≤ (x7_1 : Int) := od
       have q397 : x7_1 < (l1.length : Int) := od
       obtain ⟨ad397, e397, hx397_0⟩ := Kd.at_int HR1.out x7_1 p397 q397
       cases e397
       replace hx397_0 := (HB.out.cell (bl w _ hx397_0)).trans hx397_0
       replace p397 := eq_true p397
       replace q397 := eq_true q397
       have p398 : 0 ≤ (x7_1 : Int) := od
       have q398 : x7_1 < (l1.length : Int) := od
       obtain ⟨ad398, e398, hx398_0⟩ := Kd.at_int HR1.out x7_1 p398 q398
       obtain rfl : ad397 = ad398 := (by injection e398)
       replace hx398_0 := (HB.out.cell (bl w _ hx398_0)).trans hx398_0
       replace p398 := eq_true p398
       replace q398 := eq_true q398
       go_wp2
       go_roundg k1
       case measure => have := HK1.out; omega
       case rel => exact ⟨(wrap64 (x7_1 + 1)), zs, H', ⟨by have := HK1.out; omega⟩, ⟨zk BK396⟩, ⟨zb HB⟩⟩
    ·rw [if_neg c6] at H
     exact absurd H (by simp)
   ·rw [if_neg c5] at H
    have c5b0 : decide (x7_1 < (l1.length : Int)) = false := decide_eq_false c5
    clear c5
    by_cases c9 : (l1.length : Int) = (l0_0.length : Int)
    ·rw [if_pos c9] at H
     have c9b0 : ((l1.length : Int) == (l0_0.length : Int)) = true := beq_iff_eq.mpr c9
     have c9b1 : ((l1.length : Int) != (l0_0.length : Int)) = false := bne_eq_false_iff_eq.mpr c9
     have c9b2 : (l1.length == l0_0.length) = true := by first | simpa using c9 | (simp at c9 ⊢; omega)
     clear c9
     by_cases c10 : a2 ≥ 1
     ·rw [if_pos c10] at H
      have c10b0 : decide (1 ≤ a2) = true := decide_eq_true c10
      clear c10
      obtain rfl := Option.some.inj H
      have hcz11_0 := kz0 BK396
      have hcz11_1 := kz1 BK396
      have hfz11_0 := blk_frozen BK396.out 0
      have hfz11_1 := blk_frozen BK396.out 1
      go_wp2
      go_ret
      exact ⟨ze, zb HB⟩
     ·rw [if_neg c10] at H
      have c10b0 : decide (1 ≤ a2) = false := decide_eq_false c10
      clear c10
      obtain rfl := Option.some.inj H
      have hcz12_0 := kz0 BK396
      have hcz12_1 := kz1 BK396
      have hfz12_0 := blk_frozen BK396.out 0
      have hfz12_1 := blk_frozen BK396.out 1
      go_wp2
      go_ret
      exact ⟨ze, zb HB⟩
    ·rw [if_neg c9] at H
     have c9b0 : ((l1.length : Int) == (l0_0.length : Int)) = false := beq_eq_false_iff_ne.mpr c9
     have c9b1 : ((l1.length : Int) != (l0_0.length : Int)) = true := bne_iff_ne.mpr c9
     have c9b2 : (l1.length == l0_0.length) = false := by first | simpa using c9 | (simp at c9 ⊢; omega)
     obtain rfl := Option.some.inj H
     have hcz13_0 := kz0 BK396
     have hcz13_1 := kz1 BK396
     have hfz13_0 := blk_frozen BK396.out 0
     have hfz13_1 := blk_frozen BK396.out 1
     go_wp2
     go_ret
     exact ⟨ze, zb HB⟩
def trefoilref11_New.l0 : Nat → Int → Int → List Int → List Int → Option (List Int × List Int × Int)
 | 0, _, _, _, _ => none
 | k + 1, x2, x10, x410000, x410001 => if x10 < x2 then (if x410000.length < 17592186044416 then (trefoilref11_New.l0 k x2 (wrap64 (x10 + 1)) (x410000 ++ [(-1)]) x410001) else (none)) else (some (x410000, x410001, 0))
def trefoilref11_New.f (k : Nat) (l0_0 : List Int) (l0_1 : List (S85)) (l1 : List Int) (a2 : Int) : Option (List Int × List Int × Int) := (trefoilref04_Check.f k l0_0 l0_1).bind fun t401 => (if t401 = 0 then ((trefoilref10_Form.f k l0_0 l0_1 l1 a2).bind fun t402 => (if t402 = true then ((some (([] : List Int) : List Int)).bind fun y403 => (if y403.length + l1.length < 17592186044416 then (trefoilref11_New.l0 k a2 0 ([] : List Int) (y403 ++ l1)) else (none))) else (some (([] : List Int), ([] : List Int), 100)))) else (some (([] : List Int), ([] : List Int), t401)))
set_option maxHeartbeats 8000000 in
set_option maxRecDepth 100000 in
theorem trefoilref11_New.calls (k : Nat) (A0_0 : Option Addr) (c0_0 : Nat) (l0_0 : List Int) (A0_1 : Option Addr) (c0_1 : Nat) (l0_1 : List (S85)) (A1 : Option Addr) (c1 : Nat) (l1 : List Int) (a2 : Int) (r1 : List Int) (r2 : List Int) (r3 : Int) (w : World) (hr0_0 : Kd.C (Kd.int .i64) w A0_0 l0_0.length l0_0) (hc0_0 : l0_0.length ≤ c0_0) (hr0_1 : Kd.C k85 w A0_1 l0_1.length l0_1) (hc0_1 : l0_1.length ≤ c0_1) (hr1 : Kd.C (Kd.int .i64) w A1 l1.length l1) (hc1 : l1.length ≤ c1) (h : trefoilref11_New.f k l0_0 l0_1 l1 a2 = some (r1, r2, r3)) :
  Calls Try.prog 29 #[.agg #[.slice A0_0 l0_0.length c0_0, .slice A0_1 l0_1.length c0_1], .slice A1 l1.length c1, .int .i64 a2] w fun e w' => ∃ v0_ v1_ : Value, e = .returned (.tuple #[.agg #[v0_, v1_], .int .i64 r3]) ∧ Kd.R (Kd.int .i64) 3 w' w.heap.size (fun k_ => some k_ ≠ (v1_ : Value).ownBlock) v0_ r1 ∧ Kd.R (Kd.int .i64) 3 w' w.heap.size (fun k_ => some k_ ≠ (v0_ : Value).ownBlock) v1_ r2 ∧ Below w.heap.size w w' := by
 have hu25 := Try.underlying25
 have hu27 := Try.underlying27
 have HR0_0 := Z0 hr0_0
 have HC0_0 := Z0 hc0_0
 clear hr0_0 hc0_0
 have HR0_1 := Z0 hr0_1
 have HC0_1 := Z0 hc0_1
 clear hr0_1 hc0_1
 have HR1 := Z0 hr1
 have HC1 := Z0 hc1
 clear hr1 hc1
 have HB := Z0 (Below.refl w.heap.size w)
 have H : ((trefoilref04_Check.f k l0_0 l0_1).bind fun t401 => (if t401 = 0 then ((trefoilref10_Form.f k l0_0 l0_1 l1 a2).bind fun t402 => (if t402 = true then ((some (([] : List Int) : List Int)).bind fun y403 => (if y403.length + l1.length < 17592186044416 then (trefoilref11_New.l0 k a2 0 ([] : List Int) (y403 ++ l1)) else (none))) else (some (([] : List Int), ([] : List Int), 100)))) else (some (([] : List Int), ([] : List Int), t401)))) = some (r1, r2, r3) := h
 clear h
 replace H := Option.bind_eq_some_iff.mp H
 obtain ⟨t401, A40, H⟩ := H
 have A4 := Z0 A40
 clear A40
 by_cases c5 : t401 = 0
 ·rw [if_pos c5] at H
  have c5b0 : (t401 == 0) = true := beq_iff_eq.mpr c5
  have c5b1 : (t401 != 0) = false := bne_eq_false_iff_eq.mpr c5
  clear c5
  replace H := Option.bind_eq_some_iff.mp H
  obtain ⟨t402, A60, H⟩ := H
  have A6 := Z0 A60
  clear A60
  by_cases c7 : t402 = true
  ·subst c7
   have H1 : ((some (([] : List Int) : List Int)).bind fun y403 => (if y403.length + l1.length < 17592186044416 then (trefoilref11_New.l0 k a2 0 ([] : List Int) (y403 ++ l1)) else (none))) = some (r1, r2, r3) := by rw [if_pos rfl] at H; exact H
   clear H
   have H := H1
   clear H1
   obtain ⟨y403, hy403⟩ : ∃ y_ : List Int, y_ = (([] : List Int)) := ⟨_, rfl⟩
   replace H : (if y403.length + l1.length < 17592186044416 then (trefoilref11_New.l0 k a2 0 ([] : List Int) (y403 ++ l1)) else (none)) = some (r1, r2, r3) := by first | (rw [hy403]; with_reducible exact H) | (have H2_ := (Option.bind_some _ _).symm.trans H; rw [hy403]; with_reducible exact H2_) | (have H2_ := (Option.bind_some _ _).symm.trans H; with_reducible exact H2_) | with_reducible exact H | (rw [hy403]; exact H) | exact H
   have Ny403 := Z0 hy403
   clear hy403
   by_cases c8 : y403.length + l1.length < 17592186044416
   ·rw [if_pos c8] at H
    have LMc8 := Z0 c8
    clear c8
    obtain ⟨y406, hy406⟩ : ∃ y_ : List Int, y_ = (y403 ++ l1) := ⟨_, rfl⟩
    replace H : (trefoilref11_New.l0 k a2 0 ([] : List Int) y406) = some (r1, r2, r3) := by first | (rw [hy406]; with_reducible exact H) | (have H2_ := (Option.bind_some _ _).symm.trans H; rw [hy406]; with_reducible exact H2_) | (have H2_ := (Option.bind_some _ _).symm.trans H; with_reducible exact H2_) | with_reducible exact H | (rw [hy406]; exact H) | exact H
    have Ny406 := Z0 hy406
    clear hy406
    have H' := Z0 H
    clear H
    go_enter Try.func29, Try.ntmps29
    go_wp2_with (first | ((with_reducible refine gate_dst (N := 3) rfl ?_); refine zx (N := 3) #[.slice A0_0 l0_0.length c0_0, .slice A0_1 l0_1.length c0_1] 25 ?_; intro gb399 hg w9 hbox hb; have BK399 := Z0 (hbox); have GW399 := Z0 (zh w hg HB); have GE399 := Z0 (zh w hg HB); replace HB := Z0 (below_step (zb HB) hb); clear hb hbox hg) | ((with_reducible refine gate_dst (N := 6) rfl ?_); refine zx (N := 6) #[.slice none 0 0, .slice none 0 0] 27 ?_; intro gb400 hg w10 hbox hb; have BK400 := Z0 (hbox); have GW400 := Z0 (zh w hg HB); have GE400 := Z0 (zh w hg HB); replace HB := Z0 (below_step (zb HB) hb); have NB399_400 := Z0 (zl hg BK399); have NB400_399 := Z0 (zu hg BK399); replace BK399 := Z0 (zkb BK399 hb); clear hb hbox hg; have hnb11 := NB399_400.out; have hnc11 := NB400_399.out; have hcz12_0 := kz0 BK399; have hcz12_1 := kz1 BK399; have hfz12_0 := blk_frozen BK399.out 0; have hfz12_1 := blk_frozen BK399.out 1) | ((with_reducible refine gate_callee (f := 41) rfl ?_); refine goesL_ (some 12) rfl rfl Try.func41 (by kernel_rfl) rfl #[.agg #[.slice A0_0 l0_0.length c0_0, .slice A0_1 l0_1.length c0_1]] rfl (by (try simp only [List.map_toArray, List.map_cons, List.map_nil]); first | done | rfl | (simp only [List.length_drop, List.length_take]; rfl)) ?_; (with_reducible refine (trefoilref04_Check.calls k _ _ l0_0 _ _ l0_1 t401 _ ?side1 ?side2 ?side3 ?side4 A4.out).mono ?_); (case side1 => exact zc (Kd.C_below HR0_0.out HB.out)); (case side2 => exact HC0_0.out); (case side3 => exact zc (Kd.C_below HR0_1.out HB.out)); (case side4 => exact HC0_1.out); rintro e w13 ⟨rfl, hb⟩; refine ⟨_, rfl, ?_⟩; replace BK399 := Z0 (zkb BK399 hb); replace BK400 := Z0 (zkb BK400 hb); replace HB := Z0 (below_step (zb HB) hb); (try clear hb); (try clear hb2); (try clear hk); (try clear hi); have hcz14_0 := kz0 BK399; have hcz14_1 := kz1 BK399; have hfz14_0 := blk_frozen BK399.out 0; have hfz14_1 := blk_frozen BK399.out 1) | ((with_reducible refine gate_callee (f := 49) rfl ?_); refine goesL_ (some 20) rfl rfl Try.func49 (by kernel_rfl) rfl #[.agg #[.slice A0_0 l0_0.length c0_0, .slice A0_1 l0_1.length c0_1], .slice A1 l1.length c1, .int .i64 a2] rfl (by (try simp only [List.map_toArray, List.map_cons, List.map_nil]); first | done | rfl | (simp only [List.length_drop, List.length_take]; rfl)) ?_; (with_reducible refine (trefoilref10_Form.calls k _ _ l0_0 _ _ l0_1 _ _ l1 a2 true _ ?side1 ?side2 ?side3 ?side4 ?side5 ?side6 A6.out).mono ?_); (case side1 => exact zc (Kd.C_below HR0_0.out HB.out)); (case side2 => exact HC0_0.out); (case side3 => exact zc (Kd.C_below HR0_1.out HB.out)); (case side4 => exact HC0_1.out); (case side5 => exact zc (Kd.C_below HR1.out HB.out)); (case side6 => exact HC1.out); rintro e w15 ⟨rfl, hb⟩; refine ⟨_, rfl, ?_⟩; replace BK399 := Z0 (zkb BK399 hb); replace BK400 := Z0 (zkb BK400 hb); replace HB := Z0 (below_step (zb HB) hb); (try clear hb); (try clear hb2); (try clear hk); (try clear hi)) | ((with_reducible refine gate_dst (N := 23) rfl ?_); refine zz (N := 23) 3 [] Ny403 (Reps.none _ _) ?_; intro v404 w16 ho17 hb; have HO405 := Z0 (rl ho17 (below_size (zb HB))); replace BK399 := Z0 (zkb BK399 hb); replace BK400 := Z0 (zkb BK400 hb); replace HB := Z0 (below_step (zb HB) hb); clear hb ho17) | ((with_reducible refine gate_builtin (b := .append) (xs := #[.tmp 23, .tmp 24]) rfl ?_); at_builtin; refine Kd.R_append_rows (Kd.int .i64) (w0 := w) w.heap.size rfl (.tmp 23) (.tmp 24) 22 3 (.int .i64 0) 8 rfl Try.underlying22 info3 rfl (by decide) (by omega) v404 y403 l1 _ _ _ (fun _ => True) (fun _ => False) rfl rfl ?aO ?aR (fun _ _ h => h) (fun _ h => h.elim) ?aF ?aB ?aS ?aL ?_; (case aR => repeat (first | exact (Kd.C_below HR1.out HB.out) | (with_reducible refine Kd.C_alloc ?_ _) | (with_reducible refine Kd.C_drewN ?_ _) | (with_reducible refine Kd.C_drew ?_))); (case aB => exact (zb HB)); (case aF => exact (fun _ _ => trivial)); (case aO => exact (zr HO405)); (case aS => exact (below_size (zb HB))); (case aL => have := LMc8.out; omega); intro v407 w18 ho hb hg hat; rw [← Ny406.out] at ho; replace BK399 := Z0 (blk_grown (g := gb399) (o := .cells #[.slice A0_0 l0_0.length c0_0, .slice A0_1 l0_1.length c0_1] 25 (0, 0)) (zk BK399) hg (Kd.R_ne HO405.out BK399.out (by decide))); replace BK400 := Z0 (blk_grown (g := gb400) (o := .cells #[.slice none 0 0, .slice none 0 0] 27 (0, 0)) (zk BK400) hg (Kd.R_ne HO405.out BK400.out (by decide))); replace HB := Z0 (hb); have HO408 := Z0 (ho); clear HO405; clear ho hb hg hat; obtain ⟨Ao19, co19, eo19⟩ := Kd.R_slice HO408.out; subst eo19) | ((with_reducible refine gate_dst (N := 9) rfl ?_); refine zx (N := 9) #[.slice none 0 0, .slice none 0 0] 27 ?_; intro gb409 hg w20 hbox hb; replace HO408 := Z0 (rbe (zr HO408) hb); have BK409 := Z0 (hbox); have GW409 := Z0 (zh w hg HB); have GE409 := Z0 (zh w hg HB); replace HB := Z0 (below_step (zb HB) hb); have NB399_409 := Z0 (zl hg BK399); have NB409_399 := Z0 (zu hg BK399); replace BK399 := Z0 (zkb BK399 hb); have NB400_409 := Z0 (zl hg BK400); have NB409_400 := Z0 (zu hg BK400); replace BK400 := Z0 (zkb BK400 hb); clear hb hbox hg; have hnb21 := NB409_399.out; have hnc21 := NB399_409.out; have hnb22 := NB409_400.out; have hnc22 := NB400_409.out; have hcz23_0 := kz0 BK409; have hcz23_1 := kz1 BK409; have hfz23_0 := blk_frozen BK409.out 0; have hfz23_1 := blk_frozen BK409.out 1))
    go_loopg [10] k (fun kq v10 w' => ∃ (x10_1 : Int) (x410000_1 : List Int) (u410000 : Value), v10 = .int .i64 x10_1 ∧ Aside0 (trefoilref11_New.l0 kq a2 x10_1 x410000_1 y406 = some (r1, r2, r3)) ∧ Aside0 (kq ≤ k) ∧ Aside0 (Kd.R (Kd.int .i64) 3 w' w.heap.size (fun k_ => some k_ ≠ ((.slice Ao19 y406.length co19) : Value).ownBlock) u410000 x410000_1) ∧ Aside0 (Kd.R (Kd.int .i64) 3 w' w.heap.size (fun k_ => some k_ ≠ (u410000 : Value).ownBlock) (.slice Ao19 y406.length co19) y406) ∧ Aside0 (w'.heap[gb399]? = some (.cells #[(.slice A0_0 l0_0.length c0_0), (.slice A0_1 l0_1.length c0_1)] 25 (0, 0))) ∧ Aside0 (w'.heap[gb400]? = some (.cells #[(.slice none 0 0), (.slice none 0 0)] 27 (0, 0))) ∧ Aside0 (w'.heap[gb409]? = some (.cells #[u410000, (.slice Ao19 y406.length co19)] 27 (0, 0))) ∧ Aside0 (Below w.heap.size w w'))
    case atStart => exact ⟨(0), (([] : List Int)), (.slice none 0 0), zs, H', ⟨Nat.le_refl _⟩, ⟨by first | exact Kd.R_nil _ _ _ _ _ | exact Kd.N_nil _ _ _ _ _ | exact Kd.V_nil _ _ _ _ _ | exact Kd.Q_nil _ _ _ _ _ | exact Kd.S_nil _ _ _ _ _⟩, ⟨by (with_reducible repeat (first | apply ra | apply rn | apply rd_)); exact rm (Kd.R_far (p := ⟨gb409, 1, none⟩) (Kd.R_far (p := ⟨gb409, 0, none⟩) (Kd.R_types HO408.out BK409.out (by decide)) (fun _ hk => hk.2) (.slice none 0 0)) (fun _ hk => hk.2) (.slice Ao19 y406.length co19)) (fun _ hk => (by simp [Value.ownBlock]))⟩, ⟨by (with_reducible repeat (first | refine kn ?_ _ | refine kd_ ?_ | refine ka ?_ _)); refine blk_far ?_ NB399_409.out _; (with_reducible repeat (first | refine kn ?_ _ | refine kd_ ?_ | refine ka ?_ _)); refine blk_far ?_ NB399_409.out _; (with_reducible repeat (first | refine kn ?_ _ | refine kd_ ?_ | refine ka ?_ _)); exact BK399.out⟩, ⟨by (with_reducible repeat (first | refine kn ?_ _ | refine kd_ ?_ | refine ka ?_ _)); refine blk_far ?_ NB400_409.out _; (with_reducible repeat (first | refine kn ?_ _ | refine kd_ ?_ | refine ka ?_ _)); refine blk_far ?_ NB400_409.out _; (with_reducible repeat (first | refine kn ?_ _ | refine kd_ ?_ | refine ka ?_ _)); exact BK400.out⟩, ⟨by (with_reducible repeat (first | refine kn ?_ _ | refine kd_ ?_ | refine ka ?_ _)); refine blk_put (cs := #[.slice none 0 0, .slice none 0 0]) ?_ 1 _ rfl; (with_reducible repeat (first | refine kn ?_ _ | refine kd_ ?_ | refine ka ?_ _)); refine blk_put (cs := #[.slice none 0 0, .slice none 0 0]) ?_ 0 _ rfl; (with_reducible repeat (first | refine kn ?_ _ | refine kd_ ?_ | refine ka ?_ _)); exact BK409.out⟩, ⟨zb HB⟩⟩
    case round =>
     clear H'
     try clear c1
     try clear c2
     try clear p2
     try clear c4
     try clear c5
     try clear c5b0
     try clear c5b1
     try clear c7
     try clear c8
     try clear c11
     try clear c21
     try clear c22
     try clear hcz12_0
     try clear hcz12_1
     try clear hcz14_0
     try clear hcz14_1
     try clear hcz23_0
     try clear hcz23_1
     try clear hfz12_0
     try clear hfz12_1
     try clear hfz14_0
     try clear hfz14_1
     try clear hfz23_0
     try clear hfz23_1
     obtain ⟨x10_1, x410000_1, u410000, rfl, HA, HK1, HO_410000, HO_410001, BK399, BK400, BK409, HB⟩ := hrel
     cases gk with
     | zero => exact absurd HA.out (by simp [trefoilref11_New.l0])
     | succ k1 =>
      have H := HA.out
      clear HA
      simp only [trefoilref11_New.l0] at H
      by_cases c24 : x10_1 < a2
      ·rw [if_pos c24] at H
       have c24b0 : decide (x10_1 < a2) = true := decide_eq_true c24
       clear c24
       by_cases c25 : x410000_1.length < 17592186044416
       ·rw [if_pos c25] at H
        have LMc25 := Z0 c25
        clear c25
        obtain ⟨y410, hy410⟩ : ∃ y_ : List Int, y_ = (x410000_1 ++ [(-1)]) := ⟨_, rfl⟩
        replace H : (trefoilref11_New.l0 k1 a2 (wrap64 (x10_1 + 1)) y410 y406) = some (r1, r2, r3) := by first | (rw [hy410]; with_reducible exact H) | (have H2_ := (Option.bind_some _ _).symm.trans H; rw [hy410]; with_reducible exact H2_) | (have H2_ := (Option.bind_some _ _).symm.trans H; with_reducible exact H2_) | with_reducible exact H | (rw [hy410]; exact H) | exact H
        have Ny410 := Z0 hy410
        clear hy410
        have H' := Z0 H
        clear H
        have hnb26 := NB409_399.out
        have hnc26 := NB399_409.out
        have hnb27 := NB409_400.out
        have hnc27 := NB400_409.out
        have hcz28_0 := kz0 BK409
        have hcz28_1 := kz1 BK409
        have hfz28_0 := blk_frozen BK409.out 0
        have hfz28_1 := blk_frozen BK409.out 1
        go_wp2_with (first | ((with_reducible refine gate_builtin (b := .append) (xs := #[.tmp 33, .tmp 34]) rfl ?_); at_builtin; refine Kd.R_append (Kd.int .i64) (w0 := w) w.heap.size rfl (.tmp 33) (.tmp 34) 22 3 (.int .i64 0) 8 rfl Try.underlying22 info3 rfl (by decide) (by omega) u410000 x410000_1 (-1) [.int .i64 (-1)] (fun k_ => some k_ ≠ (.slice Ao19 y406.length co19 : Value).ownBlock) (fun _ => False) rfl rfl ?aP (fun _ hk => hk.elim) ?aF ?aO ?aB ?aS ?aL ?_; (case aP => exact rfl); (case aB => exact (zb HB)); (case aF => exact (fun k_ hk => Kd.fresh' (rlt (zr HO_410001)) k_ hk)); (case aO => exact (zr HO_410000)); (case aS => exact (below_size (zb HB))); (case aL => have := LMc25.out; omega); intro v411 w29 ho hb hg hat; rw [← Ny410.out] at ho; have n0_ := Z0 (Kd.R_after (ok := (fun _ => True)) (by (with_reducible repeat (first | apply ra | apply rn | apply rd_)); exact rm HO_410001.out (fun _ hk => ⟨trivial, hk⟩)) hg hat); have n1_ := Z0 (blk_grown (g := gb399) (o := .cells #[.slice A0_0 l0_0.length c0_0, .slice A0_1 l0_1.length c0_1] 25 (0, 0)) (zk BK399) hg (Kd.R_ne HO_410000.out BK399.out (by decide))); have n2_ := Z0 (blk_grown (g := gb400) (o := .cells #[.slice none 0 0, .slice none 0 0] 27 (0, 0)) (zk BK400) hg (Kd.R_ne HO_410000.out BK400.out (by decide))); have n3_ := Z0 (blk_grown (g := gb409) (o := .cells #[u410000, .slice Ao19 y406.length co19] 27 (0, 0)) (zk BK409) hg (Kd.R_ne HO_410000.out BK409.out (by decide))); have n4_ := Z0 (hb); have n5_ := Z0 (ho); clear HO_410001; clear BK399; clear BK400; clear BK409; clear HB; clear HO_410000; have HO_410001 := n0_; have BK399 := n1_; have BK400 := n2_; have BK409 := n3_; have HB := n4_; have HO412 := n5_; clear n0_ n1_ n2_ n3_ n4_ n5_; clear ho hb hg hat; obtain ⟨Ao30, co30, eo30⟩ := Kd.R_slice HO412.out; subst eo30; have hcz31_0 := kz0 BK409; have hcz31_1 := kz1 BK409; have hfz31_0 := blk_frozen BK409.out 0; have hfz31_1 := blk_frozen BK409.out 1))
        go_roundg k1
        case measure => have := HK1.out; omega
        case rel => exact ⟨(wrap64 (x10_1 + 1)), (y410), (.slice Ao30 y410.length co30), zs, H', ⟨by have := HK1.out; omega⟩, ⟨by (with_reducible repeat (first | apply ra | apply rn | apply rd_)); exact rm (Kd.R_far (p := ⟨gb409, 0, none⟩) (Kd.R_types HO412.out BK409.out (by decide)) (fun _ hk => hk.2) (.slice Ao30 y410.length co30)) (fun _ hk => hk.1)⟩, ⟨by (with_reducible repeat (first | apply ra | apply rn | apply rd_)); exact rm (Kd.R_far (p := ⟨gb409, 0, none⟩) (Kd.R_types HO_410001.out BK409.out (by decide)) (fun _ hk => hk.2) (.slice Ao30 y410.length co30)) (fun _ hk => hk.1.2)⟩, ⟨by (with_reducible repeat (first | refine kn ?_ _ | refine kd_ ?_ | refine ka ?_ _)); refine blk_far ?_ NB399_409.out _; (with_reducible repeat (first | refine kn ?_ _ | refine kd_ ?_ | refine ka ?_ _)); exact BK399.out⟩, ⟨by (with_reducible repeat (first | refine kn ?_ _ | refine kd_ ?_ | refine ka ?_ _)); refine blk_far ?_ NB400_409.out _; (with_reducible repeat (first | refine kn ?_ _ | refine kd_ ?_ | refine ka ?_ _)); exact BK400.out⟩, ⟨by (with_reducible repeat (first | refine kn ?_ _ | refine kd_ ?_ | refine ka ?_ _)); refine blk_put (cs := #[u410000, .slice Ao19 y406.length co19]) ?_ 0 _ rfl; (with_reducible repeat (first | refine kn ?_ _ | refine kd_ ?_ | refine ka ?_ _)); exact BK409.out⟩, ⟨zb HB⟩⟩
       ·rw [if_neg c25] at H
        exact absurd H (by simp)
      ·rw [if_neg c24] at H
       have c24b0 : decide (x10_1 < a2) = false := decide_eq_false c24
       clear c24
       simp only [Option.some.injEq, Prod.mk.injEq] at H
       obtain ⟨rfl, rfl, rfl⟩ := H
       have hnb32 := NB409_399.out
       have hnc32 := NB399_409.out
       have hnb33 := NB409_400.out
       have hnc33 := NB400_409.out
       have hcz34_0 := kz0 BK409
       have hcz34_1 := kz1 BK409
       have hfz34_0 := blk_frozen BK409.out 0
       have hfz34_1 := blk_frozen BK409.out 1
       obtain ⟨Ao35, co35, eo35⟩ := Kd.R_slice HO_410000.out
       subst eo35
       have hnb36 := NB400_399.out
       have hnc36 := NB399_400.out
       have hcz37_0 := kz0 BK400
       have hcz37_1 := kz1 BK400
       have hfz37_0 := blk_frozen BK400.out 0
       have hfz37_1 := blk_frozen BK400.out 1
       go_wp2
       refine bodyPost_ret (results_ct rfl _ _ gb400 27 #[.slice Ao35 x410000_1.length co35, .slice Ao19 y406.length co19] (0, 0) _ rfl (by (with_reducible repeat (first | refine kn ?_ _ | refine kd_ ?_ | refine ka ?_ _)); refine blk_put (cs := #[.slice Ao35 x410000_1.length co35, .slice none 0 0]) ?_ 1 _ rfl; (with_reducible repeat (first | refine kn ?_ _ | refine kd_ ?_ | refine ka ?_ _)); refine blk_put (cs := #[.slice none 0 0, .slice none 0 0]) ?_ 0 _ rfl; (with_reducible repeat (first | refine kn ?_ _ | refine kd_ ?_ | refine ka ?_ _)); exact BK400.out) Try.underlying27 rfl (by kernel_rfl)) rfl ?_
       exact ⟨_, _, ze, by (with_reducible repeat (first | apply ra | apply rn | apply rd_)); exact rm (Kd.R_far (p := ⟨gb400, 1, none⟩) (Kd.R_far (p := ⟨gb400, 0, none⟩) (Kd.R_types HO_410000.out BK400.out (by decide)) (fun _ hk => hk.2) (.slice Ao35 x410000_1.length co35)) (fun _ hk => hk.2) (.slice Ao19 y406.length co19)) (fun _ hk => hk.1), by (with_reducible repeat (first | apply ra | apply rn | apply rd_)); exact rm (Kd.R_far (p := ⟨gb400, 1, none⟩) (Kd.R_far (p := ⟨gb400, 0, none⟩) (Kd.R_types HO_410001.out BK400.out (by decide)) (fun _ hk => hk.2) (.slice Ao35 x410000_1.length co35)) (fun _ hk => hk.2) (.slice Ao19 y406.length co19)) (fun _ hk => hk.1), zb HB⟩
   ·rw [if_neg c8] at H
    exact absurd H (by simp)
  ·replace c7 := Bool.eq_false_iff.mpr c7
   subst c7
   have H1 : (some (([] : List Int), ([] : List Int), 100)) = some (r1, r2, r3) := by rw [if_neg (show ¬ (false = true) by decide)] at H; exact H
   clear H
   have H := H1
   clear H1
   simp only [Option.some.injEq, Prod.mk.injEq] at H
   obtain ⟨rfl, rfl, rfl⟩ := H
   go_enter Try.func29, Try.ntmps29
   go_wp2_with (first | ((with_reducible refine gate_dst (N := 3) rfl ?_); refine zx (N := 3) #[.slice A0_0 l0_0.length c0_0, .slice A0_1 l0_1.length c0_1] 25 ?_; intro gb399 hg w38 hbox hb; have BK399 := Z0 (hbox); have GW399 := Z0 (zh w hg HB); have GE399 := Z0 (zh w hg HB); replace HB := Z0 (below_step (zb HB) hb); clear hb hbox hg) | ((with_reducible refine gate_dst (N := 6) rfl ?_); refine zx (N := 6) #[.slice none 0 0, .slice none 0 0] 27 ?_; intro gb400 hg w39 hbox hb; have BK400 := Z0 (hbox); have GW400 := Z0 (zh w hg HB); have GE400 := Z0 (zh w hg HB); replace HB := Z0 (below_step (zb HB) hb); have NB399_400 := Z0 (zl hg BK399); have NB400_399 := Z0 (zu hg BK399); replace BK399 := Z0 (zkb BK399 hb); clear hb hbox hg; have hnb40 := NB399_400.out; have hnc40 := NB400_399.out; have hcz41_0 := kz0 BK399; have hcz41_1 := kz1 BK399; have hfz41_0 := blk_frozen BK399.out 0; have hfz41_1 := blk_frozen BK399.out 1) | ((with_reducible refine gate_callee (f := 41) rfl ?_); refine goesL_ (some 12) rfl rfl Try.func41 (by kernel_rfl) rfl #[.agg #[.slice A0_0 l0_0.length c0_0, .slice A0_1 l0_1.length c0_1]] rfl (by (try simp only [List.map_toArray, List.map_cons, List.map_nil]); first | done | rfl | (simp only [List.length_drop, List.length_take]; rfl)) ?_; (with_reducible refine (trefoilref04_Check.calls k _ _ l0_0 _ _ l0_1 t401 _ ?side1 ?side2 ?side3 ?side4 A4.out).mono ?_); (case side1 => exact zc (Kd.C_below HR0_0.out HB.out)); (case side2 => exact HC0_0.out); (case side3 => exact zc (Kd.C_below HR0_1.out HB.out)); (case side4 => exact HC0_1.out); rintro e w42 ⟨rfl, hb⟩; refine ⟨_, rfl, ?_⟩; replace BK399 := Z0 (zkb BK399 hb); replace BK400 := Z0 (zkb BK400 hb); replace HB := Z0 (below_step (zb HB) hb); (try clear hb); (try clear hb2); (try clear hk); (try clear hi); have hcz43_0 := kz0 BK399; have hcz43_1 := kz1 BK399; have hfz43_0 := blk_frozen BK399.out 0; have hfz43_1 := blk_frozen BK399.out 1) | ((with_reducible refine gate_callee (f := 49) rfl ?_); refine goesL_ (some 20) rfl rfl Try.func49 (by kernel_rfl) rfl #[.agg #[.slice A0_0 l0_0.length c0_0, .slice A0_1 l0_1.length c0_1], .slice A1 l1.length c1, .int .i64 a2] rfl (by (try simp only [List.map_toArray, List.map_cons, List.map_nil]); first | done | rfl | (simp only [List.length_drop, List.length_take]; rfl)) ?_; (with_reducible refine (trefoilref10_Form.calls k _ _ l0_0 _ _ l0_1 _ _ l1 a2 false _ ?side1 ?side2 ?side3 ?side4 ?side5 ?side6 A6.out).mono ?_); (case side1 => exact zc (Kd.C_below HR0_0.out HB.out)); (case side2 => exact HC0_0.out); (case side3 => exact zc (Kd.C_below HR0_1.out HB.out)); (case side4 => exact HC0_1.out); (case side5 => exact zc (Kd.C_below HR1.out HB.out)); (case side6 => exact HC1.out); rintro e w44 ⟨rfl, hb⟩; refine ⟨_, rfl, ?_⟩; replace BK399 := Z0 (zkb BK399 hb); replace BK400 := Z0 (zkb BK400 hb); replace HB := Z0 (below_step (zb HB) hb); (try clear hb); (try clear hb2); (try clear hk); (try clear hi); have hcz45_0 := kz0 BK400; have hcz45_1 := kz1 BK400; have hfz45_0 := blk_frozen BK400.out 0; have hfz45_1 := blk_frozen BK400.out 1))
   refine bodyPost_ret (results_ct rfl _ _ gb400 27 #[.slice none 0 0, .slice none 0 0] (0, 0) _ rfl (by (with_reducible repeat (first | refine kn ?_ _ | refine kd_ ?_ | refine ka ?_ _)); refine blk_put (cs := #[.slice none 0 0, .slice none 0 0]) ?_ 1 _ rfl; (with_reducible repeat (first | refine kn ?_ _ | refine kd_ ?_ | refine ka ?_ _)); refine blk_put (cs := #[.slice none 0 0, .slice none 0 0]) ?_ 0 _ rfl; (with_reducible repeat (first | refine kn ?_ _ | refine kd_ ?_ | refine ka ?_ _)); exact BK400.out) Try.underlying27 rfl (by kernel_rfl)) rfl ?_
   exact ⟨_, _, ze, by first | exact Kd.R_nil _ _ _ _ _ | exact Kd.N_nil _ _ _ _ _ | exact Kd.V_nil _ _ _ _ _ | exact Kd.Q_nil _ _ _ _ _ | exact Kd.S_nil _ _ _ _ _, by first | exact Kd.R_nil _ _ _ _ _ | exact Kd.N_nil _ _ _ _ _ | exact Kd.V_nil _ _ _ _ _ | exact Kd.Q_nil _ _ _ _ _ | exact Kd.S_nil _ _ _ _ _, zb HB⟩
 ·rw [if_neg c5] at H
  have c5b0 : (t401 == 0) = false := beq_eq_false_iff_ne.mpr c5
  have c5b1 : (t401 != 0) = true := bne_iff_ne.mpr c5
  simp only [Option.some.injEq, Prod.mk.injEq] at H
  obtain ⟨rfl, rfl, rfl⟩ := H
  go_enter Try.func29, Try.ntmps29
  go_wp2_with (first | ((with_reducible refine gate_dst (N := 3) rfl ?_); refine zx (N := 3) #[.slice A0_0 l0_0.length c0_0, .slice A0_1 l0_1.length c0_1] 25 ?_; intro gb399 hg w46 hbox hb; have BK399 := Z0 (hbox); have GW399 := Z0 (zh w hg HB); have GE399 := Z0 (zh w hg HB); replace HB := Z0 (below_step (zb HB) hb); clear hb hbox hg) | ((with_reducible refine gate_dst (N := 6) rfl ?_); refine zx (N := 6) #[.slice none 0 0, .slice none 0 0] 27 ?_; intro gb400 hg w47 hbox hb; have BK400 := Z0 (hbox); have GW400 := Z0 (zh w hg HB); have GE400 := Z0 (zh w hg HB); replace HB := Z0 (below_step (zb HB) hb); have NB399_400 := Z0 (zl hg BK399); have NB400_399 := Z0 (zu hg BK399); replace BK399 := Z0 (zkb BK399 hb); clear hb hbox hg; have hnb48 := NB399_400.out; have hnc48 := NB400_399.out; have hcz49_0 := kz0 BK399; have hcz49_1 := kz1 BK399; have hfz49_0 := blk_frozen BK399.out 0; have hfz49_1 := blk_frozen BK399.out 1) | ((with_reducible refine gate_callee (f := 41) rfl ?_); refine goesL_ (some 12) rfl rfl Try.func41 (by kernel_rfl) rfl #[.agg #[.slice A0_0 l0_0.length c0_0, .slice A0_1 l0_1.length c0_1]] rfl (by (try simp only [List.map_toArray, List.map_cons, List.map_nil]); first | done | rfl | (simp only [List.length_drop, List.length_take]; rfl)) ?_; (with_reducible refine (trefoilref04_Check.calls k _ _ l0_0 _ _ l0_1 t401 _ ?side1 ?side2 ?side3 ?side4 A4.out).mono ?_); (case side1 => exact zc (Kd.C_below HR0_0.out HB.out)); (case side2 => exact HC0_0.out); (case side3 => exact zc (Kd.C_below HR0_1.out HB.out)); (case side4 => exact HC0_1.out); rintro e w50 ⟨rfl, hb⟩; refine ⟨_, rfl, ?_⟩; replace BK399 := Z0 (zkb BK399 hb); replace BK400 := Z0 (zkb BK400 hb); replace HB := Z0 (below_step (zb HB) hb); (try clear hb); (try clear hb2); (try clear hk); (try clear hi); have hcz51_0 := kz0 BK400; have hcz51_1 := kz1 BK400; have hfz51_0 := blk_frozen BK400.out 0; have hfz51_1 := blk_frozen BK400.out 1))
  refine bodyPost_ret (results_ct rfl _ _ gb400 27 #[.slice none 0 0, .slice none 0 0] (0, 0) _ rfl (by (with_reducible repeat (first | refine kn ?_ _ | refine kd_ ?_ | refine ka ?_ _)); refine blk_put (cs := #[.slice none 0 0, .slice none 0 0]) ?_ 1 _ rfl; (with_reducible repeat (first | refine kn ?_ _ | refine kd_ ?_ | refine ka ?_ _)); refine blk_put (cs := #[.slice none 0 0, .slice none 0 0]) ?_ 0 _ rfl; (with_reducible repeat (first | refine kn ?_ _ | refine kd_ ?_ | refine ka ?_ _)); exact BK400.out) Try.underlying27 rfl (by kernel_rfl)) rfl ?_
  exact ⟨_, _, ze, by first | exact Kd.R_nil _ _ _ _ _ | exact Kd.N_nil _ _ _ _ _ | exact Kd.V_nil _ _ _ _ _ | exact Kd.Q_nil _ _ _ _ _ | exact Kd.S_nil _ _ _ _ _, by first | exact Kd.R_nil _ _ _ _ _ | exact Kd.N_nil _ _ _ _ _ | exact Kd.V_nil _ _ _ _ _ | exact Kd.Q_nil _ _ _ _ _ | exact Kd.S_nil _ _ _ _ _, zb HB⟩
end Go.Proofs.Ytmbhjhanafmidaa.PListRuns
