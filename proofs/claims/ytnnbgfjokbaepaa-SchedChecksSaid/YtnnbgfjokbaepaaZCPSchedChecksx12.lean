/- Written by a program of this work: each theorem says that a call of the Go function comes to what the Lean function beside it tells, under the conditions that it names; Lean checks it. -/
import Derived.Test.YtnnbgfjokbaepaaZCPSchedChecksx0
import Derived.Test.YtnnbgfjokbaepaaZCPSchedChecksx11
namespace Go.Proofs.Ytnnbgfjokbaepaa.PSchedChecks
open Go.RowKit Go.Proofs.YtnnbgfjokbaepaaW.PrintWords Go.Proofs.YtnnbgfjokbaepaaW.PrintLast Go.Proofs.YtnnbgfjokbaepaaW.PrintMore
attribute [local go_sem] max2_int min2_int max_two min_two max_three min_three max_four min_four   -- for this text's walks alone
set_option linter.unusedVariables false
set_option linter.unusedSimpArgs false

/-! ### trefoilref04_Reach: function 46 -/
mutual
def trefoilref04_Reach.l0 : Nat → Int → List Bool → Int → List Int → List (S45) → Option (List Bool)
  | 0, _, _, _, _, _ => none
  | k + 1, x1, x5, x6, x257000, x257001 => if x6 < (x257000.length : Int) then (trefoilref04_Reach.l1 k x1 x5 x6 0 x257000 x257001) else (some x5)
def trefoilref04_Reach.l1 : Nat → Int → List Bool → Int → Int → List Int → List (S45) → Option (List Bool)
  | 0, _, _, _, _, _, _ => none
  | k + 1, x1, x5, x6, x7, x257000, x257001 => if x7 < (x257001.length : Int) then (if 0 ≤ x7 then (if ((rd_T45 x257001 x7).f0) = x1 then (if 0 ≤ ((rd_T45 x257001 x7).f1) then (if ((rd_T45 x257001 x7).f1) < (x5.length : Int) then (trefoilref04_Reach.l1 k x1 (x5.set (((rd_T45 x257001 x7).f1) : Int).toNat true) x6 (wrap64 (x7 + 1)) x257000 x257001) else (none)) else (none)) else (if 0 ≤ ((rd_T45 x257001 x7).f0) then (if ((rd_T45 x257001 x7).f0) < (x5.length : Int) then (if rdOf false x5 ((rd_T45 x257001 x7).f0) = true then (if 0 ≤ ((rd_T45 x257001 x7).f1) then (if ((rd_T45 x257001 x7).f1) < (x5.length : Int) then (trefoilref04_Reach.l1 k x1 (x5.set (((rd_T45 x257001 x7).f1) : Int).toNat true) x6 (wrap64 (x7 + 1)) x257000 x257001) else (none)) else (none)) else (trefoilref04_Reach.l1 k x1 x5 x6 (wrap64 (x7 + 1)) x257000 x257001)) else (none)) else (none))) else (none)) else (trefoilref04_Reach.l0 k x1 x5 (wrap64 (x6 + 1)) x257000 x257001)
end
def trefoilref04_Reach.f (k : Nat) (l0_0 : List Int) (l0_1 : List (S45)) (a1 : Int) : Option (List Bool) := if 0 ≤ (l0_0.length : Int) then (if ((l0_0.length : Int) : Int).toNat ≤ 281474976710656 then (trefoilref04_Reach.l0 k a1 (List.replicate ((l0_0.length : Int) : Int).toNat false) 0 l0_0 l0_1) else (none)) else (none)
set_option maxHeartbeats 8000000 in
set_option maxRecDepth 100000 in
theorem trefoilref04_Reach.calls (k : Nat) (A0_0 : Option Addr) (c0_0 : Nat) (l0_0 : List Int) (A0_1 : Option Addr) (c0_1 : Nat) (l0_1 : List (S45)) (a1 : Int) (r : List Bool) (w : World) (hr0_0 : Kd.C (Kd.int .i64) w A0_0 l0_0.length l0_0) (hc0_0 : l0_0.length ≤ c0_0) (hr0_1 : Kd.C k45 w A0_1 l0_1.length l0_1) (hc0_1 : l0_1.length ≤ c0_1) (h : trefoilref04_Reach.f k l0_0 l0_1 a1 = some r) :
    Calls Try.prog 46 #[.agg #[.slice A0_0 l0_0.length c0_0, .slice A0_1 l0_1.length c0_1], .int .i64 a1] w fun e w' => ∃ v0_ : Value, e = .returned (v0_) ∧ Kd.R Kd.bool 4 w' w.heap.size (fun _ => True) v0_ r ∧ Below w.heap.size w w' := by
  have hu25 := Try.underlying25
  have hu45 := Try.underlying45
  have HR0_0 := Aside0.mk hr0_0
  have HC0_0 := Aside0.mk hc0_0
  clear hr0_0 hc0_0
  have HR0_1 := Aside0.mk hr0_1
  have HC0_1 := Aside0.mk hc0_1
  clear hr0_1 hc0_1
  have HB := Aside0.mk (Below.refl w.heap.size w)
  have H : (if 0 ≤ (l0_0.length : Int) then (if ((l0_0.length : Int) : Int).toNat ≤ 281474976710656 then (trefoilref04_Reach.l0 k a1 (List.replicate ((l0_0.length : Int) : Int).toNat false) 0 l0_0 l0_1) else (none)) else (none)) = some r := h
  clear h
  by_cases c3 : 0 ≤ (l0_0.length : Int)
  · rw [if_pos c3] at H
    have c3b0 := eq_true c3
    have c3b1 : decide (0 ≤ (l0_0.length : Int)) = true := decide_eq_true c3
    clear c3
    by_cases c4 : ((l0_0.length : Int) : Int).toNat ≤ 281474976710656
    · rw [if_pos c4] at H
      have c4b0 := eq_true c4
      have c4b1 : decide (((l0_0.length : Int) : Int).toNat ≤ 281474976710656) = true := decide_eq_true c4
      clear c4
      obtain ⟨y257, hy257⟩ : ∃ y_ : List Bool, y_ = (List.replicate ((l0_0.length : Int) : Int).toNat false) := ⟨_, rfl⟩
      replace H : (trefoilref04_Reach.l0 k a1 y257 0 l0_0 l0_1) = some r := by first | (rw [hy257]; with_reducible exact H) | (have H2_ := (Option.bind_some _ _).symm.trans H; rw [hy257]; with_reducible exact H2_) | (have H2_ := (Option.bind_some _ _).symm.trans H; with_reducible exact H2_) | with_reducible exact H | (rw [hy257]; exact H) | exact H
      have Ny257 := Aside0.mk hy257
      clear hy257
      have H' := Aside0.mk H
      clear H
      go_enter Try.func46, Try.ntmps46
      go_wp2_with (first | ((with_reducible refine gate_dst (N := 2) rfl ?_); refine box_event ?hg (N := 2) ?hd (cs := #[.slice A0_0 l0_0.length c0_0, .slice A0_1 l0_1.length c0_1]) (t := 25) ?hr ?_; (case hd => rfl); (case hg => rfl); (case hr => first | (go_simp; done) | (go_simp; rfl)); intro gb256 hg w5 hbox hb; have n0_ := Aside0.mk (below_step (by repeat (first | (with_reducible first | exact HB.out | apply below_alloc | apply pw_below_drewN | apply below_drew1) | exact HB.out)) hb); have n1_ := Aside0.mk (hbox); have n2_ := Aside0.mk ((by rw [hg]; exact (below_size (by repeat (first | (with_reducible first | exact HB.out | apply below_alloc | apply pw_below_drewN | apply below_drew1) | exact HB.out))) : w.heap.size ≤ gb256)); have n3_ := Aside0.mk ((by rw [hg]; exact (below_size (by repeat (first | (with_reducible first | exact HB.out | apply below_alloc | apply pw_below_drewN | apply below_drew1) | exact HB.out))) : w.heap.size ≤ gb256)); clear HB; have HB := n0_; have BK256 := n1_; have GW256 := n2_; have GE256 := n3_; clear n0_ n1_ n2_ n3_; clear hb hbox hg; have hcz6_0 : w5.cell? ⟨gb256, 0, none⟩ = some (.slice A0_0 l0_0.length c0_0) := (blk_cell BK256.out 0).trans rfl; have hcz6_1 : w5.cell? ⟨gb256, 1, none⟩ = some (.slice A0_1 l0_1.length c0_1) := (blk_cell BK256.out 1).trans rfl; have hfz6_0 := blk_frozen BK256.out 0; have hfz6_1 := blk_frozen BK256.out 1) | ((with_reducible refine gate_dst (N := 12) rfl ?_); refine Kd.R_make Kd.bool _ 4 rfl (N := 12) rfl 66 _ _ rfl (l0_0.length : Int) rfl rfl Try.underlying66 (.bool false) 1 info4 rfl (by decide) (by omega) false (ok := fun _ => True) (okp := fun _ => True) rfl (fun _ hk => hk) trivial (of_decide_eq_true (by first | (with_reducible assumption) | assumption)) (Nat.le_trans (Nat.mul_le_mul_right _ (of_decide_eq_true (by first | (with_reducible assumption) | assumption) : (l0_0.length : Int).toNat ≤ 281474976710656)) (by omega)) (Below.refl _ _) (Nat.le_refl _) ?_; intro v258 w7 ho8 hb hg_ hnew_; clear hg_ hnew_; (first | rw [← Ny257.out] at ho8 | (simp only [Int.reduceToNat] at ho8; rw [← Ny257.out] at ho8)); have n0_ := Aside0.mk (Kd.R_lower ho8 (below_size (by repeat (first | (with_reducible first | exact HB.out | apply below_alloc | apply pw_below_drewN | apply below_drew1 | refine below_set ?_ GE256.out) | exact HB.out)))); have n1_ := Aside0.mk (blk_below (g := gb256) (o := .cells #[.slice A0_0 l0_0.length c0_0, .slice A0_1 l0_1.length c0_1] 25 (0, 0)) (by (with_reducible repeat (first | refine blk_drewN ?_ _ | refine blk_drew ?_ | refine blk_alloc ?_ _)); exact BK256.out) hb); have n2_ := Aside0.mk (below_step (by repeat (first | (with_reducible first | exact HB.out | apply below_alloc | apply pw_below_drewN | apply below_drew1 | refine below_set ?_ GE256.out) | exact HB.out)) hb); clear BK256; clear HB; have HO259 := n0_; have BK256 := n1_; have HB := n2_; clear n0_ n1_ n2_; clear hb ho8))
      go_loopg [6] k (fun kq v6 w' => ∃ (x5_1 : List Bool) (x6_1 : Int), v6 = .int .i64 x6_1 ∧ Aside0 (trefoilref04_Reach.l0 kq a1 x5_1 x6_1 l0_0 l0_1 = some r) ∧ Aside0 (kq ≤ k) ∧ Aside0 (Kd.R Kd.bool 4 w' w.heap.size (fun _ => True) v258 x5_1) ∧ Aside0 (w'.heap[gb256]? = some (.cells #[(.slice A0_0 l0_0.length c0_0), (.slice A0_1 l0_1.length c0_1)] 25 (0, 0))) ∧ Aside0 (Below w.heap.size w w'))
      case atStart => exact ⟨(y257), (0), (by first | rfl | (simp; done) | (simp [*]; done)), H', ⟨Nat.le_refl _⟩, ⟨by (with_reducible repeat (first | apply Kd.R_alloc | apply Kd.R_drewN | apply Kd.R_drew)); exact HO259.out⟩, ⟨by (with_reducible repeat (first | refine blk_drewN ?_ _ | refine blk_drew ?_ | refine blk_alloc ?_ _)); exact BK256.out⟩, ⟨by repeat (first | (with_reducible first | exact HB.out | apply below_alloc | apply pw_below_drewN | apply below_drew1 | refine below_set ?_ GE256.out) | exact HB.out)⟩⟩
      case round =>
        clear H'
        try clear p2
        try clear c3
        try clear c3b0
        try clear c3b1
        try clear c4
        try clear c4b0
        try clear c4b1
        try clear hcz6_0
        try clear hcz6_1
        try clear hfz6_0
        try clear hfz6_1
        obtain ⟨x5_1, x6_1, rfl, HA, HK1, HO_5, BK256, HB⟩ := hrel
        cases gk with
        | zero => exact absurd HA.out (by simp [trefoilref04_Reach.l0])
        | succ k1 =>
          have H := HA.out
          clear HA
          simp only [trefoilref04_Reach.l0] at H
          by_cases c9 : x6_1 < (l0_0.length : Int)
          · rw [if_pos c9] at H
            have c9b0 : decide (x6_1 < (l0_0.length : Int)) = true := decide_eq_true c9
            clear c9
            have H' := Aside0.mk H
            clear H
            have hcz10_0 : wr.cell? ⟨gb256, 0, none⟩ = some (.slice A0_0 l0_0.length c0_0) := (blk_cell BK256.out 0).trans rfl
            have hcz10_1 : wr.cell? ⟨gb256, 1, none⟩ = some (.slice A0_1 l0_1.length c0_1) := (blk_cell BK256.out 1).trans rfl
            have hfz10_0 := blk_frozen BK256.out 0
            have hfz10_1 := blk_frozen BK256.out 1
            go_wp2
            go_loopg [7] k1 (fun kq v7 w' => ∃ (x5_2 : List Bool) (x7_2 : Int), v7 = .int .i64 x7_2 ∧ Aside0 (trefoilref04_Reach.l1 kq a1 x5_2 x6_1 x7_2 l0_0 l0_1 = some r) ∧ Aside0 (kq ≤ k1) ∧ Aside0 (Kd.R Kd.bool 4 w' w.heap.size (fun _ => True) v258 x5_2) ∧ Aside0 (w'.heap[gb256]? = some (.cells #[(.slice A0_0 l0_0.length c0_0), (.slice A0_1 l0_1.length c0_1)] 25 (0, 0))) ∧ Aside0 (Below w.heap.size w w'))
            case atStart => exact ⟨(x5_1), (0), (by first | rfl | (simp; done) | (simp [*]; done)), H', ⟨Nat.le_refl _⟩, ⟨by (with_reducible repeat (first | apply Kd.R_alloc | apply Kd.R_drewN | apply Kd.R_drew)); exact HO_5.out⟩, ⟨by (with_reducible repeat (first | refine blk_drewN ?_ _ | refine blk_drew ?_ | refine blk_alloc ?_ _)); exact BK256.out⟩, ⟨by repeat (first | (with_reducible first | exact HB.out | apply below_alloc | apply pw_below_drewN | apply below_drew1 | refine below_set ?_ GE256.out) | exact HB.out)⟩⟩
            case round =>
              clear H'
              try clear p2
              try clear c3
              try clear c3b0
              try clear c3b1
              try clear c4
              try clear c4b0
              try clear c4b1
              try clear c9
              try clear c9b0
              try clear hcz10_0
              try clear hcz10_1
              try clear hcz6_0
              try clear hcz6_1
              try clear hfz10_0
              try clear hfz10_1
              try clear hfz6_0
              try clear hfz6_1
              try clear p2
              obtain ⟨x5_2, x7_2, rfl, HA, HK2, HO_5, BK256, HB⟩ := hrel
              cases gk with
              | zero => exact absurd HA.out (by simp [trefoilref04_Reach.l1])
              | succ k2 =>
                have H := HA.out
                clear HA
                simp only [trefoilref04_Reach.l1] at H
                by_cases c11 : x7_2 < (l0_1.length : Int)
                · rw [if_pos c11] at H
                  have c11b0 : decide (x7_2 < (l0_1.length : Int)) = true := decide_eq_true c11
                  clear c11
                  by_cases c12 : 0 ≤ x7_2
                  · rw [if_pos c12] at H
                    have c12b0 : decide (0 ≤ x7_2) = true := decide_eq_true c12
                    clear c12
                    by_cases c13 : ((rd_T45 l0_1 x7_2).f0) = a1
                    · rw [if_pos c13] at H
                      have c13b0 : (((rd_T45 l0_1 x7_2).f0) == a1) = true := beq_iff_eq.mpr c13
                      have c13b1 : (((rd_T45 l0_1 x7_2).f0) != a1) = false := bne_eq_false_iff_eq.mpr c13
                      clear c13
                      by_cases c14 : 0 ≤ ((rd_T45 l0_1 x7_2).f1)
                      · rw [if_pos c14] at H
                        have c14b0 : decide (0 ≤ ((rd_T45 l0_1 x7_2).f1)) = true := decide_eq_true c14
                        clear c14
                        by_cases c15 : ((rd_T45 l0_1 x7_2).f1) < (x5_2.length : Int)
                        · rw [if_pos c15] at H
                          have c15b0 : decide (((rd_T45 l0_1 x7_2).f1) < (x5_2.length : Int)) = true := decide_eq_true c15
                          clear c15
                          obtain ⟨y262, hy262⟩ : ∃ y_ : List Bool, y_ = (x5_2.set (((rd_T45 l0_1 x7_2).f1) : Int).toNat true) := ⟨_, rfl⟩
                          replace H : (trefoilref04_Reach.l1 k2 a1 y262 x6_1 (wrap64 (x7_2 + 1)) l0_0 l0_1) = some r := by first | (rw [hy262]; with_reducible exact H) | (have H2_ := (Option.bind_some _ _).symm.trans H; rw [hy262]; with_reducible exact H2_) | (have H2_ := (Option.bind_some _ _).symm.trans H; with_reducible exact H2_) | with_reducible exact H | (rw [hy262]; exact H) | exact H
                          have Ny262 := Aside0.mk hy262
                          clear hy262
                          have H' := Aside0.mk H
                          clear H
                          have hcz17_0 : wr.cell? ⟨gb256, 0, none⟩ = some (.slice A0_0 l0_0.length c0_0) := (blk_cell BK256.out 0).trans rfl
                          have hcz17_1 : wr.cell? ⟨gb256, 1, none⟩ = some (.slice A0_1 l0_1.length c0_1) := (blk_cell BK256.out 1).trans rfl
                          have hfz17_0 := blk_frozen BK256.out 0
                          have hfz17_1 := blk_frozen BK256.out 1
                          have p260 : 0 ≤ (x7_2 : Int) := of_decide_eq_true (by first | (with_reducible assumption) | assumption)
                          have q260 : x7_2 < (l0_1.length : Int) := of_decide_eq_true (by first | (with_reducible assumption) | assumption)
                          obtain ⟨ad260, e260, hx260_0, hx260_1⟩ := at_T45 HR0_1.out x7_2 p260 q260
                          cases e260
                          replace hx260_0 := (HB.out.cell (World.block_lt_of_cell? w _ hx260_0)).trans hx260_0
                          replace hx260_1 := (HB.out.cell (World.block_lt_of_cell? w _ hx260_1)).trans hx260_1
                          replace p260 := eq_true p260
                          replace q260 := eq_true q260
                          go_wp2_with (first | ((with_reducible refine gate_dst (N := 8) rfl ?_); refine box_event ?hg (N := 8) ?hd (cs := #[.int .i64 0, .int .i64 0]) (t := 45) ?hr ?_; (case hd => rfl); (case hg => rfl); (case hr => first | (go_simp; done) | (go_simp; rfl)); intro gb261 hg w18 hbox hb; have n0_ := Aside0.mk (Kd.R_below (by (with_reducible repeat (first | apply Kd.R_alloc | apply Kd.R_drewN | apply Kd.R_drew)); exact HO_5.out) hb); have n1_ := Aside0.mk (blk_below (g := gb256) (o := .cells #[.slice A0_0 l0_0.length c0_0, .slice (some ad260) l0_1.length c0_1] 25 (0, 0)) (by (with_reducible repeat (first | refine blk_drewN ?_ _ | refine blk_drew ?_ | refine blk_alloc ?_ _)); exact BK256.out) hb); have n2_ := Aside0.mk (below_step (by repeat (first | (with_reducible first | exact HB.out | apply below_alloc | apply pw_below_drewN | apply below_drew1 | refine below_set ?_ GE256.out) | exact HB.out)) hb); have n3_ := Aside0.mk (hbox); have n4_ := Aside0.mk ((by rw [hg]; exact (below_size (by repeat (first | (with_reducible first | exact HB.out | apply below_alloc | apply pw_below_drewN | apply below_drew1 | refine below_set ?_ GE256.out) | exact HB.out))) : w.heap.size ≤ gb261)); have n5_ := Aside0.mk ((by rw [hg]; exact (below_size (by repeat (first | (with_reducible first | exact HB.out | apply below_alloc | apply pw_below_drewN | apply below_drew1 | refine below_set ?_ GE256.out) | exact HB.out))) : w.heap.size ≤ gb261)); have n6_ := Aside0.mk ((by rw [hg]; exact Nat.ne_of_lt (blk_lt (g := gb256) (o := .cells #[.slice A0_0 l0_0.length c0_0, .slice (some ad260) l0_1.length c0_1] 25 (0, 0)) (by (with_reducible repeat (first | refine blk_drewN ?_ _ | refine blk_drew ?_ | refine blk_alloc ?_ _)); exact BK256.out)) : gb256 ≠ gb261)); have n7_ := Aside0.mk ((by rw [hg]; exact Nat.ne_of_gt (blk_lt (g := gb256) (o := .cells #[.slice A0_0 l0_0.length c0_0, .slice (some ad260) l0_1.length c0_1] 25 (0, 0)) (by (with_reducible repeat (first | refine blk_drewN ?_ _ | refine blk_drew ?_ | refine blk_alloc ?_ _)); exact BK256.out)) : gb261 ≠ gb256)); clear HO_5; clear BK256; clear HB; have HO_5 := n0_; have BK256 := n1_; have HB := n2_; have BK261 := n3_; have GW261 := n4_; have GE261 := n5_; have NB256_261 := n6_; have NB261_256 := n7_; clear n0_ n1_ n2_ n3_ n4_ n5_ n6_ n7_; clear hb hbox hg; have hnb19 := NB261_256.out; have hnc19 := NB256_261.out; have hcz20_0 : w18.cell? ⟨gb261, 0, none⟩ = some (.int .i64 0) := (blk_cell BK261.out 0).trans rfl; have hcz20_1 : w18.cell? ⟨gb261, 1, none⟩ = some (.int .i64 0) := (blk_cell BK261.out 1).trans rfl; have hfz20_0 := blk_frozen BK261.out 0; have hfz20_1 := blk_frozen BK261.out 1) | ((with_reducible refine gate_store (t := 45) (p := 8) rfl ?_); refine store_event (t := 45) (p := 8) (v := ?vo_w21) (w1 := ((w18.setCell ⟨gb261, 0, none⟩ (.int .i64 ((rd_T45 l0_1 x7_2).f0))).setCell ⟨gb261, 1, none⟩ (.int .i64 ((rd_T45 l0_1 x7_2).f1)))) ?hg ?ho ?hn ?hr ?_; (case ho => rfl); (case hg => rfl); (case hn => rfl); (case hr => first | (go_simp; done) | (go_simp; rfl)); intro w21 hw; have n0_ : Aside0 (Kd.R Kd.bool 4 w21 w.heap.size (fun _ => True) v258 x5_2) := ⟨(by rw [hw]; exact (by (with_reducible repeat (first | apply Kd.R_alloc | apply Kd.R_drewN | apply Kd.R_drew)); exact Kd.R_mono (Kd.R_far (p := ⟨gb261, 1, none⟩) (Kd.R_far (p := ⟨gb261, 0, none⟩) (Kd.R_types HO_5.out BK261.out (by decide)) (fun _ hk => hk.2) (.int .i64 ((rd_T45 l0_1 x7_2).f0))) (fun _ hk => hk.2) (.int .i64 ((rd_T45 l0_1 x7_2).f1))) (fun _ hk => trivial)))⟩; have n1_ : Aside0 (w21.heap[gb256]? = some (.cells #[.slice A0_0 l0_0.length c0_0, .slice (some ad260) l0_1.length c0_1] 25 (0, 0))) := ⟨(by rw [hw]; exact (by (with_reducible repeat (first | refine blk_drewN ?_ _ | refine blk_drew ?_ | refine blk_alloc ?_ _)); refine blk_far ?_ NB256_261.out _; (with_reducible repeat (first | refine blk_drewN ?_ _ | refine blk_drew ?_ | refine blk_alloc ?_ _)); refine blk_far ?_ NB256_261.out _; (with_reducible repeat (first | refine blk_drewN ?_ _ | refine blk_drew ?_ | refine blk_alloc ?_ _)); exact BK256.out))⟩; have n2_ : Aside0 (w21.heap[gb261]? = some (.cells #[.int .i64 ((rd_T45 l0_1 x7_2).f0), .int .i64 ((rd_T45 l0_1 x7_2).f1)] 45 (0, 0))) := ⟨(by rw [hw]; exact (by (with_reducible repeat (first | refine blk_drewN ?_ _ | refine blk_drew ?_ | refine blk_alloc ?_ _)); refine blk_put (cs := #[.int .i64 ((rd_T45 l0_1 x7_2).f0), .int .i64 0]) ?_ 1 _ rfl; (with_reducible repeat (first | refine blk_drewN ?_ _ | refine blk_drew ?_ | refine blk_alloc ?_ _)); refine blk_put (cs := #[.int .i64 0, .int .i64 0]) ?_ 0 _ rfl; (with_reducible repeat (first | refine blk_drewN ?_ _ | refine blk_drew ?_ | refine blk_alloc ?_ _)); exact BK261.out))⟩; have n3_ : Aside0 (Below w.heap.size w w21) := ⟨(by rw [hw]; exact (by repeat (first | (with_reducible first | exact HB.out | apply below_alloc | apply pw_below_drewN | apply below_drew1 | refine below_set ?_ GE256.out | refine below_set ?_ GE261.out) | exact HB.out)))⟩; clear hw; clear HO_5; clear BK256; clear BK261; clear HB; have HO_5 := n0_; have BK256 := n1_; have BK261 := n2_; have HB := n3_; clear n0_ n1_ n2_ n3_; have hcz22_0 : w21.cell? ⟨gb261, 0, none⟩ = some (.int .i64 ((rd_T45 l0_1 x7_2).f0)) := (blk_cell BK261.out 0).trans rfl; have hcz22_1 : w21.cell? ⟨gb261, 1, none⟩ = some (.int .i64 ((rd_T45 l0_1 x7_2).f1)) := (blk_cell BK261.out 1).trans rfl; have hfz22_0 := blk_frozen BK261.out 0; have hfz22_1 := blk_frozen BK261.out 1; have p16 : 0 ≤ (((rd_T45 l0_1 x7_2).f1) : Int) := of_decide_eq_true (by first | (with_reducible assumption) | assumption); have q16 : (((rd_T45 l0_1 x7_2).f1) : Int) < ((x5_2.length : Int) : Int) := of_decide_eq_true (by first | (with_reducible assumption) | assumption); obtain ⟨go16, co16, eo16, gb16, gl16, cl16, HG16⟩ := Kd.R_form HO_5.out (by omega); (first | cases eo16 | (injection eo16 with ea_ en_ ec_; (first | subst ea_ | (injection ea_ with ea_; subst ea_)); subst ec_; clear en_)); have GB16 := Aside0.mk gb16; have GG16 := Aside0.mk HG16; clear gb16 gl16 HG16; obtain ⟨hx16_0, hf16_0⟩ := Kd.R_celln false HO_5.out (((rd_T45 l0_1 x7_2).f1) : Int) p16 q16; replace p16 := eq_true p16; replace q16 := eq_true q16; obtain ⟨hy23_, hz23_⟩ := Kd.R_celln false HO_5.out (((rd_T45 l0_1 x7_2).f1) : Int) (of_decide_eq_true (by first | (with_reducible assumption) | assumption)) (of_decide_eq_true (by first | (with_reducible assumption) | assumption)); have HP23 := Kd.R_putg HO_5.out (((rd_T45 l0_1 x7_2).f1) : Int) true) | ((with_reducible refine gate_store (t := 4) (p := 46) rfl ?_); refine store_event (t := 4) (p := 46) (v := ?vo_w24) (w1 := (w21.setCell ⟨go16, (((rd_T45 l0_1 x7_2).f1) : Int).toNat, none⟩ (.bool true))) ?hg ?ho ?hn ?hr ?_; (case ho => rfl); (case hg => rfl); (case hn => rfl); (case hr => first | (go_simp; done) | (go_simp; rfl)); intro w24 hw; have hg : w21.grownBy w24 (some go16) := (by rw [hw]; exact HP23.2); have hp_ : Kd.R Kd.bool 4 w24 w.heap.size (fun _ => True) (.slice (some ⟨go16, 0, none⟩) x5_2.length co16) y262 := (by rw [hw, Ny262.out]; exact HP23.1); clear HP23; have n0_ := Aside0.mk (hp_); have n1_ := Aside0.mk (blk_grown (g := gb256) (o := .cells #[.slice A0_0 l0_0.length c0_0, .slice (some ad260) l0_1.length c0_1] 25 (0, 0)) (by (with_reducible repeat (first | refine blk_drewN ?_ _ | refine blk_drew ?_ | refine blk_alloc ?_ _)); exact BK256.out) hg (Kd.R_ne HO_5.out BK256.out (by decide))); have n2_ := Aside0.mk (blk_grown (g := gb261) (o := .cells #[.int .i64 ((rd_T45 l0_1 x7_2).f0), .int .i64 ((rd_T45 l0_1 x7_2).f1)] 45 (0, 0)) (by (with_reducible repeat (first | refine blk_drewN ?_ _ | refine blk_drew ?_ | refine blk_alloc ?_ _)); exact BK261.out) hg (Kd.R_ne HO_5.out BK261.out (by decide))); have n3_ := Aside0.mk ((by rw [hw]; exact below_set (HB.out) GB16.out : Below w.heap.size w w24)); clear HO_5; clear BK256; clear BK261; clear HB; have HO_5 := n0_; have BK256 := n1_; have BK261 := n2_; have HB := n3_; clear n0_ n1_ n2_ n3_; clear hg hw hp_))
                          go_roundg k2
                          case measure => have := HK1.out; have := HK2.out; omega
                          case rel => exact ⟨(y262), (wrap64 (x7_2 + 1)), (by first | rfl | (simp; done) | (simp [*]; done)), H', ⟨by have := HK1.out; have := HK2.out; omega⟩, ⟨by (with_reducible repeat (first | apply Kd.R_alloc | apply Kd.R_drewN | apply Kd.R_drew)); exact HO_5.out⟩, ⟨by (with_reducible repeat (first | refine blk_drewN ?_ _ | refine blk_drew ?_ | refine blk_alloc ?_ _)); exact BK256.out⟩, ⟨by repeat (first | (with_reducible first | exact HB.out | apply below_alloc | apply pw_below_drewN | apply below_drew1 | refine below_set ?_ GE256.out | refine below_set ?_ GE261.out) | exact HB.out)⟩⟩
                        · rw [if_neg c15] at H
                          exact absurd H (by simp)
                      · rw [if_neg c14] at H
                        exact absurd H (by simp)
                    · rw [if_neg c13] at H
                      have c13b0 : (((rd_T45 l0_1 x7_2).f0) == a1) = false := beq_eq_false_iff_ne.mpr c13
                      have c13b1 : (((rd_T45 l0_1 x7_2).f0) != a1) = true := bne_iff_ne.mpr c13
                      by_cases c25 : 0 ≤ ((rd_T45 l0_1 x7_2).f0)
                      · rw [if_pos c25] at H
                        have c25b0 : decide (0 ≤ ((rd_T45 l0_1 x7_2).f0)) = true := decide_eq_true c25
                        clear c25
                        by_cases c26 : ((rd_T45 l0_1 x7_2).f0) < (x5_2.length : Int)
                        · rw [if_pos c26] at H
                          have c26b0 : decide (((rd_T45 l0_1 x7_2).f0) < (x5_2.length : Int)) = true := decide_eq_true c26
                          clear c26
                          obtain ⟨bq27, hbq27⟩ : ∃ b_ : Bool, b_ = (rdOf false x5_2 ((rd_T45 l0_1 x7_2).f0)) := ⟨_, rfl⟩
                          replace H : (if bq27 = true then (if 0 ≤ ((rd_T45 l0_1 x7_2).f1) then (if ((rd_T45 l0_1 x7_2).f1) < (x5_2.length : Int) then (trefoilref04_Reach.l1 k2 a1 (x5_2.set (((rd_T45 l0_1 x7_2).f1) : Int).toNat true) x6_1 (wrap64 (x7_2 + 1)) l0_0 l0_1) else (none)) else (none)) else (trefoilref04_Reach.l1 k2 a1 x5_2 x6_1 (wrap64 (x7_2 + 1)) l0_0 l0_1)) = some r := by rw [← hbq27] at H; exact H
                          have Nbq27 := Aside0.mk hbq27
                          clear hbq27
                          by_cases c28 : bq27 = true
                          · subst c28
                            have H1 : (if 0 ≤ ((rd_T45 l0_1 x7_2).f1) then (if ((rd_T45 l0_1 x7_2).f1) < (x5_2.length : Int) then (trefoilref04_Reach.l1 k2 a1 (x5_2.set (((rd_T45 l0_1 x7_2).f1) : Int).toNat true) x6_1 (wrap64 (x7_2 + 1)) l0_0 l0_1) else (none)) else (none)) = some r := by rw [if_pos rfl] at H; exact H
                            clear H
                            have H := H1
                            clear H1
                            by_cases c29 : 0 ≤ ((rd_T45 l0_1 x7_2).f1)
                            · rw [if_pos c29] at H
                              have c29b0 : decide (0 ≤ ((rd_T45 l0_1 x7_2).f1)) = true := decide_eq_true c29
                              clear c29
                              by_cases c30 : ((rd_T45 l0_1 x7_2).f1) < (x5_2.length : Int)
                              · rw [if_pos c30] at H
                                have c30b0 : decide (((rd_T45 l0_1 x7_2).f1) < (x5_2.length : Int)) = true := decide_eq_true c30
                                clear c30
                                obtain ⟨y264, hy264⟩ : ∃ y_ : List Bool, y_ = (x5_2.set (((rd_T45 l0_1 x7_2).f1) : Int).toNat true) := ⟨_, rfl⟩
                                replace H : (trefoilref04_Reach.l1 k2 a1 y264 x6_1 (wrap64 (x7_2 + 1)) l0_0 l0_1) = some r := by first | (rw [hy264]; with_reducible exact H) | (have H2_ := (Option.bind_some _ _).symm.trans H; rw [hy264]; with_reducible exact H2_) | (have H2_ := (Option.bind_some _ _).symm.trans H; with_reducible exact H2_) | with_reducible exact H | (rw [hy264]; exact H) | exact H
                                have Ny264 := Aside0.mk hy264
                                clear hy264
                                have H' := Aside0.mk H
                                clear H
                                have hcz32_0 : wr.cell? ⟨gb256, 0, none⟩ = some (.slice A0_0 l0_0.length c0_0) := (blk_cell BK256.out 0).trans rfl
                                have hcz32_1 : wr.cell? ⟨gb256, 1, none⟩ = some (.slice A0_1 l0_1.length c0_1) := (blk_cell BK256.out 1).trans rfl
                                have hfz32_0 := blk_frozen BK256.out 0
                                have hfz32_1 := blk_frozen BK256.out 1
                                have p260 : 0 ≤ (x7_2 : Int) := of_decide_eq_true (by first | (with_reducible assumption) | assumption)
                                have q260 : x7_2 < (l0_1.length : Int) := of_decide_eq_true (by first | (with_reducible assumption) | assumption)
                                obtain ⟨ad260, e260, hx260_0, hx260_1⟩ := at_T45 HR0_1.out x7_2 p260 q260
                                cases e260
                                replace hx260_0 := (HB.out.cell (World.block_lt_of_cell? w _ hx260_0)).trans hx260_0
                                replace hx260_1 := (HB.out.cell (World.block_lt_of_cell? w _ hx260_1)).trans hx260_1
                                replace p260 := eq_true p260
                                replace q260 := eq_true q260
                                go_wp2_with (first | ((with_reducible refine gate_dst (N := 8) rfl ?_); refine box_event ?hg (N := 8) ?hd (cs := #[.int .i64 0, .int .i64 0]) (t := 45) ?hr ?_; (case hd => rfl); (case hg => rfl); (case hr => first | (go_simp; done) | (go_simp; rfl)); intro gb261 hg w33 hbox hb; have n0_ := Aside0.mk (Kd.R_below (by (with_reducible repeat (first | apply Kd.R_alloc | apply Kd.R_drewN | apply Kd.R_drew)); exact HO_5.out) hb); have n1_ := Aside0.mk (blk_below (g := gb256) (o := .cells #[.slice A0_0 l0_0.length c0_0, .slice (some ad260) l0_1.length c0_1] 25 (0, 0)) (by (with_reducible repeat (first | refine blk_drewN ?_ _ | refine blk_drew ?_ | refine blk_alloc ?_ _)); exact BK256.out) hb); have n2_ := Aside0.mk (below_step (by repeat (first | (with_reducible first | exact HB.out | apply below_alloc | apply pw_below_drewN | apply below_drew1 | refine below_set ?_ GE256.out) | exact HB.out)) hb); have n3_ := Aside0.mk (hbox); have n4_ := Aside0.mk ((by rw [hg]; exact (below_size (by repeat (first | (with_reducible first | exact HB.out | apply below_alloc | apply pw_below_drewN | apply below_drew1 | refine below_set ?_ GE256.out) | exact HB.out))) : w.heap.size ≤ gb261)); have n5_ := Aside0.mk ((by rw [hg]; exact (below_size (by repeat (first | (with_reducible first | exact HB.out | apply below_alloc | apply pw_below_drewN | apply below_drew1 | refine below_set ?_ GE256.out) | exact HB.out))) : w.heap.size ≤ gb261)); have n6_ := Aside0.mk ((by rw [hg]; exact Nat.ne_of_lt (blk_lt (g := gb256) (o := .cells #[.slice A0_0 l0_0.length c0_0, .slice (some ad260) l0_1.length c0_1] 25 (0, 0)) (by (with_reducible repeat (first | refine blk_drewN ?_ _ | refine blk_drew ?_ | refine blk_alloc ?_ _)); exact BK256.out)) : gb256 ≠ gb261)); have n7_ := Aside0.mk ((by rw [hg]; exact Nat.ne_of_gt (blk_lt (g := gb256) (o := .cells #[.slice A0_0 l0_0.length c0_0, .slice (some ad260) l0_1.length c0_1] 25 (0, 0)) (by (with_reducible repeat (first | refine blk_drewN ?_ _ | refine blk_drew ?_ | refine blk_alloc ?_ _)); exact BK256.out)) : gb261 ≠ gb256)); clear HO_5; clear BK256; clear HB; have HO_5 := n0_; have BK256 := n1_; have HB := n2_; have BK261 := n3_; have GW261 := n4_; have GE261 := n5_; have NB256_261 := n6_; have NB261_256 := n7_; clear n0_ n1_ n2_ n3_ n4_ n5_ n6_ n7_; clear hb hbox hg; have hnb34 := NB261_256.out; have hnc34 := NB256_261.out; have hcz35_0 : w33.cell? ⟨gb261, 0, none⟩ = some (.int .i64 0) := (blk_cell BK261.out 0).trans rfl; have hcz35_1 : w33.cell? ⟨gb261, 1, none⟩ = some (.int .i64 0) := (blk_cell BK261.out 1).trans rfl; have hfz35_0 := blk_frozen BK261.out 0; have hfz35_1 := blk_frozen BK261.out 1) | ((with_reducible refine gate_store (t := 45) (p := 8) rfl ?_); refine store_event (t := 45) (p := 8) (v := ?vo_w36) (w1 := ((w33.setCell ⟨gb261, 0, none⟩ (.int .i64 ((rd_T45 l0_1 x7_2).f0))).setCell ⟨gb261, 1, none⟩ (.int .i64 ((rd_T45 l0_1 x7_2).f1)))) ?hg ?ho ?hn ?hr ?_; (case ho => rfl); (case hg => rfl); (case hn => rfl); (case hr => first | (go_simp; done) | (go_simp; rfl)); intro w36 hw; have n0_ : Aside0 (Kd.R Kd.bool 4 w36 w.heap.size (fun _ => True) v258 x5_2) := ⟨(by rw [hw]; exact (by (with_reducible repeat (first | apply Kd.R_alloc | apply Kd.R_drewN | apply Kd.R_drew)); exact Kd.R_mono (Kd.R_far (p := ⟨gb261, 1, none⟩) (Kd.R_far (p := ⟨gb261, 0, none⟩) (Kd.R_types HO_5.out BK261.out (by decide)) (fun _ hk => hk.2) (.int .i64 ((rd_T45 l0_1 x7_2).f0))) (fun _ hk => hk.2) (.int .i64 ((rd_T45 l0_1 x7_2).f1))) (fun _ hk => trivial)))⟩; have n1_ : Aside0 (w36.heap[gb256]? = some (.cells #[.slice A0_0 l0_0.length c0_0, .slice (some ad260) l0_1.length c0_1] 25 (0, 0))) := ⟨(by rw [hw]; exact (by (with_reducible repeat (first | refine blk_drewN ?_ _ | refine blk_drew ?_ | refine blk_alloc ?_ _)); refine blk_far ?_ NB256_261.out _; (with_reducible repeat (first | refine blk_drewN ?_ _ | refine blk_drew ?_ | refine blk_alloc ?_ _)); refine blk_far ?_ NB256_261.out _; (with_reducible repeat (first | refine blk_drewN ?_ _ | refine blk_drew ?_ | refine blk_alloc ?_ _)); exact BK256.out))⟩; have n2_ : Aside0 (w36.heap[gb261]? = some (.cells #[.int .i64 ((rd_T45 l0_1 x7_2).f0), .int .i64 ((rd_T45 l0_1 x7_2).f1)] 45 (0, 0))) := ⟨(by rw [hw]; exact (by (with_reducible repeat (first | refine blk_drewN ?_ _ | refine blk_drew ?_ | refine blk_alloc ?_ _)); refine blk_put (cs := #[.int .i64 ((rd_T45 l0_1 x7_2).f0), .int .i64 0]) ?_ 1 _ rfl; (with_reducible repeat (first | refine blk_drewN ?_ _ | refine blk_drew ?_ | refine blk_alloc ?_ _)); refine blk_put (cs := #[.int .i64 0, .int .i64 0]) ?_ 0 _ rfl; (with_reducible repeat (first | refine blk_drewN ?_ _ | refine blk_drew ?_ | refine blk_alloc ?_ _)); exact BK261.out))⟩; have n3_ : Aside0 (Below w.heap.size w w36) := ⟨(by rw [hw]; exact (by repeat (first | (with_reducible first | exact HB.out | apply below_alloc | apply pw_below_drewN | apply below_drew1 | refine below_set ?_ GE256.out | refine below_set ?_ GE261.out) | exact HB.out)))⟩; clear hw; clear HO_5; clear BK256; clear BK261; clear HB; have HO_5 := n0_; have BK256 := n1_; have BK261 := n2_; have HB := n3_; clear n0_ n1_ n2_ n3_; have hcz37_0 : w36.cell? ⟨gb261, 0, none⟩ = some (.int .i64 ((rd_T45 l0_1 x7_2).f0)) := (blk_cell BK261.out 0).trans rfl; have hcz37_1 : w36.cell? ⟨gb261, 1, none⟩ = some (.int .i64 ((rd_T45 l0_1 x7_2).f1)) := (blk_cell BK261.out 1).trans rfl; have hfz37_0 := blk_frozen BK261.out 0; have hfz37_1 := blk_frozen BK261.out 1; obtain ⟨Ao38, co38, eo38⟩ := Kd.R_slice HO_5.out; subst eo38; have p263 : 0 ≤ (((rd_T45 l0_1 x7_2).f0) : Int) := of_decide_eq_true (by first | (with_reducible assumption) | assumption); have q263 : ((rd_T45 l0_1 x7_2).f0) < (x5_2.length : Int) := of_decide_eq_true (by first | (with_reducible assumption) | assumption); obtain ⟨ad263, e263, hx263_0⟩ := Kd.at_bool (Kd.R_reads' HO_5.out).2.2 ((rd_T45 l0_1 x7_2).f0) p263 q263; (try rw [← Nbq27.out] at hx263_0); cases e263; replace p263 := eq_true p263; replace q263 := eq_true q263; have p31 : 0 ≤ (((rd_T45 l0_1 x7_2).f1) : Int) := of_decide_eq_true (by first | (with_reducible assumption) | assumption); have q31 : (((rd_T45 l0_1 x7_2).f1) : Int) < ((x5_2.length : Int) : Int) := of_decide_eq_true (by first | (with_reducible assumption) | assumption); obtain ⟨go31, co31, eo31, gb31, gl31, cl31, HG31⟩ := Kd.R_form HO_5.out (by omega); (first | cases eo31 | (injection eo31 with ea_ en_ ec_; (first | subst ea_ | (injection ea_ with ea_; subst ea_)); subst ec_; clear en_)); have GB31 := Aside0.mk gb31; have GG31 := Aside0.mk HG31; clear gb31 gl31 HG31; (first | simp only [add_plain] at hx263_0 | skip); obtain ⟨hx31_0, hf31_0⟩ := Kd.R_celln false HO_5.out (((rd_T45 l0_1 x7_2).f1) : Int) p31 q31; replace p31 := eq_true p31; replace q31 := eq_true q31; obtain ⟨hy39_, hz39_⟩ := Kd.R_celln false HO_5.out (((rd_T45 l0_1 x7_2).f1) : Int) (of_decide_eq_true (by first | (with_reducible assumption) | assumption)) (of_decide_eq_true (by first | (with_reducible assumption) | assumption)); have HP39 := Kd.R_putg HO_5.out (((rd_T45 l0_1 x7_2).f1) : Int) true) | ((with_reducible refine gate_store (t := 4) (p := 46) rfl ?_); refine store_event (t := 4) (p := 46) (v := ?vo_w40) (w1 := (w36.setCell ⟨go31, (((rd_T45 l0_1 x7_2).f1) : Int).toNat, none⟩ (.bool true))) ?hg ?ho ?hn ?hr ?_; (case ho => rfl); (case hg => rfl); (case hn => rfl); (case hr => first | (go_simp; done) | (go_simp; rfl)); intro w40 hw; have hg : w36.grownBy w40 (some go31) := (by rw [hw]; exact HP39.2); have hp_ : Kd.R Kd.bool 4 w40 w.heap.size (fun _ => True) (.slice (some ⟨go31, 0, none⟩) x5_2.length co38) y264 := (by rw [hw, Ny264.out]; exact HP39.1); clear HP39; have n0_ := Aside0.mk (hp_); have n1_ := Aside0.mk (blk_grown (g := gb256) (o := .cells #[.slice A0_0 l0_0.length c0_0, .slice (some ad260) l0_1.length c0_1] 25 (0, 0)) (by (with_reducible repeat (first | refine blk_drewN ?_ _ | refine blk_drew ?_ | refine blk_alloc ?_ _)); exact BK256.out) hg (Kd.R_ne HO_5.out BK256.out (by decide))); have n2_ := Aside0.mk (blk_grown (g := gb261) (o := .cells #[.int .i64 ((rd_T45 l0_1 x7_2).f0), .int .i64 ((rd_T45 l0_1 x7_2).f1)] 45 (0, 0)) (by (with_reducible repeat (first | refine blk_drewN ?_ _ | refine blk_drew ?_ | refine blk_alloc ?_ _)); exact BK261.out) hg (Kd.R_ne HO_5.out BK261.out (by decide))); have n3_ := Aside0.mk ((by rw [hw]; exact below_set (HB.out) GB31.out : Below w.heap.size w w40)); clear HO_5; clear BK256; clear BK261; clear HB; have HO_5 := n0_; have BK256 := n1_; have BK261 := n2_; have HB := n3_; clear n0_ n1_ n2_ n3_; clear hg hw hp_))
                                go_roundg k2
                                case measure => have := HK1.out; have := HK2.out; omega
                                case rel => exact ⟨(y264), (wrap64 (x7_2 + 1)), (by first | rfl | (simp; done) | (simp [*]; done)), H', ⟨by have := HK1.out; have := HK2.out; omega⟩, ⟨by (with_reducible repeat (first | apply Kd.R_alloc | apply Kd.R_drewN | apply Kd.R_drew)); exact HO_5.out⟩, ⟨by (with_reducible repeat (first | refine blk_drewN ?_ _ | refine blk_drew ?_ | refine blk_alloc ?_ _)); exact BK256.out⟩, ⟨by repeat (first | (with_reducible first | exact HB.out | apply below_alloc | apply pw_below_drewN | apply below_drew1 | refine below_set ?_ GE256.out | refine below_set ?_ GE261.out) | exact HB.out)⟩⟩
                              · rw [if_neg c30] at H
                                exact absurd H (by simp)
                            · rw [if_neg c29] at H
                              exact absurd H (by simp)
                          · replace c28 := Bool.eq_false_iff.mpr c28
                            subst c28
                            have H1 : (trefoilref04_Reach.l1 k2 a1 x5_2 x6_1 (wrap64 (x7_2 + 1)) l0_0 l0_1) = some r := by rw [if_neg (show ¬ (false = true) by decide)] at H; exact H
                            clear H
                            have H := H1
                            clear H1
                            have H' := Aside0.mk H
                            clear H
                            have hcz41_0 : wr.cell? ⟨gb256, 0, none⟩ = some (.slice A0_0 l0_0.length c0_0) := (blk_cell BK256.out 0).trans rfl
                            have hcz41_1 : wr.cell? ⟨gb256, 1, none⟩ = some (.slice A0_1 l0_1.length c0_1) := (blk_cell BK256.out 1).trans rfl
                            have hfz41_0 := blk_frozen BK256.out 0
                            have hfz41_1 := blk_frozen BK256.out 1
                            have p260 : 0 ≤ (x7_2 : Int) := of_decide_eq_true (by first | (with_reducible assumption) | assumption)
                            have q260 : x7_2 < (l0_1.length : Int) := of_decide_eq_true (by first | (with_reducible assumption) | assumption)
                            obtain ⟨ad260, e260, hx260_0, hx260_1⟩ := at_T45 HR0_1.out x7_2 p260 q260
                            cases e260
                            replace hx260_0 := (HB.out.cell (World.block_lt_of_cell? w _ hx260_0)).trans hx260_0
                            replace hx260_1 := (HB.out.cell (World.block_lt_of_cell? w _ hx260_1)).trans hx260_1
                            replace p260 := eq_true p260
                            replace q260 := eq_true q260
                            go_wp2_with (first | ((with_reducible refine gate_dst (N := 8) rfl ?_); refine box_event ?hg (N := 8) ?hd (cs := #[.int .i64 0, .int .i64 0]) (t := 45) ?hr ?_; (case hd => rfl); (case hg => rfl); (case hr => first | (go_simp; done) | (go_simp; rfl)); intro gb261 hg w42 hbox hb; have n0_ := Aside0.mk (Kd.R_below (by (with_reducible repeat (first | apply Kd.R_alloc | apply Kd.R_drewN | apply Kd.R_drew)); exact HO_5.out) hb); have n1_ := Aside0.mk (blk_below (g := gb256) (o := .cells #[.slice A0_0 l0_0.length c0_0, .slice (some ad260) l0_1.length c0_1] 25 (0, 0)) (by (with_reducible repeat (first | refine blk_drewN ?_ _ | refine blk_drew ?_ | refine blk_alloc ?_ _)); exact BK256.out) hb); have n2_ := Aside0.mk (below_step (by repeat (first | (with_reducible first | exact HB.out | apply below_alloc | apply pw_below_drewN | apply below_drew1 | refine below_set ?_ GE256.out) | exact HB.out)) hb); have n3_ := Aside0.mk (hbox); have n4_ := Aside0.mk ((by rw [hg]; exact (below_size (by repeat (first | (with_reducible first | exact HB.out | apply below_alloc | apply pw_below_drewN | apply below_drew1 | refine below_set ?_ GE256.out) | exact HB.out))) : w.heap.size ≤ gb261)); have n5_ := Aside0.mk ((by rw [hg]; exact (below_size (by repeat (first | (with_reducible first | exact HB.out | apply below_alloc | apply pw_below_drewN | apply below_drew1 | refine below_set ?_ GE256.out) | exact HB.out))) : w.heap.size ≤ gb261)); have n6_ := Aside0.mk ((by rw [hg]; exact Nat.ne_of_lt (blk_lt (g := gb256) (o := .cells #[.slice A0_0 l0_0.length c0_0, .slice (some ad260) l0_1.length c0_1] 25 (0, 0)) (by (with_reducible repeat (first | refine blk_drewN ?_ _ | refine blk_drew ?_ | refine blk_alloc ?_ _)); exact BK256.out)) : gb256 ≠ gb261)); have n7_ := Aside0.mk ((by rw [hg]; exact Nat.ne_of_gt (blk_lt (g := gb256) (o := .cells #[.slice A0_0 l0_0.length c0_0, .slice (some ad260) l0_1.length c0_1] 25 (0, 0)) (by (with_reducible repeat (first | refine blk_drewN ?_ _ | refine blk_drew ?_ | refine blk_alloc ?_ _)); exact BK256.out)) : gb261 ≠ gb256)); clear HO_5; clear BK256; clear HB; have HO_5 := n0_; have BK256 := n1_; have HB := n2_; have BK261 := n3_; have GW261 := n4_; have GE261 := n5_; have NB256_261 := n6_; have NB261_256 := n7_; clear n0_ n1_ n2_ n3_ n4_ n5_ n6_ n7_; clear hb hbox hg; have hnb43 := NB261_256.out; have hnc43 := NB256_261.out; have hcz44_0 : w42.cell? ⟨gb261, 0, none⟩ = some (.int .i64 0) := (blk_cell BK261.out 0).trans rfl; have hcz44_1 : w42.cell? ⟨gb261, 1, none⟩ = some (.int .i64 0) := (blk_cell BK261.out 1).trans rfl; have hfz44_0 := blk_frozen BK261.out 0; have hfz44_1 := blk_frozen BK261.out 1; obtain ⟨Ao45, co45, eo45⟩ := Kd.R_slice HO_5.out; subst eo45; have p263 : 0 ≤ (((rd_T45 l0_1 x7_2).f0) : Int) := of_decide_eq_true (by first | (with_reducible assumption) | assumption); have q263 : ((rd_T45 l0_1 x7_2).f0) < (x5_2.length : Int) := of_decide_eq_true (by first | (with_reducible assumption) | assumption); obtain ⟨ad263, e263, hx263_0⟩ := Kd.at_bool (Kd.R_reads' HO_5.out).2.2 ((rd_T45 l0_1 x7_2).f0) p263 q263; (try rw [← Nbq27.out] at hx263_0); cases e263; have hn263_0 : ad263.block ≠ gb261 := Kd.own_blk (Kd.R_ne HO_5.out BK261.out (by decide)); have hn263_1 : ad263.block ≠ gb261 := Kd.own_blk (Kd.R_ne HO_5.out BK261.out (by decide)); replace hx263_0 := (cell_far (p := ⟨gb261, 0, none⟩) (by first | (rw [add_block]; exact hn263_0) | (show (Addr.add _ _).block ≠ _; rw [add_block]; exact hn263_0) | exact hn263_0) (.int .i64 ((rd_T45 l0_1 x7_2).f0))).trans hx263_0; replace hx263_0 := (cell_far (p := ⟨gb261, 1, none⟩) (by first | (rw [add_block]; exact hn263_1) | (show (Addr.add _ _).block ≠ _; rw [add_block]; exact hn263_1) | exact hn263_1) (.int .i64 ((rd_T45 l0_1 x7_2).f1))).trans hx263_0; clear hn263_0; clear hn263_1; replace p263 := eq_true p263; replace q263 := eq_true q263))
                            go_roundg k2
                            case measure => have := HK1.out; have := HK2.out; omega
                            case rel => exact ⟨(x5_2), (wrap64 (x7_2 + 1)), (by first | rfl | (simp; done) | (simp [*]; done)), H', ⟨by have := HK1.out; have := HK2.out; omega⟩, ⟨by (with_reducible repeat (first | apply Kd.R_alloc | apply Kd.R_drewN | apply Kd.R_drew)); exact Kd.R_mono (Kd.R_far (p := ⟨gb261, 1, none⟩) (Kd.R_far (p := ⟨gb261, 0, none⟩) (Kd.R_types HO_5.out BK261.out (by decide)) (fun _ hk => hk.2) (.int .i64 ((rd_T45 l0_1 x7_2).f0))) (fun _ hk => hk.2) (.int .i64 ((rd_T45 l0_1 x7_2).f1))) (fun _ hk => trivial)⟩, ⟨by (with_reducible repeat (first | refine blk_drewN ?_ _ | refine blk_drew ?_ | refine blk_alloc ?_ _)); refine blk_far ?_ NB256_261.out _; (with_reducible repeat (first | refine blk_drewN ?_ _ | refine blk_drew ?_ | refine blk_alloc ?_ _)); refine blk_far ?_ NB256_261.out _; (with_reducible repeat (first | refine blk_drewN ?_ _ | refine blk_drew ?_ | refine blk_alloc ?_ _)); exact BK256.out⟩, ⟨by repeat (first | (with_reducible first | exact HB.out | apply below_alloc | apply pw_below_drewN | apply below_drew1 | refine below_set ?_ GE256.out | refine below_set ?_ GE261.out) | exact HB.out)⟩⟩
                        · rw [if_neg c26] at H
                          exact absurd H (by simp)
                      · rw [if_neg c25] at H
                        exact absurd H (by simp)
                  · rw [if_neg c12] at H
                    exact absurd H (by simp)
                · rw [if_neg c11] at H
                  have c11b0 : decide (x7_2 < (l0_1.length : Int)) = false := decide_eq_false c11
                  clear c11
                  have H' := Aside0.mk H
                  clear H
                  have hcz46_0 : wr.cell? ⟨gb256, 0, none⟩ = some (.slice A0_0 l0_0.length c0_0) := (blk_cell BK256.out 0).trans rfl
                  have hcz46_1 : wr.cell? ⟨gb256, 1, none⟩ = some (.slice A0_1 l0_1.length c0_1) := (blk_cell BK256.out 1).trans rfl
                  have hfz46_0 := blk_frozen BK256.out 0
                  have hfz46_1 := blk_frozen BK256.out 1
                  go_wp2
                  go_roundg k2
                  case measure => have := HK1.out; have := HK2.out; omega
                  case rel => exact ⟨(x5_2), (wrap64 (x6_1 + 1)), (by first | rfl | (simp; done) | (simp [*]; done)), H', ⟨by have := HK1.out; have := HK2.out; omega⟩, ⟨by (with_reducible repeat (first | apply Kd.R_alloc | apply Kd.R_drewN | apply Kd.R_drew)); exact HO_5.out⟩, ⟨by (with_reducible repeat (first | refine blk_drewN ?_ _ | refine blk_drew ?_ | refine blk_alloc ?_ _)); exact BK256.out⟩, ⟨by repeat (first | (with_reducible first | exact HB.out | apply below_alloc | apply pw_below_drewN | apply below_drew1 | refine below_set ?_ GE256.out) | exact HB.out)⟩⟩
          · rw [if_neg c9] at H
            have c9b0 : decide (x6_1 < (l0_0.length : Int)) = false := decide_eq_false c9
            clear c9
            obtain rfl := Option.some.inj H
            have hcz47_0 : wr.cell? ⟨gb256, 0, none⟩ = some (.slice A0_0 l0_0.length c0_0) := (blk_cell BK256.out 0).trans rfl
            have hcz47_1 : wr.cell? ⟨gb256, 1, none⟩ = some (.slice A0_1 l0_1.length c0_1) := (blk_cell BK256.out 1).trans rfl
            have hfz47_0 := blk_frozen BK256.out 0
            have hfz47_1 := blk_frozen BK256.out 1
            go_wp2
            go_ret
            exact ⟨_, by first | rfl | (simp [errW_none, errW_some] <;> rfl) | (simp [*, errW_none, errW_some] <;> rfl), by (with_reducible repeat (first | apply Kd.R_alloc | apply Kd.R_drewN | apply Kd.R_drew)); exact HO_5.out, by repeat (first | (with_reducible first | exact HB.out | apply below_alloc | apply pw_below_drewN | apply below_drew1 | refine below_set ?_ GE256.out) | exact HB.out)⟩
    · rw [if_neg c4] at H
      exact absurd H (by simp)
  · rw [if_neg c3] at H
    exact absurd H (by simp)

/-! ### trefoilref04_Check: function 28 -/
def trefoilref04_Check.l0 : Nat → Int → List Int → List (S45) → Option (Int)
  | 0, _, _, _ => none
  | k + 1, x4, x266000, x266001 => if x4 < (x266000.length : Int) then ((trefoilref04_Reach.f k x266000 x266001 x4).bind fun t267 => (if 0 ≤ x4 then (if x4 < (t267.length : Int) then (if rdOf false t267 x4 = true then (some 43) else (trefoilref04_Check.l0 k (wrap64 (x4 + 1)) x266000 x266001)) else (none)) else (none))) else (some 0)
def trefoilref04_Check.f (k : Nat) (l0_0 : List Int) (l0_1 : List (S45)) : Option (Int) := (trefoilref04_Plain.f k l0_0 l0_1).bind fun t266 => (if t266 = 0 then (trefoilref04_Check.l0 k 0 l0_0 l0_1) else (some t266))
set_option maxHeartbeats 8000000 in
set_option maxRecDepth 100000 in
theorem trefoilref04_Check.calls (k : Nat) (A0_0 : Option Addr) (c0_0 : Nat) (l0_0 : List Int) (A0_1 : Option Addr) (c0_1 : Nat) (l0_1 : List (S45)) (r : Int) (w : World) (hr0_0 : Kd.C (Kd.int .i64) w A0_0 l0_0.length l0_0) (hc0_0 : l0_0.length ≤ c0_0) (hr0_1 : Kd.C k45 w A0_1 l0_1.length l0_1) (hc0_1 : l0_1.length ≤ c0_1) (h : trefoilref04_Check.f k l0_0 l0_1 = some r) :
    Calls Try.prog 28 #[.agg #[.slice A0_0 l0_0.length c0_0, .slice A0_1 l0_1.length c0_1]] w fun e w' => e = .returned (.int .i64 r) ∧ Below w.heap.size w w' := by
  have hu25 := Try.underlying25
  have HR0_0 := Aside0.mk hr0_0
  have HC0_0 := Aside0.mk hc0_0
  clear hr0_0 hc0_0
  have HR0_1 := Aside0.mk hr0_1
  have HC0_1 := Aside0.mk hc0_1
  clear hr0_1 hc0_1
  have HB := Aside0.mk (Below.refl w.heap.size w)
  have H : ((trefoilref04_Plain.f k l0_0 l0_1).bind fun t266 => (if t266 = 0 then (trefoilref04_Check.l0 k 0 l0_0 l0_1) else (some t266))) = some r := h
  clear h
  replace H := Option.bind_eq_some_iff.mp H
  obtain ⟨t266, A20, H⟩ := H
  replace H : (if t266 = 0 then (trefoilref04_Check.l0 k 0 l0_0 l0_1) else (some t266)) = some r := H
  have A2 := Aside0.mk A20
  clear A20
  by_cases c3 : t266 = 0
  · rw [if_pos c3] at H
    have c3b0 : (t266 == 0) = true := beq_iff_eq.mpr c3
    have c3b1 : (t266 != 0) = false := bne_eq_false_iff_eq.mpr c3
    clear c3
    have H' := Aside0.mk H
    clear H
    go_enter Try.func28, Try.ntmps28
    go_wp2_with (first | ((with_reducible refine gate_dst (N := 1) rfl ?_); refine box_event ?hg (N := 1) ?hd (cs := #[.slice A0_0 l0_0.length c0_0, .slice A0_1 l0_1.length c0_1]) (t := 25) ?hr ?_; (case hd => rfl); (case hg => rfl); (case hr => first | (go_simp; done) | (go_simp; rfl)); intro gb265 hg w4 hbox hb; have n0_ := Aside0.mk (below_step (by repeat (first | (with_reducible first | exact HB.out | apply below_alloc | apply pw_below_drewN | apply below_drew1) | exact HB.out)) hb); have n1_ := Aside0.mk (hbox); have n2_ := Aside0.mk ((by rw [hg]; exact (below_size (by repeat (first | (with_reducible first | exact HB.out | apply below_alloc | apply pw_below_drewN | apply below_drew1) | exact HB.out))) : w.heap.size ≤ gb265)); have n3_ := Aside0.mk ((by rw [hg]; exact (below_size (by repeat (first | (with_reducible first | exact HB.out | apply below_alloc | apply pw_below_drewN | apply below_drew1) | exact HB.out))) : w.heap.size ≤ gb265)); clear HB; have HB := n0_; have BK265 := n1_; have GW265 := n2_; have GE265 := n3_; clear n0_ n1_ n2_ n3_; clear hb hbox hg; have hcz5_0 : w4.cell? ⟨gb265, 0, none⟩ = some (.slice A0_0 l0_0.length c0_0) := (blk_cell BK265.out 0).trans rfl; have hcz5_1 : w4.cell? ⟨gb265, 1, none⟩ = some (.slice A0_1 l0_1.length c0_1) := (blk_cell BK265.out 1).trans rfl; have hfz5_0 := blk_frozen BK265.out 0; have hfz5_1 := blk_frozen BK265.out 1) | ((with_reducible refine gate_callee (f := 45) rfl ?_); refine goesL_ (some 6) rfl rfl Try.func45 (by kernel_rfl) rfl #[.agg #[.slice A0_0 l0_0.length c0_0, .slice A0_1 l0_1.length c0_1]] rfl (by (try simp only [List.map_toArray, List.map_cons, List.map_nil]); first | done | rfl | (simp only [List.length_drop, List.length_take]; rfl)) ?_; (with_reducible refine (trefoilref04_Plain.calls k _ _ l0_0 _ _ l0_1 t266 _ ?side1 ?side2 ?side3 ?side4 A2.out).mono ?_); (case side1 => repeat (first | exact (Kd.C_below HR0_0.out HB.out) | (with_reducible refine Kd.C_alloc ?_ _) | (with_reducible refine Kd.C_drewN ?_ _) | (with_reducible refine Kd.C_drew ?_))); (case side2 => exact HC0_0.out); (case side3 => repeat (first | exact (Kd.C_below HR0_1.out HB.out) | (with_reducible refine Kd.C_alloc ?_ _) | (with_reducible refine Kd.C_drewN ?_ _) | (with_reducible refine Kd.C_drew ?_))); (case side4 => exact HC0_1.out); rintro e w6 ⟨rfl, hb⟩; refine ⟨_, rfl, ?_⟩; have n0_ := Aside0.mk (blk_below (g := gb265) (o := .cells #[.slice A0_0 l0_0.length c0_0, .slice A0_1 l0_1.length c0_1] 25 (0, 0)) (by (with_reducible repeat (first | refine blk_drewN ?_ _ | refine blk_drew ?_ | refine blk_alloc ?_ _)); exact BK265.out) hb); have n1_ := Aside0.mk (below_step (by repeat (first | (with_reducible first | exact HB.out | apply below_alloc | apply pw_below_drewN | apply below_drew1 | refine below_set ?_ GE265.out) | exact HB.out)) hb); clear BK265; clear HB; have BK265 := n0_; have HB := n1_; clear n0_ n1_; (try clear hb); (try clear hb2); (try clear hk); (try clear hi)))
    go_loopg [4] k (fun kq v4 w' => ∃ (x4_1 : Int), v4 = .int .i64 x4_1 ∧ Aside0 (trefoilref04_Check.l0 kq x4_1 l0_0 l0_1 = some r) ∧ Aside0 (kq ≤ k) ∧ Aside0 (w'.heap[gb265]? = some (.cells #[(.slice A0_0 l0_0.length c0_0), (.slice A0_1 l0_1.length c0_1)] 25 (0, 0))) ∧ Aside0 (Below w.heap.size w w'))
    case atStart => exact ⟨(0), (by first | rfl | (simp; done) | (simp [*]; done)), H', ⟨Nat.le_refl _⟩, ⟨by (with_reducible repeat (first | refine blk_drewN ?_ _ | refine blk_drew ?_ | refine blk_alloc ?_ _)); exact BK265.out⟩, ⟨by repeat (first | (with_reducible first | exact HB.out | apply below_alloc | apply pw_below_drewN | apply below_drew1 | refine below_set ?_ GE265.out) | exact HB.out)⟩⟩
    case round =>
      clear H'
      try clear c2
      try clear p2
      try clear c3
      try clear c3b0
      try clear c3b1
      try clear c4
      try clear hcz5_0
      try clear hcz5_1
      try clear hfz5_0
      try clear hfz5_1
      obtain ⟨x4_1, rfl, HA, HK1, BK265, HB⟩ := hrel
      cases gk with
      | zero => exact absurd HA.out (by simp [trefoilref04_Check.l0])
      | succ k1 =>
        have H := HA.out
        clear HA
        simp only [trefoilref04_Check.l0] at H
        by_cases c7 : x4_1 < (l0_0.length : Int)
        · rw [if_pos c7] at H
          have c7b0 : decide (x4_1 < (l0_0.length : Int)) = true := decide_eq_true c7
          clear c7
          replace H := Option.bind_eq_some_iff.mp H
          obtain ⟨t267, A80, H⟩ := H
          replace H : (if 0 ≤ x4_1 then (if x4_1 < (t267.length : Int) then (if rdOf false t267 x4_1 = true then (some 43) else (trefoilref04_Check.l0 k1 (wrap64 (x4_1 + 1)) l0_0 l0_1)) else (none)) else (none)) = some r := H
          have A8 := Aside0.mk A80
          clear A80
          by_cases c9 : 0 ≤ x4_1
          · rw [if_pos c9] at H
            have c9b0 : decide (0 ≤ x4_1) = true := decide_eq_true c9
            clear c9
            by_cases c10 : x4_1 < (t267.length : Int)
            · rw [if_pos c10] at H
              have c10b0 : decide (x4_1 < (t267.length : Int)) = true := decide_eq_true c10
              clear c10
              obtain ⟨bq11, hbq11⟩ : ∃ b_ : Bool, b_ = (rdOf false t267 x4_1) := ⟨_, rfl⟩
              replace H : (if bq11 = true then (some 43) else (trefoilref04_Check.l0 k1 (wrap64 (x4_1 + 1)) l0_0 l0_1)) = some r := by rw [← hbq11] at H; exact H
              have Nbq11 := Aside0.mk hbq11
              clear hbq11
              by_cases c12 : bq11 = true
              · subst c12
                have H1 : (some 43) = some r := by rw [if_pos rfl] at H; exact H
                clear H
                have H := H1
                clear H1
                obtain rfl := Option.some.inj H
                have hcz13_0 : wr.cell? ⟨gb265, 0, none⟩ = some (.slice A0_0 l0_0.length c0_0) := (blk_cell BK265.out 0).trans rfl
                have hcz13_1 : wr.cell? ⟨gb265, 1, none⟩ = some (.slice A0_1 l0_1.length c0_1) := (blk_cell BK265.out 1).trans rfl
                have hfz13_0 := blk_frozen BK265.out 0
                have hfz13_1 := blk_frozen BK265.out 1
                go_wp2_with (first | ((with_reducible refine gate_callee (f := 46) rfl ?_); refine goesL_ (some 19) rfl rfl Try.func46 (by kernel_rfl) rfl #[.agg #[.slice A0_0 l0_0.length c0_0, .slice A0_1 l0_1.length c0_1], .int .i64 x4_1] rfl (by (try simp only [List.map_toArray, List.map_cons, List.map_nil]); first | done | rfl | (simp only [List.length_drop, List.length_take]; rfl)) ?_; (with_reducible refine (trefoilref04_Reach.calls k1 _ _ l0_0 _ _ l0_1 x4_1 t267 _ ?side1 ?side2 ?side3 ?side4 A8.out).mono ?_); (case side1 => repeat (first | exact (Kd.C_below HR0_0.out HB.out) | (with_reducible refine Kd.C_alloc ?_ _) | (with_reducible refine Kd.C_drewN ?_ _) | (with_reducible refine Kd.C_drew ?_))); (case side2 => exact HC0_0.out); (case side3 => repeat (first | exact (Kd.C_below HR0_1.out HB.out) | (with_reducible refine Kd.C_alloc ?_ _) | (with_reducible refine Kd.C_drewN ?_ _) | (with_reducible refine Kd.C_drew ?_))); (case side4 => exact HC0_1.out); rintro e w14 ⟨v268, rfl, ho0, hb⟩; refine ⟨_, rfl, ?_⟩; have n0_ := Aside0.mk (Kd.R_lower ho0 (below_size (by repeat (first | (with_reducible first | exact HB.out | apply below_alloc | apply pw_below_drewN | apply below_drew1 | refine below_set ?_ GE265.out) | exact HB.out)))); have n1_ := Aside0.mk (blk_below (g := gb265) (o := .cells #[.slice A0_0 l0_0.length c0_0, .slice A0_1 l0_1.length c0_1] 25 (0, 0)) (by (with_reducible repeat (first | refine blk_drewN ?_ _ | refine blk_drew ?_ | refine blk_alloc ?_ _)); exact BK265.out) hb); have n2_ := Aside0.mk (below_step (by repeat (first | (with_reducible first | exact HB.out | apply below_alloc | apply pw_below_drewN | apply below_drew1 | refine below_set ?_ GE265.out) | exact HB.out)) hb); clear BK265; clear HB; have HO269 := n0_; have BK265 := n1_; have HB := n2_; clear n0_ n1_ n2_; (try clear hb); (try clear hb2); (try clear hk); (try clear hi); (try clear ho0); obtain ⟨Ao15, co15, eo15⟩ := Kd.R_slice HO269.out; subst eo15; have p270 : 0 ≤ (x4_1 : Int) := of_decide_eq_true (by first | (with_reducible assumption) | assumption); have q270 : x4_1 < (t267.length : Int) := of_decide_eq_true (by first | (with_reducible assumption) | assumption); obtain ⟨ad270, e270, hx270_0⟩ := Kd.at_bool (Kd.R_reads' HO269.out).2.2 x4_1 p270 q270; (try rw [← Nbq11.out] at hx270_0); cases e270; replace p270 := eq_true p270; replace q270 := eq_true q270))
                go_ret
                exact ⟨by first | rfl | (simp [errW_none, errW_some] <;> rfl) | (simp [*, errW_none, errW_some] <;> rfl), by repeat (first | (with_reducible first | exact HB.out | apply below_alloc | apply pw_below_drewN | apply below_drew1 | refine below_set ?_ GE265.out) | exact HB.out)⟩
              · replace c12 := Bool.eq_false_iff.mpr c12
                subst c12
                have H1 : (trefoilref04_Check.l0 k1 (wrap64 (x4_1 + 1)) l0_0 l0_1) = some r := by rw [if_neg (show ¬ (false = true) by decide)] at H; exact H
                clear H
                have H := H1
                clear H1
                have H' := Aside0.mk H
                clear H
                have hcz16_0 : wr.cell? ⟨gb265, 0, none⟩ = some (.slice A0_0 l0_0.length c0_0) := (blk_cell BK265.out 0).trans rfl
                have hcz16_1 : wr.cell? ⟨gb265, 1, none⟩ = some (.slice A0_1 l0_1.length c0_1) := (blk_cell BK265.out 1).trans rfl
                have hfz16_0 := blk_frozen BK265.out 0
                have hfz16_1 := blk_frozen BK265.out 1
                go_wp2_with (first | ((with_reducible refine gate_callee (f := 46) rfl ?_); refine goesL_ (some 19) rfl rfl Try.func46 (by kernel_rfl) rfl #[.agg #[.slice A0_0 l0_0.length c0_0, .slice A0_1 l0_1.length c0_1], .int .i64 x4_1] rfl (by (try simp only [List.map_toArray, List.map_cons, List.map_nil]); first | done | rfl | (simp only [List.length_drop, List.length_take]; rfl)) ?_; (with_reducible refine (trefoilref04_Reach.calls k1 _ _ l0_0 _ _ l0_1 x4_1 t267 _ ?side1 ?side2 ?side3 ?side4 A8.out).mono ?_); (case side1 => repeat (first | exact (Kd.C_below HR0_0.out HB.out) | (with_reducible refine Kd.C_alloc ?_ _) | (with_reducible refine Kd.C_drewN ?_ _) | (with_reducible refine Kd.C_drew ?_))); (case side2 => exact HC0_0.out); (case side3 => repeat (first | exact (Kd.C_below HR0_1.out HB.out) | (with_reducible refine Kd.C_alloc ?_ _) | (with_reducible refine Kd.C_drewN ?_ _) | (with_reducible refine Kd.C_drew ?_))); (case side4 => exact HC0_1.out); rintro e w17 ⟨v268, rfl, ho0, hb⟩; refine ⟨_, rfl, ?_⟩; have n0_ := Aside0.mk (Kd.R_lower ho0 (below_size (by repeat (first | (with_reducible first | exact HB.out | apply below_alloc | apply pw_below_drewN | apply below_drew1 | refine below_set ?_ GE265.out) | exact HB.out)))); have n1_ := Aside0.mk (blk_below (g := gb265) (o := .cells #[.slice A0_0 l0_0.length c0_0, .slice A0_1 l0_1.length c0_1] 25 (0, 0)) (by (with_reducible repeat (first | refine blk_drewN ?_ _ | refine blk_drew ?_ | refine blk_alloc ?_ _)); exact BK265.out) hb); have n2_ := Aside0.mk (below_step (by repeat (first | (with_reducible first | exact HB.out | apply below_alloc | apply pw_below_drewN | apply below_drew1 | refine below_set ?_ GE265.out) | exact HB.out)) hb); clear BK265; clear HB; have HO269 := n0_; have BK265 := n1_; have HB := n2_; clear n0_ n1_ n2_; (try clear hb); (try clear hb2); (try clear hk); (try clear hi); (try clear ho0); obtain ⟨Ao18, co18, eo18⟩ := Kd.R_slice HO269.out; subst eo18; have p270 : 0 ≤ (x4_1 : Int) := of_decide_eq_true (by first | (with_reducible assumption) | assumption); have q270 : x4_1 < (t267.length : Int) := of_decide_eq_true (by first | (with_reducible assumption) | assumption); obtain ⟨ad270, e270, hx270_0⟩ := Kd.at_bool (Kd.R_reads' HO269.out).2.2 x4_1 p270 q270; (try rw [← Nbq11.out] at hx270_0); cases e270; replace p270 := eq_true p270; replace q270 := eq_true q270))
                go_roundg k1
                case measure => have := HK1.out; omega
                case rel => exact ⟨(wrap64 (x4_1 + 1)), (by first | rfl | (simp; done) | (simp [*]; done)), H', ⟨by have := HK1.out; omega⟩, ⟨by (with_reducible repeat (first | refine blk_drewN ?_ _ | refine blk_drew ?_ | refine blk_alloc ?_ _)); exact BK265.out⟩, ⟨by repeat (first | (with_reducible first | exact HB.out | apply below_alloc | apply pw_below_drewN | apply below_drew1 | refine below_set ?_ GE265.out) | exact HB.out)⟩⟩
            · rw [if_neg c10] at H
              exact absurd H (by simp)
          · rw [if_neg c9] at H
            exact absurd H (by simp)
        · rw [if_neg c7] at H
          have c7b0 : decide (x4_1 < (l0_0.length : Int)) = false := decide_eq_false c7
          clear c7
          obtain rfl := Option.some.inj H
          have hcz19_0 : wr.cell? ⟨gb265, 0, none⟩ = some (.slice A0_0 l0_0.length c0_0) := (blk_cell BK265.out 0).trans rfl
          have hcz19_1 : wr.cell? ⟨gb265, 1, none⟩ = some (.slice A0_1 l0_1.length c0_1) := (blk_cell BK265.out 1).trans rfl
          have hfz19_0 := blk_frozen BK265.out 0
          have hfz19_1 := blk_frozen BK265.out 1
          go_wp2
          go_ret
          exact ⟨by first | rfl | (simp [errW_none, errW_some] <;> rfl) | (simp [*, errW_none, errW_some] <;> rfl), by repeat (first | (with_reducible first | exact HB.out | apply below_alloc | apply pw_below_drewN | apply below_drew1 | refine below_set ?_ GE265.out) | exact HB.out)⟩
  · rw [if_neg c3] at H
    have c3b0 : (t266 == 0) = false := beq_eq_false_iff_ne.mpr c3
    have c3b1 : (t266 != 0) = true := bne_iff_ne.mpr c3
    obtain rfl := Option.some.inj H
    go_enter Try.func28, Try.ntmps28
    go_wp2_with (first | ((with_reducible refine gate_dst (N := 1) rfl ?_); refine box_event ?hg (N := 1) ?hd (cs := #[.slice A0_0 l0_0.length c0_0, .slice A0_1 l0_1.length c0_1]) (t := 25) ?hr ?_; (case hd => rfl); (case hg => rfl); (case hr => first | (go_simp; done) | (go_simp; rfl)); intro gb265 hg w20 hbox hb; have n0_ := Aside0.mk (below_step (by repeat (first | (with_reducible first | exact HB.out | apply below_alloc | apply pw_below_drewN | apply below_drew1) | exact HB.out)) hb); have n1_ := Aside0.mk (hbox); have n2_ := Aside0.mk ((by rw [hg]; exact (below_size (by repeat (first | (with_reducible first | exact HB.out | apply below_alloc | apply pw_below_drewN | apply below_drew1) | exact HB.out))) : w.heap.size ≤ gb265)); have n3_ := Aside0.mk ((by rw [hg]; exact (below_size (by repeat (first | (with_reducible first | exact HB.out | apply below_alloc | apply pw_below_drewN | apply below_drew1) | exact HB.out))) : w.heap.size ≤ gb265)); clear HB; have HB := n0_; have BK265 := n1_; have GW265 := n2_; have GE265 := n3_; clear n0_ n1_ n2_ n3_; clear hb hbox hg; have hcz21_0 : w20.cell? ⟨gb265, 0, none⟩ = some (.slice A0_0 l0_0.length c0_0) := (blk_cell BK265.out 0).trans rfl; have hcz21_1 : w20.cell? ⟨gb265, 1, none⟩ = some (.slice A0_1 l0_1.length c0_1) := (blk_cell BK265.out 1).trans rfl; have hfz21_0 := blk_frozen BK265.out 0; have hfz21_1 := blk_frozen BK265.out 1) | ((with_reducible refine gate_callee (f := 45) rfl ?_); refine goesL_ (some 6) rfl rfl Try.func45 (by kernel_rfl) rfl #[.agg #[.slice A0_0 l0_0.length c0_0, .slice A0_1 l0_1.length c0_1]] rfl (by (try simp only [List.map_toArray, List.map_cons, List.map_nil]); first | done | rfl | (simp only [List.length_drop, List.length_take]; rfl)) ?_; (with_reducible refine (trefoilref04_Plain.calls k _ _ l0_0 _ _ l0_1 t266 _ ?side1 ?side2 ?side3 ?side4 A2.out).mono ?_); (case side1 => repeat (first | exact (Kd.C_below HR0_0.out HB.out) | (with_reducible refine Kd.C_alloc ?_ _) | (with_reducible refine Kd.C_drewN ?_ _) | (with_reducible refine Kd.C_drew ?_))); (case side2 => exact HC0_0.out); (case side3 => repeat (first | exact (Kd.C_below HR0_1.out HB.out) | (with_reducible refine Kd.C_alloc ?_ _) | (with_reducible refine Kd.C_drewN ?_ _) | (with_reducible refine Kd.C_drew ?_))); (case side4 => exact HC0_1.out); rintro e w22 ⟨rfl, hb⟩; refine ⟨_, rfl, ?_⟩; have n0_ := Aside0.mk (blk_below (g := gb265) (o := .cells #[.slice A0_0 l0_0.length c0_0, .slice A0_1 l0_1.length c0_1] 25 (0, 0)) (by (with_reducible repeat (first | refine blk_drewN ?_ _ | refine blk_drew ?_ | refine blk_alloc ?_ _)); exact BK265.out) hb); have n1_ := Aside0.mk (below_step (by repeat (first | (with_reducible first | exact HB.out | apply below_alloc | apply pw_below_drewN | apply below_drew1 | refine below_set ?_ GE265.out) | exact HB.out)) hb); clear BK265; clear HB; have BK265 := n0_; have HB := n1_; clear n0_ n1_; (try clear hb); (try clear hb2); (try clear hk); (try clear hi)))
    go_ret
    exact ⟨by first | rfl | (simp [errW_none, errW_some] <;> rfl) | (simp [*, errW_none, errW_some] <;> rfl), by repeat (first | (with_reducible first | exact HB.out | apply below_alloc | apply pw_below_drewN | apply below_drew1 | refine below_set ?_ GE265.out) | exact HB.out)⟩

/-! ### trefoilref10_Form: function 29 -/
def trefoilref10_Form.l0 : Nat → List Int → Int → Int → List Int → List (S45) → Option (Bool)
  | 0, _, _, _, _, _ => none
  | k + 1, x1, x2, x7, x272000, x272001 => if x7 < (x1.length : Int) then (if 0 ≤ x7 then (if (rd x1 x7) < 1 then (some false) else (if (rd x1 x7) > 1000 then (some false) else (trefoilref10_Form.l0 k x1 x2 (wrap64 (x7 + 1)) x272000 x272001))) else (none)) else (if (x1.length : Int) = (x272000.length : Int) then (if x2 ≥ 1 then (some (decide (x2 ≤ 8))) else (some false)) else (some false))
def trefoilref10_Form.f (k : Nat) (l0_0 : List Int) (l0_1 : List (S45)) (l1 : List Int) (a2 : Int) : Option (Bool) := trefoilref10_Form.l0 k l1 a2 0 l0_0 l0_1
set_option maxHeartbeats 8000000 in
set_option maxRecDepth 100000 in
theorem trefoilref10_Form.calls (k : Nat) (A0_0 : Option Addr) (c0_0 : Nat) (l0_0 : List Int) (A0_1 : Option Addr) (c0_1 : Nat) (l0_1 : List (S45)) (A1 : Option Addr) (c1 : Nat) (l1 : List Int) (a2 : Int) (r : Bool) (w : World) (hr0_0 : Kd.C (Kd.int .i64) w A0_0 l0_0.length l0_0) (hc0_0 : l0_0.length ≤ c0_0) (hr0_1 : Kd.C k45 w A0_1 l0_1.length l0_1) (hc0_1 : l0_1.length ≤ c0_1) (hr1 : Kd.C (Kd.int .i64) w A1 l1.length l1) (hc1 : l1.length ≤ c1) (h : trefoilref10_Form.f k l0_0 l0_1 l1 a2 = some r) :
    Calls Try.prog 29 #[.agg #[.slice A0_0 l0_0.length c0_0, .slice A0_1 l0_1.length c0_1], .slice A1 l1.length c1, .int .i64 a2] w fun e w' => e = .returned (.bool r) ∧ Below w.heap.size w w' := by
  have hu25 := Try.underlying25
  have HR0_0 := Aside0.mk hr0_0
  have HC0_0 := Aside0.mk hc0_0
  clear hr0_0 hc0_0
  have HR0_1 := Aside0.mk hr0_1
  have HC0_1 := Aside0.mk hc0_1
  clear hr0_1 hc0_1
  have HR1 := Aside0.mk hr1
  have HC1 := Aside0.mk hc1
  clear hr1 hc1
  have HB := Aside0.mk (Below.refl w.heap.size w)
  have H : (trefoilref10_Form.l0 k l1 a2 0 l0_0 l0_1) = some r := h
  clear h
  have H' := Aside0.mk H
  clear H
  go_enter Try.func29, Try.ntmps29
  go_wp2_with (first | ((with_reducible refine gate_dst (N := 3) rfl ?_); refine box_event ?hg (N := 3) ?hd (cs := #[.slice A0_0 l0_0.length c0_0, .slice A0_1 l0_1.length c0_1]) (t := 25) ?hr ?_; (case hd => rfl); (case hg => rfl); (case hr => first | (go_simp; done) | (go_simp; rfl)); intro gb271 hg w4 hbox hb; have n0_ := Aside0.mk (below_step (by repeat (first | (with_reducible first | exact HB.out | apply below_alloc | apply pw_below_drewN | apply below_drew1) | exact HB.out)) hb); have n1_ := Aside0.mk (hbox); have n2_ := Aside0.mk ((by rw [hg]; exact (below_size (by repeat (first | (with_reducible first | exact HB.out | apply below_alloc | apply pw_below_drewN | apply below_drew1) | exact HB.out))) : w.heap.size ≤ gb271)); have n3_ := Aside0.mk ((by rw [hg]; exact (below_size (by repeat (first | (with_reducible first | exact HB.out | apply below_alloc | apply pw_below_drewN | apply below_drew1) | exact HB.out))) : w.heap.size ≤ gb271)); clear HB; have HB := n0_; have BK271 := n1_; have GW271 := n2_; have GE271 := n3_; clear n0_ n1_ n2_ n3_; clear hb hbox hg))
  go_loopg [7] k (fun kq v7 w' => ∃ (x7_1 : Int), v7 = .int .i64 x7_1 ∧ Aside0 (trefoilref10_Form.l0 kq l1 a2 x7_1 l0_0 l0_1 = some r) ∧ Aside0 (kq ≤ k) ∧ Aside0 (w'.heap[gb271]? = some (.cells #[(.slice A0_0 l0_0.length c0_0), (.slice A0_1 l0_1.length c0_1)] 25 (0, 0))) ∧ Aside0 (Below w.heap.size w w'))
  case atStart => exact ⟨(0), (by first | rfl | (simp; done) | (simp [*]; done)), H', ⟨Nat.le_refl _⟩, ⟨by (with_reducible repeat (first | refine blk_drewN ?_ _ | refine blk_drew ?_ | refine blk_alloc ?_ _)); exact BK271.out⟩, ⟨by repeat (first | (with_reducible first | exact HB.out | apply below_alloc | apply pw_below_drewN | apply below_drew1 | refine below_set ?_ GE271.out) | exact HB.out)⟩⟩
  case round =>
    clear H'
    try clear c1
    try clear c2
    try clear p2
    obtain ⟨x7_1, rfl, HA, HK1, BK271, HB⟩ := hrel
    cases gk with
    | zero => exact absurd HA.out (by simp [trefoilref10_Form.l0])
    | succ k1 =>
      have H := HA.out
      clear HA
      simp only [trefoilref10_Form.l0] at H
      by_cases c5 : x7_1 < (l1.length : Int)
      · rw [if_pos c5] at H
        have c5b0 : decide (x7_1 < (l1.length : Int)) = true := decide_eq_true c5
        clear c5
        by_cases c6 : 0 ≤ x7_1
        · rw [if_pos c6] at H
          have c6b0 : decide (0 ≤ x7_1) = true := decide_eq_true c6
          clear c6
          by_cases c7 : (rd l1 x7_1) < 1
          · rw [if_pos c7] at H
            have c7b0 : decide ((rd l1 x7_1) < 1) = true := decide_eq_true c7
            clear c7
            obtain rfl := Option.some.inj H
            have p272 : 0 ≤ (x7_1 : Int) := of_decide_eq_true (by first | (with_reducible assumption) | assumption)
            have q272 : x7_1 < (l1.length : Int) := of_decide_eq_true (by first | (with_reducible assumption) | assumption)
            obtain ⟨ad272, e272, hx272_0⟩ := Kd.at_int HR1.out x7_1 p272 q272
            cases e272
            replace hx272_0 := (HB.out.cell (World.block_lt_of_cell? w _ hx272_0)).trans hx272_0
            replace p272 := eq_true p272
            replace q272 := eq_true q272
            go_wp2
            go_ret
            exact ⟨by first | rfl | (simp [errW_none, errW_some] <;> rfl) | (simp [*, errW_none, errW_some] <;> rfl), by repeat (first | (with_reducible first | exact HB.out | apply below_alloc | apply pw_below_drewN | apply below_drew1 | refine below_set ?_ GE271.out) | exact HB.out)⟩
          · rw [if_neg c7] at H
            have c7b0 : decide ((rd l1 x7_1) < 1) = false := decide_eq_false c7
            clear c7
            by_cases c8 : (rd l1 x7_1) > 1000
            · rw [if_pos c8] at H
              have c8b0 : decide (1000 < (rd l1 x7_1)) = true := decide_eq_true c8
              clear c8
              obtain rfl := Option.some.inj H
              have p272 : 0 ≤ (x7_1 : Int) := of_decide_eq_true (by first | (with_reducible assumption) | assumption)
              have q272 : x7_1 < (l1.length : Int) := of_decide_eq_true (by first | (with_reducible assumption) | assumption)
              obtain ⟨ad272, e272, hx272_0⟩ := Kd.at_int HR1.out x7_1 p272 q272
              cases e272
              replace hx272_0 := (HB.out.cell (World.block_lt_of_cell? w _ hx272_0)).trans hx272_0
              replace p272 := eq_true p272
              replace q272 := eq_true q272
              have p273 : 0 ≤ (x7_1 : Int) := of_decide_eq_true (by first | (with_reducible assumption) | assumption)
              have q273 : x7_1 < (l1.length : Int) := of_decide_eq_true (by first | (with_reducible assumption) | assumption)
              obtain ⟨ad273, e273, hx273_0⟩ := Kd.at_int HR1.out x7_1 p273 q273
              obtain rfl : ad272 = ad273 := (by injection e273)
              replace hx273_0 := (HB.out.cell (World.block_lt_of_cell? w _ hx273_0)).trans hx273_0
              replace p273 := eq_true p273
              replace q273 := eq_true q273
              go_wp2
              go_ret
              exact ⟨by first | rfl | (simp [errW_none, errW_some] <;> rfl) | (simp [*, errW_none, errW_some] <;> rfl), by repeat (first | (with_reducible first | exact HB.out | apply below_alloc | apply pw_below_drewN | apply below_drew1 | refine below_set ?_ GE271.out) | exact HB.out)⟩
            · rw [if_neg c8] at H
              have c8b0 : decide (1000 < (rd l1 x7_1)) = false := decide_eq_false c8
              clear c8
              have H' := Aside0.mk H
              clear H
              have p272 : 0 ≤ (x7_1 : Int) := of_decide_eq_true (by first | (with_reducible assumption) | assumption)
              have q272 : x7_1 < (l1.length : Int) := of_decide_eq_true (by first | (with_reducible assumption) | assumption)
              obtain ⟨ad272, e272, hx272_0⟩ := Kd.at_int HR1.out x7_1 p272 q272
              cases e272
              replace hx272_0 := (HB.out.cell (World.block_lt_of_cell? w _ hx272_0)).trans hx272_0
              replace p272 := eq_true p272
              replace q272 := eq_true q272
              have p273 : 0 ≤ (x7_1 : Int) := of_decide_eq_true (by first | (with_reducible assumption) | assumption)
              have q273 : x7_1 < (l1.length : Int) := of_decide_eq_true (by first | (with_reducible assumption) | assumption)
              obtain ⟨ad273, e273, hx273_0⟩ := Kd.at_int HR1.out x7_1 p273 q273
              obtain rfl : ad272 = ad273 := (by injection e273)
              replace hx273_0 := (HB.out.cell (World.block_lt_of_cell? w _ hx273_0)).trans hx273_0
              replace p273 := eq_true p273
              replace q273 := eq_true q273
              go_wp2
              go_roundg k1
              case measure => have := HK1.out; omega
              case rel => exact ⟨(wrap64 (x7_1 + 1)), (by first | rfl | (simp; done) | (simp [*]; done)), H', ⟨by have := HK1.out; omega⟩, ⟨by (with_reducible repeat (first | refine blk_drewN ?_ _ | refine blk_drew ?_ | refine blk_alloc ?_ _)); exact BK271.out⟩, ⟨by repeat (first | (with_reducible first | exact HB.out | apply below_alloc | apply pw_below_drewN | apply below_drew1 | refine below_set ?_ GE271.out) | exact HB.out)⟩⟩
        · rw [if_neg c6] at H
          exact absurd H (by simp)
      · rw [if_neg c5] at H
        have c5b0 : decide (x7_1 < (l1.length : Int)) = false := decide_eq_false c5
        clear c5
        by_cases c9 : (l1.length : Int) = (l0_0.length : Int)
        · rw [if_pos c9] at H
          have c9b0 : ((l1.length : Int) == (l0_0.length : Int)) = true := beq_iff_eq.mpr c9
          have c9b1 : ((l1.length : Int) != (l0_0.length : Int)) = false := bne_eq_false_iff_eq.mpr c9
          have c9b2 : (l1.length == l0_0.length) = true := by first | simpa using c9 | (simp at c9 ⊢; omega)
          clear c9
          by_cases c10 : a2 ≥ 1
          · rw [if_pos c10] at H
            have c10b0 : decide (1 ≤ a2) = true := decide_eq_true c10
            clear c10
            obtain rfl := Option.some.inj H
            have hcz11_0 : wr.cell? ⟨gb271, 0, none⟩ = some (.slice A0_0 l0_0.length c0_0) := (blk_cell BK271.out 0).trans rfl
            have hcz11_1 : wr.cell? ⟨gb271, 1, none⟩ = some (.slice A0_1 l0_1.length c0_1) := (blk_cell BK271.out 1).trans rfl
            have hfz11_0 := blk_frozen BK271.out 0
            have hfz11_1 := blk_frozen BK271.out 1
            go_wp2
            go_ret
            exact ⟨by first | rfl | (simp [errW_none, errW_some] <;> rfl) | (simp [*, errW_none, errW_some] <;> rfl), by repeat (first | (with_reducible first | exact HB.out | apply below_alloc | apply pw_below_drewN | apply below_drew1 | refine below_set ?_ GE271.out) | exact HB.out)⟩
          · rw [if_neg c10] at H
            have c10b0 : decide (1 ≤ a2) = false := decide_eq_false c10
            clear c10
            obtain rfl := Option.some.inj H
            have hcz12_0 : wr.cell? ⟨gb271, 0, none⟩ = some (.slice A0_0 l0_0.length c0_0) := (blk_cell BK271.out 0).trans rfl
            have hcz12_1 : wr.cell? ⟨gb271, 1, none⟩ = some (.slice A0_1 l0_1.length c0_1) := (blk_cell BK271.out 1).trans rfl
            have hfz12_0 := blk_frozen BK271.out 0
            have hfz12_1 := blk_frozen BK271.out 1
            go_wp2
            go_ret
            exact ⟨by first | rfl | (simp [errW_none, errW_some] <;> rfl) | (simp [*, errW_none, errW_some] <;> rfl), by repeat (first | (with_reducible first | exact HB.out | apply below_alloc | apply pw_below_drewN | apply below_drew1 | refine below_set ?_ GE271.out) | exact HB.out)⟩
        · rw [if_neg c9] at H
          have c9b0 : ((l1.length : Int) == (l0_0.length : Int)) = false := beq_eq_false_iff_ne.mpr c9
          have c9b1 : ((l1.length : Int) != (l0_0.length : Int)) = true := bne_iff_ne.mpr c9
          have c9b2 : (l1.length == l0_0.length) = false := by first | simpa using c9 | (simp at c9 ⊢; omega)
          obtain rfl := Option.some.inj H
          have hcz13_0 : wr.cell? ⟨gb271, 0, none⟩ = some (.slice A0_0 l0_0.length c0_0) := (blk_cell BK271.out 0).trans rfl
          have hcz13_1 : wr.cell? ⟨gb271, 1, none⟩ = some (.slice A0_1 l0_1.length c0_1) := (blk_cell BK271.out 1).trans rfl
          have hfz13_0 := blk_frozen BK271.out 0
          have hfz13_1 := blk_frozen BK271.out 1
          go_wp2
          go_ret
          exact ⟨by first | rfl | (simp [errW_none, errW_some] <;> rfl) | (simp [*, errW_none, errW_some] <;> rfl), by repeat (first | (with_reducible first | exact HB.out | apply below_alloc | apply pw_below_drewN | apply below_drew1 | refine below_set ?_ GE271.out) | exact HB.out)⟩

end Go.Proofs.Ytnnbgfjokbaepaa.PSchedChecks
