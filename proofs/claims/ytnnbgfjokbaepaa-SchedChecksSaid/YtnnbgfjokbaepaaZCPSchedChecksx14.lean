/- Written by a program of this work: each theorem says that a call of the Go function comes to what the Lean function beside it tells, under the conditions that it names; Lean checks it. -/
import Derived.Test.YtnnbgfjokbaepaaZCPSchedChecksx0
import Derived.Test.YtnnbgfjokbaepaaZCPSchedChecksx13
namespace Go.Proofs.Ytnnbgfjokbaepaa.PSchedChecks
open Go.RowKit Go.Proofs.YtnnbgfjokbaepaaW.PrintWords Go.Proofs.YtnnbgfjokbaepaaW.PrintLast Go.Proofs.YtnnbgfjokbaepaaW.PrintMore
attribute [local go_sem] max2_int min2_int max_two min_two max_three min_three max_four min_four   -- for this text's walks alone
set_option linter.unusedVariables false
set_option linter.unusedSimpArgs false

/-! ### trefoilref10_One: function 30 -/
mutual
def trefoilref10_One.j0 : Nat → List Int → List (List Int) → Int → Int → Int → Bool → List Int → List (S45) → Option (Int)
  | 0, _, _, _, _, _, _, _, _ => none
  | k + 1, x1, x2, x3, x4, x11, x30, x284000, x284001 => if x30 = true then (some 101) else (trefoilref10_One.l0 k x1 x2 x3 x4 x11 0 x284000 x284001)
def trefoilref10_One.l0 : Nat → List Int → List (List Int) → Int → Int → Int → Int → List Int → List (S45) → Option (Int)
  | 0, _, _, _, _, _, _, _, _ => none
  | k + 1, x1, x2, x3, x4, x11, x12, x284000, x284001 => if x12 < x4 then (if 0 ≤ x3 then (if x3 < (x2.length : Int) then (if 0 ≤ x12 then (if x12 < ((rd_L2 x2 x3).length : Int) then (if (rd (rd_L2 x2 x3) x12) = x11 then (some 102) else (trefoilref10_One.l0 k x1 x2 x3 x4 x11 (wrap64 (x12 + 1)) x284000 x284001)) else (none)) else (none)) else (none)) else (none)) else ((trefoilref10_Ran.f k x2 x11 x3).bind fun t288 => (if 0 ≤ x11 then (if x11 < (x1.length : Int) then (if t288 ≥ (rd x1 x11) then (some 105) else (if t288 > 0 then (if 0 ≤ (wrap64 (x3 - 1)) then (if (wrap64 (x3 - 1)) < (x2.length : Int) then (if 0 ≤ x4 then (if x4 < ((rd_L2 x2 (wrap64 (x3 - 1))).length : Int) then (trefoilref10_One.j2 k x1 x2 x3 x11 t288 ((rd (rd_L2 x2 (wrap64 (x3 - 1))) x4) != x11) x284000 x284001) else (none)) else (none)) else (none)) else (none)) else (trefoilref10_One.j2 k x1 x2 x3 x11 t288 false x284000 x284001))) else (none)) else (none)))
def trefoilref10_One.j2 : Nat → List Int → List (List Int) → Int → Int → Int → Bool → List Int → List (S45) → Option (Int)
  | 0, _, _, _, _, _, _, _, _ => none
  | k + 1, x1, x2, x3, x11, x13, x68, x284000, x284001 => if x68 = true then (some 104) else (if x13 = 0 then ((trefoilref10_free.f k x284000 x284001 x1 x2 x11 x3).bind fun t292 => (if t292 = true then (some 0) else (some 103))) else (some 0))
end
def trefoilref10_One.f (k : Nat) (l0_0 : List Int) (l0_1 : List (S45)) (l1 : List Int) (l2 : List (List Int)) (a3 : Int) (a4 : Int) : Option (Int) := if 0 ≤ a3 then (if a3 < (l2.length : Int) then (if 0 ≤ a4 then (if a4 < ((rd_L2 l2 a3).length : Int) then (if (rd (rd_L2 l2 a3) a4) = (-1) then (some 0) else (if (rd (rd_L2 l2 a3) a4) < 0 then (trefoilref10_One.j0 k l1 l2 a3 a4 (rd (rd_L2 l2 a3) a4) true l0_0 l0_1) else (trefoilref10_One.j0 k l1 l2 a3 a4 (rd (rd_L2 l2 a3) a4) (decide ((rd (rd_L2 l2 a3) a4) ≥ (l1.length : Int))) l0_0 l0_1))) else (none)) else (none)) else (none)) else (none)
set_option maxHeartbeats 8000000 in
set_option maxRecDepth 100000 in
theorem trefoilref10_One.calls (k : Nat) (A0_0 : Option Addr) (c0_0 : Nat) (l0_0 : List Int) (A0_1 : Option Addr) (c0_1 : Nat) (l0_1 : List (S45)) (A1 : Option Addr) (c1 : Nat) (l1 : List Int) (A2 : Option Addr) (c2 : Nat) (l2 : List (List Int)) (a3 : Int) (a4 : Int) (r : Int) (w : World) (hr0_0 : Kd.C (Kd.int .i64) w A0_0 l0_0.length l0_0) (hc0_0 : l0_0.length ≤ c0_0) (hr0_1 : Kd.C k45 w A0_1 l0_1.length l0_1) (hc0_1 : l0_1.length ≤ c0_1) (hr1 : Kd.C (Kd.int .i64) w A1 l1.length l1) (hc1 : l1.length ≤ c1) (hr2 : Kd.C (Kd.slice 3 (Kd.int .i64)) w A2 l2.length l2) (hc2 : l2.length ≤ c2) (h : trefoilref10_One.f k l0_0 l0_1 l1 l2 a3 a4 = some r) :
    Calls Try.prog 30 #[.agg #[.slice A0_0 l0_0.length c0_0, .slice A0_1 l0_1.length c0_1], .slice A1 l1.length c1, .slice A2 l2.length c2, .int .i64 a3, .int .i64 a4] w fun e w' => e = .returned (.int .i64 r) ∧ Below w.heap.size w w' := by
  have hu25 := Try.underlying25
  have HR0_0 := Aside0.mk hr0_0
  have HC0_0 := Aside0.mk hc0_0
  clear hr0_0 hc0_0
  have HR0_1 := Aside0.mk hr0_1
  have HC0_1 := Aside0.mk hc0_1
  clear hr0_1 hc0_1
  have HR1 := Aside0.mk hr1
  have HC1 := Aside0.mk hc1
  clear hr1 hc1
  have HR2 := Aside0.mk hr2
  have HC2 := Aside0.mk hc2
  clear hr2 hc2
  have HB := Aside0.mk (Below.refl w.heap.size w)
  have H : (if 0 ≤ a3 then (if a3 < (l2.length : Int) then (if 0 ≤ a4 then (if a4 < ((rd_L2 l2 a3).length : Int) then (if (rd (rd_L2 l2 a3) a4) = (-1) then (some 0) else (if (rd (rd_L2 l2 a3) a4) < 0 then (trefoilref10_One.j0 k l1 l2 a3 a4 (rd (rd_L2 l2 a3) a4) true l0_0 l0_1) else (trefoilref10_One.j0 k l1 l2 a3 a4 (rd (rd_L2 l2 a3) a4) (decide ((rd (rd_L2 l2 a3) a4) ≥ (l1.length : Int))) l0_0 l0_1))) else (none)) else (none)) else (none)) else (none)) = some r := h
  clear h
  by_cases c6 : 0 ≤ a3
  · rw [if_pos c6] at H
    have c6b0 : decide (0 ≤ a3) = true := decide_eq_true c6
    clear c6
    by_cases c7 : a3 < (l2.length : Int)
    · rw [if_pos c7] at H
      have c7b0 : decide (a3 < (l2.length : Int)) = true := decide_eq_true c7
      clear c7
      by_cases c8 : 0 ≤ a4
      · rw [if_pos c8] at H
        have c8b0 : decide (0 ≤ a4) = true := decide_eq_true c8
        clear c8
        by_cases c9 : a4 < ((rd_L2 l2 a3).length : Int)
        · rw [if_pos c9] at H
          have c9b0 : decide (a4 < ((rd_L2 l2 a3).length : Int)) = true := decide_eq_true c9
          clear c9
          by_cases c10 : (rd (rd_L2 l2 a3) a4) = (-1)
          · rw [if_pos c10] at H
            have c10b0 : ((rd (rd_L2 l2 a3) a4) == (-1)) = true := beq_iff_eq.mpr c10
            have c10b1 : ((rd (rd_L2 l2 a3) a4) != (-1)) = false := bne_eq_false_iff_eq.mpr c10
            clear c10
            obtain rfl := Option.some.inj H
            go_enter Try.func30, Try.ntmps30
            go_wp2_with (first | ((with_reducible refine gate_dst (N := 5) rfl ?_); (try (refine gate_guard (by rfl) ?_; dsimp only)); refine box_event ?hg (N := 5) ?hd (cs := #[.slice A0_0 l0_0.length c0_0, .slice A0_1 l0_1.length c0_1]) (t := 25) ?hr ?_; (case hd => rfl); (case hg => rfl); (case hr => first | (go_simp; done) | (go_simp; rfl)); intro gb283 hg w11 hbox hb; have n0_ := Aside0.mk (below_step (by repeat (first | (with_reducible first | exact HB.out | apply below_alloc | apply pw_below_drewN | apply below_drew1) | exact HB.out)) hb); have n1_ := Aside0.mk (hbox); have n2_ := Aside0.mk ((by rw [hg]; exact (below_size (by repeat (first | (with_reducible first | exact HB.out | apply below_alloc | apply pw_below_drewN | apply below_drew1) | exact HB.out))) : w.heap.size ≤ gb283)); have n3_ := Aside0.mk ((by rw [hg]; exact (below_size (by repeat (first | (with_reducible first | exact HB.out | apply below_alloc | apply pw_below_drewN | apply below_drew1) | exact HB.out))) : w.heap.size ≤ gb283)); clear HB; have HB := n0_; have BK283 := n1_; have GW283 := n2_; have GE283 := n3_; clear n0_ n1_ n2_ n3_; clear hb hbox hg; have p284 : 0 ≤ (a3 : Int) := of_decide_eq_true (by first | (with_reducible assumption) | assumption); have q284 : a3 < (l2.length : Int) := of_decide_eq_true (by first | (with_reducible assumption) | assumption); obtain ⟨ad284, A284_0, c284_0, e284, hx284_0, hl284_0, hi284_0⟩ := at_L2 HR2.out a3 p284 q284; cases e284; replace hx284_0 := (HB.out.cell (World.block_lt_of_cell? w _ hx284_0)).trans hx284_0; have HR284_0 := Aside0.mk hi284_0; have HC284_0 := Aside0.mk hl284_0; clear hi284_0 hl284_0; replace p284 := eq_true p284; replace q284 := eq_true q284; have p285 : 0 ≤ (a4 : Int) := of_decide_eq_true (by first | (with_reducible assumption) | assumption); have q285 : a4 < ((rd_L2 l2 a3).length : Int) := of_decide_eq_true (by first | (with_reducible assumption) | assumption); obtain ⟨ad285, e285, hx285_0⟩ := Kd.at_int HR284_0.out a4 p285 q285; cases e285; replace hx285_0 := (HB.out.cell (World.block_lt_of_cell? w _ hx285_0)).trans hx285_0; replace p285 := eq_true p285; replace q285 := eq_true q285))
            go_ret
            exact ⟨by first | rfl | (simp [errW_none, errW_some] <;> rfl) | (simp [*, errW_none, errW_some] <;> rfl), by repeat (first | (with_reducible first | exact HB.out | apply below_alloc | apply pw_below_drewN | apply below_drew1 | refine below_set ?_ GE283.out) | exact HB.out)⟩
          · rw [if_neg c10] at H
            have c10b0 : ((rd (rd_L2 l2 a3) a4) == (-1)) = false := beq_eq_false_iff_ne.mpr c10
            have c10b1 : ((rd (rd_L2 l2 a3) a4) != (-1)) = true := bne_iff_ne.mpr c10
            have HC12 := Aside0.mk H
            clear H
            go_enter Try.func30, Try.ntmps30
            go_upto_region 4 with (first | ((with_reducible refine gate_dst (N := 5) rfl ?_); (try (refine gate_guard (by rfl) ?_; dsimp only)); refine box_event ?hg (N := 5) ?hd (cs := #[.slice A0_0 l0_0.length c0_0, .slice A0_1 l0_1.length c0_1]) (t := 25) ?hr ?_; (case hd => rfl); (case hg => rfl); (case hr => first | (go_simp; done) | (go_simp; rfl)); intro gb283 hg w13 hbox hb; have n0_ := Aside0.mk (below_step (by repeat (first | (with_reducible first | exact HB.out | apply below_alloc | apply pw_below_drewN | apply below_drew1) | exact HB.out)) hb); have n1_ := Aside0.mk (hbox); have n2_ := Aside0.mk ((by rw [hg]; exact (below_size (by repeat (first | (with_reducible first | exact HB.out | apply below_alloc | apply pw_below_drewN | apply below_drew1) | exact HB.out))) : w.heap.size ≤ gb283)); have n3_ := Aside0.mk ((by rw [hg]; exact (below_size (by repeat (first | (with_reducible first | exact HB.out | apply below_alloc | apply pw_below_drewN | apply below_drew1) | exact HB.out))) : w.heap.size ≤ gb283)); clear HB; have HB := n0_; have BK283 := n1_; have GW283 := n2_; have GE283 := n3_; clear n0_ n1_ n2_ n3_; clear hb hbox hg; have p284 : 0 ≤ (a3 : Int) := of_decide_eq_true (by first | (with_reducible assumption) | assumption); have q284 : a3 < (l2.length : Int) := of_decide_eq_true (by first | (with_reducible assumption) | assumption); obtain ⟨ad284, A284_0, c284_0, e284, hx284_0, hl284_0, hi284_0⟩ := at_L2 HR2.out a3 p284 q284; cases e284; replace hx284_0 := (HB.out.cell (World.block_lt_of_cell? w _ hx284_0)).trans hx284_0; have HR284_0 := Aside0.mk hi284_0; have HC284_0 := Aside0.mk hl284_0; clear hi284_0 hl284_0; replace p284 := eq_true p284; replace q284 := eq_true q284; have p285 : 0 ≤ (a4 : Int) := of_decide_eq_true (by first | (with_reducible assumption) | assumption); have q285 : a4 < ((rd_L2 l2 a3).length : Int) := of_decide_eq_true (by first | (with_reducible assumption) | assumption); obtain ⟨ad285, e285, hx285_0⟩ := Kd.at_int HR284_0.out a4 p285 q285; cases e285; replace hx285_0 := (HB.out.cell (World.block_lt_of_cell? w _ hx285_0)).trans hx285_0; replace p285 := eq_true p285; replace q285 := eq_true q285))
            (try simp only [Act.put, List.setIfInBounds_toArray, List.set_cons_zero, List.set_cons_succ])
            go_cut [30] (fun v30 wc => ∃ (kq : Nat) (x30_11 : Bool), v30 = .bool x30_11 ∧ Aside0 (trefoilref10_One.j0 kq l1 l2 a3 a4 (rd (rd_L2 l2 a3) a4) x30_11 l0_0 l0_1 = some r) ∧ Aside0 (kq ≤ k) ∧ Aside0 (wc.heap[gb283]? = some (.cells #[(.slice A0_0 l0_0.length c0_0), (.slice A0_1 l0_1.length c0_1)] 25 (0, 0))) ∧ Aside0 (Below w.heap.size w wc))
            case first =>
              have H := HC12.out
              clear HC12
              by_cases c14 : (rd (rd_L2 l2 a3) a4) < 0
              · rw [if_pos c14] at H
                have c14b0 : decide ((rd (rd_L2 l2 a3) a4) < 0) = true := decide_eq_true c14
                clear c14
                (first | rw [c14b0] | (simp only [i64_w, i32_w]; rw [c14b0]) | skip)
                have H' := Aside0.mk H
                clear H
                go_wp2
                go_meet
                case rel => exact ⟨_, (true), (by first | rfl | (simp; done) | (simp [*]; done)), H', ⟨by first | omega | exact Nat.le_refl _⟩, ⟨by (with_reducible repeat (first | refine blk_drewN ?_ _ | refine blk_drew ?_ | refine blk_alloc ?_ _)); exact BK283.out⟩, ⟨by repeat (first | (with_reducible first | exact HB.out | apply below_alloc | apply pw_below_drewN | apply below_drew1 | refine below_set ?_ GE283.out) | exact HB.out)⟩⟩
              · rw [if_neg c14] at H
                have c14b0 : decide ((rd (rd_L2 l2 a3) a4) < 0) = false := decide_eq_false c14
                clear c14
                (first | rw [c14b0] | (simp only [i64_w, i32_w]; rw [c14b0]) | skip)
                have H' := Aside0.mk H
                clear H
                go_wp2
                go_meet
                case rel => exact ⟨_, (decide ((rd (rd_L2 l2 a3) a4) ≥ (l1.length : Int))), (by first | rfl | (simp; done) | (simp [*]; done)), H', ⟨by first | omega | exact Nat.le_refl _⟩, ⟨by (with_reducible repeat (first | refine blk_drewN ?_ _ | refine blk_drew ?_ | refine blk_alloc ?_ _)); exact BK283.out⟩, ⟨by repeat (first | (with_reducible first | exact HB.out | apply below_alloc | apply pw_below_drewN | apply below_drew1 | refine below_set ?_ GE283.out) | exact HB.out)⟩⟩
            case rest =>
              clear HC12
              try clear c1
              try clear c2
              try clear p2
              try clear q2
              try clear hx2
              try clear c3
              try clear c6
              try clear c6b0
              try clear c7
              try clear c7b0
              try clear c8
              try clear c8b0
              try clear c9
              try clear c9b0
              try clear c10
              try clear c10b0
              try clear c10b1
              try clear c14
              try clear c14b0
              try clear hx284_0
              try clear hx285_0
              try clear p284
              try clear p285
              try clear q284
              try clear q285
              obtain ⟨kq, x30_11, rfl, HA, HJ11, BK283, HB⟩ := hcut
              cases kq with
              | zero => exact absurd HA.out (by simp [trefoilref10_One.j0])
              | succ kj11 =>
                have H := HA.out
                clear HA
                simp only [trefoilref10_One.j0] at H
                by_cases c15 : x30_11 = true
                · subst c15
                  have H1 : (some 101) = some r := by rw [if_pos rfl] at H; exact H
                  clear H
                  have H := H1
                  clear H1
                  obtain rfl := Option.some.inj H
                  go_wp2
                  go_ret
                  exact ⟨by first | rfl | (simp [errW_none, errW_some] <;> rfl) | (simp [*, errW_none, errW_some] <;> rfl), by repeat (first | (with_reducible first | exact HB.out | apply below_alloc | apply pw_below_drewN | apply below_drew1 | refine below_set ?_ GE283.out) | exact HB.out)⟩
                · replace c15 := Bool.eq_false_iff.mpr c15
                  subst c15
                  have H1 : (trefoilref10_One.l0 kj11 l1 l2 a3 a4 (rd (rd_L2 l2 a3) a4) 0 l0_0 l0_1) = some r := by rw [if_neg (show ¬ (false = true) by decide)] at H; exact H
                  clear H
                  have H := H1
                  clear H1
                  have H' := Aside0.mk H
                  clear H
                  go_wp2
                  go_loopg [12] kj11 (fun kq v12 w' => ∃ (x12_2 : Int), v12 = .int .i64 x12_2 ∧ Aside0 (trefoilref10_One.l0 kq l1 l2 a3 a4 (rd (rd_L2 l2 a3) a4) x12_2 l0_0 l0_1 = some r) ∧ Aside0 (kq ≤ kj11) ∧ Aside0 (w'.heap[gb283]? = some (.cells #[(.slice A0_0 l0_0.length c0_0), (.slice A0_1 l0_1.length c0_1)] 25 (0, 0))) ∧ Aside0 (Below w.heap.size w w'))
                  case atStart => exact ⟨(0), (by first | rfl | (simp; done) | (simp [*]; done)), H', ⟨Nat.le_refl _⟩, ⟨by (with_reducible repeat (first | refine blk_drewN ?_ _ | refine blk_drew ?_ | refine blk_alloc ?_ _)); exact BK283.out⟩, ⟨by repeat (first | (with_reducible first | exact HB.out | apply below_alloc | apply pw_below_drewN | apply below_drew1 | refine below_set ?_ GE283.out) | exact HB.out)⟩⟩
                  case round =>
                    clear H'
                    try clear c1
                    try clear c2
                    try clear p2
                    try clear q2
                    try clear hx2
                    try clear c3
                    try clear c6
                    try clear c6b0
                    try clear c7
                    try clear c7b0
                    try clear c8
                    try clear c8b0
                    try clear c9
                    try clear c9b0
                    try clear c10
                    try clear c10b0
                    try clear c10b1
                    try clear c14
                    try clear c14b0
                    try clear c15
                    try clear hx284_0
                    try clear hx285_0
                    try clear p2
                    try clear p284
                    try clear p285
                    try clear q2
                    try clear q284
                    try clear q285
                    obtain ⟨x12_2, rfl, HA, HK2, BK283, HB⟩ := hrel
                    cases gk with
                    | zero => exact absurd HA.out (by simp [trefoilref10_One.l0])
                    | succ k2 =>
                      have H := HA.out
                      clear HA
                      simp only [trefoilref10_One.l0] at H
                      by_cases c16 : x12_2 < a4
                      · rw [if_pos c16] at H
                        have c16b0 : decide (x12_2 < a4) = true := decide_eq_true c16
                        clear c16
                        by_cases c17 : 0 ≤ a3
                        · rw [if_pos c17] at H
                          have c17b0 : decide (0 ≤ a3) = true := decide_eq_true c17
                          clear c17
                          by_cases c18 : a3 < (l2.length : Int)
                          · rw [if_pos c18] at H
                            have c18b0 : decide (a3 < (l2.length : Int)) = true := decide_eq_true c18
                            clear c18
                            by_cases c19 : 0 ≤ x12_2
                            · rw [if_pos c19] at H
                              have c19b0 : decide (0 ≤ x12_2) = true := decide_eq_true c19
                              clear c19
                              by_cases c20 : x12_2 < ((rd_L2 l2 a3).length : Int)
                              · rw [if_pos c20] at H
                                have c20b0 : decide (x12_2 < ((rd_L2 l2 a3).length : Int)) = true := decide_eq_true c20
                                clear c20
                                by_cases c21 : (rd (rd_L2 l2 a3) x12_2) = (rd (rd_L2 l2 a3) a4)
                                · rw [if_pos c21] at H
                                  have c21b0 : ((rd (rd_L2 l2 a3) x12_2) == (rd (rd_L2 l2 a3) a4)) = true := beq_iff_eq.mpr c21
                                  have c21b1 : ((rd (rd_L2 l2 a3) x12_2) != (rd (rd_L2 l2 a3) a4)) = false := bne_eq_false_iff_eq.mpr c21
                                  clear c21
                                  obtain rfl := Option.some.inj H
                                  have p286 : 0 ≤ (a3 : Int) := of_decide_eq_true (by first | (with_reducible assumption) | assumption)
                                  have q286 : a3 < (l2.length : Int) := of_decide_eq_true (by first | (with_reducible assumption) | assumption)
                                  obtain ⟨ad286, A286_0, c286_0, e286, hx286_0, hl286_0, hi286_0⟩ := at_L2 HR2.out a3 p286 q286
                                  obtain rfl : ad284 = ad286 := (by injection e286)
                                  replace hx286_0 := (HB.out.cell (World.block_lt_of_cell? w _ hx286_0)).trans hx286_0
                                  have HR286_0 := Aside0.mk hi286_0
                                  have HC286_0 := Aside0.mk hl286_0
                                  clear hi286_0 hl286_0
                                  replace p286 := eq_true p286
                                  replace q286 := eq_true q286
                                  have p287 : 0 ≤ (x12_2 : Int) := of_decide_eq_true (by first | (with_reducible assumption) | assumption)
                                  have q287 : x12_2 < ((rd_L2 l2 a3).length : Int) := of_decide_eq_true (by first | (with_reducible assumption) | assumption)
                                  obtain ⟨ad287, e287, hx287_0⟩ := Kd.at_int HR286_0.out x12_2 p287 q287
                                  cases e287
                                  replace hx287_0 := (HB.out.cell (World.block_lt_of_cell? w _ hx287_0)).trans hx287_0
                                  replace p287 := eq_true p287
                                  replace q287 := eq_true q287
                                  go_wp2
                                  go_ret
                                  exact ⟨by first | rfl | (simp [errW_none, errW_some] <;> rfl) | (simp [*, errW_none, errW_some] <;> rfl), by repeat (first | (with_reducible first | exact HB.out | apply below_alloc | apply pw_below_drewN | apply below_drew1 | refine below_set ?_ GE283.out) | exact HB.out)⟩
                                · rw [if_neg c21] at H
                                  have c21b0 : ((rd (rd_L2 l2 a3) x12_2) == (rd (rd_L2 l2 a3) a4)) = false := beq_eq_false_iff_ne.mpr c21
                                  have c21b1 : ((rd (rd_L2 l2 a3) x12_2) != (rd (rd_L2 l2 a3) a4)) = true := bne_iff_ne.mpr c21
                                  have H' := Aside0.mk H
                                  clear H
                                  have p286 : 0 ≤ (a3 : Int) := of_decide_eq_true (by first | (with_reducible assumption) | assumption)
                                  have q286 : a3 < (l2.length : Int) := of_decide_eq_true (by first | (with_reducible assumption) | assumption)
                                  obtain ⟨ad286, A286_0, c286_0, e286, hx286_0, hl286_0, hi286_0⟩ := at_L2 HR2.out a3 p286 q286
                                  obtain rfl : ad284 = ad286 := (by injection e286)
                                  replace hx286_0 := (HB.out.cell (World.block_lt_of_cell? w _ hx286_0)).trans hx286_0
                                  have HR286_0 := Aside0.mk hi286_0
                                  have HC286_0 := Aside0.mk hl286_0
                                  clear hi286_0 hl286_0
                                  replace p286 := eq_true p286
                                  replace q286 := eq_true q286
                                  have p287 : 0 ≤ (x12_2 : Int) := of_decide_eq_true (by first | (with_reducible assumption) | assumption)
                                  have q287 : x12_2 < ((rd_L2 l2 a3).length : Int) := of_decide_eq_true (by first | (with_reducible assumption) | assumption)
                                  obtain ⟨ad287, e287, hx287_0⟩ := Kd.at_int HR286_0.out x12_2 p287 q287
                                  cases e287
                                  replace hx287_0 := (HB.out.cell (World.block_lt_of_cell? w _ hx287_0)).trans hx287_0
                                  replace p287 := eq_true p287
                                  replace q287 := eq_true q287
                                  go_wp2
                                  go_roundg k2
                                  case measure => have := HJ11.out; have := HK2.out; omega
                                  case rel => exact ⟨(wrap64 (x12_2 + 1)), (by first | rfl | (simp; done) | (simp [*]; done)), H', ⟨by have := HJ11.out; have := HK2.out; omega⟩, ⟨by (with_reducible repeat (first | refine blk_drewN ?_ _ | refine blk_drew ?_ | refine blk_alloc ?_ _)); exact BK283.out⟩, ⟨by repeat (first | (with_reducible first | exact HB.out | apply below_alloc | apply pw_below_drewN | apply below_drew1 | refine below_set ?_ GE283.out) | exact HB.out)⟩⟩
                              · rw [if_neg c20] at H
                                exact absurd H (by simp)
                            · rw [if_neg c19] at H
                              exact absurd H (by simp)
                          · rw [if_neg c18] at H
                            exact absurd H (by simp)
                        · rw [if_neg c17] at H
                          exact absurd H (by simp)
                      · rw [if_neg c16] at H
                        have c16b0 : decide (x12_2 < a4) = false := decide_eq_false c16
                        clear c16
                        replace H := Option.bind_eq_some_iff.mp H
                        obtain ⟨t288, A220, H⟩ := H
                        replace H : (if 0 ≤ (rd (rd_L2 l2 a3) a4) then (if (rd (rd_L2 l2 a3) a4) < (l1.length : Int) then (if t288 ≥ (rd l1 (rd (rd_L2 l2 a3) a4)) then (some 105) else (if t288 > 0 then (if 0 ≤ (wrap64 (a3 - 1)) then (if (wrap64 (a3 - 1)) < (l2.length : Int) then (if 0 ≤ a4 then (if a4 < ((rd_L2 l2 (wrap64 (a3 - 1))).length : Int) then (trefoilref10_One.j2 k2 l1 l2 a3 (rd (rd_L2 l2 a3) a4) t288 ((rd (rd_L2 l2 (wrap64 (a3 - 1))) a4) != (rd (rd_L2 l2 a3) a4)) l0_0 l0_1) else (none)) else (none)) else (none)) else (none)) else (trefoilref10_One.j2 k2 l1 l2 a3 (rd (rd_L2 l2 a3) a4) t288 false l0_0 l0_1))) else (none)) else (none)) = some r := H
                        have A22 := Aside0.mk A220
                        clear A220
                        by_cases c23 : 0 ≤ (rd (rd_L2 l2 a3) a4)
                        · rw [if_pos c23] at H
                          have c23b0 : decide (0 ≤ (rd (rd_L2 l2 a3) a4)) = true := decide_eq_true c23
                          clear c23
                          by_cases c24 : (rd (rd_L2 l2 a3) a4) < (l1.length : Int)
                          · rw [if_pos c24] at H
                            have c24b0 : decide ((rd (rd_L2 l2 a3) a4) < (l1.length : Int)) = true := decide_eq_true c24
                            clear c24
                            by_cases c25 : t288 ≥ (rd l1 (rd (rd_L2 l2 a3) a4))
                            · rw [if_pos c25] at H
                              have c25b0 : decide ((rd l1 (rd (rd_L2 l2 a3) a4)) ≤ t288) = true := decide_eq_true c25
                              clear c25
                              obtain rfl := Option.some.inj H
                              go_wp2_with (first | ((with_reducible refine gate_callee (f := 36) rfl ?_); refine goesL_ (some 48) rfl rfl Try.func36 (by kernel_rfl) rfl #[.slice (some ad284) l2.length c2, .int .i64 (rd (rd_L2 l2 a3) a4), .int .i64 a3] rfl (by (try simp only [List.map_toArray, List.map_cons, List.map_nil]); first | done | rfl | (simp only [List.length_drop, List.length_take]; rfl)) ?_; (with_reducible refine (trefoilref10_Ran.calls k2 _ _ l2 (rd (rd_L2 l2 a3) a4) a3 t288 _ ?side1 ?side2 A22.out).mono ?_); (case side1 => repeat (first | exact (Kd.C_below HR2.out HB.out) | (with_reducible refine Kd.C_alloc ?_ _) | (with_reducible refine Kd.C_drewN ?_ _) | (with_reducible refine Kd.C_drew ?_))); (case side2 => exact HC2.out); rintro e w' ⟨rfl, ⟨nd, rfl⟩⟩; refine ⟨_, rfl, ?_⟩; have p289 : 0 ≤ ((rd (rd_L2 l2 a3) a4) : Int) := of_decide_eq_true (by first | (with_reducible assumption) | assumption); have q289 : (rd (rd_L2 l2 a3) a4) < (l1.length : Int) := of_decide_eq_true (by first | (with_reducible assumption) | assumption); obtain ⟨ad289, e289, hx289_0⟩ := Kd.at_int HR1.out (rd (rd_L2 l2 a3) a4) p289 q289; cases e289; replace hx289_0 := (HB.out.cell (World.block_lt_of_cell? w _ hx289_0)).trans hx289_0; replace p289 := eq_true p289; replace q289 := eq_true q289))
                              go_ret
                              exact ⟨by first | rfl | (simp [errW_none, errW_some] <;> rfl) | (simp [*, errW_none, errW_some] <;> rfl), by repeat (first | (with_reducible first | exact HB.out | apply below_alloc | apply pw_below_drewN | apply below_drew1 | refine below_set ?_ GE283.out) | exact HB.out)⟩
                            · rw [if_neg c25] at H
                              have c25b0 : decide ((rd l1 (rd (rd_L2 l2 a3) a4)) ≤ t288) = false := decide_eq_false c25
                              clear c25
                              have HC26 := Aside0.mk H
                              clear H
                              go_upto_region 14 with (first | ((with_reducible refine gate_callee (f := 36) rfl ?_); refine goesL_ (some 48) rfl rfl Try.func36 (by kernel_rfl) rfl #[.slice (some ad284) l2.length c2, .int .i64 (rd (rd_L2 l2 a3) a4), .int .i64 a3] rfl (by (try simp only [List.map_toArray, List.map_cons, List.map_nil]); first | done | rfl | (simp only [List.length_drop, List.length_take]; rfl)) ?_; (with_reducible refine (trefoilref10_Ran.calls k2 _ _ l2 (rd (rd_L2 l2 a3) a4) a3 t288 _ ?side1 ?side2 A22.out).mono ?_); (case side1 => repeat (first | exact (Kd.C_below HR2.out HB.out) | (with_reducible refine Kd.C_alloc ?_ _) | (with_reducible refine Kd.C_drewN ?_ _) | (with_reducible refine Kd.C_drew ?_))); (case side2 => exact HC2.out); rintro e w' ⟨rfl, ⟨nd, rfl⟩⟩; refine ⟨_, rfl, ?_⟩; have p289 : 0 ≤ ((rd (rd_L2 l2 a3) a4) : Int) := of_decide_eq_true (by first | (with_reducible assumption) | assumption); have q289 : (rd (rd_L2 l2 a3) a4) < (l1.length : Int) := of_decide_eq_true (by first | (with_reducible assumption) | assumption); obtain ⟨ad289, e289, hx289_0⟩ := Kd.at_int HR1.out (rd (rd_L2 l2 a3) a4) p289 q289; cases e289; replace hx289_0 := (HB.out.cell (World.block_lt_of_cell? w _ hx289_0)).trans hx289_0; replace p289 := eq_true p289; replace q289 := eq_true q289))
                              (try simp only [Act.put, List.setIfInBounds_toArray, List.set_cons_zero, List.set_cons_succ])
                              go_cut [68] (fun v68 wc => ∃ (kq : Nat) (x68_25 : Bool), v68 = .bool x68_25 ∧ Aside0 (trefoilref10_One.j2 kq l1 l2 a3 (rd (rd_L2 l2 a3) a4) t288 x68_25 l0_0 l0_1 = some r) ∧ Aside0 (kq ≤ k2) ∧ Aside0 (wc.heap[gb283]? = some (.cells #[(.slice A0_0 l0_0.length c0_0), (.slice A0_1 l0_1.length c0_1)] 25 (0, 0))) ∧ Aside0 (Below w.heap.size w wc))
                              case first =>
                                have H := HC26.out
                                clear HC26
                                by_cases c27 : t288 > 0
                                · rw [if_pos c27] at H
                                  have c27b0 : decide (0 < t288) = true := decide_eq_true c27
                                  clear c27
                                  (first | rw [c27b0] | (simp only [i64_w, i32_w]; rw [c27b0]) | skip)
                                  obtain ⟨ji28, hji28⟩ : ∃ j_ : Int, (wrap64 (a3 - 1)) = j_ := ⟨_, rfl⟩
                                  replace H : (if 0 ≤ (ji28) then (if (ji28) < (l2.length : Int) then (if 0 ≤ a4 then (if a4 < ((rd_L2 l2 (ji28)).length : Int) then (trefoilref10_One.j2 k2 l1 l2 a3 (rd (rd_L2 l2 a3) a4) t288 ((rd (rd_L2 l2 (ji28)) a4) != (rd (rd_L2 l2 a3) a4)) l0_0 l0_1) else (none)) else (none)) else (none)) else (none)) = some r := by first | (rw [hji28] at H; exact H) | (simp only [hji28] at H ⊢; exact H)
                                  have hji28w : (IntKind.i64.wrap (a3 - 1)) = ji28 := (i64_w _).trans hji28
                                  by_cases c29 : 0 ≤ (ji28)
                                  · rw [if_pos c29] at H
                                    have c29b0 : decide (0 ≤ (ji28)) = true := decide_eq_true c29
                                    clear c29
                                    by_cases c30 : (ji28) < (l2.length : Int)
                                    · rw [if_pos c30] at H
                                      have c30b0 : decide ((ji28) < (l2.length : Int)) = true := decide_eq_true c30
                                      clear c30
                                      by_cases c31 : 0 ≤ a4
                                      · rw [if_pos c31] at H
                                        have c31b0 : decide (0 ≤ a4) = true := decide_eq_true c31
                                        clear c31
                                        by_cases c32 : a4 < ((rd_L2 l2 (ji28)).length : Int)
                                        · rw [if_pos c32] at H
                                          have c32b0 : decide (a4 < ((rd_L2 l2 (ji28)).length : Int)) = true := decide_eq_true c32
                                          clear c32
                                          have H' := Aside0.mk H
                                          clear H
                                          have p290 : 0 ≤ ((ji28) : Int) := of_decide_eq_true (by first | (with_reducible assumption) | assumption)
                                          have q290 : (ji28) < (l2.length : Int) := of_decide_eq_true (by first | (with_reducible assumption) | assumption)
                                          obtain ⟨ad290, A290_0, c290_0, e290, hx290_0, hl290_0, hi290_0⟩ := at_L2 HR2.out (ji28) p290 q290
                                          obtain rfl : ad284 = ad290 := (by injection e290)
                                          replace hx290_0 := (HB.out.cell (World.block_lt_of_cell? w _ hx290_0)).trans hx290_0
                                          have HR290_0 := Aside0.mk hi290_0
                                          have HC290_0 := Aside0.mk hl290_0
                                          clear hi290_0 hl290_0
                                          replace p290 := eq_true p290
                                          replace q290 := eq_true q290
                                          have p291 : 0 ≤ (a4 : Int) := of_decide_eq_true (by first | (with_reducible assumption) | assumption)
                                          have q291 : a4 < ((rd_L2 l2 (ji28)).length : Int) := of_decide_eq_true (by first | (with_reducible assumption) | assumption)
                                          obtain ⟨ad291, e291, hx291_0⟩ := Kd.at_int HR290_0.out a4 p291 q291
                                          cases e291
                                          replace hx291_0 := (HB.out.cell (World.block_lt_of_cell? w _ hx291_0)).trans hx291_0
                                          replace p291 := eq_true p291
                                          replace q291 := eq_true q291
                                          go_wp2
                                          go_meet
                                          case rel => exact ⟨_, (((rd (rd_L2 l2 (ji28)) a4) != (rd (rd_L2 l2 a3) a4))), (by first | rfl | (simp; done) | (simp only [← hji28] <;> (first | rfl | simp)) | (simp [*]; done)), H', ⟨by have := HJ11.out; have := HK2.out; first | omega | exact Nat.le_refl _⟩, ⟨by (with_reducible repeat (first | refine blk_drewN ?_ _ | refine blk_drew ?_ | refine blk_alloc ?_ _)); exact BK283.out⟩, ⟨by repeat (first | (with_reducible first | exact HB.out | apply below_alloc | apply pw_below_drewN | apply below_drew1 | refine below_set ?_ GE283.out) | exact HB.out)⟩⟩
                                        · rw [if_neg c32] at H
                                          exact absurd H (by simp)
                                      · rw [if_neg c31] at H
                                        exact absurd H (by simp)
                                    · rw [if_neg c30] at H
                                      exact absurd H (by simp)
                                  · rw [if_neg c29] at H
                                    exact absurd H (by simp)
                                · rw [if_neg c27] at H
                                  have c27b0 : decide (0 < t288) = false := decide_eq_false c27
                                  clear c27
                                  (first | rw [c27b0] | (simp only [i64_w, i32_w]; rw [c27b0]) | skip)
                                  have H' := Aside0.mk H
                                  clear H
                                  go_wp2
                                  go_meet
                                  case rel => exact ⟨_, (false), (by first | rfl | (simp; done) | (simp [*]; done)), H', ⟨by have := HJ11.out; have := HK2.out; first | omega | exact Nat.le_refl _⟩, ⟨by (with_reducible repeat (first | refine blk_drewN ?_ _ | refine blk_drew ?_ | refine blk_alloc ?_ _)); exact BK283.out⟩, ⟨by repeat (first | (with_reducible first | exact HB.out | apply below_alloc | apply pw_below_drewN | apply below_drew1 | refine below_set ?_ GE283.out) | exact HB.out)⟩⟩
                              case rest =>
                                clear HC26
                                try clear c1
                                try clear c2
                                try clear p2
                                try clear q2
                                try clear hx2
                                try clear c3
                                try clear c6
                                try clear c6b0
                                try clear p6
                                try clear c7
                                try clear c7b0
                                try clear c8
                                try clear c8b0
                                try clear c9
                                try clear c9b0
                                try clear c10
                                try clear c10b0
                                try clear c10b1
                                try clear c14
                                try clear c14b0
                                try clear c15
                                try clear c16
                                try clear c16b0
                                try clear c17
                                try clear c17b0
                                try clear c18
                                try clear c18b0
                                try clear c19
                                try clear c19b0
                                try clear c20
                                try clear c20b0
                                try clear c21
                                try clear c21b0
                                try clear c21b1
                                try clear c23
                                try clear c23b0
                                try clear c24
                                try clear c24b0
                                try clear c25
                                try clear c25b0
                                try clear c27
                                try clear c27b0
                                try clear c28
                                try clear p28
                                try clear q28
                                try clear hx28
                                try clear c29
                                try clear c29b0
                                try clear p29
                                try clear q29
                                try clear hx29
                                try clear c30
                                try clear c30b0
                                try clear c31
                                try clear c31b0
                                try clear c32
                                try clear c32b0
                                try clear hx284_0
                                try clear hx285_0
                                try clear hx286_0
                                try clear hx287_0
                                try clear hx289_0
                                try clear hx290_0
                                try clear hx291_0
                                try clear p2
                                try clear p284
                                try clear p285
                                try clear p286
                                try clear p287
                                try clear p289
                                try clear p290
                                try clear p291
                                try clear q2
                                try clear q284
                                try clear q285
                                try clear q286
                                try clear q287
                                try clear q289
                                try clear q290
                                try clear q291
                                obtain ⟨kq, x68_25, rfl, HA, HJ25, BK283, HB⟩ := hcut
                                cases kq with
                                | zero => exact absurd HA.out (by simp [trefoilref10_One.j2])
                                | succ kj25 =>
                                  have H := HA.out
                                  clear HA
                                  simp only [trefoilref10_One.j2] at H
                                  by_cases c33 : x68_25 = true
                                  · subst c33
                                    have H1 : (some 104) = some r := by rw [if_pos rfl] at H; exact H
                                    clear H
                                    have H := H1
                                    clear H1
                                    obtain rfl := Option.some.inj H
                                    go_wp2
                                    go_ret
                                    exact ⟨by first | rfl | (simp [errW_none, errW_some] <;> rfl) | (simp [*, errW_none, errW_some] <;> rfl), by repeat (first | (with_reducible first | exact HB.out | apply below_alloc | apply pw_below_drewN | apply below_drew1 | refine below_set ?_ GE283.out) | exact HB.out)⟩
                                  · replace c33 := Bool.eq_false_iff.mpr c33
                                    subst c33
                                    have H1 : (if t288 = 0 then ((trefoilref10_free.f kj25 l0_0 l0_1 l1 l2 (rd (rd_L2 l2 a3) a4) a3).bind fun t292 => (if t292 = true then (some 0) else (some 103))) else (some 0)) = some r := by rw [if_neg (show ¬ (false = true) by decide)] at H; exact H
                                    clear H
                                    have H := H1
                                    clear H1
                                    by_cases c34 : t288 = 0
                                    · rw [if_pos c34] at H
                                      have c34b0 : (t288 == 0) = true := beq_iff_eq.mpr c34
                                      have c34b1 : (t288 != 0) = false := bne_eq_false_iff_eq.mpr c34
                                      clear c34
                                      replace H := Option.bind_eq_some_iff.mp H
                                      obtain ⟨t292, A350, H⟩ := H
                                      replace H : (if t292 = true then (some 0) else (some 103)) = some r := H
                                      have A35 := Aside0.mk A350
                                      clear A350
                                      by_cases c36 : t292 = true
                                      · subst c36
                                        have H1 : (some 0) = some r := by rw [if_pos rfl] at H; exact H
                                        clear H
                                        have H := H1
                                        clear H1
                                        obtain rfl := Option.some.inj H
                                        have hcz37_0 : wc.cell? ⟨gb283, 0, none⟩ = some (.slice A0_0 l0_0.length c0_0) := (blk_cell BK283.out 0).trans rfl
                                        have hcz37_1 : wc.cell? ⟨gb283, 1, none⟩ = some (.slice A0_1 l0_1.length c0_1) := (blk_cell BK283.out 1).trans rfl
                                        have hfz37_0 := blk_frozen BK283.out 0
                                        have hfz37_1 := blk_frozen BK283.out 1
                                        go_wp2_with (first | (go_at_call 38; (with_reducible refine (trefoilref10_free.calls kj25 _ _ l0_0 _ _ l0_1 _ _ l1 _ _ l2 (rd (rd_L2 l2 a3) a4) a3 true _ ?side1 ?side2 ?side3 ?side4 ?side5 ?side6 ?side7 ?side8 A35.out).mono ?_); (case side1 => repeat (first | exact (Kd.C_below HR0_0.out HB.out) | (with_reducible refine Kd.C_alloc ?_ _) | (with_reducible refine Kd.C_drewN ?_ _) | (with_reducible refine Kd.C_drew ?_))); (case side2 => exact HC0_0.out); (case side3 => repeat (first | exact (Kd.C_below HR0_1.out HB.out) | (with_reducible refine Kd.C_alloc ?_ _) | (with_reducible refine Kd.C_drewN ?_ _) | (with_reducible refine Kd.C_drew ?_))); (case side4 => exact HC0_1.out); (case side5 => repeat (first | exact (Kd.C_below HR1.out HB.out) | (with_reducible refine Kd.C_alloc ?_ _) | (with_reducible refine Kd.C_drewN ?_ _) | (with_reducible refine Kd.C_drew ?_))); (case side6 => exact HC1.out); (case side7 => repeat (first | exact (Kd.C_below HR2.out HB.out) | (with_reducible refine Kd.C_alloc ?_ _) | (with_reducible refine Kd.C_drewN ?_ _) | (with_reducible refine Kd.C_drew ?_))); (case side8 => exact HC2.out); rintro e w38 ⟨rfl, hb⟩; have n0_ := Aside0.mk (blk_below (g := gb283) (o := .cells #[.slice A0_0 l0_0.length c0_0, .slice A0_1 l0_1.length c0_1] 25 (0, 0)) (by (with_reducible repeat (first | refine blk_drewN ?_ _ | refine blk_drew ?_ | refine blk_alloc ?_ _)); exact BK283.out) hb); have n1_ := Aside0.mk (below_step (by repeat (first | (with_reducible first | exact HB.out | apply below_alloc | apply pw_below_drewN | apply below_drew1 | refine below_set ?_ GE283.out) | exact HB.out)) hb); clear BK283; clear HB; have BK283 := n0_; have HB := n1_; clear n0_ n1_; (try clear hb); (try clear hb2); (try clear hk); (try clear hi)))
                                        go_ret
                                        exact ⟨by first | rfl | (simp [errW_none, errW_some] <;> rfl) | (simp [*, errW_none, errW_some] <;> rfl), by repeat (first | (with_reducible first | exact HB.out | apply below_alloc | apply pw_below_drewN | apply below_drew1 | refine below_set ?_ GE283.out) | exact HB.out)⟩
                                      · replace c36 := Bool.eq_false_iff.mpr c36
                                        subst c36
                                        have H1 : (some 103) = some r := by rw [if_neg (show ¬ (false = true) by decide)] at H; exact H
                                        clear H
                                        have H := H1
                                        clear H1
                                        obtain rfl := Option.some.inj H
                                        have hcz39_0 : wc.cell? ⟨gb283, 0, none⟩ = some (.slice A0_0 l0_0.length c0_0) := (blk_cell BK283.out 0).trans rfl
                                        have hcz39_1 : wc.cell? ⟨gb283, 1, none⟩ = some (.slice A0_1 l0_1.length c0_1) := (blk_cell BK283.out 1).trans rfl
                                        have hfz39_0 := blk_frozen BK283.out 0
                                        have hfz39_1 := blk_frozen BK283.out 1
                                        go_wp2_with (first | (go_at_call 38; (with_reducible refine (trefoilref10_free.calls kj25 _ _ l0_0 _ _ l0_1 _ _ l1 _ _ l2 (rd (rd_L2 l2 a3) a4) a3 false _ ?side1 ?side2 ?side3 ?side4 ?side5 ?side6 ?side7 ?side8 A35.out).mono ?_); (case side1 => repeat (first | exact (Kd.C_below HR0_0.out HB.out) | (with_reducible refine Kd.C_alloc ?_ _) | (with_reducible refine Kd.C_drewN ?_ _) | (with_reducible refine Kd.C_drew ?_))); (case side2 => exact HC0_0.out); (case side3 => repeat (first | exact (Kd.C_below HR0_1.out HB.out) | (with_reducible refine Kd.C_alloc ?_ _) | (with_reducible refine Kd.C_drewN ?_ _) | (with_reducible refine Kd.C_drew ?_))); (case side4 => exact HC0_1.out); (case side5 => repeat (first | exact (Kd.C_below HR1.out HB.out) | (with_reducible refine Kd.C_alloc ?_ _) | (with_reducible refine Kd.C_drewN ?_ _) | (with_reducible refine Kd.C_drew ?_))); (case side6 => exact HC1.out); (case side7 => repeat (first | exact (Kd.C_below HR2.out HB.out) | (with_reducible refine Kd.C_alloc ?_ _) | (with_reducible refine Kd.C_drewN ?_ _) | (with_reducible refine Kd.C_drew ?_))); (case side8 => exact HC2.out); rintro e w40 ⟨rfl, hb⟩; have n0_ := Aside0.mk (blk_below (g := gb283) (o := .cells #[.slice A0_0 l0_0.length c0_0, .slice A0_1 l0_1.length c0_1] 25 (0, 0)) (by (with_reducible repeat (first | refine blk_drewN ?_ _ | refine blk_drew ?_ | refine blk_alloc ?_ _)); exact BK283.out) hb); have n1_ := Aside0.mk (below_step (by repeat (first | (with_reducible first | exact HB.out | apply below_alloc | apply pw_below_drewN | apply below_drew1 | refine below_set ?_ GE283.out) | exact HB.out)) hb); clear BK283; clear HB; have BK283 := n0_; have HB := n1_; clear n0_ n1_; (try clear hb); (try clear hb2); (try clear hk); (try clear hi)))
                                        go_ret
                                        exact ⟨by first | rfl | (simp [errW_none, errW_some] <;> rfl) | (simp [*, errW_none, errW_some] <;> rfl), by repeat (first | (with_reducible first | exact HB.out | apply below_alloc | apply pw_below_drewN | apply below_drew1 | refine below_set ?_ GE283.out) | exact HB.out)⟩
                                    · rw [if_neg c34] at H
                                      have c34b0 : (t288 == 0) = false := beq_eq_false_iff_ne.mpr c34
                                      have c34b1 : (t288 != 0) = true := bne_iff_ne.mpr c34
                                      obtain rfl := Option.some.inj H
                                      go_wp2
                                      go_ret
                                      exact ⟨by first | rfl | (simp [errW_none, errW_some] <;> rfl) | (simp [*, errW_none, errW_some] <;> rfl), by repeat (first | (with_reducible first | exact HB.out | apply below_alloc | apply pw_below_drewN | apply below_drew1 | refine below_set ?_ GE283.out) | exact HB.out)⟩
                          · rw [if_neg c24] at H
                            exact absurd H (by simp)
                        · rw [if_neg c23] at H
                          exact absurd H (by simp)
        · rw [if_neg c9] at H
          exact absurd H (by simp)
      · rw [if_neg c8] at H
        exact absurd H (by simp)
    · rw [if_neg c7] at H
      exact absurd H (by simp)
  · rw [if_neg c6] at H
    exact absurd H (by simp)

end Go.Proofs.Ytnnbgfjokbaepaa.PSchedChecks
