/- Written by a program of this work: each theorem says that a call of the Go function comes to what the Lean function beside it tells, under the conditions that it names; Lean checks it. -/
import Derived.Test.YtnnbgfjokbaepaaZCPSchedChecksx0
import Derived.Test.YtnnbgfjokbaepaaZCPSchedChecksx13
import Derived.Test.YtnnbgfjokbaepaaZCPSchedChecksx16
namespace Go.Proofs.Ytnnbgfjokbaepaa.PSchedChecks
open Go.RowKit Go.Proofs.YtnnbgfjokbaepaaW.PrintWords Go.Proofs.YtnnbgfjokbaepaaW.PrintLast Go.Proofs.YtnnbgfjokbaepaaW.PrintMore
attribute [local go_sem] max2_int min2_int max_two min_two max_three min_three max_four min_four   -- for this text's walks alone
set_option linter.unusedVariables false
set_option linter.unusedSimpArgs false

/-! ### trefoilref10_Greedy: function 22 -/
mutual
def trefoilref10_Greedy.l0 : Nat → List Int → List (List Int) → Int → List Int → List (S45) → Option (Bool)
  | 0, _, _, _, _, _ => none
  | k + 1, x1, x2, x7, x341000, x341001 => if x7 < (x2.length : Int) then (if 0 ≤ x7 then ((trefoilref04_Has.f k (rd_L2 x2 x7) (-1)).bind fun t342 => (if t342 = true then (trefoilref10_Greedy.l1 k x1 x2 x7 0 x341000 x341001) else (trefoilref10_Greedy.l0 k x1 x2 (wrap64 (x7 + 1)) x341000 x341001))) else (none)) else (some true)
def trefoilref10_Greedy.l1 : Nat → List Int → List (List Int) → Int → Int → List Int → List (S45) → Option (Bool)
  | 0, _, _, _, _, _, _ => none
  | k + 1, x1, x2, x7, x8, x341000, x341001 => if x8 < (x1.length : Int) then ((trefoilref10_Ran.f k x2 x8 x7).bind fun t343 => (if t343 = 0 then (if 0 ≤ x7 then (if x7 < (x2.length : Int) then ((trefoilref04_Has.f k (rd_L2 x2 x7) x8).bind fun t345 => (if t345 = true then (trefoilref10_Greedy.l1 k x1 x2 x7 (wrap64 (x8 + 1)) x341000 x341001) else ((trefoilref10_free.f k x341000 x341001 x1 x2 x8 x7).bind fun t346 => (if t346 = true then (some false) else (trefoilref10_Greedy.l1 k x1 x2 x7 (wrap64 (x8 + 1)) x341000 x341001))))) else (none)) else (none)) else (trefoilref10_Greedy.l1 k x1 x2 x7 (wrap64 (x8 + 1)) x341000 x341001))) else (trefoilref10_Greedy.l0 k x1 x2 (wrap64 (x7 + 1)) x341000 x341001)
end
def trefoilref10_Greedy.f (k : Nat) (l0_0 : List Int) (l0_1 : List (S45)) (l1 : List Int) (l2 : List (List Int)) : Option (Bool) := trefoilref10_Greedy.l0 k l1 l2 0 l0_0 l0_1
set_option maxHeartbeats 8000000 in
set_option maxRecDepth 100000 in
theorem trefoilref10_Greedy.calls (k : Nat) (A0_0 : Option Addr) (c0_0 : Nat) (l0_0 : List Int) (A0_1 : Option Addr) (c0_1 : Nat) (l0_1 : List (S45)) (A1 : Option Addr) (c1 : Nat) (l1 : List Int) (A2 : Option Addr) (c2 : Nat) (l2 : List (List Int)) (r : Bool) (w : World) (hr0_0 : Kd.C (Kd.int .i64) w A0_0 l0_0.length l0_0) (hc0_0 : l0_0.length ≤ c0_0) (hr0_1 : Kd.C k45 w A0_1 l0_1.length l0_1) (hc0_1 : l0_1.length ≤ c0_1) (hr1 : Kd.C (Kd.int .i64) w A1 l1.length l1) (hc1 : l1.length ≤ c1) (hr2 : Kd.C (Kd.slice 3 (Kd.int .i64)) w A2 l2.length l2) (hc2 : l2.length ≤ c2) (h : trefoilref10_Greedy.f k l0_0 l0_1 l1 l2 = some r) :
    Calls Try.prog 22 #[.agg #[.slice A0_0 l0_0.length c0_0, .slice A0_1 l0_1.length c0_1], .slice A1 l1.length c1, .slice A2 l2.length c2] w fun e w' => e = .returned (.bool r) ∧ Below w.heap.size w w' := by
  have hu25 := Try.underlying25
  have HR0_0 := Aside0.mk hr0_0
  have HC0_0 := Aside0.mk hc0_0
  clear hr0_0 hc0_0
  have HR0_1 := Aside0.mk hr0_1
  have HC0_1 := Aside0.mk hc0_1
  clear hr0_1 hc0_1
  have HR1 := Aside0.mk hr1
  have HC1 := Aside0.mk hc1
  clear hr1 hc1
  have HR2 := Aside0.mk hr2
  have HC2 := Aside0.mk hc2
  clear hr2 hc2
  have HB := Aside0.mk (Below.refl w.heap.size w)
  have H : (trefoilref10_Greedy.l0 k l1 l2 0 l0_0 l0_1) = some r := h
  clear h
  have H' := Aside0.mk H
  clear H
  go_enter Try.func22, Try.ntmps22
  go_wp2_with (first | ((with_reducible refine gate_dst (N := 3) rfl ?_); refine box_event ?hg (N := 3) ?hd (cs := #[.slice A0_0 l0_0.length c0_0, .slice A0_1 l0_1.length c0_1]) (t := 25) ?hr ?_; (case hd => rfl); (case hg => rfl); (case hr => first | (go_simp; done) | (go_simp; rfl)); intro gb340 hg w4 hbox hb; have n0_ := Aside0.mk (below_step (by repeat (first | (with_reducible first | exact HB.out | apply below_alloc | apply pw_below_drewN | apply below_drew1) | exact HB.out)) hb); have n1_ := Aside0.mk (hbox); have n2_ := Aside0.mk ((by rw [hg]; exact (below_size (by repeat (first | (with_reducible first | exact HB.out | apply below_alloc | apply pw_below_drewN | apply below_drew1) | exact HB.out))) : w.heap.size ≤ gb340)); have n3_ := Aside0.mk ((by rw [hg]; exact (below_size (by repeat (first | (with_reducible first | exact HB.out | apply below_alloc | apply pw_below_drewN | apply below_drew1) | exact HB.out))) : w.heap.size ≤ gb340)); clear HB; have HB := n0_; have BK340 := n1_; have GW340 := n2_; have GE340 := n3_; clear n0_ n1_ n2_ n3_; clear hb hbox hg))
  go_loopg [7] k (fun kq v7 w' => ∃ (x7_1 : Int), v7 = .int .i64 x7_1 ∧ Aside0 (trefoilref10_Greedy.l0 kq l1 l2 x7_1 l0_0 l0_1 = some r) ∧ Aside0 (kq ≤ k) ∧ Aside0 (w'.heap[gb340]? = some (.cells #[(.slice A0_0 l0_0.length c0_0), (.slice A0_1 l0_1.length c0_1)] 25 (0, 0))) ∧ Aside0 (Below w.heap.size w w'))
  case atStart => exact ⟨(0), (by first | rfl | (simp; done) | (simp [*]; done)), H', ⟨Nat.le_refl _⟩, ⟨by (with_reducible repeat (first | refine blk_drewN ?_ _ | refine blk_drew ?_ | refine blk_alloc ?_ _)); exact BK340.out⟩, ⟨by repeat (first | (with_reducible first | exact HB.out | apply below_alloc | apply pw_below_drewN | apply below_drew1 | refine below_set ?_ GE340.out) | exact HB.out)⟩⟩
  case round =>
    clear H'
    try clear c1
    try clear c2
    try clear p2
    obtain ⟨x7_1, rfl, HA, HK1, BK340, HB⟩ := hrel
    cases gk with
    | zero => exact absurd HA.out (by simp [trefoilref10_Greedy.l0])
    | succ k1 =>
      have H := HA.out
      clear HA
      simp only [trefoilref10_Greedy.l0] at H
      by_cases c5 : x7_1 < (l2.length : Int)
      · rw [if_pos c5] at H
        have c5b0 : decide (x7_1 < (l2.length : Int)) = true := decide_eq_true c5
        clear c5
        by_cases c6 : 0 ≤ x7_1
        · rw [if_pos c6] at H
          have c6b0 : decide (0 ≤ x7_1) = true := decide_eq_true c6
          clear c6
          replace H := Option.bind_eq_some_iff.mp H
          obtain ⟨t342, A70, H⟩ := H
          replace H : (if t342 = true then (trefoilref10_Greedy.l1 k1 l1 l2 x7_1 0 l0_0 l0_1) else (trefoilref10_Greedy.l0 k1 l1 l2 (wrap64 (x7_1 + 1)) l0_0 l0_1)) = some r := H
          have A7 := Aside0.mk A70
          clear A70
          by_cases c8 : t342 = true
          · subst c8
            have H1 : (trefoilref10_Greedy.l1 k1 l1 l2 x7_1 0 l0_0 l0_1) = some r := by rw [if_pos rfl] at H; exact H
            clear H
            have H := H1
            clear H1
            have H' := Aside0.mk H
            clear H
            have p341 : 0 ≤ (x7_1 : Int) := of_decide_eq_true (by first | (with_reducible assumption) | assumption)
            have q341 : x7_1 < (l2.length : Int) := of_decide_eq_true (by first | (with_reducible assumption) | assumption)
            obtain ⟨ad341, A341_0, c341_0, e341, hx341_0, hl341_0, hi341_0⟩ := at_L2 HR2.out x7_1 p341 q341
            cases e341
            replace hx341_0 := (HB.out.cell (World.block_lt_of_cell? w _ hx341_0)).trans hx341_0
            have HR341_0 := Aside0.mk hi341_0
            have HC341_0 := Aside0.mk hl341_0
            clear hi341_0 hl341_0
            replace p341 := eq_true p341
            replace q341 := eq_true q341
            go_wp2_with (first | ((with_reducible refine gate_callee (f := 37) rfl ?_); refine goesL_ (some 19) rfl rfl Try.func37 (by kernel_rfl) rfl #[.slice A341_0 (rd_L2 l2 x7_1).length c341_0, .int .i64 (-1)] rfl (by (try simp only [List.map_toArray, List.map_cons, List.map_nil]); first | done | rfl | (simp only [List.length_drop, List.length_take]; rfl)) ?_; (with_reducible refine (trefoilref04_Has.calls k1 _ _ (rd_L2 l2 x7_1) (-1) true _ ?side1 ?side2 A7.out).mono ?_); (case side1 => repeat (first | exact (Kd.C_below HR341_0.out HB.out) | (with_reducible refine Kd.C_alloc ?_ _) | (with_reducible refine Kd.C_drewN ?_ _) | (with_reducible refine Kd.C_drew ?_))); (case side2 => exact HC341_0.out); rintro e w' ⟨rfl, ⟨nd, rfl⟩⟩; refine ⟨_, rfl, ?_⟩))
            go_loopg [8] k1 (fun kq v8 w' => ∃ (x8_2 : Int), v8 = .int .i64 x8_2 ∧ Aside0 (trefoilref10_Greedy.l1 kq l1 l2 x7_1 x8_2 l0_0 l0_1 = some r) ∧ Aside0 (kq ≤ k1) ∧ Aside0 (w'.heap[gb340]? = some (.cells #[(.slice A0_0 l0_0.length c0_0), (.slice A0_1 l0_1.length c0_1)] 25 (0, 0))) ∧ Aside0 (Below w.heap.size w w'))
            case atStart => exact ⟨(0), (by first | rfl | (simp; done) | (simp [*]; done)), H', ⟨Nat.le_refl _⟩, ⟨by (with_reducible repeat (first | refine blk_drewN ?_ _ | refine blk_drew ?_ | refine blk_alloc ?_ _)); exact BK340.out⟩, ⟨by repeat (first | (with_reducible first | exact HB.out | apply below_alloc | apply pw_below_drewN | apply below_drew1 | refine below_set ?_ GE340.out) | exact HB.out)⟩⟩
            case round =>
              clear H'
              try clear c1
              try clear c2
              try clear p2
              try clear c3
              try clear p3
              try clear q3
              try clear hx3
              try clear c5
              try clear c5b0
              try clear c6
              try clear c6b0
              try clear p6
              try clear c8
              try clear hx341_0
              try clear p2
              try clear p341
              try clear q341
              obtain ⟨x8_2, rfl, HA, HK2, BK340, HB⟩ := hrel
              cases gk with
              | zero => exact absurd HA.out (by simp [trefoilref10_Greedy.l1])
              | succ k2 =>
                have H := HA.out
                clear HA
                simp only [trefoilref10_Greedy.l1] at H
                by_cases c9 : x8_2 < (l1.length : Int)
                · rw [if_pos c9] at H
                  have c9b0 : decide (x8_2 < (l1.length : Int)) = true := decide_eq_true c9
                  clear c9
                  replace H := Option.bind_eq_some_iff.mp H
                  obtain ⟨t343, A100, H⟩ := H
                  replace H : (if t343 = 0 then (if 0 ≤ x7_1 then (if x7_1 < (l2.length : Int) then ((trefoilref04_Has.f k2 (rd_L2 l2 x7_1) x8_2).bind fun t345 => (if t345 = true then (trefoilref10_Greedy.l1 k2 l1 l2 x7_1 (wrap64 (x8_2 + 1)) l0_0 l0_1) else ((trefoilref10_free.f k2 l0_0 l0_1 l1 l2 x8_2 x7_1).bind fun t346 => (if t346 = true then (some false) else (trefoilref10_Greedy.l1 k2 l1 l2 x7_1 (wrap64 (x8_2 + 1)) l0_0 l0_1))))) else (none)) else (none)) else (trefoilref10_Greedy.l1 k2 l1 l2 x7_1 (wrap64 (x8_2 + 1)) l0_0 l0_1)) = some r := H
                  have A10 := Aside0.mk A100
                  clear A100
                  by_cases c11 : t343 = 0
                  · rw [if_pos c11] at H
                    have c11b0 : (t343 == 0) = true := beq_iff_eq.mpr c11
                    have c11b1 : (t343 != 0) = false := bne_eq_false_iff_eq.mpr c11
                    clear c11
                    by_cases c12 : 0 ≤ x7_1
                    · rw [if_pos c12] at H
                      have c12b0 : decide (0 ≤ x7_1) = true := decide_eq_true c12
                      clear c12
                      by_cases c13 : x7_1 < (l2.length : Int)
                      · rw [if_pos c13] at H
                        have c13b0 : decide (x7_1 < (l2.length : Int)) = true := decide_eq_true c13
                        clear c13
                        replace H := Option.bind_eq_some_iff.mp H
                        obtain ⟨t345, A140, H⟩ := H
                        replace H : (if t345 = true then (trefoilref10_Greedy.l1 k2 l1 l2 x7_1 (wrap64 (x8_2 + 1)) l0_0 l0_1) else ((trefoilref10_free.f k2 l0_0 l0_1 l1 l2 x8_2 x7_1).bind fun t346 => (if t346 = true then (some false) else (trefoilref10_Greedy.l1 k2 l1 l2 x7_1 (wrap64 (x8_2 + 1)) l0_0 l0_1)))) = some r := H
                        have A14 := Aside0.mk A140
                        clear A140
                        by_cases c15 : t345 = true
                        · subst c15
                          have H1 : (trefoilref10_Greedy.l1 k2 l1 l2 x7_1 (wrap64 (x8_2 + 1)) l0_0 l0_1) = some r := by rw [if_pos rfl] at H; exact H
                          clear H
                          have H := H1
                          clear H1
                          have H' := Aside0.mk H
                          clear H
                          go_wp2_with (first | ((with_reducible refine gate_callee (f := 36) rfl ?_); refine goesL_ (some 30) rfl rfl Try.func36 (by kernel_rfl) rfl #[.slice (some ad341) l2.length c2, .int .i64 x8_2, .int .i64 x7_1] rfl (by (try simp only [List.map_toArray, List.map_cons, List.map_nil]); first | done | rfl | (simp only [List.length_drop, List.length_take]; rfl)) ?_; (with_reducible refine (trefoilref10_Ran.calls k2 _ _ l2 x8_2 x7_1 t343 _ ?side1 ?side2 A10.out).mono ?_); (case side1 => repeat (first | exact (Kd.C_below HR2.out HB.out) | (with_reducible refine Kd.C_alloc ?_ _) | (with_reducible refine Kd.C_drewN ?_ _) | (with_reducible refine Kd.C_drew ?_))); (case side2 => exact HC2.out); rintro e w' ⟨rfl, ⟨nd, rfl⟩⟩; refine ⟨_, rfl, ?_⟩; have p344 : 0 ≤ (x7_1 : Int) := of_decide_eq_true (by first | (with_reducible assumption) | assumption); have q344 : x7_1 < (l2.length : Int) := of_decide_eq_true (by first | (with_reducible assumption) | assumption); obtain ⟨ad344, A344_0, c344_0, e344, hx344_0, hl344_0, hi344_0⟩ := at_L2 HR2.out x7_1 p344 q344; obtain rfl : ad341 = ad344 := (by injection e344); replace hx344_0 := (HB.out.cell (World.block_lt_of_cell? w _ hx344_0)).trans hx344_0; have HR344_0 := Aside0.mk hi344_0; have HC344_0 := Aside0.mk hl344_0; clear hi344_0 hl344_0; replace p344 := eq_true p344; replace q344 := eq_true q344) | (go_at_call 37; (with_reducible refine (trefoilref04_Has.calls k2 _ _ (rd_L2 l2 x7_1) x8_2 true _ ?side1 ?side2 A14.out).mono ?_); (case side1 => repeat (first | exact (Kd.C_below HR344_0.out (by repeat (first | (with_reducible first | exact HB.out | apply below_alloc | apply pw_below_drewN | apply below_drew1 | refine below_set ?_ GE340.out) | exact HB.out))) | (with_reducible refine Kd.C_alloc ?_ _) | (with_reducible refine Kd.C_drewN ?_ _) | (with_reducible refine Kd.C_drew ?_))); (case side2 => exact HC344_0.out); rintro e w' ⟨rfl, ⟨nd, rfl⟩⟩))
                          go_roundg k2
                          case measure => have := HK1.out; have := HK2.out; omega
                          case rel => exact ⟨(wrap64 (x8_2 + 1)), (by first | rfl | (simp; done) | (simp [*]; done)), H', ⟨by have := HK1.out; have := HK2.out; omega⟩, ⟨by (with_reducible repeat (first | refine blk_drewN ?_ _ | refine blk_drew ?_ | refine blk_alloc ?_ _)); exact BK340.out⟩, ⟨by repeat (first | (with_reducible first | exact HB.out | apply below_alloc | apply pw_below_drewN | apply below_drew1 | refine below_set ?_ GE340.out) | exact HB.out)⟩⟩
                        · replace c15 := Bool.eq_false_iff.mpr c15
                          subst c15
                          have H1 : ((trefoilref10_free.f k2 l0_0 l0_1 l1 l2 x8_2 x7_1).bind fun t346 => (if t346 = true then (some false) else (trefoilref10_Greedy.l1 k2 l1 l2 x7_1 (wrap64 (x8_2 + 1)) l0_0 l0_1))) = some r := by rw [if_neg (show ¬ (false = true) by decide)] at H; exact H
                          clear H
                          have H := H1
                          clear H1
                          replace H := Option.bind_eq_some_iff.mp H
                          obtain ⟨t346, A160, H⟩ := H
                          replace H : (if t346 = true then (some false) else (trefoilref10_Greedy.l1 k2 l1 l2 x7_1 (wrap64 (x8_2 + 1)) l0_0 l0_1)) = some r := H
                          have A16 := Aside0.mk A160
                          clear A160
                          by_cases c17 : t346 = true
                          · subst c17
                            have H1 : (some false) = some r := by rw [if_pos rfl] at H; exact H
                            clear H
                            have H := H1
                            clear H1
                            obtain rfl := Option.some.inj H
                            go_wp2_with (first | ((with_reducible refine gate_callee (f := 36) rfl ?_); refine goesL_ (some 30) rfl rfl Try.func36 (by kernel_rfl) rfl #[.slice (some ad341) l2.length c2, .int .i64 x8_2, .int .i64 x7_1] rfl (by (try simp only [List.map_toArray, List.map_cons, List.map_nil]); first | done | rfl | (simp only [List.length_drop, List.length_take]; rfl)) ?_; (with_reducible refine (trefoilref10_Ran.calls k2 _ _ l2 x8_2 x7_1 t343 _ ?side1 ?side2 A10.out).mono ?_); (case side1 => repeat (first | exact (Kd.C_below HR2.out HB.out) | (with_reducible refine Kd.C_alloc ?_ _) | (with_reducible refine Kd.C_drewN ?_ _) | (with_reducible refine Kd.C_drew ?_))); (case side2 => exact HC2.out); rintro e w' ⟨rfl, ⟨nd, rfl⟩⟩; refine ⟨_, rfl, ?_⟩; have p344 : 0 ≤ (x7_1 : Int) := of_decide_eq_true (by first | (with_reducible assumption) | assumption); have q344 : x7_1 < (l2.length : Int) := of_decide_eq_true (by first | (with_reducible assumption) | assumption); obtain ⟨ad344, A344_0, c344_0, e344, hx344_0, hl344_0, hi344_0⟩ := at_L2 HR2.out x7_1 p344 q344; obtain rfl : ad341 = ad344 := (by injection e344); replace hx344_0 := (HB.out.cell (World.block_lt_of_cell? w _ hx344_0)).trans hx344_0; have HR344_0 := Aside0.mk hi344_0; have HC344_0 := Aside0.mk hl344_0; clear hi344_0 hl344_0; replace p344 := eq_true p344; replace q344 := eq_true q344) | (go_at_call 37; (with_reducible refine (trefoilref04_Has.calls k2 _ _ (rd_L2 l2 x7_1) x8_2 false _ ?side1 ?side2 A14.out).mono ?_); (case side1 => repeat (first | exact (Kd.C_below HR344_0.out (by repeat (first | (with_reducible first | exact HB.out | apply below_alloc | apply pw_below_drewN | apply below_drew1 | refine below_set ?_ GE340.out) | exact HB.out))) | (with_reducible refine Kd.C_alloc ?_ _) | (with_reducible refine Kd.C_drewN ?_ _) | (with_reducible refine Kd.C_drew ?_))); (case side2 => exact HC344_0.out); rintro e w' ⟨rfl, ⟨nd, rfl⟩⟩; have hcz18_0 : wr.cell? ⟨gb340, 0, none⟩ = some (.slice A0_0 l0_0.length c0_0) := (blk_cell BK340.out 0).trans rfl; have hcz18_1 : wr.cell? ⟨gb340, 1, none⟩ = some (.slice A0_1 l0_1.length c0_1) := (blk_cell BK340.out 1).trans rfl; have hfz18_0 := blk_frozen BK340.out 0; have hfz18_1 := blk_frozen BK340.out 1) | (go_at_call 38; (with_reducible refine (trefoilref10_free.calls k2 _ _ l0_0 _ _ l0_1 _ _ l1 _ _ l2 x8_2 x7_1 true _ ?side1 ?side2 ?side3 ?side4 ?side5 ?side6 ?side7 ?side8 A16.out).mono ?_); (case side1 => repeat (first | exact (Kd.C_below HR0_0.out (by repeat (first | (with_reducible first | exact HB.out | apply below_alloc | apply pw_below_drewN | apply below_drew1 | refine below_set ?_ GE340.out) | exact HB.out))) | (with_reducible refine Kd.C_alloc ?_ _) | (with_reducible refine Kd.C_drewN ?_ _) | (with_reducible refine Kd.C_drew ?_))); (case side2 => exact HC0_0.out); (case side3 => repeat (first | exact (Kd.C_below HR0_1.out (by repeat (first | (with_reducible first | exact HB.out | apply below_alloc | apply pw_below_drewN | apply below_drew1 | refine below_set ?_ GE340.out) | exact HB.out))) | (with_reducible refine Kd.C_alloc ?_ _) | (with_reducible refine Kd.C_drewN ?_ _) | (with_reducible refine Kd.C_drew ?_))); (case side4 => exact HC0_1.out); (case side5 => repeat (first | exact (Kd.C_below HR1.out (by repeat (first | (with_reducible first | exact HB.out | apply below_alloc | apply pw_below_drewN | apply below_drew1 | refine below_set ?_ GE340.out) | exact HB.out))) | (with_reducible refine Kd.C_alloc ?_ _) | (with_reducible refine Kd.C_drewN ?_ _) | (with_reducible refine Kd.C_drew ?_))); (case side6 => exact HC1.out); (case side7 => repeat (first | exact (Kd.C_below HR2.out (by repeat (first | (with_reducible first | exact HB.out | apply below_alloc | apply pw_below_drewN | apply below_drew1 | refine below_set ?_ GE340.out) | exact HB.out))) | (with_reducible refine Kd.C_alloc ?_ _) | (with_reducible refine Kd.C_drewN ?_ _) | (with_reducible refine Kd.C_drew ?_))); (case side8 => exact HC2.out); rintro e w19 ⟨rfl, hb⟩; have n0_ := Aside0.mk (blk_below (g := gb340) (o := .cells #[.slice A0_0 l0_0.length c0_0, .slice A0_1 l0_1.length c0_1] 25 (0, 0)) (by (with_reducible repeat (first | refine blk_drewN ?_ _ | refine blk_drew ?_ | refine blk_alloc ?_ _)); exact BK340.out) hb); have n1_ := Aside0.mk (below_step (by repeat (first | (with_reducible first | exact HB.out | apply below_alloc | apply pw_below_drewN | apply below_drew1 | refine below_set ?_ GE340.out) | exact HB.out)) hb); clear BK340; clear HB; have BK340 := n0_; have HB := n1_; clear n0_ n1_; (try clear hb); (try clear hb2); (try clear hk); (try clear hi)))
                            go_ret
                            exact ⟨by first | rfl | (simp [errW_none, errW_some] <;> rfl) | (simp [*, errW_none, errW_some] <;> rfl), by repeat (first | (with_reducible first | exact HB.out | apply below_alloc | apply pw_below_drewN | apply below_drew1 | refine below_set ?_ GE340.out) | exact HB.out)⟩
                          · replace c17 := Bool.eq_false_iff.mpr c17
                            subst c17
                            have H1 : (trefoilref10_Greedy.l1 k2 l1 l2 x7_1 (wrap64 (x8_2 + 1)) l0_0 l0_1) = some r := by rw [if_neg (show ¬ (false = true) by decide)] at H; exact H
                            clear H
                            have H := H1
                            clear H1
                            have H' := Aside0.mk H
                            clear H
                            go_wp2_with (first | ((with_reducible refine gate_callee (f := 36) rfl ?_); refine goesL_ (some 30) rfl rfl Try.func36 (by kernel_rfl) rfl #[.slice (some ad341) l2.length c2, .int .i64 x8_2, .int .i64 x7_1] rfl (by (try simp only [List.map_toArray, List.map_cons, List.map_nil]); first | done | rfl | (simp only [List.length_drop, List.length_take]; rfl)) ?_; (with_reducible refine (trefoilref10_Ran.calls k2 _ _ l2 x8_2 x7_1 t343 _ ?side1 ?side2 A10.out).mono ?_); (case side1 => repeat (first | exact (Kd.C_below HR2.out HB.out) | (with_reducible refine Kd.C_alloc ?_ _) | (with_reducible refine Kd.C_drewN ?_ _) | (with_reducible refine Kd.C_drew ?_))); (case side2 => exact HC2.out); rintro e w' ⟨rfl, ⟨nd, rfl⟩⟩; refine ⟨_, rfl, ?_⟩; have p344 : 0 ≤ (x7_1 : Int) := of_decide_eq_true (by first | (with_reducible assumption) | assumption); have q344 : x7_1 < (l2.length : Int) := of_decide_eq_true (by first | (with_reducible assumption) | assumption); obtain ⟨ad344, A344_0, c344_0, e344, hx344_0, hl344_0, hi344_0⟩ := at_L2 HR2.out x7_1 p344 q344; obtain rfl : ad341 = ad344 := (by injection e344); replace hx344_0 := (HB.out.cell (World.block_lt_of_cell? w _ hx344_0)).trans hx344_0; have HR344_0 := Aside0.mk hi344_0; have HC344_0 := Aside0.mk hl344_0; clear hi344_0 hl344_0; replace p344 := eq_true p344; replace q344 := eq_true q344) | (go_at_call 37; (with_reducible refine (trefoilref04_Has.calls k2 _ _ (rd_L2 l2 x7_1) x8_2 false _ ?side1 ?side2 A14.out).mono ?_); (case side1 => repeat (first | exact (Kd.C_below HR344_0.out (by repeat (first | (with_reducible first | exact HB.out | apply below_alloc | apply pw_below_drewN | apply below_drew1 | refine below_set ?_ GE340.out) | exact HB.out))) | (with_reducible refine Kd.C_alloc ?_ _) | (with_reducible refine Kd.C_drewN ?_ _) | (with_reducible refine Kd.C_drew ?_))); (case side2 => exact HC344_0.out); rintro e w' ⟨rfl, ⟨nd, rfl⟩⟩; have hcz20_0 : wr.cell? ⟨gb340, 0, none⟩ = some (.slice A0_0 l0_0.length c0_0) := (blk_cell BK340.out 0).trans rfl; have hcz20_1 : wr.cell? ⟨gb340, 1, none⟩ = some (.slice A0_1 l0_1.length c0_1) := (blk_cell BK340.out 1).trans rfl; have hfz20_0 := blk_frozen BK340.out 0; have hfz20_1 := blk_frozen BK340.out 1) | (go_at_call 38; (with_reducible refine (trefoilref10_free.calls k2 _ _ l0_0 _ _ l0_1 _ _ l1 _ _ l2 x8_2 x7_1 false _ ?side1 ?side2 ?side3 ?side4 ?side5 ?side6 ?side7 ?side8 A16.out).mono ?_); (case side1 => repeat (first | exact (Kd.C_below HR0_0.out (by repeat (first | (with_reducible first | exact HB.out | apply below_alloc | apply pw_below_drewN | apply below_drew1 | refine below_set ?_ GE340.out) | exact HB.out))) | (with_reducible refine Kd.C_alloc ?_ _) | (with_reducible refine Kd.C_drewN ?_ _) | (with_reducible refine Kd.C_drew ?_))); (case side2 => exact HC0_0.out); (case side3 => repeat (first | exact (Kd.C_below HR0_1.out (by repeat (first | (with_reducible first | exact HB.out | apply below_alloc | apply pw_below_drewN | apply below_drew1 | refine below_set ?_ GE340.out) | exact HB.out))) | (with_reducible refine Kd.C_alloc ?_ _) | (with_reducible refine Kd.C_drewN ?_ _) | (with_reducible refine Kd.C_drew ?_))); (case side4 => exact HC0_1.out); (case side5 => repeat (first | exact (Kd.C_below HR1.out (by repeat (first | (with_reducible first | exact HB.out | apply below_alloc | apply pw_below_drewN | apply below_drew1 | refine below_set ?_ GE340.out) | exact HB.out))) | (with_reducible refine Kd.C_alloc ?_ _) | (with_reducible refine Kd.C_drewN ?_ _) | (with_reducible refine Kd.C_drew ?_))); (case side6 => exact HC1.out); (case side7 => repeat (first | exact (Kd.C_below HR2.out (by repeat (first | (with_reducible first | exact HB.out | apply below_alloc | apply pw_below_drewN | apply below_drew1 | refine below_set ?_ GE340.out) | exact HB.out))) | (with_reducible refine Kd.C_alloc ?_ _) | (with_reducible refine Kd.C_drewN ?_ _) | (with_reducible refine Kd.C_drew ?_))); (case side8 => exact HC2.out); rintro e w21 ⟨rfl, hb⟩; have n0_ := Aside0.mk (blk_below (g := gb340) (o := .cells #[.slice A0_0 l0_0.length c0_0, .slice A0_1 l0_1.length c0_1] 25 (0, 0)) (by (with_reducible repeat (first | refine blk_drewN ?_ _ | refine blk_drew ?_ | refine blk_alloc ?_ _)); exact BK340.out) hb); have n1_ := Aside0.mk (below_step (by repeat (first | (with_reducible first | exact HB.out | apply below_alloc | apply pw_below_drewN | apply below_drew1 | refine below_set ?_ GE340.out) | exact HB.out)) hb); clear BK340; clear HB; have BK340 := n0_; have HB := n1_; clear n0_ n1_; (try clear hb); (try clear hb2); (try clear hk); (try clear hi)))
                            go_roundg k2
                            case measure => have := HK1.out; have := HK2.out; omega
                            case rel => exact ⟨(wrap64 (x8_2 + 1)), (by first | rfl | (simp; done) | (simp [*]; done)), H', ⟨by have := HK1.out; have := HK2.out; omega⟩, ⟨by (with_reducible repeat (first | refine blk_drewN ?_ _ | refine blk_drew ?_ | refine blk_alloc ?_ _)); exact BK340.out⟩, ⟨by repeat (first | (with_reducible first | exact HB.out | apply below_alloc | apply pw_below_drewN | apply below_drew1 | refine below_set ?_ GE340.out) | exact HB.out)⟩⟩
                      · rw [if_neg c13] at H
                        exact absurd H (by simp)
                    · rw [if_neg c12] at H
                      exact absurd H (by simp)
                  · rw [if_neg c11] at H
                    have c11b0 : (t343 == 0) = false := beq_eq_false_iff_ne.mpr c11
                    have c11b1 : (t343 != 0) = true := bne_iff_ne.mpr c11
                    have H' := Aside0.mk H
                    clear H
                    go_wp2_with (first | ((with_reducible refine gate_callee (f := 36) rfl ?_); refine goesL_ (some 30) rfl rfl Try.func36 (by kernel_rfl) rfl #[.slice (some ad341) l2.length c2, .int .i64 x8_2, .int .i64 x7_1] rfl (by (try simp only [List.map_toArray, List.map_cons, List.map_nil]); first | done | rfl | (simp only [List.length_drop, List.length_take]; rfl)) ?_; (with_reducible refine (trefoilref10_Ran.calls k2 _ _ l2 x8_2 x7_1 t343 _ ?side1 ?side2 A10.out).mono ?_); (case side1 => repeat (first | exact (Kd.C_below HR2.out HB.out) | (with_reducible refine Kd.C_alloc ?_ _) | (with_reducible refine Kd.C_drewN ?_ _) | (with_reducible refine Kd.C_drew ?_))); (case side2 => exact HC2.out); rintro e w' ⟨rfl, ⟨nd, rfl⟩⟩; refine ⟨_, rfl, ?_⟩))
                    go_roundg k2
                    case measure => have := HK1.out; have := HK2.out; omega
                    case rel => exact ⟨(wrap64 (x8_2 + 1)), (by first | rfl | (simp; done) | (simp [*]; done)), H', ⟨by have := HK1.out; have := HK2.out; omega⟩, ⟨by (with_reducible repeat (first | refine blk_drewN ?_ _ | refine blk_drew ?_ | refine blk_alloc ?_ _)); exact BK340.out⟩, ⟨by repeat (first | (with_reducible first | exact HB.out | apply below_alloc | apply pw_below_drewN | apply below_drew1 | refine below_set ?_ GE340.out) | exact HB.out)⟩⟩
                · rw [if_neg c9] at H
                  have c9b0 : decide (x8_2 < (l1.length : Int)) = false := decide_eq_false c9
                  clear c9
                  have H' := Aside0.mk H
                  clear H
                  go_wp2
                  go_roundg k2
                  case measure => have := HK1.out; have := HK2.out; omega
                  case rel => exact ⟨(wrap64 (x7_1 + 1)), (by first | rfl | (simp; done) | (simp [*]; done)), H', ⟨by have := HK1.out; have := HK2.out; omega⟩, ⟨by (with_reducible repeat (first | refine blk_drewN ?_ _ | refine blk_drew ?_ | refine blk_alloc ?_ _)); exact BK340.out⟩, ⟨by repeat (first | (with_reducible first | exact HB.out | apply below_alloc | apply pw_below_drewN | apply below_drew1 | refine below_set ?_ GE340.out) | exact HB.out)⟩⟩
          · replace c8 := Bool.eq_false_iff.mpr c8
            subst c8
            have H1 : (trefoilref10_Greedy.l0 k1 l1 l2 (wrap64 (x7_1 + 1)) l0_0 l0_1) = some r := by rw [if_neg (show ¬ (false = true) by decide)] at H; exact H
            clear H
            have H := H1
            clear H1
            have H' := Aside0.mk H
            clear H
            have p341 : 0 ≤ (x7_1 : Int) := of_decide_eq_true (by first | (with_reducible assumption) | assumption)
            have q341 : x7_1 < (l2.length : Int) := of_decide_eq_true (by first | (with_reducible assumption) | assumption)
            obtain ⟨ad341, A341_0, c341_0, e341, hx341_0, hl341_0, hi341_0⟩ := at_L2 HR2.out x7_1 p341 q341
            cases e341
            replace hx341_0 := (HB.out.cell (World.block_lt_of_cell? w _ hx341_0)).trans hx341_0
            have HR341_0 := Aside0.mk hi341_0
            have HC341_0 := Aside0.mk hl341_0
            clear hi341_0 hl341_0
            replace p341 := eq_true p341
            replace q341 := eq_true q341
            go_wp2_with (first | ((with_reducible refine gate_callee (f := 37) rfl ?_); refine goesL_ (some 19) rfl rfl Try.func37 (by kernel_rfl) rfl #[.slice A341_0 (rd_L2 l2 x7_1).length c341_0, .int .i64 (-1)] rfl (by (try simp only [List.map_toArray, List.map_cons, List.map_nil]); first | done | rfl | (simp only [List.length_drop, List.length_take]; rfl)) ?_; (with_reducible refine (trefoilref04_Has.calls k1 _ _ (rd_L2 l2 x7_1) (-1) false _ ?side1 ?side2 A7.out).mono ?_); (case side1 => repeat (first | exact (Kd.C_below HR341_0.out HB.out) | (with_reducible refine Kd.C_alloc ?_ _) | (with_reducible refine Kd.C_drewN ?_ _) | (with_reducible refine Kd.C_drew ?_))); (case side2 => exact HC341_0.out); rintro e w' ⟨rfl, ⟨nd, rfl⟩⟩; refine ⟨_, rfl, ?_⟩))
            go_roundg k1
            case measure => have := HK1.out; omega
            case rel => exact ⟨(wrap64 (x7_1 + 1)), (by first | rfl | (simp; done) | (simp [*]; done)), H', ⟨by have := HK1.out; omega⟩, ⟨by (with_reducible repeat (first | refine blk_drewN ?_ _ | refine blk_drew ?_ | refine blk_alloc ?_ _)); exact BK340.out⟩, ⟨by repeat (first | (with_reducible first | exact HB.out | apply below_alloc | apply pw_below_drewN | apply below_drew1 | refine below_set ?_ GE340.out) | exact HB.out)⟩⟩
        · rw [if_neg c6] at H
          exact absurd H (by simp)
      · rw [if_neg c5] at H
        have c5b0 : decide (x7_1 < (l2.length : Int)) = false := decide_eq_false c5
        clear c5
        obtain rfl := Option.some.inj H
        go_wp2
        go_ret
        exact ⟨by first | rfl | (simp [errW_none, errW_some] <;> rfl) | (simp [*, errW_none, errW_some] <;> rfl), by repeat (first | (with_reducible first | exact HB.out | apply below_alloc | apply pw_below_drewN | apply below_drew1 | refine below_set ?_ GE340.out) | exact HB.out)⟩

end Go.Proofs.Ytnnbgfjokbaepaa.PSchedChecks
