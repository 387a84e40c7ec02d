/- Written by a program of this work: each theorem says that a call of the Go function comes to what the Lean function beside it tells, under the conditions that it names; Lean checks it. -/
import Derived.Test.YtnnbgfjokbaepaaZCPSchedChecksx0
namespace Go.Proofs.Ytnnbgfjokbaepaa.PSchedChecks
open Go.RowKit Go.Proofs.YtnnbgfjokbaepaaW.PrintWords Go.Proofs.YtnnbgfjokbaepaaW.PrintLast Go.Proofs.YtnnbgfjokbaepaaW.PrintMore
attribute [local go_sem] max2_int min2_int max_two min_two max_three min_three max_four min_four   -- for this text's walks alone
set_option linter.unusedVariables false
set_option linter.unusedSimpArgs false

/-! ### trefoilref10_Ran: function 36 -/
mutual
def trefoilref10_Ran.l0 : Nat → List (List Int) → Int → Int → Int → Int → Option (Int)
  | 0, _, _, _, _, _ => none
  | k + 1, x0, x1, x2, x7, x8 => if x8 < x2 then (trefoilref10_Ran.j1 k x0 x1 x2 x7 x8 (decide (x8 < (x0.length : Int)))) else (trefoilref10_Ran.j1 k x0 x1 x2 x7 x8 false)
def trefoilref10_Ran.j1 : Nat → List (List Int) → Int → Int → Int → Int → Bool → Option (Int)
  | 0, _, _, _, _, _, _ => none
  | k + 1, x0, x1, x2, x7, x8, x18 => if x18 = true then (trefoilref10_Ran.l1 k x0 x1 x2 x7 x8 0) else (some x7)
def trefoilref10_Ran.l1 : Nat → List (List Int) → Int → Int → Int → Int → Int → Option (Int)
  | 0, _, _, _, _, _, _ => none
  | k + 1, x0, x1, x2, x7, x8, x9 => if 0 ≤ x8 then (if x8 < (x0.length : Int) then (if x9 < ((rd_L2 x0 x8).length : Int) then (if 0 ≤ x9 then (if (rd (rd_L2 x0 x8) x9) = x1 then (trefoilref10_Ran.l1 k x0 x1 x2 (wrap64 (x7 + 1)) x8 (wrap64 (x9 + 1))) else (trefoilref10_Ran.l1 k x0 x1 x2 x7 x8 (wrap64 (x9 + 1)))) else (none)) else (trefoilref10_Ran.l0 k x0 x1 x2 x7 (wrap64 (x8 + 1)))) else (none)) else (none)
end
def trefoilref10_Ran.f (k : Nat) (l0 : List (List Int)) (a1 : Int) (a2 : Int) : Option (Int) := trefoilref10_Ran.l0 k l0 a1 a2 0 0
set_option maxHeartbeats 8000000 in
set_option maxRecDepth 100000 in
theorem trefoilref10_Ran.calls (k : Nat) (A0 : Option Addr) (c0 : Nat) (l0 : List (List Int)) (a1 : Int) (a2 : Int) (r : Int) (w : World) (hr0 : Kd.C (Kd.slice 3 (Kd.int .i64)) w A0 l0.length l0) (hc0 : l0.length ≤ c0) (h : trefoilref10_Ran.f k l0 a1 a2 = some r) :
    Calls Try.prog 36 #[.slice A0 l0.length c0, .int .i64 a1, .int .i64 a2] w fun e w' => e = .returned (.int .i64 r) ∧ Drawn0 w w' := by
  have HR0 := Aside0.mk hr0
  have HC0 := Aside0.mk hc0
  clear hr0 hc0
  have H : (trefoilref10_Ran.l0 k l0 a1 a2 0 0) = some r := h
  clear h
  have H' := Aside0.mk H
  clear H
  go_enter Try.func36, Try.ntmps36
  go_wp2
  go_loopg [7, 8] k (fun kq v7 v8 w' => ∃ (x7_1 : Int) (x8_1 : Int), v7 = .int .i64 x7_1 ∧ v8 = .int .i64 x8_1 ∧ Aside0 (trefoilref10_Ran.l0 kq l0 a1 a2 x7_1 x8_1 = some r) ∧ Aside0 (kq ≤ k) ∧ Drawn0 w w')
  case atStart => exact ⟨(0), (0), (by first | rfl | (simp; done) | (simp [*]; done)), (by first | rfl | (simp; done) | (simp [*]; done)), H', ⟨Nat.le_refl _⟩, by repeat (first | exact Drawn0.refl _ | apply Drawn0.step)⟩
  case round =>
    clear H'
    try clear p2
    try clear c3
    obtain ⟨x7_1, x8_1, rfl, rfl, HA, HK1, ⟨m1, rfl⟩⟩ := hrel
    cases gk with
    | zero => exact absurd HA.out (by simp [trefoilref10_Ran.l0])
    | succ k1 =>
      have H := HA.out
      clear HA
      simp only [trefoilref10_Ran.l0] at H
      have HC4 := Aside0.mk H
      clear H
      go_upto_region 3 with (fail)
      go_cut [18] (fun v18 wc => ∃ (kq : Nat) (x18_3 : Bool), v18 = .bool x18_3 ∧ Aside0 (trefoilref10_Ran.j1 kq l0 a1 a2 x7_1 x8_1 x18_3 = some r) ∧ Aside0 (kq ≤ k1) ∧ Drawn0 w wc)
      case first =>
        have H := HC4.out
        clear HC4
        by_cases c5 : x8_1 < a2
        · rw [if_pos c5] at H
          have c5b0 : decide (x8_1 < a2) = true := decide_eq_true c5
          clear c5
          (first | rw [c5b0] | (simp only [i64_w, i32_w]; rw [c5b0]) | skip)
          have H' := Aside0.mk H
          clear H
          go_wp2
          go_meet
          case rel => exact ⟨_, (decide (x8_1 < (l0.length : Int))), (by first | rfl | (simp; done) | (simp [*]; done)), H', ⟨by have := HK1.out; first | omega | exact Nat.le_refl _⟩, by repeat (first | exact Drawn0.refl _ | apply Drawn0.step)⟩
        · rw [if_neg c5] at H
          have c5b0 : decide (x8_1 < a2) = false := decide_eq_false c5
          clear c5
          (first | rw [c5b0] | (simp only [i64_w, i32_w]; rw [c5b0]) | skip)
          have H' := Aside0.mk H
          clear H
          go_wp2
          go_meet
          case rel => exact ⟨_, (false), (by first | rfl | (simp; done) | (simp [*]; done)), H', ⟨by have := HK1.out; first | omega | exact Nat.le_refl _⟩, by repeat (first | exact Drawn0.refl _ | apply Drawn0.step)⟩
      case rest =>
        clear HC4
        try clear p2
        try clear c3
        try clear c5
        try clear c5b0
        try clear p2
        obtain ⟨kq, x18_3, rfl, HA, HJ3, ⟨mc3, rfl⟩⟩ := hcut
        cases kq with
        | zero => exact absurd HA.out (by simp [trefoilref10_Ran.j1])
        | succ kj3 =>
          have H := HA.out
          clear HA
          simp only [trefoilref10_Ran.j1] at H
          by_cases c6 : x18_3 = true
          · subst c6
            have H1 : (trefoilref10_Ran.l1 kj3 l0 a1 a2 x7_1 x8_1 0) = some r := by rw [if_pos rfl] at H; exact H
            clear H
            have H := H1
            clear H1
            have H' := Aside0.mk H
            clear H
            go_wp2
            go_loopg [7, 9] kj3 (fun kq v7 v9 w' => ∃ (x7_3 : Int) (x9_3 : Int), v7 = .int .i64 x7_3 ∧ v9 = .int .i64 x9_3 ∧ Aside0 (trefoilref10_Ran.l1 kq l0 a1 a2 x7_3 x8_1 x9_3 = some r) ∧ Aside0 (kq ≤ kj3) ∧ Drawn0 w w')
            case atStart => exact ⟨(x7_1), (0), (by first | rfl | (simp; done) | (simp [*]; done)), (by first | rfl | (simp; done) | (simp [*]; done)), H', ⟨Nat.le_refl _⟩, by repeat (first | exact Drawn0.refl _ | apply Drawn0.step)⟩
            case round =>
              clear H'
              try clear p2
              try clear c3
              try clear c5
              try clear c5b0
              try clear c6
              try clear p2
              obtain ⟨x7_3, x9_3, rfl, rfl, HA, HK3, ⟨m3, rfl⟩⟩ := hrel
              cases gk with
              | zero => exact absurd HA.out (by simp [trefoilref10_Ran.l1])
              | succ k3 =>
                have H := HA.out
                clear HA
                simp only [trefoilref10_Ran.l1] at H
                by_cases c7 : 0 ≤ x8_1
                · rw [if_pos c7] at H
                  have c7b0 : decide (0 ≤ x8_1) = true := decide_eq_true c7
                  clear c7
                  by_cases c8 : x8_1 < (l0.length : Int)
                  · rw [if_pos c8] at H
                    have c8b0 : decide (x8_1 < (l0.length : Int)) = true := decide_eq_true c8
                    clear c8
                    by_cases c9 : x9_3 < ((rd_L2 l0 x8_1).length : Int)
                    · rw [if_pos c9] at H
                      have c9b0 : decide (x9_3 < ((rd_L2 l0 x8_1).length : Int)) = true := decide_eq_true c9
                      clear c9
                      by_cases c10 : 0 ≤ x9_3
                      · rw [if_pos c10] at H
                        have c10b0 : decide (0 ≤ x9_3) = true := decide_eq_true c10
                        clear c10
                        by_cases c11 : (rd (rd_L2 l0 x8_1) x9_3) = a1
                        · rw [if_pos c11] at H
                          have c11b0 : ((rd (rd_L2 l0 x8_1) x9_3) == a1) = true := beq_iff_eq.mpr c11
                          have c11b1 : ((rd (rd_L2 l0 x8_1) x9_3) != a1) = false := bne_eq_false_iff_eq.mpr c11
                          clear c11
                          have H' := Aside0.mk H
                          clear H
                          have p274 : 0 ≤ (x8_1 : Int) := of_decide_eq_true (by first | (with_reducible assumption) | assumption)
                          have q274 : x8_1 < (l0.length : Int) := of_decide_eq_true (by first | (with_reducible assumption) | assumption)
                          obtain ⟨ad274, A274_0, c274_0, e274, hx274_0, hl274_0, hi274_0⟩ := at_L2 HR0.out x8_1 p274 q274
                          cases e274
                          have HR274_0 := Aside0.mk hi274_0
                          have HC274_0 := Aside0.mk hl274_0
                          clear hi274_0 hl274_0
                          replace p274 := eq_true p274
                          replace q274 := eq_true q274
                          have p275 : 0 ≤ (x8_1 : Int) := of_decide_eq_true (by first | (with_reducible assumption) | assumption)
                          have q275 : x8_1 < (l0.length : Int) := of_decide_eq_true (by first | (with_reducible assumption) | assumption)
                          obtain ⟨ad275, A275_0, c275_0, e275, hx275_0, hl275_0, hi275_0⟩ := at_L2 HR0.out x8_1 p275 q275
                          obtain rfl : ad274 = ad275 := (by injection e275)
                          have HR275_0 := Aside0.mk hi275_0
                          have HC275_0 := Aside0.mk hl275_0
                          clear hi275_0 hl275_0
                          replace p275 := eq_true p275
                          replace q275 := eq_true q275
                          have ea_ := Option.some.inj (hx274_0.symm.trans hx275_0)
                          injection ea_ with ea_ en_ ec_
                          subst ea_
                          subst ec_
                          clear en_
                          have p276 : 0 ≤ (x9_3 : Int) := of_decide_eq_true (by first | (with_reducible assumption) | assumption)
                          have q276 : x9_3 < ((rd_L2 l0 x8_1).length : Int) := of_decide_eq_true (by first | (with_reducible assumption) | assumption)
                          obtain ⟨ad276, e276, hx276_0⟩ := Kd.at_int HR275_0.out x9_3 p276 q276
                          cases e276
                          replace p276 := eq_true p276
                          replace q276 := eq_true q276
                          go_wp2
                          go_roundg k3
                          case measure => have := HK1.out; have := HJ3.out; have := HK3.out; omega
                          case rel => exact ⟨(wrap64 (x7_3 + 1)), (wrap64 (x9_3 + 1)), (by first | rfl | (simp; done) | (simp [*]; done)), (by first | rfl | (simp; done) | (simp [*]; done)), H', ⟨by have := HK1.out; have := HJ3.out; have := HK3.out; omega⟩, by repeat (first | exact Drawn0.refl _ | apply Drawn0.step)⟩
                        · rw [if_neg c11] at H
                          have c11b0 : ((rd (rd_L2 l0 x8_1) x9_3) == a1) = false := beq_eq_false_iff_ne.mpr c11
                          have c11b1 : ((rd (rd_L2 l0 x8_1) x9_3) != a1) = true := bne_iff_ne.mpr c11
                          have H' := Aside0.mk H
                          clear H
                          have p274 : 0 ≤ (x8_1 : Int) := of_decide_eq_true (by first | (with_reducible assumption) | assumption)
                          have q274 : x8_1 < (l0.length : Int) := of_decide_eq_true (by first | (with_reducible assumption) | assumption)
                          obtain ⟨ad274, A274_0, c274_0, e274, hx274_0, hl274_0, hi274_0⟩ := at_L2 HR0.out x8_1 p274 q274
                          cases e274
                          have HR274_0 := Aside0.mk hi274_0
                          have HC274_0 := Aside0.mk hl274_0
                          clear hi274_0 hl274_0
                          replace p274 := eq_true p274
                          replace q274 := eq_true q274
                          have p275 : 0 ≤ (x8_1 : Int) := of_decide_eq_true (by first | (with_reducible assumption) | assumption)
                          have q275 : x8_1 < (l0.length : Int) := of_decide_eq_true (by first | (with_reducible assumption) | assumption)
                          obtain ⟨ad275, A275_0, c275_0, e275, hx275_0, hl275_0, hi275_0⟩ := at_L2 HR0.out x8_1 p275 q275
                          obtain rfl : ad274 = ad275 := (by injection e275)
                          have HR275_0 := Aside0.mk hi275_0
                          have HC275_0 := Aside0.mk hl275_0
                          clear hi275_0 hl275_0
                          replace p275 := eq_true p275
                          replace q275 := eq_true q275
                          have ea_ := Option.some.inj (hx274_0.symm.trans hx275_0)
                          injection ea_ with ea_ en_ ec_
                          subst ea_
                          subst ec_
                          clear en_
                          have p276 : 0 ≤ (x9_3 : Int) := of_decide_eq_true (by first | (with_reducible assumption) | assumption)
                          have q276 : x9_3 < ((rd_L2 l0 x8_1).length : Int) := of_decide_eq_true (by first | (with_reducible assumption) | assumption)
                          obtain ⟨ad276, e276, hx276_0⟩ := Kd.at_int HR275_0.out x9_3 p276 q276
                          cases e276
                          replace p276 := eq_true p276
                          replace q276 := eq_true q276
                          go_wp2
                          go_roundg k3
                          case measure => have := HK1.out; have := HJ3.out; have := HK3.out; omega
                          case rel => exact ⟨(x7_3), (wrap64 (x9_3 + 1)), (by first | rfl | (simp; done) | (simp [*]; done)), (by first | rfl | (simp; done) | (simp [*]; done)), H', ⟨by have := HK1.out; have := HJ3.out; have := HK3.out; omega⟩, by repeat (first | exact Drawn0.refl _ | apply Drawn0.step)⟩
                      · rw [if_neg c10] at H
                        exact absurd H (by simp)
                    · rw [if_neg c9] at H
                      have c9b0 : decide (x9_3 < ((rd_L2 l0 x8_1).length : Int)) = false := decide_eq_false c9
                      clear c9
                      have H' := Aside0.mk H
                      clear H
                      have p274 : 0 ≤ (x8_1 : Int) := of_decide_eq_true (by first | (with_reducible assumption) | assumption)
                      have q274 : x8_1 < (l0.length : Int) := of_decide_eq_true (by first | (with_reducible assumption) | assumption)
                      obtain ⟨ad274, A274_0, c274_0, e274, hx274_0, hl274_0, hi274_0⟩ := at_L2 HR0.out x8_1 p274 q274
                      cases e274
                      have HR274_0 := Aside0.mk hi274_0
                      have HC274_0 := Aside0.mk hl274_0
                      clear hi274_0 hl274_0
                      replace p274 := eq_true p274
                      replace q274 := eq_true q274
                      go_wp2
                      go_roundg k3
                      case measure => have := HK1.out; have := HJ3.out; have := HK3.out; omega
                      case rel => exact ⟨(x7_3), (wrap64 (x8_1 + 1)), (by first | rfl | (simp; done) | (simp [*]; done)), (by first | rfl | (simp; done) | (simp [*]; done)), H', ⟨by have := HK1.out; have := HJ3.out; have := HK3.out; omega⟩, by repeat (first | exact Drawn0.refl _ | apply Drawn0.step)⟩
                  · rw [if_neg c8] at H
                    exact absurd H (by simp)
                · rw [if_neg c7] at H
                  exact absurd H (by simp)
          · replace c6 := Bool.eq_false_iff.mpr c6
            subst c6
            have H1 : (some x7_1) = some r := by rw [if_neg (show ¬ (false = true) by decide)] at H; exact H
            clear H
            have H := H1
            clear H1
            obtain rfl := Option.some.inj H
            go_wp2
            go_ret
            exact ⟨by first | rfl | (simp; done) | (simp [*]; done), by repeat (first | exact Drawn0.refl _ | apply Drawn0.step)⟩

/-! ### trefoilref10_free: function 38 -/
def trefoilref10_free.l0 : Nat → List Int → List (List Int) → Int → Int → Int → List Int → List (S45) → Option (Bool)
  | 0, _, _, _, _, _, _, _ => none
  | k + 1, x1, x2, x3, x4, x11, x278000, x278001 => if x11 < (x278001.length : Int) then (if 0 ≤ x11 then (if ((rd_T45 x278001 x11).f1) = x3 then ((trefoilref10_Ran.f k x2 ((rd_T45 x278001 x11).f0) x4).bind fun t280 => (if 0 ≤ ((rd_T45 x278001 x11).f0) then (if ((rd_T45 x278001 x11).f0) < (x1.length : Int) then (if t280 < (rd x1 ((rd_T45 x278001 x11).f0)) then (some false) else (trefoilref10_free.l0 k x1 x2 x3 x4 (wrap64 (x11 + 1)) x278000 x278001)) else (none)) else (none))) else (trefoilref10_free.l0 k x1 x2 x3 x4 (wrap64 (x11 + 1)) x278000 x278001)) else (none)) else (some true)
def trefoilref10_free.f (k : Nat) (l0_0 : List Int) (l0_1 : List (S45)) (l1 : List Int) (l2 : List (List Int)) (a3 : Int) (a4 : Int) : Option (Bool) := trefoilref10_free.l0 k l1 l2 a3 a4 0 l0_0 l0_1
set_option maxHeartbeats 8000000 in
set_option maxRecDepth 100000 in
theorem trefoilref10_free.calls (k : Nat) (A0_0 : Option Addr) (c0_0 : Nat) (l0_0 : List Int) (A0_1 : Option Addr) (c0_1 : Nat) (l0_1 : List (S45)) (A1 : Option Addr) (c1 : Nat) (l1 : List Int) (A2 : Option Addr) (c2 : Nat) (l2 : List (List Int)) (a3 : Int) (a4 : Int) (r : Bool) (w : World) (hr0_0 : Kd.C (Kd.int .i64) w A0_0 l0_0.length l0_0) (hc0_0 : l0_0.length ≤ c0_0) (hr0_1 : Kd.C k45 w A0_1 l0_1.length l0_1) (hc0_1 : l0_1.length ≤ c0_1) (hr1 : Kd.C (Kd.int .i64) w A1 l1.length l1) (hc1 : l1.length ≤ c1) (hr2 : Kd.C (Kd.slice 3 (Kd.int .i64)) w A2 l2.length l2) (hc2 : l2.length ≤ c2) (h : trefoilref10_free.f k l0_0 l0_1 l1 l2 a3 a4 = some r) :
    Calls Try.prog 38 #[.agg #[.slice A0_0 l0_0.length c0_0, .slice A0_1 l0_1.length c0_1], .slice A1 l1.length c1, .slice A2 l2.length c2, .int .i64 a3, .int .i64 a4] w fun e w' => e = .returned (.bool r) ∧ Below w.heap.size w w' := by
  have hu25 := Try.underlying25
  have HR0_0 := Aside0.mk hr0_0
  have HC0_0 := Aside0.mk hc0_0
  clear hr0_0 hc0_0
  have HR0_1 := Aside0.mk hr0_1
  have HC0_1 := Aside0.mk hc0_1
  clear hr0_1 hc0_1
  have HR1 := Aside0.mk hr1
  have HC1 := Aside0.mk hc1
  clear hr1 hc1
  have HR2 := Aside0.mk hr2
  have HC2 := Aside0.mk hc2
  clear hr2 hc2
  have HB := Aside0.mk (Below.refl w.heap.size w)
  have H : (trefoilref10_free.l0 k l1 l2 a3 a4 0 l0_0 l0_1) = some r := h
  clear h
  have H' := Aside0.mk H
  clear H
  go_enter Try.func38, Try.ntmps38
  go_wp2_with (first | ((with_reducible refine gate_dst (N := 5) rfl ?_); refine box_event ?hg (N := 5) ?hd (cs := #[.slice A0_0 l0_0.length c0_0, .slice A0_1 l0_1.length c0_1]) (t := 25) ?hr ?_; (case hd => rfl); (case hg => rfl); (case hr => first | (go_simp; done) | (go_simp; rfl)); intro gb277 hg w6 hbox hb; have n0_ := Aside0.mk (below_step (by repeat (first | (with_reducible first | exact HB.out | apply below_alloc | apply pw_below_drewN | apply below_drew1) | exact HB.out)) hb); have n1_ := Aside0.mk (hbox); have n2_ := Aside0.mk ((by rw [hg]; exact (below_size (by repeat (first | (with_reducible first | exact HB.out | apply below_alloc | apply pw_below_drewN | apply below_drew1) | exact HB.out))) : w.heap.size ≤ gb277)); have n3_ := Aside0.mk ((by rw [hg]; exact (below_size (by repeat (first | (with_reducible first | exact HB.out | apply below_alloc | apply pw_below_drewN | apply below_drew1) | exact HB.out))) : w.heap.size ≤ gb277)); clear HB; have HB := n0_; have BK277 := n1_; have GW277 := n2_; have GE277 := n3_; clear n0_ n1_ n2_ n3_; clear hb hbox hg))
  repeat (go_quiet (first | ((with_reducible refine gate_dst (N := 5) rfl ?_); refine box_event ?hg (N := 5) ?hd (cs := #[.slice A0_0 l0_0.length c0_0, .slice A0_1 l0_1.length c0_1]) (t := 25) ?hr ?_; (case hd => rfl); (case hg => rfl); (case hr => first | (go_simp; done) | (go_simp; rfl)); intro gb277 hg w6 hbox hb; have n0_ := Aside0.mk (below_step (by repeat (first | (with_reducible first | exact HB.out | apply below_alloc | apply pw_below_drewN | apply below_drew1) | exact HB.out)) hb); have n1_ := Aside0.mk (hbox); have n2_ := Aside0.mk ((by rw [hg]; exact (below_size (by repeat (first | (with_reducible first | exact HB.out | apply below_alloc | apply pw_below_drewN | apply below_drew1) | exact HB.out))) : w.heap.size ≤ gb277)); have n3_ := Aside0.mk ((by rw [hg]; exact (below_size (by repeat (first | (with_reducible first | exact HB.out | apply below_alloc | apply pw_below_drewN | apply below_drew1) | exact HB.out))) : w.heap.size ≤ gb277)); clear HB; have HB := n0_; have BK277 := n1_; have GW277 := n2_; have GE277 := n3_; clear n0_ n1_ n2_ n3_; clear hb hbox hg)); try go_wp2_with (first | ((with_reducible refine gate_dst (N := 5) rfl ?_); refine box_event ?hg (N := 5) ?hd (cs := #[.slice A0_0 l0_0.length c0_0, .slice A0_1 l0_1.length c0_1]) (t := 25) ?hr ?_; (case hd => rfl); (case hg => rfl); (case hr => first | (go_simp; done) | (go_simp; rfl)); intro gb277 hg w6 hbox hb; have n0_ := Aside0.mk (below_step (by repeat (first | (with_reducible first | exact HB.out | apply below_alloc | apply pw_below_drewN | apply below_drew1) | exact HB.out)) hb); have n1_ := Aside0.mk (hbox); have n2_ := Aside0.mk ((by rw [hg]; exact (below_size (by repeat (first | (with_reducible first | exact HB.out | apply below_alloc | apply pw_below_drewN | apply below_drew1) | exact HB.out))) : w.heap.size ≤ gb277)); have n3_ := Aside0.mk ((by rw [hg]; exact (below_size (by repeat (first | (with_reducible first | exact HB.out | apply below_alloc | apply pw_below_drewN | apply below_drew1) | exact HB.out))) : w.heap.size ≤ gb277)); clear HB; have HB := n0_; have BK277 := n1_; have GW277 := n2_; have GE277 := n3_; clear n0_ n1_ n2_ n3_; clear hb hbox hg)))
  go_loopg [11] k (fun kq v11 w' => ∃ (x11_1 : Int), v11 = .int .i64 x11_1 ∧ Aside0 (trefoilref10_free.l0 kq l1 l2 a3 a4 x11_1 l0_0 l0_1 = some r) ∧ Aside0 (kq ≤ k) ∧ Aside0 (w'.heap[gb277]? = some (.cells #[(.slice A0_0 l0_0.length c0_0), (.slice A0_1 l0_1.length c0_1)] 25 (0, 0))) ∧ Aside0 (Below w.heap.size w w'))
  case atStart => exact ⟨(0), (by first | rfl | (simp; done) | (simp [*]; done)), H', ⟨Nat.le_refl _⟩, ⟨by (with_reducible repeat (first | refine blk_drewN ?_ _ | refine blk_drew ?_ | refine blk_alloc ?_ _)); exact BK277.out⟩, ⟨by repeat (first | (with_reducible first | exact HB.out | apply below_alloc | apply pw_below_drewN | apply below_drew1 | refine below_set ?_ GE277.out) | exact HB.out)⟩⟩
  case round =>
    clear H'
    try clear c1
    try clear c2
    try clear p2
    try clear c3
    obtain ⟨x11_1, rfl, HA, HK1, BK277, HB⟩ := hrel
    cases gk with
    | zero => exact absurd HA.out (by simp [trefoilref10_free.l0])
    | succ k1 =>
      have H := HA.out
      clear HA
      simp only [trefoilref10_free.l0] at H
      by_cases c7 : x11_1 < (l0_1.length : Int)
      · rw [if_pos c7] at H
        have c7b0 : decide (x11_1 < (l0_1.length : Int)) = true := decide_eq_true c7
        clear c7
        by_cases c8 : 0 ≤ x11_1
        · rw [if_pos c8] at H
          have c8b0 : decide (0 ≤ x11_1) = true := decide_eq_true c8
          clear c8
          by_cases c9 : ((rd_T45 l0_1 x11_1).f1) = a3
          · rw [if_pos c9] at H
            have c9b0 : (((rd_T45 l0_1 x11_1).f1) == a3) = true := beq_iff_eq.mpr c9
            have c9b1 : (((rd_T45 l0_1 x11_1).f1) != a3) = false := bne_eq_false_iff_eq.mpr c9
            clear c9
            replace H := Option.bind_eq_some_iff.mp H
            obtain ⟨t280, A100, H⟩ := H
            replace H : (if 0 ≤ ((rd_T45 l0_1 x11_1).f0) then (if ((rd_T45 l0_1 x11_1).f0) < (l1.length : Int) then (if t280 < (rd l1 ((rd_T45 l0_1 x11_1).f0)) then (some false) else (trefoilref10_free.l0 k1 l1 l2 a3 a4 (wrap64 (x11_1 + 1)) l0_0 l0_1)) else (none)) else (none)) = some r := H
            have A10 := Aside0.mk A100
            clear A100
            by_cases c11 : 0 ≤ ((rd_T45 l0_1 x11_1).f0)
            · rw [if_pos c11] at H
              have c11b0 : decide (0 ≤ ((rd_T45 l0_1 x11_1).f0)) = true := decide_eq_true c11
              clear c11
              by_cases c12 : ((rd_T45 l0_1 x11_1).f0) < (l1.length : Int)
              · rw [if_pos c12] at H
                have c12b0 : decide (((rd_T45 l0_1 x11_1).f0) < (l1.length : Int)) = true := decide_eq_true c12
                clear c12
                by_cases c13 : t280 < (rd l1 ((rd_T45 l0_1 x11_1).f0))
                · rw [if_pos c13] at H
                  have c13b0 : decide (t280 < (rd l1 ((rd_T45 l0_1 x11_1).f0))) = true := decide_eq_true c13
                  clear c13
                  obtain rfl := Option.some.inj H
                  have hcz14_0 : wr.cell? ⟨gb277, 0, none⟩ = some (.slice A0_0 l0_0.length c0_0) := (blk_cell BK277.out 0).trans rfl
                  have hcz14_1 : wr.cell? ⟨gb277, 1, none⟩ = some (.slice A0_1 l0_1.length c0_1) := (blk_cell BK277.out 1).trans rfl
                  have hfz14_0 := blk_frozen BK277.out 0
                  have hfz14_1 := blk_frozen BK277.out 1
                  have p278 : 0 ≤ (x11_1 : Int) := of_decide_eq_true (by first | (with_reducible assumption) | assumption)
                  have q278 : x11_1 < (l0_1.length : Int) := of_decide_eq_true (by first | (with_reducible assumption) | assumption)
                  obtain ⟨ad278, e278, hx278_0, hx278_1⟩ := at_T45 HR0_1.out x11_1 p278 q278
                  cases e278
                  replace hx278_0 := (HB.out.cell (World.block_lt_of_cell? w _ hx278_0)).trans hx278_0
                  replace hx278_1 := (HB.out.cell (World.block_lt_of_cell? w _ hx278_1)).trans hx278_1
                  replace p278 := eq_true p278
                  replace q278 := eq_true q278
                  have p279 : 0 ≤ (x11_1 : Int) := of_decide_eq_true (by first | (with_reducible assumption) | assumption)
                  have q279 : x11_1 < (l0_1.length : Int) := of_decide_eq_true (by first | (with_reducible assumption) | assumption)
                  obtain ⟨ad279, e279, hx279_0, hx279_1⟩ := at_T45 HR0_1.out x11_1 p279 q279
                  obtain rfl : ad278 = ad279 := (by injection e279)
                  replace hx279_0 := (HB.out.cell (World.block_lt_of_cell? w _ hx279_0)).trans hx279_0
                  replace hx279_1 := (HB.out.cell (World.block_lt_of_cell? w _ hx279_1)).trans hx279_1
                  replace p279 := eq_true p279
                  replace q279 := eq_true q279
                  go_wp2_with (first | (go_at_call 36; (with_reducible refine (trefoilref10_Ran.calls k1 _ _ l2 ((rd_T45 l0_1 x11_1).f0) a4 t280 _ ?side1 ?side2 A10.out).mono ?_); (case side1 => repeat (first | exact (Kd.C_below HR2.out HB.out) | (with_reducible refine Kd.C_alloc ?_ _) | (with_reducible refine Kd.C_drewN ?_ _) | (with_reducible refine Kd.C_drew ?_))); (case side2 => exact HC2.out); rintro e w' ⟨rfl, ⟨nd, rfl⟩⟩; (try first | exact ⟨rfl, _, World.drewN_drewN _ _ _⟩ | exact ⟨rfl, _, Eq.trans (World.drewN_drewN _ _ _) (congrArg (World.drewN _) (Nat.add_assoc _ _ _))⟩); have p281 : 0 ≤ (x11_1 : Int) := of_decide_eq_true (by first | (with_reducible assumption) | assumption); have q281 : x11_1 < (l0_1.length : Int) := of_decide_eq_true (by first | (with_reducible assumption) | assumption); obtain ⟨ad281, e281, hx281_0, hx281_1⟩ := at_T45 HR0_1.out x11_1 p281 q281; obtain rfl : ad278 = ad281 := (by injection e281); replace hx281_0 := (HB.out.cell (World.block_lt_of_cell? w _ hx281_0)).trans hx281_0; replace hx281_1 := (HB.out.cell (World.block_lt_of_cell? w _ hx281_1)).trans hx281_1; replace p281 := eq_true p281; replace q281 := eq_true q281; have p282 : 0 ≤ (((rd_T45 l0_1 x11_1).f0) : Int) := of_decide_eq_true (by first | (with_reducible assumption) | assumption); have q282 : ((rd_T45 l0_1 x11_1).f0) < (l1.length : Int) := of_decide_eq_true (by first | (with_reducible assumption) | assumption); obtain ⟨ad282, e282, hx282_0⟩ := Kd.at_int HR1.out ((rd_T45 l0_1 x11_1).f0) p282 q282; cases e282; replace hx282_0 := (HB.out.cell (World.block_lt_of_cell? w _ hx282_0)).trans hx282_0; replace p282 := eq_true p282; replace q282 := eq_true q282))
                  repeat (go_quiet (first | (go_at_call 36; (with_reducible refine (trefoilref10_Ran.calls k1 _ _ l2 ((rd_T45 l0_1 x11_1).f0) a4 t280 _ ?side1 ?side2 A10.out).mono ?_); (case side1 => repeat (first | exact (Kd.C_below HR2.out HB.out) | (with_reducible refine Kd.C_alloc ?_ _) | (with_reducible refine Kd.C_drewN ?_ _) | (with_reducible refine Kd.C_drew ?_))); (case side2 => exact HC2.out); rintro e w' ⟨rfl, ⟨nd, rfl⟩⟩; (try first | exact ⟨rfl, _, World.drewN_drewN _ _ _⟩ | exact ⟨rfl, _, Eq.trans (World.drewN_drewN _ _ _) (congrArg (World.drewN _) (Nat.add_assoc _ _ _))⟩); have p281 : 0 ≤ (x11_1 : Int) := of_decide_eq_true (by first | (with_reducible assumption) | assumption); have q281 : x11_1 < (l0_1.length : Int) := of_decide_eq_true (by first | (with_reducible assumption) | assumption); obtain ⟨ad281, e281, hx281_0, hx281_1⟩ := at_T45 HR0_1.out x11_1 p281 q281; obtain rfl : ad278 = ad281 := (by injection e281); replace hx281_0 := (HB.out.cell (World.block_lt_of_cell? w _ hx281_0)).trans hx281_0; replace hx281_1 := (HB.out.cell (World.block_lt_of_cell? w _ hx281_1)).trans hx281_1; replace p281 := eq_true p281; replace q281 := eq_true q281; have p282 : 0 ≤ (((rd_T45 l0_1 x11_1).f0) : Int) := of_decide_eq_true (by first | (with_reducible assumption) | assumption); have q282 : ((rd_T45 l0_1 x11_1).f0) < (l1.length : Int) := of_decide_eq_true (by first | (with_reducible assumption) | assumption); obtain ⟨ad282, e282, hx282_0⟩ := Kd.at_int HR1.out ((rd_T45 l0_1 x11_1).f0) p282 q282; cases e282; replace hx282_0 := (HB.out.cell (World.block_lt_of_cell? w _ hx282_0)).trans hx282_0; replace p282 := eq_true p282; replace q282 := eq_true q282)); try go_wp2_with (first | (go_at_call 36; (with_reducible refine (trefoilref10_Ran.calls k1 _ _ l2 ((rd_T45 l0_1 x11_1).f0) a4 t280 _ ?side1 ?side2 A10.out).mono ?_); (case side1 => repeat (first | exact (Kd.C_below HR2.out HB.out) | (with_reducible refine Kd.C_alloc ?_ _) | (with_reducible refine Kd.C_drewN ?_ _) | (with_reducible refine Kd.C_drew ?_))); (case side2 => exact HC2.out); rintro e w' ⟨rfl, ⟨nd, rfl⟩⟩; (try first | exact ⟨rfl, _, World.drewN_drewN _ _ _⟩ | exact ⟨rfl, _, Eq.trans (World.drewN_drewN _ _ _) (congrArg (World.drewN _) (Nat.add_assoc _ _ _))⟩); have p281 : 0 ≤ (x11_1 : Int) := of_decide_eq_true (by first | (with_reducible assumption) | assumption); have q281 : x11_1 < (l0_1.length : Int) := of_decide_eq_true (by first | (with_reducible assumption) | assumption); obtain ⟨ad281, e281, hx281_0, hx281_1⟩ := at_T45 HR0_1.out x11_1 p281 q281; obtain rfl : ad278 = ad281 := (by injection e281); replace hx281_0 := (HB.out.cell (World.block_lt_of_cell? w _ hx281_0)).trans hx281_0; replace hx281_1 := (HB.out.cell (World.block_lt_of_cell? w _ hx281_1)).trans hx281_1; replace p281 := eq_true p281; replace q281 := eq_true q281; have p282 : 0 ≤ (((rd_T45 l0_1 x11_1).f0) : Int) := of_decide_eq_true (by first | (with_reducible assumption) | assumption); have q282 : ((rd_T45 l0_1 x11_1).f0) < (l1.length : Int) := of_decide_eq_true (by first | (with_reducible assumption) | assumption); obtain ⟨ad282, e282, hx282_0⟩ := Kd.at_int HR1.out ((rd_T45 l0_1 x11_1).f0) p282 q282; cases e282; replace hx282_0 := (HB.out.cell (World.block_lt_of_cell? w _ hx282_0)).trans hx282_0; replace p282 := eq_true p282; replace q282 := eq_true q282)))
                  go_ret
                  exact ⟨by first | rfl | (simp [errW_none, errW_some] <;> rfl) | (simp [*, errW_none, errW_some] <;> rfl), by repeat (first | (with_reducible first | exact HB.out | apply below_alloc | apply pw_below_drewN | apply below_drew1 | refine below_set ?_ GE277.out) | exact HB.out)⟩
                · rw [if_neg c13] at H
                  have c13b0 : decide (t280 < (rd l1 ((rd_T45 l0_1 x11_1).f0))) = false := decide_eq_false c13
                  clear c13
                  have H' := Aside0.mk H
                  clear H
                  have hcz15_0 : wr.cell? ⟨gb277, 0, none⟩ = some (.slice A0_0 l0_0.length c0_0) := (blk_cell BK277.out 0).trans rfl
                  have hcz15_1 : wr.cell? ⟨gb277, 1, none⟩ = some (.slice A0_1 l0_1.length c0_1) := (blk_cell BK277.out 1).trans rfl
                  have hfz15_0 := blk_frozen BK277.out 0
                  have hfz15_1 := blk_frozen BK277.out 1
                  have p278 : 0 ≤ (x11_1 : Int) := of_decide_eq_true (by first | (with_reducible assumption) | assumption)
                  have q278 : x11_1 < (l0_1.length : Int) := of_decide_eq_true (by first | (with_reducible assumption) | assumption)
                  obtain ⟨ad278, e278, hx278_0, hx278_1⟩ := at_T45 HR0_1.out x11_1 p278 q278
                  cases e278
                  replace hx278_0 := (HB.out.cell (World.block_lt_of_cell? w _ hx278_0)).trans hx278_0
                  replace hx278_1 := (HB.out.cell (World.block_lt_of_cell? w _ hx278_1)).trans hx278_1
                  replace p278 := eq_true p278
                  replace q278 := eq_true q278
                  have p279 : 0 ≤ (x11_1 : Int) := of_decide_eq_true (by first | (with_reducible assumption) | assumption)
                  have q279 : x11_1 < (l0_1.length : Int) := of_decide_eq_true (by first | (with_reducible assumption) | assumption)
                  obtain ⟨ad279, e279, hx279_0, hx279_1⟩ := at_T45 HR0_1.out x11_1 p279 q279
                  obtain rfl : ad278 = ad279 := (by injection e279)
                  replace hx279_0 := (HB.out.cell (World.block_lt_of_cell? w _ hx279_0)).trans hx279_0
                  replace hx279_1 := (HB.out.cell (World.block_lt_of_cell? w _ hx279_1)).trans hx279_1
                  replace p279 := eq_true p279
                  replace q279 := eq_true q279
                  go_wp2_with (first | (go_at_call 36; (with_reducible refine (trefoilref10_Ran.calls k1 _ _ l2 ((rd_T45 l0_1 x11_1).f0) a4 t280 _ ?side1 ?side2 A10.out).mono ?_); (case side1 => repeat (first | exact (Kd.C_below HR2.out HB.out) | (with_reducible refine Kd.C_alloc ?_ _) | (with_reducible refine Kd.C_drewN ?_ _) | (with_reducible refine Kd.C_drew ?_))); (case side2 => exact HC2.out); rintro e w' ⟨rfl, ⟨nd, rfl⟩⟩; (try first | exact ⟨rfl, _, World.drewN_drewN _ _ _⟩ | exact ⟨rfl, _, Eq.trans (World.drewN_drewN _ _ _) (congrArg (World.drewN _) (Nat.add_assoc _ _ _))⟩); have p281 : 0 ≤ (x11_1 : Int) := of_decide_eq_true (by first | (with_reducible assumption) | assumption); have q281 : x11_1 < (l0_1.length : Int) := of_decide_eq_true (by first | (with_reducible assumption) | assumption); obtain ⟨ad281, e281, hx281_0, hx281_1⟩ := at_T45 HR0_1.out x11_1 p281 q281; obtain rfl : ad278 = ad281 := (by injection e281); replace hx281_0 := (HB.out.cell (World.block_lt_of_cell? w _ hx281_0)).trans hx281_0; replace hx281_1 := (HB.out.cell (World.block_lt_of_cell? w _ hx281_1)).trans hx281_1; replace p281 := eq_true p281; replace q281 := eq_true q281; have p282 : 0 ≤ (((rd_T45 l0_1 x11_1).f0) : Int) := of_decide_eq_true (by first | (with_reducible assumption) | assumption); have q282 : ((rd_T45 l0_1 x11_1).f0) < (l1.length : Int) := of_decide_eq_true (by first | (with_reducible assumption) | assumption); obtain ⟨ad282, e282, hx282_0⟩ := Kd.at_int HR1.out ((rd_T45 l0_1 x11_1).f0) p282 q282; cases e282; replace hx282_0 := (HB.out.cell (World.block_lt_of_cell? w _ hx282_0)).trans hx282_0; replace p282 := eq_true p282; replace q282 := eq_true q282))
                  repeat (go_quiet (first | (go_at_call 36; (with_reducible refine (trefoilref10_Ran.calls k1 _ _ l2 ((rd_T45 l0_1 x11_1).f0) a4 t280 _ ?side1 ?side2 A10.out).mono ?_); (case side1 => repeat (first | exact (Kd.C_below HR2.out HB.out) | (with_reducible refine Kd.C_alloc ?_ _) | (with_reducible refine Kd.C_drewN ?_ _) | (with_reducible refine Kd.C_drew ?_))); (case side2 => exact HC2.out); rintro e w' ⟨rfl, ⟨nd, rfl⟩⟩; (try first | exact ⟨rfl, _, World.drewN_drewN _ _ _⟩ | exact ⟨rfl, _, Eq.trans (World.drewN_drewN _ _ _) (congrArg (World.drewN _) (Nat.add_assoc _ _ _))⟩); have p281 : 0 ≤ (x11_1 : Int) := of_decide_eq_true (by first | (with_reducible assumption) | assumption); have q281 : x11_1 < (l0_1.length : Int) := of_decide_eq_true (by first | (with_reducible assumption) | assumption); obtain ⟨ad281, e281, hx281_0, hx281_1⟩ := at_T45 HR0_1.out x11_1 p281 q281; obtain rfl : ad278 = ad281 := (by injection e281); replace hx281_0 := (HB.out.cell (World.block_lt_of_cell? w _ hx281_0)).trans hx281_0; replace hx281_1 := (HB.out.cell (World.block_lt_of_cell? w _ hx281_1)).trans hx281_1; replace p281 := eq_true p281; replace q281 := eq_true q281; have p282 : 0 ≤ (((rd_T45 l0_1 x11_1).f0) : Int) := of_decide_eq_true (by first | (with_reducible assumption) | assumption); have q282 : ((rd_T45 l0_1 x11_1).f0) < (l1.length : Int) := of_decide_eq_true (by first | (with_reducible assumption) | assumption); obtain ⟨ad282, e282, hx282_0⟩ := Kd.at_int HR1.out ((rd_T45 l0_1 x11_1).f0) p282 q282; cases e282; replace hx282_0 := (HB.out.cell (World.block_lt_of_cell? w _ hx282_0)).trans hx282_0; replace p282 := eq_true p282; replace q282 := eq_true q282)); try go_wp2_with (first | (go_at_call 36; (with_reducible refine (trefoilref10_Ran.calls k1 _ _ l2 ((rd_T45 l0_1 x11_1).f0) a4 t280 _ ?side1 ?side2 A10.out).mono ?_); (case side1 => repeat (first | exact (Kd.C_below HR2.out HB.out) | (with_reducible refine Kd.C_alloc ?_ _) | (with_reducible refine Kd.C_drewN ?_ _) | (with_reducible refine Kd.C_drew ?_))); (case side2 => exact HC2.out); rintro e w' ⟨rfl, ⟨nd, rfl⟩⟩; (try first | exact ⟨rfl, _, World.drewN_drewN _ _ _⟩ | exact ⟨rfl, _, Eq.trans (World.drewN_drewN _ _ _) (congrArg (World.drewN _) (Nat.add_assoc _ _ _))⟩); have p281 : 0 ≤ (x11_1 : Int) := of_decide_eq_true (by first | (with_reducible assumption) | assumption); have q281 : x11_1 < (l0_1.length : Int) := of_decide_eq_true (by first | (with_reducible assumption) | assumption); obtain ⟨ad281, e281, hx281_0, hx281_1⟩ := at_T45 HR0_1.out x11_1 p281 q281; obtain rfl : ad278 = ad281 := (by injection e281); replace hx281_0 := (HB.out.cell (World.block_lt_of_cell? w _ hx281_0)).trans hx281_0; replace hx281_1 := (HB.out.cell (World.block_lt_of_cell? w _ hx281_1)).trans hx281_1; replace p281 := eq_true p281; replace q281 := eq_true q281; have p282 : 0 ≤ (((rd_T45 l0_1 x11_1).f0) : Int) := of_decide_eq_true (by first | (with_reducible assumption) | assumption); have q282 : ((rd_T45 l0_1 x11_1).f0) < (l1.length : Int) := of_decide_eq_true (by first | (with_reducible assumption) | assumption); obtain ⟨ad282, e282, hx282_0⟩ := Kd.at_int HR1.out ((rd_T45 l0_1 x11_1).f0) p282 q282; cases e282; replace hx282_0 := (HB.out.cell (World.block_lt_of_cell? w _ hx282_0)).trans hx282_0; replace p282 := eq_true p282; replace q282 := eq_true q282)))
                  go_roundg k1
                  case measure => have := HK1.out; omega
                  case rel => exact ⟨(wrap64 (x11_1 + 1)), (by first | rfl | (simp; done) | (simp [*]; done)), H', ⟨by have := HK1.out; omega⟩, ⟨by (with_reducible repeat (first | refine blk_drewN ?_ _ | refine blk_drew ?_ | refine blk_alloc ?_ _)); exact BK277.out⟩, ⟨by repeat (first | (with_reducible first | exact HB.out | apply below_alloc | apply pw_below_drewN | apply below_drew1 | refine below_set ?_ GE277.out) | exact HB.out)⟩⟩
              · rw [if_neg c12] at H
                exact absurd H (by simp)
            · rw [if_neg c11] at H
              exact absurd H (by simp)
          · rw [if_neg c9] at H
            have c9b0 : (((rd_T45 l0_1 x11_1).f1) == a3) = false := beq_eq_false_iff_ne.mpr c9
            have c9b1 : (((rd_T45 l0_1 x11_1).f1) != a3) = true := bne_iff_ne.mpr c9
            have H' := Aside0.mk H
            clear H
            have hcz16_0 : wr.cell? ⟨gb277, 0, none⟩ = some (.slice A0_0 l0_0.length c0_0) := (blk_cell BK277.out 0).trans rfl
            have hcz16_1 : wr.cell? ⟨gb277, 1, none⟩ = some (.slice A0_1 l0_1.length c0_1) := (blk_cell BK277.out 1).trans rfl
            have hfz16_0 := blk_frozen BK277.out 0
            have hfz16_1 := blk_frozen BK277.out 1
            have p278 : 0 ≤ (x11_1 : Int) := of_decide_eq_true (by first | (with_reducible assumption) | assumption)
            have q278 : x11_1 < (l0_1.length : Int) := of_decide_eq_true (by first | (with_reducible assumption) | assumption)
            obtain ⟨ad278, e278, hx278_0, hx278_1⟩ := at_T45 HR0_1.out x11_1 p278 q278
            cases e278
            replace hx278_0 := (HB.out.cell (World.block_lt_of_cell? w _ hx278_0)).trans hx278_0
            replace hx278_1 := (HB.out.cell (World.block_lt_of_cell? w _ hx278_1)).trans hx278_1
            replace p278 := eq_true p278
            replace q278 := eq_true q278
            go_wp2
            repeat (go_quiet (fail); try go_wp2)
            go_roundg k1
            case measure => have := HK1.out; omega
            case rel => exact ⟨(wrap64 (x11_1 + 1)), (by first | rfl | (simp; done) | (simp [*]; done)), H', ⟨by have := HK1.out; omega⟩, ⟨by (with_reducible repeat (first | refine blk_drewN ?_ _ | refine blk_drew ?_ | refine blk_alloc ?_ _)); exact BK277.out⟩, ⟨by repeat (first | (with_reducible first | exact HB.out | apply below_alloc | apply pw_below_drewN | apply below_drew1 | refine below_set ?_ GE277.out) | exact HB.out)⟩⟩
        · rw [if_neg c8] at H
          exact absurd H (by simp)
      · rw [if_neg c7] at H
        have c7b0 : decide (x11_1 < (l0_1.length : Int)) = false := decide_eq_false c7
        clear c7
        obtain rfl := Option.some.inj H
        have hcz17_0 : wr.cell? ⟨gb277, 0, none⟩ = some (.slice A0_0 l0_0.length c0_0) := (blk_cell BK277.out 0).trans rfl
        have hcz17_1 : wr.cell? ⟨gb277, 1, none⟩ = some (.slice A0_1 l0_1.length c0_1) := (blk_cell BK277.out 1).trans rfl
        have hfz17_0 := blk_frozen BK277.out 0
        have hfz17_1 := blk_frozen BK277.out 1
        go_wp2
        repeat (go_quiet (fail); try go_wp2)
        go_ret
        exact ⟨by first | rfl | (simp [errW_none, errW_some] <;> rfl) | (simp [*, errW_none, errW_some] <;> rfl), by repeat (first | (with_reducible first | exact HB.out | apply below_alloc | apply pw_below_drewN | apply below_drew1 | refine below_set ?_ GE277.out) | exact HB.out)⟩

end Go.Proofs.Ytnnbgfjokbaepaa.PSchedChecks
