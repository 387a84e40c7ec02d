/- Written by a program of this work: each theorem says that a call of the Go function comes to what the Lean function beside it tells, under the conditions that it names; Lean checks it. -/
import Derived.Test.YtnnbgfjokbaepaaPSchedMorex0
namespace Go.Proofs.Ytnnbgfjokbaepaa.PSchedMore
open Go.RowKit Go.Proofs.YtnnbgfjokbaepaaW.PrintWords Go.Proofs.YtnnbgfjokbaepaaW.PrintLast Go.Proofs.YtnnbgfjokbaepaaW.PrintMore
attribute [local go_sem] max2_int min2_int max_two min_two max_three min_three max_four min_four   -- for this text's walks alone
set_option linter.unusedVariables false
set_option linter.unusedSimpArgs false

-- NOT PRINTED: function 80 (slices_partitionOrdered_int)

-- NOT PRINTED: function 70 (slices_pdqsortOrdered_int)

-- NOT PRINTED: function 69 (slices_Sort_int_int)

-- NOT PRINTED: function 62 (dag_way)

-- NOT PRINTED: function 44 (dag_preds)

/-! ### dag_Long: function 27, by hand -/
def dag_Long.f (l0_0 : List Int) (l0_1 : List (S45)) : Option (Int) := if l0_0.length ≤ 1000 ∧ l0_1.length ≤ 1000 then some (longL l0_0 (l0_1.map fun x => (x.f0, x.f1))) else none
theorem dag_Long.calls (A0_0 : Option Addr) (c0_0 : Nat) (l0_0 : List Int) (A0_1 : Option Addr) (c0_1 : Nat) (l0_1 : List (S45)) (r : Int) (w : World) (hr0_0 : Kd.C (Kd.int .i64) w A0_0 l0_0.length l0_0) (hc0_0 : l0_0.length ≤ c0_0) (hr0_1 : Kd.C k45 w A0_1 l0_1.length l0_1) (hc0_1 : l0_1.length ≤ c0_1) (h : dag_Long.f l0_0 l0_1 = some r) :
    Calls Try.prog 27 #[.agg #[.slice A0_0 l0_0.length c0_0, .slice A0_1 l0_1.length c0_1]] w fun e w' => e = .returned (.int .i64 r) ∧ Below w.heap.size w w' := by
  unfold dag_Long.f at h
  split at h
  · rename_i hb
    simp only [Option.some.injEq] at h
    have hE0 : EdR w A0_1 (l0_1.map fun x => (x.f0, x.f1)) := fun h0 => by
      rw [List.length_map] at h0
      obtain ⟨ad, e, _, _⟩ := at_T45 hr0_1 0 (by omega) (by omega)
      refine ⟨ad, e, fun i hi => ?_⟩
      rw [List.length_map] at hi
      obtain ⟨ad', e', h1, h2⟩ := at_T45 hr0_1 (i : Int) (by omega) (by omega)
      obtain rfl : ad' = ad := Option.some.inj (e'.symm.trans e)
      have hq : (l0_1.map fun x => (x.f0, x.f1)).getD i (0, 0) = ((rd_T45 l0_1 (i : Int)).f0, (rd_T45 l0_1 (i : Int)).f1) := by
        simp [rd_T45, List.getD_eq_getElem?_getD, List.getElem?_map, List.getElem?_eq_getElem hi]
      rw [hq]
      exact ⟨h1, h2⟩
    have hp := Long_any A0_0 c0_0 l0_0 A0_1 c0_1 (l0_1.map fun x => (x.f0, x.f1)) w (Kd.reads_of_C (d := (0 : Int)) hr0_0) hb.1 (by rw [List.length_map]; exact hb.2) hE0 (by rw [List.length_map]; exact hc0_1)
    rw [h, List.length_map] at hp
    exact hp
  · cases h

/-! ### sched_Bound: function 23, by hand -/
def sched_Bound.f (l0_0 : List Int) (l0_1 : List (S45)) (l1 : List Int) (a2 : Int) : Option (Int) := if (l0_0.length ≤ 1000 ∧ l0_1.length ≤ 1000) ∧ l1.length ≤ 1000 then some (boundL l0_0 (l0_1.map fun x => (x.f0, x.f1)) l1 a2) else none
theorem sched_Bound.calls (A0_0 : Option Addr) (c0_0 : Nat) (l0_0 : List Int) (A0_1 : Option Addr) (c0_1 : Nat) (l0_1 : List (S45)) (A1 : Option Addr) (c1 : Nat) (l1 : List Int) (a2 : Int) (r : Int) (w : World) (hr0_0 : Kd.C (Kd.int .i64) w A0_0 l0_0.length l0_0) (hc0_0 : l0_0.length ≤ c0_0) (hr0_1 : Kd.C k45 w A0_1 l0_1.length l0_1) (hc0_1 : l0_1.length ≤ c0_1) (hr1 : Kd.C (Kd.int .i64) w A1 l1.length l1) (hc1 : l1.length ≤ c1) (h : sched_Bound.f l0_0 l0_1 l1 a2 = some r) :
    Calls Try.prog 23 #[.agg #[.slice A0_0 l0_0.length c0_0, .slice A0_1 l0_1.length c0_1], .slice A1 l1.length c1, .int .i64 a2] w fun e w' => e = .returned (.int .i64 r) ∧ Below w.heap.size w w' := by
  unfold sched_Bound.f at h
  split at h
  · rename_i hb
    simp only [Option.some.injEq] at h
    have hE0 : EdR w A0_1 (l0_1.map fun x => (x.f0, x.f1)) := fun h0 => by
      rw [List.length_map] at h0
      obtain ⟨ad, e, _, _⟩ := at_T45 hr0_1 0 (by omega) (by omega)
      refine ⟨ad, e, fun i hi => ?_⟩
      rw [List.length_map] at hi
      obtain ⟨ad', e', h1, h2⟩ := at_T45 hr0_1 (i : Int) (by omega) (by omega)
      obtain rfl : ad' = ad := Option.some.inj (e'.symm.trans e)
      have hq : (l0_1.map fun x => (x.f0, x.f1)).getD i (0, 0) = ((rd_T45 l0_1 (i : Int)).f0, (rd_T45 l0_1 (i : Int)).f1) := by
        simp [rd_T45, List.getD_eq_getElem?_getD, List.getElem?_map, List.getElem?_eq_getElem hi]
      rw [hq]
      exact ⟨h1, h2⟩
    have hp := sBound_any A0_0 c0_0 l0_0 A0_1 c0_1 (l0_1.map fun x => (x.f0, x.f1)) A1 c1 l1 a2 w ⟨⟨hc0_0, Kd.reads_of_C (d := (0 : Int)) hr0_0⟩, (by rw [List.length_map]; exact hc0_1), hE0⟩ hb.1.1 (by rw [List.length_map]; exact hb.1.2) (Kd.reads_of_C (d := (0 : Int)) hr1) hb.2
    rw [h, List.length_map] at hp
    exact hp
  · cases h

/-! ### sched_Busy: function 25 -/
mutual
def sched_Busy.l0 : Nat → Int → List (List Int) → Int → Int → Option (Int)
  | 0, _, _, _, _ => none
  | k + 1, x3, x8, x9, x10 => if x10 < x9 then (if 0 ≤ x10 then (if x10 < (x8.length : Int) then (sched_Busy.l1 k x3 x8 x9 x10 (rd_L2 x8 x10) ((rd_L2 x8 x10).length : Int) 0) else (none)) else (none)) else (some x3)
def sched_Busy.l1 : Nat → Int → List (List Int) → Int → Int → List Int → Int → Int → Option (Int)
  | 0, _, _, _, _, _, _, _ => none
  | k + 1, x3, x8, x9, x10, x14, x15, x16 => if x16 < x15 then (if 0 ≤ x16 then (if x16 < (x14.length : Int) then (if (rd x14 x16) = (-1) then (sched_Busy.l1 k x3 x8 x9 x10 x14 x15 (wrap64 (x16 + 1))) else (sched_Busy.l1 k (wrap64 (x3 + 1)) x8 x9 x10 x14 x15 (wrap64 (x16 + 1)))) else (none)) else (none)) else (sched_Busy.l0 k x3 x8 x9 (wrap64 (x10 + 1)))
end
def sched_Busy.f (k : Nat) (l0 : List (List Int)) : Option (Int) := sched_Busy.l0 k 0 l0 (l0.length : Int) 0
theorem sched_Busy.mono_l : ∀ k, (∀ y0 y1 y2 y3, LeO (sched_Busy.l0 k y0 y1 y2 y3) (sched_Busy.l0 (k + 1) y0 y1 y2 y3)) ∧ (∀ y0 y1 y2 y3 y4 y5 y6, LeO (sched_Busy.l1 k y0 y1 y2 y3 y4 y5 y6) (sched_Busy.l1 (k + 1) y0 y1 y2 y3 y4 y5 y6))
  | 0 => ⟨fun _ _ _ _ r h => by simp [sched_Busy.l0] at h, fun _ _ _ _ _ _ _ r h => by simp [sched_Busy.l1] at h⟩
  | k + 1 => by
    obtain ⟨ih0, ih1⟩ := sched_Busy.mono_l k
    refine ⟨?_, ?_⟩
    · intro y0 y1 y2 y3
      unfold sched_Busy.l0
      repeat' first
      | (with_reducible exact ih0 _ _ _ _)
      | (with_reducible exact ih1 _ _ _ _ _ _ _)
      | (with_reducible exact LeO.refl _)
      | (with_reducible exact LeO.none _)
      | (with_reducible refine LeO.ite ?_ ?_)
      | (with_reducible refine LeO.bind ?_ (fun _ => ?_))
      | exact ih0 _ _ _ _
      | exact ih1 _ _ _ _ _ _ _
      | exact LeO.none _
      | refine LeO.ite ?_ ?_
      | refine LeO.bind ?_ (fun _ => ?_)
    · intro y0 y1 y2 y3 y4 y5 y6
      unfold sched_Busy.l1
      repeat' first
      | (with_reducible exact ih0 _ _ _ _)
      | (with_reducible exact ih1 _ _ _ _ _ _ _)
      | (with_reducible exact LeO.refl _)
      | (with_reducible exact LeO.none _)
      | (with_reducible refine LeO.ite ?_ ?_)
      | (with_reducible refine LeO.bind ?_ (fun _ => ?_))
      | exact ih0 _ _ _ _
      | exact ih1 _ _ _ _ _ _ _
      | exact LeO.none _
      | refine LeO.ite ?_ ?_
      | refine LeO.bind ?_ (fun _ => ?_)
theorem sched_Busy.mono : ∀ a0 k, LeO (sched_Busy.f k a0) (sched_Busy.f (k + 1) a0) := by
  intro a0 k
  obtain ⟨ih0, ih1⟩ := sched_Busy.mono_l k
  unfold sched_Busy.f
  repeat' first
      | (with_reducible exact ih0 _ _ _ _)
      | (with_reducible exact ih1 _ _ _ _ _ _ _)
      | (with_reducible exact LeO.refl _)
      | (with_reducible exact LeO.none _)
      | (with_reducible refine LeO.ite ?_ ?_)
      | (with_reducible refine LeO.bind ?_ (fun _ => ?_))
      | exact ih0 _ _ _ _
      | exact ih1 _ _ _ _ _ _ _
      | exact LeO.none _
      | refine LeO.ite ?_ ?_
      | refine LeO.bind ?_ (fun _ => ?_)
set_option maxHeartbeats 8000000 in
set_option maxRecDepth 100000 in
theorem sched_Busy.calls (k : Nat) (A0 : Option Addr) (c0 : Nat) (l0 : List (List Int)) (r : Int) (w : World) (hr0 : Kd.C (Kd.slice 3 (Kd.int .i64)) w A0 l0.length l0) (hc0 : l0.length ≤ c0) (h : sched_Busy.f k l0 = some r) :
    Calls Try.prog 25 #[.slice A0 l0.length c0] w fun e w' => e = .returned (.int .i64 r) ∧ Drawn0 w w' := by
  have HR0 := Aside0.mk hr0
  have HC0 := Aside0.mk hc0
  clear hr0 hc0
  have H : (sched_Busy.l0 k 0 l0 (l0.length : Int) 0) = some r := h
  clear h
  have H' := Aside0.mk H
  clear H
  go_enter Try.func25, Try.ntmps25
  go_wp2
  go_loopg [3, 10] k (fun kq v3 v10 w' => ∃ (x3_1 : Int) (x10_1 : Int), v3 = .int .i64 x3_1 ∧ v10 = .int .i64 x10_1 ∧ Aside0 (sched_Busy.l0 kq x3_1 l0 (l0.length : Int) x10_1 = some r) ∧ Aside0 (kq ≤ k) ∧ Drawn0 w w')
  case atStart => exact ⟨(0), (0), (by first | rfl | (simp; done) | (simp [*]; done)), (by first | rfl | (simp; done) | (simp [*]; done)), H', ⟨Nat.le_refl _⟩, by repeat (first | exact Drawn0.refl _ | apply Drawn0.step)⟩
  case round =>
    clear H'
    obtain ⟨x3_1, x10_1, rfl, rfl, HA, HK1, ⟨m1, rfl⟩⟩ := hrel
    cases gk with
    | zero => exact absurd HA.out (by simp [sched_Busy.l0])
    | succ k1 =>
      have H := HA.out
      clear HA
      simp only [sched_Busy.l0] at H
      by_cases c2 : x10_1 < (l0.length : Int)
      · rw [if_pos c2] at H
        have c2b0 : decide (x10_1 < (l0.length : Int)) = true := decide_eq_true c2
        clear c2
        by_cases c3 : 0 ≤ x10_1
        · rw [if_pos c3] at H
          have c3b0 : decide (0 ≤ x10_1) = true := decide_eq_true c3
          clear c3
          by_cases c4 : x10_1 < (l0.length : Int)
          · rw [if_pos c4] at H
            have c4b0 : decide (x10_1 < (l0.length : Int)) = true := decide_eq_true c4
            clear c4
            have H' := Aside0.mk H
            clear H
            have p239 : 0 ≤ (x10_1 : Int) := of_decide_eq_true (by first | (with_reducible assumption) | assumption)
            have q239 : x10_1 < (l0.length : Int) := of_decide_eq_true (by first | (with_reducible assumption) | assumption)
            obtain ⟨ad239, A239_0, c239_0, e239, hx239_0, hl239_0, hi239_0⟩ := at_L2 HR0.out x10_1 p239 q239
            cases e239
            have HR239_0 := Aside0.mk hi239_0
            have HC239_0 := Aside0.mk hl239_0
            clear hi239_0 hl239_0
            replace p239 := eq_true p239
            replace q239 := eq_true q239
            go_wp2
            go_loopg [3, 16] k1 (fun kq v3 v16 w' => ∃ (x3_2 : Int) (x16_2 : Int), v3 = .int .i64 x3_2 ∧ v16 = .int .i64 x16_2 ∧ Aside0 (sched_Busy.l1 kq x3_2 l0 (l0.length : Int) x10_1 (rd_L2 l0 x10_1) ((rd_L2 l0 x10_1).length : Int) x16_2 = some r) ∧ Aside0 (kq ≤ k1) ∧ Drawn0 w w')
            case atStart => exact ⟨(x3_1), (0), (by first | rfl | (simp; done) | (simp [*]; done)), (by first | rfl | (simp; done) | (simp [*]; done)), H', ⟨Nat.le_refl _⟩, by repeat (first | exact Drawn0.refl _ | apply Drawn0.step)⟩
            case round =>
              clear H'
              try clear c2
              try clear c2b0
              try clear p2
              try clear q2
              try clear hx2
              try clear c3
              try clear c3b0
              try clear c4
              try clear c4b0
              try clear hx239_0
              try clear p239
              try clear q239
              obtain ⟨x3_2, x16_2, rfl, rfl, HA, HK2, ⟨m2, rfl⟩⟩ := hrel
              cases gk with
              | zero => exact absurd HA.out (by simp [sched_Busy.l1])
              | succ k2 =>
                have H := HA.out
                clear HA
                simp only [sched_Busy.l1] at H
                by_cases c5 : x16_2 < ((rd_L2 l0 x10_1).length : Int)
                · rw [if_pos c5] at H
                  have c5b0 : decide (x16_2 < ((rd_L2 l0 x10_1).length : Int)) = true := decide_eq_true c5
                  clear c5
                  by_cases c6 : 0 ≤ x16_2
                  · rw [if_pos c6] at H
                    have c6b0 : decide (0 ≤ x16_2) = true := decide_eq_true c6
                    clear c6
                    by_cases c7 : x16_2 < ((rd_L2 l0 x10_1).length : Int)
                    · rw [if_pos c7] at H
                      have c7b0 : decide (x16_2 < ((rd_L2 l0 x10_1).length : Int)) = true := decide_eq_true c7
                      clear c7
                      by_cases c8 : (rd (rd_L2 l0 x10_1) x16_2) = (-1)
                      · rw [if_pos c8] at H
                        have c8b0 : ((rd (rd_L2 l0 x10_1) x16_2) == (-1)) = true := beq_iff_eq.mpr c8
                        have c8b1 : ((rd (rd_L2 l0 x10_1) x16_2) != (-1)) = false := bne_eq_false_iff_eq.mpr c8
                        clear c8
                        have H' := Aside0.mk H
                        clear H
                        have p240 : 0 ≤ (x16_2 : Int) := of_decide_eq_true (by first | (with_reducible assumption) | assumption)
                        have q240 : x16_2 < ((rd_L2 l0 x10_1).length : Int) := of_decide_eq_true (by first | (with_reducible assumption) | assumption)
                        obtain ⟨ad240, e240, hx240_0⟩ := Kd.at_int HR239_0.out x16_2 p240 q240
                        cases e240
                        replace p240 := eq_true p240
                        replace q240 := eq_true q240
                        go_wp2
                        go_roundg k2
                        case measure => have := HK1.out; have := HK2.out; omega
                        case rel => exact ⟨(x3_2), (wrap64 (x16_2 + 1)), (by first | rfl | (simp; done) | (simp [*]; done)), (by first | rfl | (simp; done) | (simp [*]; done)), H', ⟨by have := HK1.out; have := HK2.out; omega⟩, by repeat (first | exact Drawn0.refl _ | apply Drawn0.step)⟩
                      · rw [if_neg c8] at H
                        have c8b0 : ((rd (rd_L2 l0 x10_1) x16_2) == (-1)) = false := beq_eq_false_iff_ne.mpr c8
                        have c8b1 : ((rd (rd_L2 l0 x10_1) x16_2) != (-1)) = true := bne_iff_ne.mpr c8
                        have H' := Aside0.mk H
                        clear H
                        have p240 : 0 ≤ (x16_2 : Int) := of_decide_eq_true (by first | (with_reducible assumption) | assumption)
                        have q240 : x16_2 < ((rd_L2 l0 x10_1).length : Int) := of_decide_eq_true (by first | (with_reducible assumption) | assumption)
                        obtain ⟨ad240, e240, hx240_0⟩ := Kd.at_int HR239_0.out x16_2 p240 q240
                        cases e240
                        replace p240 := eq_true p240
                        replace q240 := eq_true q240
                        go_wp2
                        go_roundg k2
                        case measure => have := HK1.out; have := HK2.out; omega
                        case rel => exact ⟨(wrap64 (x3_2 + 1)), (wrap64 (x16_2 + 1)), (by first | rfl | (simp; done) | (simp [*]; done)), (by first | rfl | (simp; done) | (simp [*]; done)), H', ⟨by have := HK1.out; have := HK2.out; omega⟩, by repeat (first | exact Drawn0.refl _ | apply Drawn0.step)⟩
                    · rw [if_neg c7] at H
                      exact absurd H (by simp)
                  · rw [if_neg c6] at H
                    exact absurd H (by simp)
                · rw [if_neg c5] at H
                  have c5b0 : decide (x16_2 < ((rd_L2 l0 x10_1).length : Int)) = false := decide_eq_false c5
                  clear c5
                  have H' := Aside0.mk H
                  clear H
                  go_wp2
                  go_roundg k2
                  case measure => have := HK1.out; have := HK2.out; omega
                  case rel => exact ⟨(x3_2), (wrap64 (x10_1 + 1)), (by first | rfl | (simp; done) | (simp [*]; done)), (by first | rfl | (simp; done) | (simp [*]; done)), H', ⟨by have := HK1.out; have := HK2.out; omega⟩, by repeat (first | exact Drawn0.refl _ | apply Drawn0.step)⟩
          · rw [if_neg c4] at H
            exact absurd H (by simp)
        · rw [if_neg c3] at H
          exact absurd H (by simp)
      · rw [if_neg c2] at H
        have c2b0 : decide (x10_1 < (l0.length : Int)) = false := decide_eq_false c2
        clear c2
        obtain rfl := Option.some.inj H
        go_wp2
        go_ret
        exact ⟨by first | rfl | (simp; done) | (simp [*]; done), by repeat (first | exact Drawn0.refl _ | apply Drawn0.step)⟩

/-! ### trefoillaw10_awake: function 10, by hand -/
def trefoillaw10_awake.f : Option Bool := some true
theorem trefoillaw10_awake.calls (r : Bool) (w : World) (h : trefoillaw10_awake.f = some r) :
    Calls Try.prog 10 #[] w fun e w' => e = .returned (.bool r) ∧ Below w.heap.size w w' := by
  obtain rfl : true = r := by simpa [trefoillaw10_awake.f] using h
  exact awake10_any w

/-! ### trefoillaw04_Few: function 11 -/
def trefoillaw04_Few.f (l0_0 : List Int) (l0_1 : List (S45)) : Option (Bool) := if (l0_0.length : Int) ≤ 70 then (some (decide ((l0_1.length : Int) ≤ 300))) else (some false)
set_option maxHeartbeats 8000000 in
set_option maxRecDepth 100000 in
theorem trefoillaw04_Few.calls (A0_0 : Option Addr) (c0_0 : Nat) (l0_0 : List Int) (A0_1 : Option Addr) (c0_1 : Nat) (l0_1 : List (S45)) (r : Bool) (w : World) (hr0_0 : Kd.C (Kd.int .i64) w A0_0 l0_0.length l0_0) (hc0_0 : l0_0.length ≤ c0_0) (hr0_1 : Kd.C k45 w A0_1 l0_1.length l0_1) (hc0_1 : l0_1.length ≤ c0_1) (h : trefoillaw04_Few.f l0_0 l0_1 = some r) :
    Calls Try.prog 11 #[.agg #[.slice A0_0 l0_0.length c0_0, .slice A0_1 l0_1.length c0_1]] w fun e w' => e = .returned (.bool r) ∧ Below w.heap.size w w' := by
  have hu25 := Try.underlying25
  have HR0_0 := Aside0.mk hr0_0
  have HC0_0 := Aside0.mk hc0_0
  clear hr0_0 hc0_0
  have HR0_1 := Aside0.mk hr0_1
  have HC0_1 := Aside0.mk hc0_1
  clear hr0_1 hc0_1
  have HB := Aside0.mk (Below.refl w.heap.size w)
  have H : (if (l0_0.length : Int) ≤ 70 then (some (decide ((l0_1.length : Int) ≤ 300))) else (some false)) = some r := h
  clear h
  by_cases c2 : (l0_0.length : Int) ≤ 70
  · rw [if_pos c2] at H
    have c2b0 : decide ((l0_0.length : Int) ≤ 70) = true := decide_eq_true c2
    have c2b1 : decide (l0_0.length ≤ 70) = true := decide_eq_true (by omega)
    clear c2
    obtain rfl := Option.some.inj H
    go_enter Try.func11, Try.ntmps11
    go_wp2_with (first | ((with_reducible refine gate_dst (N := 1) rfl ?_); (try (refine gate_guard (by rfl) ?_; dsimp only)); refine box_event ?hg (N := 1) ?hd (cs := #[.slice A0_0 l0_0.length c0_0, .slice A0_1 l0_1.length c0_1]) (t := 25) ?hr ?_; (case hd => rfl); (case hg => rfl); (case hr => first | (go_simp; done) | (go_simp; rfl)); intro gb241 hg w3 hbox hb; have n0_ := Aside0.mk (below_step (by repeat (first | (with_reducible first | exact HB.out | apply below_alloc | apply pw_below_drewN | apply below_drew1) | exact HB.out)) hb); have n1_ := Aside0.mk (hbox); have n2_ := Aside0.mk ((by rw [hg]; exact (below_size (by repeat (first | (with_reducible first | exact HB.out | apply below_alloc | apply pw_below_drewN | apply below_drew1) | exact HB.out))) : w.heap.size ≤ gb241)); have n3_ := Aside0.mk ((by rw [hg]; exact (below_size (by repeat (first | (with_reducible first | exact HB.out | apply below_alloc | apply pw_below_drewN | apply below_drew1) | exact HB.out))) : w.heap.size ≤ gb241)); clear HB; have HB := n0_; have BK241 := n1_; have GW241 := n2_; have GE241 := n3_; clear n0_ n1_ n2_ n3_; clear hb hbox hg; have hcz4_0 : w3.cell? ⟨gb241, 0, none⟩ = some (.slice A0_0 l0_0.length c0_0) := (blk_cell BK241.out 0).trans rfl; have hcz4_1 : w3.cell? ⟨gb241, 1, none⟩ = some (.slice A0_1 l0_1.length c0_1) := (blk_cell BK241.out 1).trans rfl; have hfz4_0 := blk_frozen BK241.out 0; have hfz4_1 := blk_frozen BK241.out 1))
    go_ret
    exact ⟨by first | rfl | (simp [errW_none, errW_some] <;> rfl) | (simp [*, errW_none, errW_some] <;> rfl), by repeat (first | (with_reducible first | exact HB.out | apply below_alloc | apply pw_below_drewN | apply below_drew1 | refine below_set ?_ GE241.out) | exact HB.out)⟩
  · rw [if_neg c2] at H
    have c2b0 : decide ((l0_0.length : Int) ≤ 70) = false := decide_eq_false c2
    have c2b1 : decide (l0_0.length ≤ 70) = false := decide_eq_false (by omega)
    clear c2
    obtain rfl := Option.some.inj H
    go_enter Try.func11, Try.ntmps11
    go_wp2_with (first | ((with_reducible refine gate_dst (N := 1) rfl ?_); (try (refine gate_guard (by rfl) ?_; dsimp only)); refine box_event ?hg (N := 1) ?hd (cs := #[.slice A0_0 l0_0.length c0_0, .slice A0_1 l0_1.length c0_1]) (t := 25) ?hr ?_; (case hd => rfl); (case hg => rfl); (case hr => first | (go_simp; done) | (go_simp; rfl)); intro gb241 hg w5 hbox hb; have n0_ := Aside0.mk (below_step (by repeat (first | (with_reducible first | exact HB.out | apply below_alloc | apply pw_below_drewN | apply below_drew1) | exact HB.out)) hb); have n1_ := Aside0.mk (hbox); have n2_ := Aside0.mk ((by rw [hg]; exact (below_size (by repeat (first | (with_reducible first | exact HB.out | apply below_alloc | apply pw_below_drewN | apply below_drew1) | exact HB.out))) : w.heap.size ≤ gb241)); have n3_ := Aside0.mk ((by rw [hg]; exact (below_size (by repeat (first | (with_reducible first | exact HB.out | apply below_alloc | apply pw_below_drewN | apply below_drew1) | exact HB.out))) : w.heap.size ≤ gb241)); clear HB; have HB := n0_; have BK241 := n1_; have GW241 := n2_; have GE241 := n3_; clear n0_ n1_ n2_ n3_; clear hb hbox hg; have hcz6_0 : w5.cell? ⟨gb241, 0, none⟩ = some (.slice A0_0 l0_0.length c0_0) := (blk_cell BK241.out 0).trans rfl; have hcz6_1 : w5.cell? ⟨gb241, 1, none⟩ = some (.slice A0_1 l0_1.length c0_1) := (blk_cell BK241.out 1).trans rfl; have hfz6_0 := blk_frozen BK241.out 0; have hfz6_1 := blk_frozen BK241.out 1))
    go_ret
    exact ⟨by first | rfl | (simp [errW_none, errW_some] <;> rfl) | (simp [*, errW_none, errW_some] <;> rfl), by repeat (first | (with_reducible first | exact HB.out | apply below_alloc | apply pw_below_drewN | apply below_drew1 | refine below_set ?_ GE241.out) | exact HB.out)⟩

/-! ### trefoillaw04_Own: function 15 -/
def trefoillaw04_Own.f (l0_0 : List Int) (l0_1 : List (S45)) : Option (List Int × (List (S45))) := (some (([] : List Int) : List Int)).bind fun y244 => (if y244.length + l0_0.length < 17592186044416 then ((some (([] : List (S45)) : List (S45))).bind fun y250 => (if y250.length + l0_1.length < 8796093022208 then (some ((y244 ++ l0_0), (y250 ++ l0_1))) else (none))) else (none))
def trefoillaw04_Own.T1 : Bool × List (List Nat × List Nat) := (true, [([], []), ([], []), ([1], [1]), ([0, 2], [0, 2]), ([], []), ([], []), ([5], [5]), ([4, 6, 3], [4, 6]), ([3, 7], [3, 7]), ([8, 7, 0, 1, 2, 3, 4, 5, 6, 7, 8], [8])])
def trefoillaw04_Own.B1 : List Nat := [0, 0, 2, 7, 0, 0, 32, 127, 255, 511]
theorem trefoillaw04_Own.tab1 : rtab .any (opsOf Try.f15 1) = trefoillaw04_Own.T1 := by kernel_rfl
theorem trefoillaw04_Own.bits1 : waitsOk trefoillaw04_Own.T1.2 trefoillaw04_Own.B1 = true := by kernel_rfl
set_option maxHeartbeats 8000000 in
set_option maxRecDepth 100000 in
theorem trefoillaw04_Own.calls (A0_0 : Option Addr) (c0_0 : Nat) (l0_0 : List Int) (A0_1 : Option Addr) (c0_1 : Nat) (l0_1 : List (S45)) (r1 : List Int) (r2 : List (S45)) (w : World) (hr0_0 : Kd.C (Kd.int .i64) w A0_0 l0_0.length l0_0) (hc0_0 : l0_0.length ≤ c0_0) (hr0_1 : Kd.C k45 w A0_1 l0_1.length l0_1) (hc0_1 : l0_1.length ≤ c0_1) (h : trefoillaw04_Own.f l0_0 l0_1 = some (r1, r2)) :
    Calls Try.prog 15 #[.agg #[.slice A0_0 l0_0.length c0_0, .slice A0_1 l0_1.length c0_1]] w fun e w' => ∃ v0_ v1_ : Value, e = .returned (.agg #[v0_, v1_]) ∧ Kd.R (Kd.int .i64) 3 w' w.heap.size (fun _ => True) v0_ r1 ∧ Kd.R k45 45 w' w.heap.size (fun _ => True) v1_ r2 ∧ Below w.heap.size w w' := by
  have hu25 := Try.underlying25
  have HR0_0 := Aside0.mk hr0_0
  have HC0_0 := Aside0.mk hc0_0
  clear hr0_0 hc0_0
  have HR0_1 := Aside0.mk hr0_1
  have HC0_1 := Aside0.mk hc0_1
  clear hr0_1 hc0_1
  have HB := Aside0.mk (Below.refl w.heap.size w)
  have H : ((some (([] : List Int) : List Int)).bind fun y244 => (if y244.length + l0_0.length < 17592186044416 then ((some (([] : List (S45)) : List (S45))).bind fun y250 => (if y250.length + l0_1.length < 8796093022208 then (some ((y244 ++ l0_0), (y250 ++ l0_1))) else (none))) else (none))) = some (r1, r2) := h
  clear h
  obtain ⟨y244, hy244⟩ : ∃ y_ : List Int, y_ = (([] : List Int)) := ⟨_, rfl⟩
  replace H : (if y244.length + l0_0.length < 17592186044416 then ((some (([] : List (S45)) : List (S45))).bind fun y250 => (if y250.length + l0_1.length < 8796093022208 then (some ((y244 ++ l0_0), (y250 ++ l0_1))) else (none))) else (none)) = some (r1, r2) := by first | (rw [hy244]; with_reducible exact H) | (have H2_ := (Option.bind_some _ _).symm.trans H; rw [hy244]; with_reducible exact H2_) | (have H2_ := (Option.bind_some _ _).symm.trans H; with_reducible exact H2_) | with_reducible exact H | (rw [hy244]; exact H) | exact H
  have Ny244 := Aside0.mk hy244
  clear hy244
  by_cases c2 : y244.length + l0_0.length < 17592186044416
  · rw [if_pos c2] at H
    have LMc2 := Aside0.mk c2
    clear c2
    obtain ⟨y247, hy247⟩ : ∃ y_ : List Int, y_ = (y244 ++ l0_0) := ⟨_, rfl⟩
    replace H : ((some (([] : List (S45)) : List (S45))).bind fun y250 => (if y250.length + l0_1.length < 8796093022208 then (some (y247, (y250 ++ l0_1))) else (none))) = some (r1, r2) := by first | (rw [hy247]; with_reducible exact H) | (have H2_ := (Option.bind_some _ _).symm.trans H; rw [hy247]; with_reducible exact H2_) | (have H2_ := (Option.bind_some _ _).symm.trans H; with_reducible exact H2_) | with_reducible exact H | (rw [hy247]; exact H) | exact H
    have Ny247 := Aside0.mk hy247
    clear hy247
    obtain ⟨y250, hy250⟩ : ∃ y_ : List (S45), y_ = (([] : List (S45))) := ⟨_, rfl⟩
    replace H : (if y250.length + l0_1.length < 8796093022208 then (some (y247, (y250 ++ l0_1))) else (none)) = some (r1, r2) := by first | (rw [hy250]; with_reducible exact H) | (have H2_ := (Option.bind_some _ _).symm.trans H; rw [hy250]; with_reducible exact H2_) | (have H2_ := (Option.bind_some _ _).symm.trans H; with_reducible exact H2_) | with_reducible exact H | (rw [hy250]; exact H) | exact H
    have Ny250 := Aside0.mk hy250
    clear hy250
    by_cases c3 : y250.length + l0_1.length < 8796093022208
    · rw [if_pos c3] at H
      have LMc3 := Aside0.mk c3
      clear c3
      obtain ⟨y253, hy253⟩ : ∃ y_ : List (S45), y_ = (y250 ++ l0_1) := ⟨_, rfl⟩
      replace H : (some (y247, y253)) = some (r1, r2) := by first | (rw [hy253]; with_reducible exact H) | (have H2_ := (Option.bind_some _ _).symm.trans H; rw [hy253]; with_reducible exact H2_) | (have H2_ := (Option.bind_some _ _).symm.trans H; with_reducible exact H2_) | with_reducible exact H | (rw [hy253]; exact H) | exact H
      have Ny253 := Aside0.mk hy253
      clear hy253
      simp only [Option.some.injEq, Prod.mk.injEq] at H
      obtain ⟨rfl, rfl⟩ := H
      go_enter Try.func15, Try.ntmps15
      try go_wp2_with (first | ((with_reducible refine gate_dst (N := 1) rfl ?_); refine box_event ?hg (N := 1) ?hd (cs := #[.slice A0_0 l0_0.length c0_0, .slice A0_1 l0_1.length c0_1]) (t := 25) ?hr ?_; (case hd => rfl); (case hg => rfl); (case hr => first | (go_simp; done) | (go_simp; rfl)); intro gb242 hg w4 hbox hb; have n0_ := Aside0.mk (below_step (by repeat (first | (with_reducible first | exact HB.out | apply below_alloc | apply pw_below_drewN | apply below_drew1) | exact HB.out)) hb); have n1_ := Aside0.mk (hbox); have n2_ := Aside0.mk ((by rw [hg]; exact (below_size (by repeat (first | (with_reducible first | exact HB.out | apply below_alloc | apply pw_below_drewN | apply below_drew1) | exact HB.out))) : w.heap.size ≤ gb242)); have n3_ := Aside0.mk ((by rw [hg]; exact (below_size (by repeat (first | (with_reducible first | exact HB.out | apply below_alloc | apply pw_below_drewN | apply below_drew1) | exact HB.out))) : w.heap.size ≤ gb242)); clear HB; have HB := n0_; have BK242 := n1_; have GW242 := n2_; have GE242 := n3_; clear n0_ n1_ n2_ n3_; clear hb hbox hg) | ((with_reducible refine gate_dst (N := 2) rfl ?_); refine box_event ?hg (N := 2) ?hd (cs := #[.slice none 0 0, .slice none 0 0]) (t := 25) ?hr ?_; (case hd => rfl); (case hg => rfl); (case hr => first | (go_simp; done) | (go_simp; rfl)); intro gb243 hg w5 hbox hb; have n0_ := Aside0.mk (blk_below (g := gb242) (o := .cells #[.slice A0_0 l0_0.length c0_0, .slice A0_1 l0_1.length c0_1] 25 (0, 0)) (by (with_reducible repeat (first | refine blk_drewN ?_ _ | refine blk_drew ?_ | refine blk_alloc ?_ _)); exact BK242.out) hb); have n1_ := Aside0.mk (below_step (by repeat (first | (with_reducible first | exact HB.out | apply below_alloc | apply pw_below_drewN | apply below_drew1 | refine below_set ?_ GE242.out) | exact HB.out)) hb); have n2_ := Aside0.mk (hbox); have n3_ := Aside0.mk ((by rw [hg]; exact (below_size (by repeat (first | (with_reducible first | exact HB.out | apply below_alloc | apply pw_below_drewN | apply below_drew1 | refine below_set ?_ GE242.out) | exact HB.out))) : w.heap.size ≤ gb243)); have n4_ := Aside0.mk ((by rw [hg]; exact (below_size (by repeat (first | (with_reducible first | exact HB.out | apply below_alloc | apply pw_below_drewN | apply below_drew1 | refine below_set ?_ GE242.out) | exact HB.out))) : w.heap.size ≤ gb243)); have n5_ := Aside0.mk ((by rw [hg]; exact Nat.ne_of_lt (blk_lt (g := gb242) (o := .cells #[.slice A0_0 l0_0.length c0_0, .slice A0_1 l0_1.length c0_1] 25 (0, 0)) (by (with_reducible repeat (first | refine blk_drewN ?_ _ | refine blk_drew ?_ | refine blk_alloc ?_ _)); exact BK242.out)) : gb242 ≠ gb243)); have n6_ := Aside0.mk ((by rw [hg]; exact Nat.ne_of_gt (blk_lt (g := gb242) (o := .cells #[.slice A0_0 l0_0.length c0_0, .slice A0_1 l0_1.length c0_1] 25 (0, 0)) (by (with_reducible repeat (first | refine blk_drewN ?_ _ | refine blk_drew ?_ | refine blk_alloc ?_ _)); exact BK242.out)) : gb243 ≠ gb242)); clear BK242; clear HB; have BK242 := n0_; have HB := n1_; have BK243 := n2_; have GW243 := n3_; have GE243 := n4_; have NB242_243 := n5_; have NB243_242 := n6_; clear n0_ n1_ n2_ n3_ n4_ n5_ n6_; clear hb hbox hg))
      have n0_ := Aside0.mk (blk_drew BK242.out)
      have n1_ := Aside0.mk (blk_drew BK243.out)
      have n2_ := Aside0.mk (below_drew1 HB.out)
      clear BK242
      clear BK243
      clear HB
      have BK242 := n0_
      have BK243 := n1_
      have HB := n2_
      clear n0_ n1_ n2_
      refine start_ (n := 10) (S := fun w' => w'.cell? ⟨gb242, 0, none⟩ = some (.slice A0_0 l0_0.length c0_0) ∧ w'.cell? ⟨gb242, 1, none⟩ = some (.slice A0_1 l0_1.length c0_1)) (ds := []) #[false, false, false, false, false, false, false, false, false, false] (by kernel_rfl) rfl rfl ⟨(blk_cell BK242.out 0).trans rfl, (blk_cell BK242.out 1).trans rfl⟩ (fun hHeld => ?_); refine with_tabW trefoillaw04_Own.tab1 trefoillaw04_Own.bits1 (fun HT_ HW_ => ?_)
      generalize w5.drew = w6 at BK242 BK243 HB hHeld ⊢
      refine pure_ (i := 1) (N := some 4) (v := ?_) (a' := ?_) #[false, true, false, false, false, false, false, false, false, false] rfl rfl (any_of HT_.out (by kernel_rfl)) (fun _ _ _ h => h) (Or.inl ⟨by rfl, ?_⟩) ?_ ?_
      rotate_left
      · intro w'
        go_simp
        with_reducible rfl
      rotate_left
      · simp only [Act.put, List.setIfInBounds_toArray, List.set_cons_zero, List.set_cons_succ, i64_w, i32_w]
        rfl
      refine pure_ (i := 5) (N := some 8) (v := ?_) (a' := ?_) #[false, true, false, false, false, true, false, false, false, false] rfl rfl (any_of HT_.out (by kernel_rfl)) (fun _ _ _ h => h) (Or.inl ⟨by rfl, ?_⟩) ?_ ?_
      rotate_left
      · intro w'
        go_simp
        with_reducible rfl
      rotate_left
      · simp only [Act.put, List.setIfInBounds_toArray, List.set_cons_zero, List.set_cons_succ, i64_w, i32_w]
        rfl
      refine take_ (i := 2) (N := some 5) (v := ?_) (a' := ?_) #[false, true, true, false, false, true, false, false, false, false] rfl rfl (take_ofW HT_.out HW_.out (by kernel_rfl)) (fun _ _ _ h => h) (Or.inl ⟨by rfl, ?_⟩) hHeld ?_ ?_
      rotate_left
      · rintro w' ⟨s0, s1⟩
        go_simp
        with_reducible rfl
      rotate_left
      · simp only [Act.put, List.setIfInBounds_toArray, List.set_cons_zero, List.set_cons_succ, i64_w, i32_w]
        rfl
      refine take_ (i := 6) (N := some 9) (v := ?_) (a' := ?_) #[false, true, true, false, false, true, true, false, false, false] rfl rfl (take_ofW HT_.out HW_.out (by kernel_rfl)) (fun _ _ _ h => h) (Or.inl ⟨by rfl, ?_⟩) hHeld ?_ ?_
      rotate_left
      · rintro w' ⟨s0, s1⟩
        go_simp
        with_reducible rfl
      rotate_left
      · simp only [Act.put, List.setIfInBounds_toArray, List.set_cons_zero, List.set_cons_succ, i64_w, i32_w]
        rfl
      refine join_ (σ := Value × Value × Value) 3 #[true, true, true, true, true, true, true, false, false, false] (fun s_ => [(3, s_.1), (6, s_.2.1), (7, s_.2.2)]) (fun s_ w' => (w'.cell? ⟨gb242, 0, none⟩ = some (.slice A0_0 l0_0.length c0_0) ∧ w'.cell? ⟨gb242, 1, none⟩ = some (.slice A0_1 l0_1.length c0_1)) ∧ (Kd.R (Kd.int .i64) 3 w' w.heap.size (fun _ => True) s_.2.1 y247) ∧ (Kd.R k45 45 w' w.heap.size (fun _ => True) s_.2.2 y250) ∧ (w'.heap[gb242]? = some (.cells #[.slice A0_0 l0_0.length c0_0, .slice A0_1 l0_1.length c0_1] 25 (0, 0))) ∧ (w'.heap[gb243]? = some (.cells #[.slice none 0 0, .slice none 0 0] 25 (0, 0))) ∧ (Below w.heap.size w w')) ?_ ?_
      rotate_left
      · intro hCont
        refine two_ (i := 0) (j := 4) (Ni := some 3) (Nj := some 7) #[true, true, true, false, false, true, true, false, false, false] #[false, true, true, false, true, true, true, false, false, false] rfl rfl rfl rfl (two_of HT_.out (by kernel_rfl)) (by decide) (by decide) (fun K hK => ?_) (fun K hK => ?_)
        · skip
          refine Kd.R_lit_step (Kd.int .i64) _ 3 ?hg (N := 3) ?hd (xs := ([] : List Int)) (inner := []) (ok := fun _ => True) (okp := fun _ => True) ?hr ?hp (fun _ hk => hk) trivial (Below.refl _ _) (Nat.le_refl _) (by simp) ?_; (case hd => rfl); (case hg => rfl); (case hr => first | (go_simp; done) | (go_simp; rfl)); (case hp => exact (Reps.none _ _))
          intro v245 w7 ho8 hb hg_ hnew_
          clear hg_ hnew_
          (first | rw [← Ny244.out] at ho8 | (simp only [Int.reduceToNat] at ho8; rw [← Ny244.out] at ho8))
          have n0_ := Aside0.mk (Kd.R_lower ho8 (below_size (by repeat (first | (with_reducible first | exact HB.out | apply below_alloc | apply pw_below_drewN | apply below_drew1 | refine below_set ?_ GE242.out | refine below_set ?_ GE243.out) | exact HB.out))))
          have n1_ := Aside0.mk (blk_below (g := gb242) (o := .cells #[.slice A0_0 l0_0.length c0_0, .slice A0_1 l0_1.length c0_1] 25 (0, 0)) (by (with_reducible repeat (first | refine blk_drewN ?_ _ | refine blk_drew ?_ | refine blk_alloc ?_ _)); exact BK242.out) hb)
          have n2_ := Aside0.mk (blk_below (g := gb243) (o := .cells #[.slice none 0 0, .slice none 0 0] 25 (0, 0)) (by (with_reducible repeat (first | refine blk_drewN ?_ _ | refine blk_drew ?_ | refine blk_alloc ?_ _)); exact BK243.out) hb)
          have n3_ := Aside0.mk (below_step (by repeat (first | (with_reducible first | exact HB.out | apply below_alloc | apply pw_below_drewN | apply below_drew1 | refine below_set ?_ GE242.out | refine below_set ?_ GE243.out) | exact HB.out)) hb)
          clear BK242
          clear BK243
          clear HB
          have HO246 := n0_
          have BK242 := n1_
          have BK243 := n2_
          have HB := n3_
          clear n0_ n1_ n2_ n3_
          clear hb ho8
          refine hK.out _ _ ⟨(blk_cell BK242.out 0).trans rfl, (blk_cell BK242.out 1).trans rfl⟩ (fun hHeld => ?_)
          clear hK K
          refine norm_ (a' := ?_) ?_ ?_
          rotate_left
          · show Act.put _ (some 3) _ = _
            simp only [Act.put, List.setIfInBounds_toArray, List.set_cons_zero, List.set_cons_succ, i64_w, i32_w]
            rfl
          refine two_ (i := 3) (j := 4) (Ni := some 6) (Nj := some 7) #[true, true, true, true, false, true, true, false, false, false] #[true, true, true, false, true, true, true, false, false, false] rfl rfl rfl rfl (two_of HT_.out (by kernel_rfl)) (by decide) (by decide) (fun K hK => ?_) (fun K hK => ?_)
          · skip
            refine Kd.R_append_rows_step (Kd.int .i64) (w0 := w) w.heap.size (by rfl) (.tmp 3) (.tmp 5) 22 3 (.int .i64 0) 8 rfl Try.underlying22 info3 rfl (by decide) (by omega) v245 y244 l0_0 _ _ _ (fun _ => True) (fun _ => False) rfl rfl ?aO ?aR (fun _ _ h => h) (fun _ h => h.elim) ?aF ?aB ?aS ?aL ?_
            (case aR => repeat (first | exact (Kd.C_below HR0_0.out HB.out) | (with_reducible refine Kd.C_alloc ?_ _) | (with_reducible refine Kd.C_drewN ?_ _) | (with_reducible refine Kd.C_drew ?_)))
            (case aB => exact (by repeat (first | (with_reducible first | exact HB.out | apply below_alloc | apply pw_below_drewN | apply below_drew1 | refine below_set ?_ GE242.out | refine below_set ?_ GE243.out) | exact HB.out)))
            (case aF => exact (fun _ _ => trivial))
            (case aO => exact (by (with_reducible repeat (first | apply Kd.R_alloc | apply Kd.R_drewN | apply Kd.R_drew)); exact HO246.out))
            (case aS => exact (below_size (by repeat (first | (with_reducible first | exact HB.out | apply below_alloc | apply pw_below_drewN | apply below_drew1 | refine below_set ?_ GE242.out | refine below_set ?_ GE243.out) | exact HB.out))))
            (case aL => have := LMc2.out; omega)
            intro v248 w9 ho hb hg hat
            rw [← Ny247.out] at ho
            have n0_ := Aside0.mk (blk_grown (g := gb242) (o := .cells #[.slice A0_0 l0_0.length c0_0, .slice A0_1 l0_1.length c0_1] 25 (0, 0)) (by (with_reducible repeat (first | refine blk_drewN ?_ _ | refine blk_drew ?_ | refine blk_alloc ?_ _)); exact BK242.out) hg (Kd.R_ne HO246.out BK242.out (by decide)))
            have n1_ := Aside0.mk (blk_grown (g := gb243) (o := .cells #[.slice none 0 0, .slice none 0 0] 25 (0, 0)) (by (with_reducible repeat (first | refine blk_drewN ?_ _ | refine blk_drew ?_ | refine blk_alloc ?_ _)); exact BK243.out) hg (Kd.R_ne HO246.out BK243.out (by decide)))
            have n2_ := Aside0.mk (hb)
            have n3_ := Aside0.mk (ho)
            clear BK242
            clear BK243
            clear HB
            clear HO246
            have BK242 := n0_
            have BK243 := n1_
            have HB := n2_
            have HO249 := n3_
            clear n0_ n1_ n2_ n3_
            clear ho hb hg hat
            refine hK.out _ _ ⟨(blk_cell BK242.out 0).trans rfl, (blk_cell BK242.out 1).trans rfl⟩ (fun hHeld => ?_)
            clear hK K
            refine norm_ (a' := ?_) ?_ ?_
            rotate_left
            · show Act.put _ (some 6) _ = _
              simp only [Act.put, List.setIfInBounds_toArray, List.set_cons_zero, List.set_cons_succ, i64_w, i32_w]
              rfl
            refine one_ (i := 4) (N := some 7) #[true, true, true, true, true, true, true, false, false, false] rfl rfl (one_of HT_.out (by kernel_rfl)) (by decide) (fun K hK => ?_)
            refine Kd.R_lit_step k45 _ 45 ?hg (N := 7) ?hd (xs := ([] : List (S45))) (inner := []) (ok := fun _ => True) (okp := fun _ => True) ?hr ?hp (fun _ hk => hk) trivial (Below.refl _ _) (Nat.le_refl _) (by simp) ?_; (case hd => rfl); (case hg => rfl); (case hr => first | (go_simp; done) | (go_simp; rfl)); (case hp => exact (Reps.none _ _))
            intro v251 w10 ho11 hb hg_ hnew_
            clear hg_ hnew_
            (first | rw [← Ny250.out] at ho11 | (simp only [Int.reduceToNat] at ho11; rw [← Ny250.out] at ho11))
            have n0_ := Aside0.mk (Kd.R_below (by (with_reducible repeat (first | apply Kd.R_alloc | apply Kd.R_drewN | apply Kd.R_drew)); exact HO249.out) hb)
            have n1_ := Aside0.mk (Kd.R_lower ho11 (below_size (by repeat (first | (with_reducible first | exact HB.out | apply below_alloc | apply pw_below_drewN | apply below_drew1 | refine below_set ?_ GE242.out | refine below_set ?_ GE243.out) | exact HB.out))))
            have n2_ := Aside0.mk (blk_below (g := gb242) (o := .cells #[.slice A0_0 l0_0.length c0_0, .slice A0_1 l0_1.length c0_1] 25 (0, 0)) (by (with_reducible repeat (first | refine blk_drewN ?_ _ | refine blk_drew ?_ | refine blk_alloc ?_ _)); exact BK242.out) hb)
            have n3_ := Aside0.mk (blk_below (g := gb243) (o := .cells #[.slice none 0 0, .slice none 0 0] 25 (0, 0)) (by (with_reducible repeat (first | refine blk_drewN ?_ _ | refine blk_drew ?_ | refine blk_alloc ?_ _)); exact BK243.out) hb)
            have n4_ := Aside0.mk (below_step (by repeat (first | (with_reducible first | exact HB.out | apply below_alloc | apply pw_below_drewN | apply below_drew1 | refine below_set ?_ GE242.out | refine below_set ?_ GE243.out) | exact HB.out)) hb)
            clear HO249
            clear BK242
            clear BK243
            clear HB
            have HO249 := n0_
            have HO252 := n1_
            have BK242 := n2_
            have BK243 := n3_
            have HB := n4_
            clear n0_ n1_ n2_ n3_ n4_
            clear hb ho11
            refine hK.out _ _ ⟨(blk_cell BK242.out 0).trans rfl, (blk_cell BK242.out 1).trans rfl⟩ (fun hHeld => ?_)
            clear hK K
            refine norm_ (a' := ?_) ?_ ?_
            rotate_left
            · show Act.put _ (some 7) _ = _
              simp only [Act.put, List.setIfInBounds_toArray, List.set_cons_zero, List.set_cons_succ, i64_w, i32_w]
              rfl
            exact norm_ (by simp only [putAll, Act.put, List.setIfInBounds_toArray, List.set_cons_zero, List.set_cons_succ]) (hCont (v245, v248, v251) _ ⟨hHeld, (by (with_reducible repeat (first | apply Kd.R_alloc | apply Kd.R_drewN | apply Kd.R_drew)); exact HO249.out), (by (with_reducible repeat (first | apply Kd.R_alloc | apply Kd.R_drewN | apply Kd.R_drew)); exact HO252.out), (by (with_reducible repeat (first | refine blk_drewN ?_ _ | refine blk_drew ?_ | refine blk_alloc ?_ _)); exact BK242.out), (by (with_reducible repeat (first | refine blk_drewN ?_ _ | refine blk_drew ?_ | refine blk_alloc ?_ _)); exact BK243.out), (by repeat (first | (with_reducible first | exact HB.out | apply below_alloc | apply pw_below_drewN | apply below_drew1 | refine below_set ?_ GE242.out | refine below_set ?_ GE243.out) | exact HB.out))⟩)
          · skip
            refine Kd.R_lit_step k45 _ 45 ?hg (N := 7) ?hd (xs := ([] : List (S45))) (inner := []) (ok := fun _ => True) (okp := fun _ => True) ?hr ?hp (fun _ hk => hk) trivial (Below.refl _ _) (Nat.le_refl _) (by simp) ?_; (case hd => rfl); (case hg => rfl); (case hr => first | (go_simp; done) | (go_simp; rfl)); (case hp => exact (Reps.none _ _))
            intro v251 w9 ho10 hb hg_ hnew_
            clear hg_ hnew_
            (first | rw [← Ny250.out] at ho10 | (simp only [Int.reduceToNat] at ho10; rw [← Ny250.out] at ho10))
            have n0_ := Aside0.mk (Kd.R_below (by (with_reducible repeat (first | apply Kd.R_alloc | apply Kd.R_drewN | apply Kd.R_drew)); exact HO246.out) hb)
            have n1_ := Aside0.mk (Kd.R_lower ho10 (below_size (by repeat (first | (with_reducible first | exact HB.out | apply below_alloc | apply pw_below_drewN | apply below_drew1 | refine below_set ?_ GE242.out | refine below_set ?_ GE243.out) | exact HB.out))))
            have n2_ := Aside0.mk (blk_below (g := gb242) (o := .cells #[.slice A0_0 l0_0.length c0_0, .slice A0_1 l0_1.length c0_1] 25 (0, 0)) (by (with_reducible repeat (first | refine blk_drewN ?_ _ | refine blk_drew ?_ | refine blk_alloc ?_ _)); exact BK242.out) hb)
            have n3_ := Aside0.mk (blk_below (g := gb243) (o := .cells #[.slice none 0 0, .slice none 0 0] 25 (0, 0)) (by (with_reducible repeat (first | refine blk_drewN ?_ _ | refine blk_drew ?_ | refine blk_alloc ?_ _)); exact BK243.out) hb)
            have n4_ := Aside0.mk (below_step (by repeat (first | (with_reducible first | exact HB.out | apply below_alloc | apply pw_below_drewN | apply below_drew1 | refine below_set ?_ GE242.out | refine below_set ?_ GE243.out) | exact HB.out)) hb)
            clear HO246
            clear BK242
            clear BK243
            clear HB
            have HO246 := n0_
            have HO252 := n1_
            have BK242 := n2_
            have BK243 := n3_
            have HB := n4_
            clear n0_ n1_ n2_ n3_ n4_
            clear hb ho10
            refine hK.out _ _ ⟨(blk_cell BK242.out 0).trans rfl, (blk_cell BK242.out 1).trans rfl⟩ (fun hHeld => ?_)
            clear hK K
            refine norm_ (a' := ?_) ?_ ?_
            rotate_left
            · show Act.put _ (some 7) _ = _
              simp only [Act.put, List.setIfInBounds_toArray, List.set_cons_zero, List.set_cons_succ, i64_w, i32_w]
              rfl
            refine one_ (i := 3) (N := some 6) #[true, true, true, true, true, true, true, false, false, false] rfl rfl (one_of HT_.out (by kernel_rfl)) (by decide) (fun K hK => ?_)
            refine Kd.R_append_rows_step (Kd.int .i64) (w0 := w) w.heap.size (by rfl) (.tmp 3) (.tmp 5) 22 3 (.int .i64 0) 8 rfl Try.underlying22 info3 rfl (by decide) (by omega) v245 y244 l0_0 _ _ _ (fun _ => True) (fun _ => False) rfl rfl ?aO ?aR (fun _ _ h => h) (fun _ h => h.elim) ?aF ?aB ?aS ?aL ?_
            (case aR => repeat (first | exact (Kd.C_below HR0_0.out HB.out) | (with_reducible refine Kd.C_alloc ?_ _) | (with_reducible refine Kd.C_drewN ?_ _) | (with_reducible refine Kd.C_drew ?_)))
            (case aB => exact (by repeat (first | (with_reducible first | exact HB.out | apply below_alloc | apply pw_below_drewN | apply below_drew1 | refine below_set ?_ GE242.out | refine below_set ?_ GE243.out) | exact HB.out)))
            (case aF => exact (fun _ _ => trivial))
            (case aO => exact (by (with_reducible repeat (first | apply Kd.R_alloc | apply Kd.R_drewN | apply Kd.R_drew)); exact HO246.out))
            (case aS => exact (below_size (by repeat (first | (with_reducible first | exact HB.out | apply below_alloc | apply pw_below_drewN | apply below_drew1 | refine below_set ?_ GE242.out | refine below_set ?_ GE243.out) | exact HB.out))))
            (case aL => have := LMc2.out; omega)
            intro v248 w11 ho hb hg hat
            rw [← Ny247.out] at ho
            have n0_ := Aside0.mk (blk_grown (g := gb242) (o := .cells #[.slice A0_0 l0_0.length c0_0, .slice A0_1 l0_1.length c0_1] 25 (0, 0)) (by (with_reducible repeat (first | refine blk_drewN ?_ _ | refine blk_drew ?_ | refine blk_alloc ?_ _)); exact BK242.out) hg (Kd.R_ne HO246.out BK242.out (by decide)))
            have n1_ := Aside0.mk (blk_grown (g := gb243) (o := .cells #[.slice none 0 0, .slice none 0 0] 25 (0, 0)) (by (with_reducible repeat (first | refine blk_drewN ?_ _ | refine blk_drew ?_ | refine blk_alloc ?_ _)); exact BK243.out) hg (Kd.R_ne HO246.out BK243.out (by decide)))
            have n2_ := Aside0.mk (Kd.R_over' (by (with_reducible repeat (first | apply Kd.R_alloc | apply Kd.R_drewN | apply Kd.R_drew)); exact HO252.out) (Kd.R_typed (by (with_reducible repeat (first | apply Kd.R_alloc | apply Kd.R_drewN | apply Kd.R_drew)); exact HO246.out)) (by decide) hg)
            have n3_ := Aside0.mk (hb)
            have n4_ := Aside0.mk (ho)
            clear BK242
            clear BK243
            clear HO252
            clear HB
            clear HO246
            have BK242 := n0_
            have BK243 := n1_
            have HO252 := n2_
            have HB := n3_
            have HO249 := n4_
            clear n0_ n1_ n2_ n3_ n4_
            clear ho hb hg hat
            refine hK.out _ _ ⟨(blk_cell BK242.out 0).trans rfl, (blk_cell BK242.out 1).trans rfl⟩ (fun hHeld => ?_)
            clear hK K
            refine norm_ (a' := ?_) ?_ ?_
            rotate_left
            · show Act.put _ (some 6) _ = _
              simp only [Act.put, List.setIfInBounds_toArray, List.set_cons_zero, List.set_cons_succ, i64_w, i32_w]
              rfl
            exact norm_ (by simp only [putAll, Act.put, List.setIfInBounds_toArray, List.set_cons_zero, List.set_cons_succ]) (hCont (v245, v248, v251) _ ⟨hHeld, (by (with_reducible repeat (first | apply Kd.R_alloc | apply Kd.R_drewN | apply Kd.R_drew)); exact HO249.out), (by (with_reducible repeat (first | apply Kd.R_alloc | apply Kd.R_drewN | apply Kd.R_drew)); exact HO252.out), (by (with_reducible repeat (first | refine blk_drewN ?_ _ | refine blk_drew ?_ | refine blk_alloc ?_ _)); exact BK242.out), (by (with_reducible repeat (first | refine blk_drewN ?_ _ | refine blk_drew ?_ | refine blk_alloc ?_ _)); exact BK243.out), (by repeat (first | (with_reducible first | exact HB.out | apply below_alloc | apply pw_below_drewN | apply below_drew1 | refine below_set ?_ GE242.out | refine below_set ?_ GE243.out) | exact HB.out))⟩)
        · skip
          refine Kd.R_lit_step k45 _ 45 ?hg (N := 7) ?hd (xs := ([] : List (S45))) (inner := []) (ok := fun _ => True) (okp := fun _ => True) ?hr ?hp (fun _ hk => hk) trivial (Below.refl _ _) (Nat.le_refl _) (by simp) ?_; (case hd => rfl); (case hg => rfl); (case hr => first | (go_simp; done) | (go_simp; rfl)); (case hp => exact (Reps.none _ _))
          intro v251 w7 ho8 hb hg_ hnew_
          clear hg_ hnew_
          (first | rw [← Ny250.out] at ho8 | (simp only [Int.reduceToNat] at ho8; rw [← Ny250.out] at ho8))
          have n0_ := Aside0.mk (Kd.R_lower ho8 (below_size (by repeat (first | (with_reducible first | exact HB.out | apply below_alloc | apply pw_below_drewN | apply below_drew1 | refine below_set ?_ GE242.out | refine below_set ?_ GE243.out) | exact HB.out))))
          have n1_ := Aside0.mk (blk_below (g := gb242) (o := .cells #[.slice A0_0 l0_0.length c0_0, .slice A0_1 l0_1.length c0_1] 25 (0, 0)) (by (with_reducible repeat (first | refine blk_drewN ?_ _ | refine blk_drew ?_ | refine blk_alloc ?_ _)); exact BK242.out) hb)
          have n2_ := Aside0.mk (blk_below (g := gb243) (o := .cells #[.slice none 0 0, .slice none 0 0] 25 (0, 0)) (by (with_reducible repeat (first | refine blk_drewN ?_ _ | refine blk_drew ?_ | refine blk_alloc ?_ _)); exact BK243.out) hb)
          have n3_ := Aside0.mk (below_step (by repeat (first | (with_reducible first | exact HB.out | apply below_alloc | apply pw_below_drewN | apply below_drew1 | refine below_set ?_ GE242.out | refine below_set ?_ GE243.out) | exact HB.out)) hb)
          clear BK242
          clear BK243
          clear HB
          have HO252 := n0_
          have BK242 := n1_
          have BK243 := n2_
          have HB := n3_
          clear n0_ n1_ n2_ n3_
          clear hb ho8
          refine hK.out _ _ ⟨(blk_cell BK242.out 0).trans rfl, (blk_cell BK242.out 1).trans rfl⟩ (fun hHeld => ?_)
          clear hK K
          refine norm_ (a' := ?_) ?_ ?_
          rotate_left
          · show Act.put _ (some 7) _ = _
            simp only [Act.put, List.setIfInBounds_toArray, List.set_cons_zero, List.set_cons_succ, i64_w, i32_w]
            rfl
          refine one_ (i := 0) (N := some 3) #[true, true, true, false, true, true, true, false, false, false] rfl rfl (one_of HT_.out (by kernel_rfl)) (by decide) (fun K hK => ?_)
          refine Kd.R_lit_step (Kd.int .i64) _ 3 ?hg (N := 3) ?hd (xs := ([] : List Int)) (inner := []) (ok := fun _ => True) (okp := fun _ => True) ?hr ?hp (fun _ hk => hk) trivial (Below.refl _ _) (Nat.le_refl _) (by simp) ?_; (case hd => rfl); (case hg => rfl); (case hr => first | (go_simp; done) | (go_simp; rfl)); (case hp => exact (Reps.none _ _))
          intro v245 w9 ho10 hb hg_ hnew_
          clear hg_ hnew_
          (first | rw [← Ny244.out] at ho10 | (simp only [Int.reduceToNat] at ho10; rw [← Ny244.out] at ho10))
          have n0_ := Aside0.mk (Kd.R_below (by (with_reducible repeat (first | apply Kd.R_alloc | apply Kd.R_drewN | apply Kd.R_drew)); exact HO252.out) hb)
          have n1_ := Aside0.mk (Kd.R_lower ho10 (below_size (by repeat (first | (with_reducible first | exact HB.out | apply below_alloc | apply pw_below_drewN | apply below_drew1 | refine below_set ?_ GE242.out | refine below_set ?_ GE243.out) | exact HB.out))))
          have n2_ := Aside0.mk (blk_below (g := gb242) (o := .cells #[.slice A0_0 l0_0.length c0_0, .slice A0_1 l0_1.length c0_1] 25 (0, 0)) (by (with_reducible repeat (first | refine blk_drewN ?_ _ | refine blk_drew ?_ | refine blk_alloc ?_ _)); exact BK242.out) hb)
          have n3_ := Aside0.mk (blk_below (g := gb243) (o := .cells #[.slice none 0 0, .slice none 0 0] 25 (0, 0)) (by (with_reducible repeat (first | refine blk_drewN ?_ _ | refine blk_drew ?_ | refine blk_alloc ?_ _)); exact BK243.out) hb)
          have n4_ := Aside0.mk (below_step (by repeat (first | (with_reducible first | exact HB.out | apply below_alloc | apply pw_below_drewN | apply below_drew1 | refine below_set ?_ GE242.out | refine below_set ?_ GE243.out) | exact HB.out)) hb)
          clear HO252
          clear BK242
          clear BK243
          clear HB
          have HO252 := n0_
          have HO246 := n1_
          have BK242 := n2_
          have BK243 := n3_
          have HB := n4_
          clear n0_ n1_ n2_ n3_ n4_
          clear hb ho10
          refine hK.out _ _ ⟨(blk_cell BK242.out 0).trans rfl, (blk_cell BK242.out 1).trans rfl⟩ (fun hHeld => ?_)
          clear hK K
          refine norm_ (a' := ?_) ?_ ?_
          rotate_left
          · show Act.put _ (some 3) _ = _
            simp only [Act.put, List.setIfInBounds_toArray, List.set_cons_zero, List.set_cons_succ, i64_w, i32_w]
            rfl
          refine one_ (i := 3) (N := some 6) #[true, true, true, true, true, true, true, false, false, false] rfl rfl (one_of HT_.out (by kernel_rfl)) (by decide) (fun K hK => ?_)
          refine Kd.R_append_rows_step (Kd.int .i64) (w0 := w) w.heap.size (by rfl) (.tmp 3) (.tmp 5) 22 3 (.int .i64 0) 8 rfl Try.underlying22 info3 rfl (by decide) (by omega) v245 y244 l0_0 _ _ _ (fun _ => True) (fun _ => False) rfl rfl ?aO ?aR (fun _ _ h => h) (fun _ h => h.elim) ?aF ?aB ?aS ?aL ?_
          (case aR => repeat (first | exact (Kd.C_below HR0_0.out HB.out) | (with_reducible refine Kd.C_alloc ?_ _) | (with_reducible refine Kd.C_drewN ?_ _) | (with_reducible refine Kd.C_drew ?_)))
          (case aB => exact (by repeat (first | (with_reducible first | exact HB.out | apply below_alloc | apply pw_below_drewN | apply below_drew1 | refine below_set ?_ GE242.out | refine below_set ?_ GE243.out) | exact HB.out)))
          (case aF => exact (fun _ _ => trivial))
          (case aO => exact (by (with_reducible repeat (first | apply Kd.R_alloc | apply Kd.R_drewN | apply Kd.R_drew)); exact HO246.out))
          (case aS => exact (below_size (by repeat (first | (with_reducible first | exact HB.out | apply below_alloc | apply pw_below_drewN | apply below_drew1 | refine below_set ?_ GE242.out | refine below_set ?_ GE243.out) | exact HB.out))))
          (case aL => have := LMc2.out; omega)
          intro v248 w11 ho hb hg hat
          rw [← Ny247.out] at ho
          have n0_ := Aside0.mk (blk_grown (g := gb242) (o := .cells #[.slice A0_0 l0_0.length c0_0, .slice A0_1 l0_1.length c0_1] 25 (0, 0)) (by (with_reducible repeat (first | refine blk_drewN ?_ _ | refine blk_drew ?_ | refine blk_alloc ?_ _)); exact BK242.out) hg (Kd.R_ne HO246.out BK242.out (by decide)))
          have n1_ := Aside0.mk (blk_grown (g := gb243) (o := .cells #[.slice none 0 0, .slice none 0 0] 25 (0, 0)) (by (with_reducible repeat (first | refine blk_drewN ?_ _ | refine blk_drew ?_ | refine blk_alloc ?_ _)); exact BK243.out) hg (Kd.R_ne HO246.out BK243.out (by decide)))
          have n2_ := Aside0.mk (Kd.R_over' (by (with_reducible repeat (first | apply Kd.R_alloc | apply Kd.R_drewN | apply Kd.R_drew)); exact HO252.out) (Kd.R_typed (by (with_reducible repeat (first | apply Kd.R_alloc | apply Kd.R_drewN | apply Kd.R_drew)); exact HO246.out)) (by decide) hg)
          have n3_ := Aside0.mk (hb)
          have n4_ := Aside0.mk (ho)
          clear BK242
          clear BK243
          clear HO252
          clear HB
          clear HO246
          have BK242 := n0_
          have BK243 := n1_
          have HO252 := n2_
          have HB := n3_
          have HO249 := n4_
          clear n0_ n1_ n2_ n3_ n4_
          clear ho hb hg hat
          refine hK.out _ _ ⟨(blk_cell BK242.out 0).trans rfl, (blk_cell BK242.out 1).trans rfl⟩ (fun hHeld => ?_)
          clear hK K
          refine norm_ (a' := ?_) ?_ ?_
          rotate_left
          · show Act.put _ (some 6) _ = _
            simp only [Act.put, List.setIfInBounds_toArray, List.set_cons_zero, List.set_cons_succ, i64_w, i32_w]
            rfl
          exact norm_ (by simp only [putAll, Act.put, List.setIfInBounds_toArray, List.set_cons_zero, List.set_cons_succ]) (hCont (v245, v248, v251) _ ⟨hHeld, (by (with_reducible repeat (first | apply Kd.R_alloc | apply Kd.R_drewN | apply Kd.R_drew)); exact HO249.out), (by (with_reducible repeat (first | apply Kd.R_alloc | apply Kd.R_drewN | apply Kd.R_drew)); exact HO252.out), (by (with_reducible repeat (first | refine blk_drewN ?_ _ | refine blk_drew ?_ | refine blk_alloc ?_ _)); exact BK242.out), (by (with_reducible repeat (first | refine blk_drewN ?_ _ | refine blk_drew ?_ | refine blk_alloc ?_ _)); exact BK243.out), (by repeat (first | (with_reducible first | exact HB.out | apply below_alloc | apply pw_below_drewN | apply below_drew1 | refine below_set ?_ GE242.out | refine below_set ?_ GE243.out) | exact HB.out))⟩)
      rintro ⟨v245, v248, v251⟩ w12 ⟨hS_, h0_, h1_, h2_, h3_, h4_⟩
      have n0_ : Aside0 (Kd.R (Kd.int .i64) 3 w12 w.heap.size (fun _ => True) v248 y247) := ⟨h0_⟩
      have n1_ : Aside0 (Kd.R k45 45 w12 w.heap.size (fun _ => True) v251 y250) := ⟨h1_⟩
      have n2_ : Aside0 (w12.heap[gb242]? = some (.cells #[.slice A0_0 l0_0.length c0_0, .slice A0_1 l0_1.length c0_1] 25 (0, 0))) := ⟨h2_⟩
      have n3_ : Aside0 (w12.heap[gb243]? = some (.cells #[.slice none 0 0, .slice none 0 0] 25 (0, 0))) := ⟨h3_⟩
      have n4_ : Aside0 (Below w.heap.size w w12) := ⟨h4_⟩
      clear BK242
      clear BK243
      clear HB
      clear h0_ h1_ h2_ h3_ h4_
      have HO249 := n0_
      have HO252 := n1_
      have BK242 := n2_
      have BK243 := n3_
      have HB := n4_
      clear n0_ n1_ n2_ n3_ n4_
      have hHeld : w12.cell? ⟨gb242, 0, none⟩ = some (.slice A0_0 l0_0.length c0_0) ∧ w12.cell? ⟨gb242, 1, none⟩ = some (.slice A0_1 l0_1.length c0_1) := hS_
      refine norm_ (a' := ?_) ?_ ?_
      rotate_left
      · simp only [putAll, Act.put, List.setIfInBounds_toArray, List.set_cons_zero, List.set_cons_succ]
        rfl
      refine one_ (i := 7) (N := some 10) #[true, true, true, true, true, true, true, true, false, false] rfl rfl (one_of HT_.out (by kernel_rfl)) (by decide) (fun K hK => ?_)
      refine Kd.R_append_rows_step k45 (w0 := w) w.heap.size (by rfl) (.tmp 7) (.tmp 9) 23 45 (.agg #[(.int .i64 0), (.int .i64 0)]) 16 rfl Try.underlying23 info45 rfl (by decide) (by omega) v251 y250 l0_1 _ _ _ (fun _ => True) (fun _ => False) rfl rfl ?aO ?aR (fun _ _ h => h) (fun _ h => h.elim) ?aF ?aB ?aS ?aL ?_
      (case aR => repeat (first | exact (Kd.C_below HR0_1.out HB.out) | (with_reducible refine Kd.C_alloc ?_ _) | (with_reducible refine Kd.C_drewN ?_ _) | (with_reducible refine Kd.C_drew ?_)))
      (case aB => exact (by repeat (first | (with_reducible first | exact HB.out | apply below_alloc | apply pw_below_drewN | apply below_drew1 | refine below_set ?_ GE242.out | refine below_set ?_ GE243.out) | exact HB.out)))
      (case aF => exact (fun _ _ => trivial))
      (case aO => exact (by (with_reducible repeat (first | apply Kd.R_alloc | apply Kd.R_drewN | apply Kd.R_drew)); exact HO252.out))
      (case aS => exact (below_size (by repeat (first | (with_reducible first | exact HB.out | apply below_alloc | apply pw_below_drewN | apply below_drew1 | refine below_set ?_ GE242.out | refine below_set ?_ GE243.out) | exact HB.out))))
      (case aL => have := LMc3.out; omega)
      intro v254 w13 ho hb hg hat
      rw [← Ny253.out] at ho
      have n0_ := Aside0.mk (blk_grown (g := gb242) (o := .cells #[.slice A0_0 l0_0.length c0_0, .slice A0_1 l0_1.length c0_1] 25 (0, 0)) (by (with_reducible repeat (first | refine blk_drewN ?_ _ | refine blk_drew ?_ | refine blk_alloc ?_ _)); exact BK242.out) hg (Kd.R_ne HO252.out BK242.out (by decide)))
      have n1_ := Aside0.mk (blk_grown (g := gb243) (o := .cells #[.slice none 0 0, .slice none 0 0] 25 (0, 0)) (by (with_reducible repeat (first | refine blk_drewN ?_ _ | refine blk_drew ?_ | refine blk_alloc ?_ _)); exact BK243.out) hg (Kd.R_ne HO252.out BK243.out (by decide)))
      have n2_ := Aside0.mk (Kd.R_over' (by (with_reducible repeat (first | apply Kd.R_alloc | apply Kd.R_drewN | apply Kd.R_drew)); exact HO249.out) (Kd.R_typed (by (with_reducible repeat (first | apply Kd.R_alloc | apply Kd.R_drewN | apply Kd.R_drew)); exact HO252.out)) (by decide) hg)
      have n3_ := Aside0.mk (hb)
      have n4_ := Aside0.mk (ho)
      clear BK242
      clear BK243
      clear HO249
      clear HB
      clear HO252
      have BK242 := n0_
      have BK243 := n1_
      have HO249 := n2_
      have HB := n3_
      have HO255 := n4_
      clear n0_ n1_ n2_ n3_ n4_
      clear ho hb hg hat
      obtain ⟨Ao14, co14, eo14⟩ := Kd.R_slice HO255.out
      (first | subst eo14 | (injection eo14 with f1_ f2_ f3_; have f4_ := f1_.symm; have f5_ := f3_.symm; clear f1_ f2_ f3_; subst f4_; subst f5_))
      obtain ⟨Ao15, co15, eo15⟩ := Kd.R_slice HO249.out
      (first | subst eo15 | (injection eo15 with f1_ f2_ f3_; have f4_ := f1_.symm; have f5_ := f3_.symm; clear f1_ f2_ f3_; subst f4_; subst f5_))
      refine hK.out _ _ ⟨(blk_cell BK242.out 0).trans rfl, (blk_cell BK242.out 1).trans rfl⟩ (fun hHeld => ?_)
      clear hK K
      refine norm_ (a' := ?_) ?_ ?_
      rotate_left
      · show Act.put _ (some 10) _ = _
        simp only [Act.put, List.setIfInBounds_toArray, List.set_cons_zero, List.set_cons_succ, i64_w, i32_w]
        rfl
      refine pure_ (i := 8) (N := some 11) (v := ?_) (a' := ?_) #[true, true, true, true, true, true, true, true, true, false] rfl rfl (any_of HT_.out (by kernel_rfl)) (fun _ _ _ h => h) (Or.inl ⟨by rfl, ?_⟩) ?_ ?_
      rotate_left
      · intro w'
        go_simp
        with_reducible rfl
      rotate_left
      · simp only [Act.put, List.setIfInBounds_toArray, List.set_cons_zero, List.set_cons_succ, i64_w, i32_w]
        rfl
      refine one_ (i := 9) (N := none) #[true, true, true, true, true, true, true, true, true, true] rfl rfl (one_of HT_.out (by kernel_rfl)) (by decide) (fun K hK => ?_)
      have hs16 : w13.cell? ⟨gb243, 0, none⟩ = some (.slice none 0 0) := (blk_cell BK243.out 0).trans rfl
      have hfs16 := blk_frozen BK243.out 0
      have hns16_0 := NB242_243.out
      have hms16_0 := NB243_242.out
      have hs17 : w13.cell? ⟨gb243, 1, none⟩ = some (.slice none 0 0) := (blk_cell BK243.out 1).trans rfl
      have hfs17 := blk_frozen BK243.out 1
      have hns17_0 := NB242_243.out
      have hms17_0 := NB243_242.out
      refine skip_ (w1 := ?_) (by rfl) rfl ?_ ?_
      rotate_left
      · go_simp
        rfl
      refine hK.out _ _ ⟨((cell_far (p := ⟨gb243, _, none⟩) NB242_243.out _).trans (((cell_far (p := ⟨gb243, _, none⟩) NB242_243.out _).trans (hHeld.1)))), ((cell_far (p := ⟨gb243, _, none⟩) NB242_243.out _).trans (((cell_far (p := ⟨gb243, _, none⟩) NB242_243.out _).trans (hHeld.2))))⟩ (fun hHeld => ?_)
      clear hK K
      refine done_ (done_of HT_.out (by kernel_rfl)) ?_
      try go_wp2
      refine bodyPost_ret (results_cell_row rfl _ _ gb243 25 #[.slice Ao15 y247.length co15, .slice Ao14 y253.length co14] (0, 0) _ rfl (by (with_reducible repeat (first | refine blk_drewN ?_ _ | refine blk_drew ?_ | refine blk_alloc ?_ _)); refine blk_put (cs := #[.slice Ao15 y247.length co15, .slice none 0 0]) ?_ 1 _ rfl; (with_reducible repeat (first | refine blk_drewN ?_ _ | refine blk_drew ?_ | refine blk_alloc ?_ _)); refine blk_put (cs := #[.slice none 0 0, .slice none 0 0]) ?_ 0 _ rfl; (with_reducible repeat (first | refine blk_drewN ?_ _ | refine blk_drew ?_ | refine blk_alloc ?_ _)); exact BK243.out) Try.underlying25 rfl (by kernel_rfl)) rfl ?_
      exact ⟨_, _, by first | rfl | (simp [errW_none, errW_some] <;> rfl) | (simp [*, errW_none, errW_some] <;> rfl), by (with_reducible repeat (first | apply Kd.R_alloc | apply Kd.R_drewN | apply Kd.R_drew)); exact Kd.R_mono (Kd.R_far (p := ⟨gb243, 1, none⟩) (Kd.R_far (p := ⟨gb243, 0, none⟩) (Kd.R_types HO249.out BK243.out (by decide)) (fun _ hk => hk.2) (.slice Ao15 y247.length co15)) (fun _ hk => hk.2) (.slice Ao14 y253.length co14)) (fun _ hk => trivial), by (with_reducible repeat (first | apply Kd.R_alloc | apply Kd.R_drewN | apply Kd.R_drew)); exact Kd.R_mono (Kd.R_far (p := ⟨gb243, 1, none⟩) (Kd.R_far (p := ⟨gb243, 0, none⟩) (Kd.R_types HO255.out BK243.out (by decide)) (fun _ hk => hk.2) (.slice Ao15 y247.length co15)) (fun _ hk => hk.2) (.slice Ao14 y253.length co14)) (fun _ hk => trivial), by repeat (first | (with_reducible first | exact HB.out | apply below_alloc | apply pw_below_drewN | apply below_drew1 | refine below_set ?_ GE242.out | refine below_set ?_ GE243.out) | exact HB.out)⟩
    · rw [if_neg c3] at H
      exact absurd H (by simp)
  · rw [if_neg c2] at H
    exact absurd H (by simp)

/-! ### trefoillaw10_ints: function 16 -/
def trefoillaw10_ints.f (l0 : List Int) : Option (List Int) := (some (([] : List Int) : List Int)).bind fun y256 => (if y256.length + l0.length < 17592186044416 then (some (y256 ++ l0)) else (none))
set_option maxHeartbeats 8000000 in
set_option maxRecDepth 100000 in
theorem trefoillaw10_ints.calls (A0 : Option Addr) (c0 : Nat) (l0 : List Int) (r : List Int) (w : World) (hr0 : Kd.C (Kd.int .i64) w A0 l0.length l0) (hc0 : l0.length ≤ c0) (h : trefoillaw10_ints.f l0 = some r) :
    Calls Try.prog 16 #[.slice A0 l0.length c0] w fun e w' => ∃ v0_ : Value, e = .returned (v0_) ∧ Kd.R (Kd.int .i64) 3 w' w.heap.size (fun _ => True) v0_ r ∧ Below w.heap.size w w' := by
  have HR0 := Aside0.mk hr0
  have HC0 := Aside0.mk hc0
  clear hr0 hc0
  have HB := Aside0.mk (Below.refl w.heap.size w)
  have H : ((some (([] : List Int) : List Int)).bind fun y256 => (if y256.length + l0.length < 17592186044416 then (some (y256 ++ l0)) else (none))) = some r := h
  clear h
  obtain ⟨y256, hy256⟩ : ∃ y_ : List Int, y_ = (([] : List Int)) := ⟨_, rfl⟩
  replace H : (if y256.length + l0.length < 17592186044416 then (some (y256 ++ l0)) else (none)) = some r := by first | (rw [hy256]; with_reducible exact H) | (have H2_ := (Option.bind_some _ _).symm.trans H; rw [hy256]; with_reducible exact H2_) | (have H2_ := (Option.bind_some _ _).symm.trans H; with_reducible exact H2_) | with_reducible exact H | (rw [hy256]; exact H) | exact H
  have Ny256 := Aside0.mk hy256
  clear hy256
  by_cases c2 : y256.length + l0.length < 17592186044416
  · rw [if_pos c2] at H
    have LMc2 := Aside0.mk c2
    clear c2
    obtain ⟨y259, hy259⟩ : ∃ y_ : List Int, y_ = (y256 ++ l0) := ⟨_, rfl⟩
    replace H : (some y259) = some r := by first | (rw [hy259]; with_reducible exact H) | (have H2_ := (Option.bind_some _ _).symm.trans H; rw [hy259]; with_reducible exact H2_) | (have H2_ := (Option.bind_some _ _).symm.trans H; with_reducible exact H2_) | with_reducible exact H | (rw [hy259]; exact H) | exact H
    have Ny259 := Aside0.mk hy259
    clear hy259
    obtain rfl := Option.some.inj H
    go_enter Try.func16, Try.ntmps16
    go_wp2_with (first | ((with_reducible refine gate_dst (N := 3) rfl ?_); refine Kd.R_lit (Kd.int .i64) _ 3 ?hg (N := 3) ?hd (xs := ([] : List Int)) (inner := []) (ok := fun _ => True) (okp := fun _ => True) ?hr ?hp (fun _ hk => hk) trivial (Below.refl _ _) (Nat.le_refl _) (by simp) ?_; (case hd => rfl); (case hg => rfl); (case hr => first | (go_simp; done) | (go_simp; rfl)); (case hp => exact (Reps.none _ _)); intro v257 w3 ho4 hb hg_ hnew_; clear hg_ hnew_; (first | rw [← Ny256.out] at ho4 | (simp only [Int.reduceToNat] at ho4; rw [← Ny256.out] at ho4)); have n0_ := Aside0.mk (Kd.R_lower ho4 (below_size (by repeat (first | (with_reducible first | exact HB.out | apply below_alloc | apply pw_below_drewN | apply below_drew1) | exact HB.out)))); have n1_ := Aside0.mk (below_step (by repeat (first | (with_reducible first | exact HB.out | apply below_alloc | apply pw_below_drewN | apply below_drew1) | exact HB.out)) hb); clear HB; have HO258 := n0_; have HB := n1_; clear n0_ n1_; clear hb ho4) | ((with_reducible refine gate_builtin (b := .append) (xs := #[.tmp 3, .tmp 4]) rfl ?_); at_builtin; refine Kd.R_append_rows (Kd.int .i64) (w0 := w) w.heap.size rfl (.tmp 3) (.tmp 4) 22 3 (.int .i64 0) 8 rfl Try.underlying22 info3 rfl (by decide) (by omega) v257 y256 l0 _ _ _ (fun _ => True) (fun _ => False) rfl rfl ?aO ?aR (fun _ _ h => h) (fun _ h => h.elim) ?aF ?aB ?aS ?aL ?_; (case aR => repeat (first | exact (Kd.C_below HR0.out HB.out) | (with_reducible refine Kd.C_alloc ?_ _) | (with_reducible refine Kd.C_drewN ?_ _) | (with_reducible refine Kd.C_drew ?_))); (case aB => exact (by repeat (first | (with_reducible first | exact HB.out | apply below_alloc | apply pw_below_drewN | apply below_drew1) | exact HB.out))); (case aF => exact (fun _ _ => trivial)); (case aO => exact (by (with_reducible repeat (first | apply Kd.R_alloc | apply Kd.R_drewN | apply Kd.R_drew)); exact HO258.out)); (case aS => exact (below_size (by repeat (first | (with_reducible first | exact HB.out | apply below_alloc | apply pw_below_drewN | apply below_drew1) | exact HB.out)))); (case aL => have := LMc2.out; omega); intro v260 w5 ho hb hg hat; rw [← Ny259.out] at ho; have n0_ := Aside0.mk (hb); have n1_ := Aside0.mk (ho); clear HB; clear HO258; have HB := n0_; have HO261 := n1_; clear n0_ n1_; clear ho hb hg hat))
    go_ret
    exact ⟨_, by first | rfl | (simp [errW_none, errW_some] <;> rfl) | (simp [*, errW_none, errW_some] <;> rfl), by (with_reducible repeat (first | apply Kd.R_alloc | apply Kd.R_drewN | apply Kd.R_drew)); exact HO261.out, by repeat (first | (with_reducible first | exact HB.out | apply below_alloc | apply pw_below_drewN | apply below_drew1) | exact HB.out)⟩
  · rw [if_neg c2] at H
    exact absurd H (by simp)

end Go.Proofs.Ytnnbgfjokbaepaa.PSchedMore
