/- Written by a program of this work: each theorem says that a call of the Go function comes to what the Lean function beside it tells, under the conditions that it names; Lean checks it. -/
import Derived.Test.YtmieddopajbdnaaPWireCutsx0
namespace Go.Proofs.Ytmieddopajbdnaa.PWireCuts
open Go.RowKit Go.Proofs.YtmieddopajbdnaaW.PrintWords Go.Proofs.YtmieddopajbdnaaW.PrintLast Go.Proofs.YtmieddopajbdnaaW.PrintMore
attribute [local go_sem] max2_int min2_int max_two min_two max_three min_three max_four min_four   -- for this text's walks alone
set_option linter.unusedVariables false
set_option linter.unusedSimpArgs false

/-! ### wire_wide: function 19 -/
def wire_wide.f (a0 : Int) : Option (Bool) := if a0 = 1 then (some true) else (if a0 = 2 then (some true) else (if a0 = 4 then (some true) else (some (a0 == 8))))
set_option maxHeartbeats 8000000 in
set_option maxRecDepth 100000 in
theorem wire_wide.calls (a0 : Int) (r : Bool) (w : World) (h : wire_wide.f a0 = some r) :
    Calls Try.prog 19 #[.int .i64 a0] w fun e w' => e = .returned (.bool r) ∧ Drawn0 w w' := by
  have H : (if a0 = 1 then (some true) else (if a0 = 2 then (some true) else (if a0 = 4 then (some true) else (some (a0 == 8))))) = some r := h
  clear h
  by_cases c2 : a0 = 1
  · rw [if_pos c2] at H
    have c2b0 : (a0 == 1) = true := beq_iff_eq.mpr c2
    have c2b1 : (a0 != 1) = false := bne_eq_false_iff_eq.mpr c2
    clear c2
    obtain rfl := Option.some.inj H
    go_enter Try.func19, Try.ntmps19
    go_wp2
    go_ret
    exact ⟨by first | rfl | (simp; done) | (simp [*]; done), by repeat (first | exact Drawn0.refl _ | apply Drawn0.step)⟩
  · rw [if_neg c2] at H
    have c2b0 : (a0 == 1) = false := beq_eq_false_iff_ne.mpr c2
    have c2b1 : (a0 != 1) = true := bne_iff_ne.mpr c2
    by_cases c3 : a0 = 2
    · rw [if_pos c3] at H
      have c3b0 : (a0 == 2) = true := beq_iff_eq.mpr c3
      have c3b1 : (a0 != 2) = false := bne_eq_false_iff_eq.mpr c3
      clear c3
      obtain rfl := Option.some.inj H
      go_enter Try.func19, Try.ntmps19
      go_wp2
      go_ret
      exact ⟨by first | rfl | (simp; done) | (simp [*]; done), by repeat (first | exact Drawn0.refl _ | apply Drawn0.step)⟩
    · rw [if_neg c3] at H
      have c3b0 : (a0 == 2) = false := beq_eq_false_iff_ne.mpr c3
      have c3b1 : (a0 != 2) = true := bne_iff_ne.mpr c3
      by_cases c4 : a0 = 4
      · rw [if_pos c4] at H
        have c4b0 : (a0 == 4) = true := beq_iff_eq.mpr c4
        have c4b1 : (a0 != 4) = false := bne_eq_false_iff_eq.mpr c4
        clear c4
        obtain rfl := Option.some.inj H
        go_enter Try.func19, Try.ntmps19
        go_wp2
        go_ret
        exact ⟨by first | rfl | (simp; done) | (simp [*]; done), by repeat (first | exact Drawn0.refl _ | apply Drawn0.step)⟩
      · rw [if_neg c4] at H
        have c4b0 : (a0 == 4) = false := beq_eq_false_iff_ne.mpr c4
        have c4b1 : (a0 != 4) = true := bne_iff_ne.mpr c4
        obtain rfl := Option.some.inj H
        go_enter Try.func19, Try.ntmps19
        go_wp2
        go_ret
        exact ⟨by first | rfl | (simp; done) | (simp [*]; done), by repeat (first | exact Drawn0.refl _ | apply Drawn0.step)⟩

/-! ### wire_Put: function 10, by hand -/
def wire_Put.f (a0 : Int) (a1 : Int) : Option (ByteArray × Int) := if -9223372036854775808 ≤ a0 ∧ a0 ≤ 9223372036854775807 then some (WirePlain.putR a0 a1) else none
theorem wire_Put.calls (a0 : Int) (a1 : Int) (r1 : ByteArray) (r2 : Int) (w : World) (h : wire_Put.f a0 a1 = some (r1, r2)) :
    Calls Try.prog 10 #[.int .i64 a0, .int .i64 a1] w fun e w' => e = .returned (.tuple #[.string r1, .int .i64 r2]) ∧ Below w.heap.size w w' := by
  unfold wire_Put.f at h
  split at h
  · rename_i hb
    simp only [Option.some.injEq] at h
    have hp := put_any a0 a1 w hb
    rw [h] at hp
    exact hp
  · cases h

/-! ### wire_there: function 21 -/
def wire_there.f (a0 : ByteArray) (a1 : Int) (a2 : Int) : Option (Bool) := if a1 ≥ 0 then (if a2 ≥ 0 then (if a1 ≤ (a0.size : Int) then (some (decide (a2 ≤ (wrap64 ((a0.size : Int) - a1))))) else (some false)) else (some false)) else (some false)
set_option maxHeartbeats 8000000 in
set_option maxRecDepth 100000 in
theorem wire_there.calls (a0 : ByteArray) (a1 : Int) (a2 : Int) (r : Bool) (w : World) (h : wire_there.f a0 a1 a2 = some r) :
    Calls Try.prog 21 #[.string a0, .int .i64 a1, .int .i64 a2] w fun e w' => e = .returned (.bool r) ∧ Drawn0 w w' := by
  have H : (if a1 ≥ 0 then (if a2 ≥ 0 then (if a1 ≤ (a0.size : Int) then (some (decide (a2 ≤ (wrap64 ((a0.size : Int) - a1))))) else (some false)) else (some false)) else (some false)) = some r := h
  clear h
  by_cases c4 : a1 ≥ 0
  · rw [if_pos c4] at H
    have c4b0 : decide (0 ≤ a1) = true := decide_eq_true c4
    clear c4
    by_cases c5 : a2 ≥ 0
    · rw [if_pos c5] at H
      have c5b0 : decide (0 ≤ a2) = true := decide_eq_true c5
      clear c5
      by_cases c6 : a1 ≤ (a0.size : Int)
      · rw [if_pos c6] at H
        have c6b0 : decide (a1 ≤ (a0.size : Int)) = true := decide_eq_true c6
        clear c6
        obtain rfl := Option.some.inj H
        go_enter Try.func21, Try.ntmps21
        go_wp2
        go_ret
        exact ⟨by first | rfl | (simp; done) | (simp [*]; done), by repeat (first | exact Drawn0.refl _ | apply Drawn0.step)⟩
      · rw [if_neg c6] at H
        have c6b0 : decide (a1 ≤ (a0.size : Int)) = false := decide_eq_false c6
        clear c6
        obtain rfl := Option.some.inj H
        go_enter Try.func21, Try.ntmps21
        go_wp2
        go_ret
        exact ⟨by first | rfl | (simp; done) | (simp [*]; done), by repeat (first | exact Drawn0.refl _ | apply Drawn0.step)⟩
    · rw [if_neg c5] at H
      have c5b0 : decide (0 ≤ a2) = false := decide_eq_false c5
      clear c5
      obtain rfl := Option.some.inj H
      go_enter Try.func21, Try.ntmps21
      go_wp2
      go_ret
      exact ⟨by first | rfl | (simp; done) | (simp [*]; done), by repeat (first | exact Drawn0.refl _ | apply Drawn0.step)⟩
  · rw [if_neg c4] at H
    have c4b0 : decide (0 ≤ a1) = false := decide_eq_false c4
    clear c4
    obtain rfl := Option.some.inj H
    go_enter Try.func21, Try.ntmps21
    go_wp2
    go_ret
    exact ⟨by first | rfl | (simp; done) | (simp [*]; done), by repeat (first | exact Drawn0.refl _ | apply Drawn0.step)⟩

/-! ### wire_Get: function 12, by hand -/
def wire_Get.f (a0 : ByteArray) (a1 : Int) (a2 : Int) : Option (Int × Int) := if a0.size ≤ 140737488351232 then some (WirePlain.getR a0 a1 a2) else none
theorem wire_Get.calls (a0 : ByteArray) (a1 : Int) (a2 : Int) (r1 : Int) (r2 : Int) (w : World) (h : wire_Get.f a0 a1 a2 = some (r1, r2)) :
    Calls Try.prog 12 #[.string a0, .int .i64 a1, .int .i64 a2] w fun e w' => e = .returned (.tuple #[.int .i64 r1, .int .i64 r2]) ∧ Below w.heap.size w w' := by
  unfold wire_Get.f at h
  split at h
  · rename_i hb
    simp only [Option.some.injEq] at h
    have hp := get_any a0 a1 a2 w (by unfold maxLen; omega)
    rw [h] at hp
    exact hp
  · cases h

/-! ### wire_Row: function 14, by hand -/
def wire_Row.f (l0 : List Int) (a1 : Int) : Option (ByteArray × Int) := if l0.length ≤ 1000 ∧ ∀ n ∈ l0, -9223372036854775808 ≤ n ∧ n ≤ 9223372036854775807 then some (rowR l0 a1) else none
theorem wire_Row.calls (A0 : Option Addr) (c0 : Nat) (l0 : List Int) (a1 : Int) (r1 : ByteArray) (r2 : Int) (w : World) (hr0 : Kd.C (Kd.int .i64) w A0 l0.length l0) (hc0 : l0.length ≤ c0) (h : wire_Row.f l0 a1 = some (r1, r2)) :
    Calls Try.prog 14 #[.slice A0 l0.length c0, .int .i64 a1] w fun e w' => e = .returned (.tuple #[.string r1, .int .i64 r2]) ∧ Below w.heap.size w w' := by
  unfold wire_Row.f at h
  split at h
  · rename_i hb
    simp only [Option.some.injEq] at h
    have hp := row_any A0 c0 l0 a1 w (Kd.reads_of_C (d := (0 : Int)) hr0) hb.1 hb.2
    rw [h] at hp
    exact hp
  · cases h

/-! ### wire_Unrow: function 15, by hand -/
def wire_Unrow.f (a0 : ByteArray) (a1 : Int) (a2 : Int) (a3 : Int) : Option (List Int × Int × Int) := if a0.size ≤ 100000 ∧ (-9223372036854775808 ≤ a1 ∧ a1 ≤ 9223372036854775807) ∧ 0 ≤ a2 ∧ a2 ≤ 100000 then some (unrowR a0 a1 a2.toNat a3) else none
theorem wire_Unrow.calls (a0 : ByteArray) (a1 : Int) (a2 : Int) (a3 : Int) (r1 : List Int) (r2 : Int) (r3 : Int) (w : World) (h : wire_Unrow.f a0 a1 a2 a3 = some (r1, r2, r3)) :
    Calls Try.prog 15 #[.string a0, .int .i64 a1, .int .i64 a2, .int .i64 a3] w fun e w' => ∃ v0_ : Value, e = .returned (.tuple #[v0_, .int .i64 r2, .int .i64 r3]) ∧ Kd.R (Kd.int .i64) 3 w' w.heap.size (fun _ => True) v0_ r1 ∧ Below w.heap.size w w' := by
  unfold wire_Unrow.f at h
  split at h
  · rename_i hb
    simp only [Option.some.injEq] at h
    have hp := unrow_any a0 a1 a2.toNat a3 w hb.1 hb.2.1 (by omega)
    rw [h, show ((a2.toNat : Nat) : Int) = a2 by omega] at hp
    exact hp.mono fun e w' ⟨v, h1, h2, h3⟩ => ⟨v, h1, Kd.R_of_own h2 (fun _ _ => trivial), h3⟩
  · cases h

/-! ### trefoilref02_Ints: function 16 -/
def trefoilref02_Ints.l0 : Nat → List Int → List Int → Int → Option (Bool)
  | 0, _, _, _ => none
  | k + 1, x0, x1, x5 => if x5 < (x0.length : Int) then (if 0 ≤ x5 then (if x5 < (x1.length : Int) then (if (rd x0 x5) = (rd x1 x5) then (trefoilref02_Ints.l0 k x0 x1 (wrap64 (x5 + 1))) else (some false)) else (none)) else (none)) else (some true)
def trefoilref02_Ints.f (k : Nat) (l0 : List Int) (l1 : List Int) : Option (Bool) := if (l0.length : Int) = (l1.length : Int) then (trefoilref02_Ints.l0 k l0 l1 0) else (some false)
theorem trefoilref02_Ints.mono_l : ∀ k, (∀ y0 y1 y2, LeO (trefoilref02_Ints.l0 k y0 y1 y2) (trefoilref02_Ints.l0 (k + 1) y0 y1 y2))
  | 0 => fun _ _ _ r h => by simp [trefoilref02_Ints.l0] at h
  | k + 1 => by
    have ih0 := trefoilref02_Ints.mono_l k
    · intro y0 y1 y2
      unfold trefoilref02_Ints.l0
      repeat' first
      | (with_reducible exact ih0 _ _ _)
      | (with_reducible exact LeO.refl _)
      | (with_reducible exact LeO.none _)
      | (with_reducible refine LeO.ite ?_ ?_)
      | (with_reducible refine LeO.bind ?_ (fun _ => ?_))
      | exact ih0 _ _ _
      | exact LeO.none _
      | refine LeO.ite ?_ ?_
      | refine LeO.bind ?_ (fun _ => ?_)
theorem trefoilref02_Ints.mono : ∀ a0 a1 k, LeO (trefoilref02_Ints.f k a0 a1) (trefoilref02_Ints.f (k + 1) a0 a1) := by
  intro a0 a1 k
  have ih0 := trefoilref02_Ints.mono_l k
  unfold trefoilref02_Ints.f
  repeat' first
      | (with_reducible exact ih0 _ _ _)
      | (with_reducible exact LeO.refl _)
      | (with_reducible exact LeO.none _)
      | (with_reducible refine LeO.ite ?_ ?_)
      | (with_reducible refine LeO.bind ?_ (fun _ => ?_))
      | exact ih0 _ _ _
      | exact LeO.none _
      | refine LeO.ite ?_ ?_
      | refine LeO.bind ?_ (fun _ => ?_)
set_option maxHeartbeats 8000000 in
set_option maxRecDepth 100000 in
theorem trefoilref02_Ints.calls (k : Nat) (A0 : Option Addr) (c0 : Nat) (l0 : List Int) (A1 : Option Addr) (c1 : Nat) (l1 : List Int) (r : Bool) (w : World) (hr0 : Kd.C (Kd.int .i64) w A0 l0.length l0) (hc0 : l0.length ≤ c0) (hr1 : Kd.C (Kd.int .i64) w A1 l1.length l1) (hc1 : l1.length ≤ c1) (h : trefoilref02_Ints.f k l0 l1 = some r) :
    Calls Try.prog 16 #[.slice A0 l0.length c0, .slice A1 l1.length c1] w fun e w' => e = .returned (.bool r) ∧ Drawn0 w w' := by
  have HR0 := Aside0.mk hr0
  have HC0 := Aside0.mk hc0
  clear hr0 hc0
  have HR1 := Aside0.mk hr1
  have HC1 := Aside0.mk hc1
  clear hr1 hc1
  have H : (if (l0.length : Int) = (l1.length : Int) then (trefoilref02_Ints.l0 k l0 l1 0) else (some false)) = some r := h
  clear h
  by_cases c3 : (l0.length : Int) = (l1.length : Int)
  · rw [if_pos c3] at H
    have c3b0 : ((l0.length : Int) == (l1.length : Int)) = true := beq_iff_eq.mpr c3
    have c3b1 : ((l0.length : Int) != (l1.length : Int)) = false := bne_eq_false_iff_eq.mpr c3
    have c3b2 : (l0.length == l1.length) = true := by first | simpa using c3 | (simp at c3 ⊢; omega)
    clear c3
    have H' := Aside0.mk H
    clear H
    go_enter Try.func16, Try.ntmps16
    go_wp2
    repeat (go_quiet (fail); try go_wp2)
    go_loopg [5] k (fun kq v5 w' => ∃ (x5_1 : Int), v5 = .int .i64 x5_1 ∧ Aside0 (trefoilref02_Ints.l0 kq l0 l1 x5_1 = some r) ∧ Aside0 (kq ≤ k) ∧ Drawn0 w w')
    case atStart => exact ⟨(0), (by first | rfl | (simp; done) | (simp [*]; done)), H', ⟨Nat.le_refl _⟩, by repeat (first | exact Drawn0.refl _ | apply Drawn0.step)⟩
    case round =>
      clear H'
      try clear c1
      try clear p2
      try clear c3
      try clear c3b0
      try clear c3b1
      try clear c3b2
      obtain ⟨x5_1, rfl, HA, HK1, ⟨m1, rfl⟩⟩ := hrel
      cases gk with
      | zero => exact absurd HA.out (by simp [trefoilref02_Ints.l0])
      | succ k1 =>
        have H := HA.out
        clear HA
        simp only [trefoilref02_Ints.l0] at H
        by_cases c4 : x5_1 < (l0.length : Int)
        · rw [if_pos c4] at H
          have c4b0 : decide (x5_1 < (l0.length : Int)) = true := decide_eq_true c4
          clear c4
          by_cases c5 : 0 ≤ x5_1
          · rw [if_pos c5] at H
            have c5b0 : decide (0 ≤ x5_1) = true := decide_eq_true c5
            clear c5
            by_cases c6 : x5_1 < (l1.length : Int)
            · rw [if_pos c6] at H
              have c6b0 : decide (x5_1 < (l1.length : Int)) = true := decide_eq_true c6
              clear c6
              by_cases c7 : (rd l0 x5_1) = (rd l1 x5_1)
              · rw [if_pos c7] at H
                have c7b0 : ((rd l0 x5_1) == (rd l1 x5_1)) = true := beq_iff_eq.mpr c7
                have c7b1 : ((rd l0 x5_1) != (rd l1 x5_1)) = false := bne_eq_false_iff_eq.mpr c7
                clear c7
                have H' := Aside0.mk H
                clear H
                have p101 : 0 ≤ (x5_1 : Int) := of_decide_eq_true (by first | (with_reducible assumption) | assumption)
                have q101 : x5_1 < (l0.length : Int) := of_decide_eq_true (by first | (with_reducible assumption) | assumption)
                obtain ⟨ad101, e101, hx101_0⟩ := Kd.at_int HR0.out x5_1 p101 q101
                cases e101
                replace p101 := eq_true p101
                replace q101 := eq_true q101
                have p102 : 0 ≤ (x5_1 : Int) := of_decide_eq_true (by first | (with_reducible assumption) | assumption)
                have q102 : x5_1 < (l1.length : Int) := of_decide_eq_true (by first | (with_reducible assumption) | assumption)
                obtain ⟨ad102, e102, hx102_0⟩ := Kd.at_int HR1.out x5_1 p102 q102
                cases e102
                replace p102 := eq_true p102
                replace q102 := eq_true q102
                go_wp2
                repeat (go_quiet (fail); try go_wp2)
                go_roundg k1
                case measure => have := HK1.out; omega
                case rel => exact ⟨(wrap64 (x5_1 + 1)), (by first | rfl | (simp; done) | (simp [*]; done)), H', ⟨by have := HK1.out; omega⟩, by repeat (first | exact Drawn0.refl _ | apply Drawn0.step)⟩
              · rw [if_neg c7] at H
                have c7b0 : ((rd l0 x5_1) == (rd l1 x5_1)) = false := beq_eq_false_iff_ne.mpr c7
                have c7b1 : ((rd l0 x5_1) != (rd l1 x5_1)) = true := bne_iff_ne.mpr c7
                obtain rfl := Option.some.inj H
                have p101 : 0 ≤ (x5_1 : Int) := of_decide_eq_true (by first | (with_reducible assumption) | assumption)
                have q101 : x5_1 < (l0.length : Int) := of_decide_eq_true (by first | (with_reducible assumption) | assumption)
                obtain ⟨ad101, e101, hx101_0⟩ := Kd.at_int HR0.out x5_1 p101 q101
                cases e101
                replace p101 := eq_true p101
                replace q101 := eq_true q101
                have p102 : 0 ≤ (x5_1 : Int) := of_decide_eq_true (by first | (with_reducible assumption) | assumption)
                have q102 : x5_1 < (l1.length : Int) := of_decide_eq_true (by first | (with_reducible assumption) | assumption)
                obtain ⟨ad102, e102, hx102_0⟩ := Kd.at_int HR1.out x5_1 p102 q102
                cases e102
                replace p102 := eq_true p102
                replace q102 := eq_true q102
                go_wp2
                repeat (go_quiet (fail); try go_wp2)
                go_ret
                exact ⟨by first | rfl | (simp; done) | (simp [*]; done), by repeat (first | exact Drawn0.refl _ | apply Drawn0.step)⟩
            · rw [if_neg c6] at H
              exact absurd H (by simp)
          · rw [if_neg c5] at H
            exact absurd H (by simp)
        · rw [if_neg c4] at H
          have c4b0 : decide (x5_1 < (l0.length : Int)) = false := decide_eq_false c4
          clear c4
          obtain rfl := Option.some.inj H
          go_wp2
          repeat (go_quiet (fail); try go_wp2)
          go_ret
          exact ⟨by first | rfl | (simp; done) | (simp [*]; done), by repeat (first | exact Drawn0.refl _ | apply Drawn0.step)⟩
  · rw [if_neg c3] at H
    have c3b0 : ((l0.length : Int) == (l1.length : Int)) = false := beq_eq_false_iff_ne.mpr c3
    have c3b1 : ((l0.length : Int) != (l1.length : Int)) = true := bne_iff_ne.mpr c3
    have c3b2 : (l0.length == l1.length) = false := by first | simpa using c3 | (simp at c3 ⊢; omega)
    obtain rfl := Option.some.inj H
    go_enter Try.func16, Try.ntmps16
    go_wp2
    repeat (go_quiet (fail); try go_wp2)
    go_ret
    exact ⟨by first | rfl | (simp; done) | (simp [*]; done), by repeat (first | exact Drawn0.refl _ | apply Drawn0.step)⟩

/-! ### wire_Cut: function 17, by hand -/
def wire_Cut.f (a0 : ByteArray) (l1 : List Int) : Option (List ByteArray × ByteArray × Int) := if a0.size ≤ 100000 ∧ l1.length ≤ 1000 ∧ ∀ n ∈ l1, -9223372036854775808 ≤ n ∧ n ≤ 9223372036854775807 then some (cutR a0 l1) else none
theorem wire_Cut.calls (a0 : ByteArray) (A1 : Option Addr) (c1 : Nat) (l1 : List Int) (r1 : List ByteArray) (r2 : ByteArray) (r3 : Int) (w : World) (hr1 : Kd.C (Kd.int .i64) w A1 l1.length l1) (hc1 : l1.length ≤ c1) (h : wire_Cut.f a0 l1 = some (r1, r2, r3)) :
    Calls Try.prog 17 #[.string a0, .slice A1 l1.length c1] w fun e w' => ∃ v0_ : Value, e = .returned (.tuple #[v0_, .string r2, .int .i64 r3]) ∧ Kd.R Kd.string 9 w' w.heap.size (fun _ => True) v0_ r1 ∧ Below w.heap.size w w' := by
  unfold wire_Cut.f at h
  split at h
  · rename_i hb
    simp only [Option.some.injEq] at h
    have hp := cut_any a0 A1 c1 l1 w hb.1 (Kd.reads_of_C (d := (0 : Int)) hr1) hb.2.1 hb.2.2
    rw [h] at hp
    exact hp.mono fun e w' ⟨v, h1, h2, h3⟩ => ⟨v, h1, Kd.R_of_own h2 (fun _ _ => trivial), h3⟩
  · cases h

/-! ### trefoilref02_Texts: function 18 -/
def trefoilref02_Texts.l0 : Nat → List ByteArray → List ByteArray → Int → Option (Bool)
  | 0, _, _, _ => none
  | k + 1, x0, x1, x5 => if x5 < (x0.length : Int) then (if 0 ≤ x5 then (if x5 < (x1.length : Int) then (if (rdOf ByteArray.empty x0 x5).toList = (rdOf ByteArray.empty x1 x5).toList then (trefoilref02_Texts.l0 k x0 x1 (wrap64 (x5 + 1))) else (some false)) else (none)) else (none)) else (some true)
def trefoilref02_Texts.f (k : Nat) (l0 : List ByteArray) (l1 : List ByteArray) : Option (Bool) := if (l0.length : Int) = (l1.length : Int) then (trefoilref02_Texts.l0 k l0 l1 0) else (some false)
theorem trefoilref02_Texts.mono_l : ∀ k, (∀ y0 y1 y2, LeO (trefoilref02_Texts.l0 k y0 y1 y2) (trefoilref02_Texts.l0 (k + 1) y0 y1 y2))
  | 0 => fun _ _ _ r h => by simp [trefoilref02_Texts.l0] at h
  | k + 1 => by
    have ih0 := trefoilref02_Texts.mono_l k
    · intro y0 y1 y2
      unfold trefoilref02_Texts.l0
      repeat' first
      | (with_reducible exact ih0 _ _ _)
      | (with_reducible exact LeO.refl _)
      | (with_reducible exact LeO.none _)
      | (with_reducible refine LeO.ite ?_ ?_)
      | (with_reducible refine LeO.bind ?_ (fun _ => ?_))
      | exact ih0 _ _ _
      | exact LeO.none _
      | refine LeO.ite ?_ ?_
      | refine LeO.bind ?_ (fun _ => ?_)
theorem trefoilref02_Texts.mono : ∀ a0 a1 k, LeO (trefoilref02_Texts.f k a0 a1) (trefoilref02_Texts.f (k + 1) a0 a1) := by
  intro a0 a1 k
  have ih0 := trefoilref02_Texts.mono_l k
  unfold trefoilref02_Texts.f
  repeat' first
      | (with_reducible exact ih0 _ _ _)
      | (with_reducible exact LeO.refl _)
      | (with_reducible exact LeO.none _)
      | (with_reducible refine LeO.ite ?_ ?_)
      | (with_reducible refine LeO.bind ?_ (fun _ => ?_))
      | exact ih0 _ _ _
      | exact LeO.none _
      | refine LeO.ite ?_ ?_
      | refine LeO.bind ?_ (fun _ => ?_)
set_option maxHeartbeats 8000000 in
set_option maxRecDepth 100000 in
theorem trefoilref02_Texts.calls (k : Nat) (A0 : Option Addr) (c0 : Nat) (l0 : List ByteArray) (A1 : Option Addr) (c1 : Nat) (l1 : List ByteArray) (r : Bool) (w : World) (hr0 : Kd.C Kd.string w A0 l0.length l0) (hc0 : l0.length ≤ c0) (hr1 : Kd.C Kd.string w A1 l1.length l1) (hc1 : l1.length ≤ c1) (h : trefoilref02_Texts.f k l0 l1 = some r) :
    Calls Try.prog 18 #[.slice A0 l0.length c0, .slice A1 l1.length c1] w fun e w' => e = .returned (.bool r) ∧ Drawn0 w w' := by
  have HR0 := Aside0.mk hr0
  have HC0 := Aside0.mk hc0
  clear hr0 hc0
  have HR1 := Aside0.mk hr1
  have HC1 := Aside0.mk hc1
  clear hr1 hc1
  have H : (if (l0.length : Int) = (l1.length : Int) then (trefoilref02_Texts.l0 k l0 l1 0) else (some false)) = some r := h
  clear h
  by_cases c3 : (l0.length : Int) = (l1.length : Int)
  · rw [if_pos c3] at H
    have c3b0 : ((l0.length : Int) == (l1.length : Int)) = true := beq_iff_eq.mpr c3
    have c3b1 : ((l0.length : Int) != (l1.length : Int)) = false := bne_eq_false_iff_eq.mpr c3
    have c3b2 : (l0.length == l1.length) = true := by first | simpa using c3 | (simp at c3 ⊢; omega)
    clear c3
    have H' := Aside0.mk H
    clear H
    go_enter Try.func18, Try.ntmps18
    go_wp2
    repeat (go_quiet (fail); try go_wp2)
    go_loopg [5] k (fun kq v5 w' => ∃ (x5_1 : Int), v5 = .int .i64 x5_1 ∧ Aside0 (trefoilref02_Texts.l0 kq l0 l1 x5_1 = some r) ∧ Aside0 (kq ≤ k) ∧ Drawn0 w w')
    case atStart => exact ⟨(0), (by first | rfl | (simp; done) | (simp [*]; done)), H', ⟨Nat.le_refl _⟩, by repeat (first | exact Drawn0.refl _ | apply Drawn0.step)⟩
    case round =>
      clear H'
      try clear c1
      try clear p2
      try clear c3
      try clear c3b0
      try clear c3b1
      try clear c3b2
      obtain ⟨x5_1, rfl, HA, HK1, ⟨m1, rfl⟩⟩ := hrel
      cases gk with
      | zero => exact absurd HA.out (by simp [trefoilref02_Texts.l0])
      | succ k1 =>
        have H := HA.out
        clear HA
        simp only [trefoilref02_Texts.l0] at H
        by_cases c4 : x5_1 < (l0.length : Int)
        · rw [if_pos c4] at H
          have c4b0 : decide (x5_1 < (l0.length : Int)) = true := decide_eq_true c4
          clear c4
          by_cases c5 : 0 ≤ x5_1
          · rw [if_pos c5] at H
            have c5b0 : decide (0 ≤ x5_1) = true := decide_eq_true c5
            clear c5
            by_cases c6 : x5_1 < (l1.length : Int)
            · rw [if_pos c6] at H
              have c6b0 : decide (x5_1 < (l1.length : Int)) = true := decide_eq_true c6
              clear c6
              by_cases c7 : (rdOf ByteArray.empty l0 x5_1).toList = (rdOf ByteArray.empty l1 x5_1).toList
              · rw [if_pos c7] at H
                have c7b0 : ((rdOf ByteArray.empty l0 x5_1).toList == (rdOf ByteArray.empty l1 x5_1).toList) = true := beq_iff_eq.mpr c7
                have c7b1 : ((rdOf ByteArray.empty l0 x5_1).toList != (rdOf ByteArray.empty l1 x5_1).toList) = false := bne_eq_false_iff_eq.mpr c7
                clear c7
                have H' := Aside0.mk H
                clear H
                have p103 : 0 ≤ (x5_1 : Int) := of_decide_eq_true (by first | (with_reducible assumption) | assumption)
                have q103 : x5_1 < (l0.length : Int) := of_decide_eq_true (by first | (with_reducible assumption) | assumption)
                obtain ⟨ad103, e103, hx103_0⟩ := Kd.at_string HR0.out x5_1 p103 q103
                cases e103
                replace p103 := eq_true p103
                replace q103 := eq_true q103
                have p104 : 0 ≤ (x5_1 : Int) := of_decide_eq_true (by first | (with_reducible assumption) | assumption)
                have q104 : x5_1 < (l1.length : Int) := of_decide_eq_true (by first | (with_reducible assumption) | assumption)
                obtain ⟨ad104, e104, hx104_0⟩ := Kd.at_string HR1.out x5_1 p104 q104
                cases e104
                replace p104 := eq_true p104
                replace q104 := eq_true q104
                go_wp2
                repeat (go_quiet (fail); try go_wp2)
                go_roundg k1
                case measure => have := HK1.out; omega
                case rel => exact ⟨(wrap64 (x5_1 + 1)), (by first | rfl | (simp; done) | (simp [*]; done)), H', ⟨by have := HK1.out; omega⟩, by repeat (first | exact Drawn0.refl _ | apply Drawn0.step)⟩
              · rw [if_neg c7] at H
                have c7b0 : ((rdOf ByteArray.empty l0 x5_1).toList == (rdOf ByteArray.empty l1 x5_1).toList) = false := beq_eq_false_iff_ne.mpr c7
                have c7b1 : ((rdOf ByteArray.empty l0 x5_1).toList != (rdOf ByteArray.empty l1 x5_1).toList) = true := bne_iff_ne.mpr c7
                obtain rfl := Option.some.inj H
                have p103 : 0 ≤ (x5_1 : Int) := of_decide_eq_true (by first | (with_reducible assumption) | assumption)
                have q103 : x5_1 < (l0.length : Int) := of_decide_eq_true (by first | (with_reducible assumption) | assumption)
                obtain ⟨ad103, e103, hx103_0⟩ := Kd.at_string HR0.out x5_1 p103 q103
                cases e103
                replace p103 := eq_true p103
                replace q103 := eq_true q103
                have p104 : 0 ≤ (x5_1 : Int) := of_decide_eq_true (by first | (with_reducible assumption) | assumption)
                have q104 : x5_1 < (l1.length : Int) := of_decide_eq_true (by first | (with_reducible assumption) | assumption)
                obtain ⟨ad104, e104, hx104_0⟩ := Kd.at_string HR1.out x5_1 p104 q104
                cases e104
                replace p104 := eq_true p104
                replace q104 := eq_true q104
                go_wp2
                repeat (go_quiet (fail); try go_wp2)
                go_ret
                exact ⟨by first | rfl | (simp; done) | (simp [*]; done), by repeat (first | exact Drawn0.refl _ | apply Drawn0.step)⟩
            · rw [if_neg c6] at H
              exact absurd H (by simp)
          · rw [if_neg c5] at H
            exact absurd H (by simp)
        · rw [if_neg c4] at H
          have c4b0 : decide (x5_1 < (l0.length : Int)) = false := decide_eq_false c4
          clear c4
          obtain rfl := Option.some.inj H
          go_wp2
          repeat (go_quiet (fail); try go_wp2)
          go_ret
          exact ⟨by first | rfl | (simp; done) | (simp [*]; done), by repeat (first | exact Drawn0.refl _ | apply Drawn0.step)⟩
  · rw [if_neg c3] at H
    have c3b0 : ((l0.length : Int) == (l1.length : Int)) = false := beq_eq_false_iff_ne.mpr c3
    have c3b1 : ((l0.length : Int) != (l1.length : Int)) = true := bne_iff_ne.mpr c3
    have c3b2 : (l0.length == l1.length) = false := by first | simpa using c3 | (simp at c3 ⊢; omega)
    obtain rfl := Option.some.inj H
    go_enter Try.func18, Try.ntmps18
    go_wp2
    repeat (go_quiet (fail); try go_wp2)
    go_ret
    exact ⟨by first | rfl | (simp; done) | (simp [*]; done), by repeat (first | exact Drawn0.refl _ | apply Drawn0.step)⟩

/-! ### trefoillaw02_awake: function 9, by hand -/
def trefoillaw02_awake.f : Option Bool := some true
theorem lit_bytes (w : World) (l : List UInt8) (n : Nat) (cs : Array Value) (hn : l.length = n) (hc : cs = (l.map fun b => Value.int .u8 (b.toNat : Int)).toArray) :
    (convert 42 9 (.slice (some ⟨w.heap.size, 0, none⟩) n n)).run Try.prog (w.alloc (.cells cs 5)) = .ok (.string ⟨l.toArray⟩) (w.alloc (.cells cs 5)) := by
  subst hn
  refine run_convert_bytes_back (l := l) _ 42 9 5 _ l.length Try.underlying42 Try.underlying5 Try.underlying9 ?_
  intro j hj
  rw [show (⟨w.heap.size, 0, none⟩ : Addr).add j = ⟨w.heap.size, j, none⟩ by simp [Addr.add, eq_comm], World.cell?_alloc_mark, hc]
  simp [hj]
theorem lit_reads {α : Type} (enc : α → Value) (d : α) (w : World) (t : TypeId) (l : List α) (cs : Array Value) (hc : cs = (l.map enc).toArray) (hl : l.length ≤ 100) :
    ReadsOf enc d (w.alloc (.cells cs t)) (some ⟨w.heap.size, 0, none⟩) l.length l := by
  refine ⟨rfl, by omega, fun _ => ⟨_, rfl, fun j hj => ?_⟩⟩
  rw [show (⟨w.heap.size, 0, none⟩ : Addr).add j = ⟨w.heap.size, j, none⟩ by simp [Addr.add, eq_comm], World.cell?_alloc_mark, hc]
  simp [hj, List.getD_eq_getElem?_getD]
theorem awake_k1 : WirePlain.putR 258 2 = (⟨#[2, 1]⟩, 0) := by decide +kernel
theorem awake_k2 : WirePlain.getR ⟨#[1, 2, 3]⟩ 1 2 = (770, 0) := by decide +kernel
theorem awake_k3 : rowR [1, 2] 1 = (⟨#[1, 2]⟩, 0) := by decide +kernel
theorem awake_k4 : unrowR ⟨#[1, 2]⟩ 0 2 1 = ([1, 2], 2, 0) := by decide +kernel
theorem awake_k5 : cutR ⟨#[97, 98, 99, 100]⟩ [1, 2] = ([⟨#[97]⟩, ⟨#[98, 99]⟩], ⟨#[100]⟩, 0) := by decide +kernel
theorem awake_k6 : WirePlain.putR 1 3 = (⟨#[]⟩, 22) := by decide +kernel
set_option maxHeartbeats 2000000 in
set_option maxRecDepth 100000 in
theorem trefoillaw02_awake.calls (r : Bool) (w : World) (h : trefoillaw02_awake.f = some r) :
    Calls Try.prog 9 #[] w fun e w' => e = .returned (.bool r) ∧ Below w.heap.size w w' := by
  obtain rfl : true = r := by simpa [trefoillaw02_awake.f] using h
  clear h
  have C1 := Lib.hid (put_any 258 2 w (by omega))
  have K1 := Lib.hid awake_k1
  have K2 := Lib.hid awake_k2
  have K3 := Lib.hid awake_k3
  have K4 := Lib.hid awake_k4
  have K5 := Lib.hid awake_k5
  have K6 := Lib.hid awake_k6
  go_enter Try.func9, Try.ntmps9
  go_wp2_with fail
  refine C1.out.mono ?_
  rw [K1.out]
  rintro e w1 ⟨rfl, hb1⟩
  have cv1 := lit_bytes w1 [1, 2, 3] 3 #[.int .u8 1, .int .u8 2, .int .u8 3] rfl rfl
  go_wp2_with fail
  refine (get_any ⟨#[1, 2, 3]⟩ 1 2 _ (by unfold maxLen; show 3 ≤ _; omega)).mono ?_
  rw [K2.out]
  rintro e w2 ⟨rfl, hb2⟩
  have hb2' := hb1.trans (((Below.refl _ _).alloc (Nat.le_refl _) _).trans (hb2.mono (by simp))|>.mono hb1.size)
  clear cv1 hb2 hb1
  go_wp2_with fail
  refine (row_any (some ⟨w2.heap.size, 0, none⟩) 2 [1, 2] 1 _ (lit_reads (Value.int .i64) 0 w2 3 [1, 2] #[.int .i64 1, .int .i64 2] rfl (by decide)) (by decide) (by simp)).mono ?_
  rw [K3.out]
  rintro e w3 ⟨rfl, hb3⟩
  have hb3' := hb2'.trans (((Below.refl _ _).alloc (Nat.le_refl _) _).trans (hb3.mono (by simp))|>.mono hb2'.size)
  clear hb3 hb2'
  go_wp2_with fail
  refine (unrow_any ⟨#[1, 2]⟩ 0 2 1 _ (by show 2 ≤ _; omega) (by omega) (by omega)).mono ?_
  rw [K4.out]
  rintro e w4 ⟨v4, rfl, ho4, hb4⟩
  have hb4' := hb3'.trans (hb4.mono hb3'.size)
  have hR4 : Kd.R (Kd.int .i64) 3 w4 w3.heap.size (fun _ => True) v4 [1, 2] := Kd.R_of_own ho4 (fun _ _ => trivial)
  obtain ⟨A4, c4, rfl, hc4, hC4⟩ := Kd.R_reads hR4
  have HC4 := Aside0.mk hC4
  clear ho4 hR4 hC4 hb4 hb3'
  go_wp2_with fail
  refine (cut_any ⟨#[97, 98, 99, 100]⟩ (some ⟨w4.heap.size, 0, none⟩) 2 [1, 2] _ (by show 4 ≤ _; omega) (lit_reads (Value.int .i64) 0 w4 3 [1, 2] #[.int .i64 1, .int .i64 2] rfl (by decide)) (by decide) (by simp)).mono ?_
  rw [K5.out]
  rintro e w5 ⟨v5, rfl, ho5, hb5⟩
  have HC4b := Aside0.mk (Kd.C_below (Kd.C_alloc HC4.out _) hb5)
  have hb5' := hb4'.trans (((Below.refl _ _).alloc (Nat.le_refl _) _).trans (hb5.mono (by simp))|>.mono hb4'.size)
  have hR5 : Kd.R Kd.string 9 w5 (w4.alloc (.cells #[.int .i64 1, .int .i64 2] 3)).heap.size (fun _ => True) v5 [⟨#[97]⟩, ⟨#[98, 99]⟩] := Kd.R_of_own ho5 (fun _ _ => trivial)
  obtain ⟨A5, c5, rfl, hc5, hC5⟩ := Kd.R_reads hR5
  have HC5 := Aside0.mk hC5
  clear ho5 hR5 hC5 hb5 hb4' HC4
  go_wp2_with fail
  refine (put_any 1 3 _ (by omega)).mono ?_
  rw [K6.out]
  rintro e w6 ⟨rfl, hb6⟩
  have HC4c := Aside0.mk (Kd.C_below HC4b.out hb6)
  have HC5c := Aside0.mk (Kd.C_below HC5.out hb6)
  have hb6' := hb5'.trans (hb6.mono hb5'.size)
  have cv6 := lit_bytes w6 [2, 1] 2 #[.int .u8 2, .int .u8 1] rfl rfl
  have cv7 := lit_bytes (w6.alloc (.cells #[.int .u8 2, .int .u8 1] 5)) [1, 2] 2 #[.int .u8 1, .int .u8 2] rfl rfl
  simp only [World.size_alloc] at cv7
  clear hb6 hb5' HC4b HC5
  go_wp2_with fail
  have hb7 := ((hb6'.alloc hb6'.size (.cells #[.int .u8 2, .int .u8 1] 5)).alloc (by have := hb6'.size; simp; omega) (.cells #[.int .u8 1, .int .u8 2] 5)).alloc (by have := hb6'.size; simp; omega) (.cells #[.int .i64 1, .int .i64 2] 3)
  have hC7 := Kd.C_alloc (Kd.C_alloc (Kd.C_alloc HC5c.out (.cells #[.int .u8 2, .int .u8 1] 5)) (.cells #[.int .u8 1, .int .u8 2] 5)) (.cells #[.int .i64 1, .int .i64 2] 3)
  have hr7 := lit_reads (Value.int .i64) 0 ((w6.alloc (.cells #[.int .u8 2, .int .u8 1] 5)).alloc (.cells #[.int .u8 1, .int .u8 2] 5)) 3 [1, 2] #[.int .i64 1, .int .i64 2] rfl (by decide)
  simp only [World.size_alloc] at hr7
  refine (trefoilref02_Ints.calls 5 A4 c4 [1, 2] (some ⟨w6.heap.size + 1 + 1, 0, none⟩) 2 [1, 2] true _ (Kd.C_alloc (Kd.C_alloc (Kd.C_alloc HC4c.out _) _) _) hc4 (Kd.C_of_reads (d := (0 : Int)) (h1 := fun _ => rfl) hr7) (by decide) (by decide +kernel)).mono ?_
  rintro e w7 ⟨rfl, hd⟩
  obtain ⟨n7, rfl⟩ := hd.out
  have hb8 := pw_below_drewN hb7 n7
  have HC8 := Aside0.mk (Kd.C_drewN hC7 n7)
  generalize World.drewN _ n7 = w8 at *
  clear hb7 hC7 hr7 hd cv6 cv7 hb6' HC4c HC5c
  go_wp2_with fail
  have hr8 := lit_reads Value.string ⟨#[]⟩ w8 9 [⟨#[97]⟩, ⟨#[98, 99]⟩] #[.string ⟨#[97]⟩, .string ⟨#[98, 99]⟩] rfl (by decide)
  have hb9 := hb8.alloc hb8.size (.cells #[.string ⟨#[97]⟩, .string ⟨#[98, 99]⟩] 9)
  refine (trefoilref02_Texts.calls 5 A5 c5 [⟨#[97]⟩, ⟨#[98, 99]⟩] (some ⟨w8.heap.size, 0, none⟩) 2 [⟨#[97]⟩, ⟨#[98, 99]⟩] true _ (Kd.C_alloc HC8.out _) hc5 (Kd.C_of_reads (d := (⟨#[]⟩ : ByteArray)) (h1 := fun _ => rfl) hr8) (by decide) (by decide +kernel)).mono ?_
  rintro e w9 ⟨rfl, hd⟩
  obtain ⟨n9, rfl⟩ := hd.out
  have hb10 := pw_below_drewN hb9 n9
  generalize World.drewN _ n9 = w10 at *
  clear hb9 hr8 hd hb8 HC8
  go_wp2
  go_ret
  exact ⟨rfl, hb10⟩

end Go.Proofs.Ytmieddopajbdnaa.PWireCuts
