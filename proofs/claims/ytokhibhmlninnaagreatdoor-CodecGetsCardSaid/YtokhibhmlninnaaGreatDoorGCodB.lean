/- Printed contracts of some functions, put into one: trefoilref02_Wide, trefoilref02_Get, trefoilref06_build. -/
import Derived.Test.YtokhibhmlninnaaGreatDoorProg
import Derived.Below
import Derived.Deep.Draws
import Derived.Deep.AppendLies
import Derived.Maps.AppendAt
import Derived.OwnWalk
import Derived.Laws.BytesArg
import Derived.Laws.MakeOwn
import Derived.Laws.OwnMore
import Derived.Deep.OwnRows
import Derived.Tactics
import Derived.Lib.ConvBytes
import Derived.Laws.Slices
import Derived.WalkKit
import Derived.KernelRfl
import Derived.RowKit3
import Derived.Deep.LoopGhost
import Derived.Deep.QuietTactic
import Derived.BigQuiet
import Derived.WideLaws
import Derived.Deep.DeepCutAuto
import Derived.Deep.CutBlock
import Derived.Deep.RegionHeld3
import Derived.Laws.Rows
import Derived.Lib.AppendStr
import Derived.ArgAppend
import Derived.Laws.IdiomCopy
import Derived.OrdersHeld
import Derived.Laws.BitsLemmas
import Derived.RowKit
import Derived.Test.YtokhibhmlninnaaGreatDoorGWWords
import Derived.Test.YtokhibhmlninnaaGreatDoorGWLast
import Derived.Test.YtokhibhmlninnaaGreatDoorGWTab
import Derived.Test.YtokhibhmlninnaaGreatDoorGWFour
import Derived.Test.YtokhibhmlninnaaGreatDoorGWQPut
import Derived.Test.YtokhibhmlninnaaGreatDoorGWApart
import Derived.Test.YtokhibhmlninnaaGreatDoorGWArr
import Derived.Test.YtokhibhmlninnaaGreatDoorGWZeros
import Derived.Test.YtokhibhmlninnaaGreatDoorGWFoot
import Derived.Test.YtokhibhmlninnaaGreatDoorGWKept
import Derived.Test.YtokhibhmlninnaaGreatDoorGWShare
import Derived.Test.YtokhibhmlninnaaGreatDoorGWN
import Derived.Test.YtokhibhmlninnaaGreatDoorGWFootNe
import Derived.Test.YtokhibhmlninnaaGreatDoorGWAt
import Derived.Test.YtokhibhmlninnaaGreatDoorGWEqStruct
import Derived.Test.YtokhibhmlninnaaGreatDoorGWRepsOne
import Derived.Test.YtokhibhmlninnaaGreatDoorGWInv
import Derived.Test.YtokhibhmlninnaaGreatDoorGWInvWords
import Derived.Test.YtokhibhmlninnaaGreatDoorGWGuard
import Derived.Test.YtokhibhmlninnaaGreatDoorGWNEv
import Derived.Test.YtokhibhmlninnaaGreatDoorGWMore
import Derived.Test.YtokhibhmlninnaaGreatDoorGMP
import Derived.Test.YtokhibhmlninnaaGreatDoorGZr
namespace Go.Proofs.YtokhibhmlninnaaGreatDoor.PCodB
open Go.Proofs.YtokhibhmlninnaaGreatDoor.Zr Go.Proofs.YtokhibhmlninnaaGreatDoor.PCod
open Go.RowKit Go.Proofs.YtokhibhmlninnaaGreatDoorW.PrintWords Go.Proofs.YtokhibhmlninnaaGreatDoorW.PrintLast Go.Proofs.YtokhibhmlninnaaGreatDoorW.PrintMore
attribute [local go_sem] max2_int min2_int max_two min_two max_three min_three max_four min_four   -- for this text's walks alone
set_option linter.unusedVariables false
set_option linter.unusedSimpArgs false
attribute [local go_sem high] eqA63
attribute [local go_sem high] eqA47 eqA63 eqA65
attribute [local go_sem high] eqA47 eqA65
theorem k50_mkF (W : World) (ok : Nat → Prop) (x : S50) {A0 : Option Addr} {c0 : Nat} (l0 : x.f0.length ≤ c0) (g0 : Kd.F (Kd.int .i64) W ok A0 x.f0.length x.f0) {A1 : Option Addr} {c1 : Nat} (l1 : x.f1.length ≤ c1) (g1 : Kd.F (Kd.int .i64) W ok A1 x.f1.length x.f1) : Kd.FK k50 W ok x [.slice A0 x.f0.length c0, .slice A1 x.f1.length c1] := fun W2 hW => k50_mk W2 x l0 (g0 W2 hW) l1 (g1 W2 hW)
def trefoilref02_Wide.f (a0 : Int) : Option (Bool) := if a0 = 1 then (some true) else (if a0 = 2 then (some true) else (if a0 = 4 then (some true) else (some (a0 == 8))))
set_option maxHeartbeats 8000000 in
set_option maxRecDepth 100000 in
theorem trefoilref02_Wide.calls (a0 : Int) (r : Bool) (w : World) (h : trefoilref02_Wide.f a0 = some r) :
  Calls Tryz.prog 68 #[.int .i64 a0] w fun e w' => e = .returned (.bool r) ∧ Drawn0 w w' := by
 have H : (if a0 = 1 then (some true) else (if a0 = 2 then (some true) else (if a0 = 4 then (some true) else (some (a0 == 8))))) = some r := h
 clear h
 by_cases c2 : a0 = 1
 ·rw [if_pos c2] at H
  have c2b0 : (a0 == 1) = true := beq_iff_eq.mpr c2
  have c2b1 : (a0 != 1) = false := bne_eq_false_iff_eq.mpr c2
  clear c2
  obtain rfl := Option.some.inj H
  go_enter Tryz.func68, Tryz.ntmps68
  go_wp2
  go_ret
  exact ⟨by first | rfl | (simp; done) | (simp [*]; done), by repeat (first | exact Drawn0.refl _ | apply Drawn0.step)⟩
 ·rw [if_neg c2] at H
  have c2b0 : (a0 == 1) = false := beq_eq_false_iff_ne.mpr c2
  have c2b1 : (a0 != 1) = true := bne_iff_ne.mpr c2
  by_cases c3 : a0 = 2
  ·rw [if_pos c3] at H
   have c3b0 : (a0 == 2) = true := beq_iff_eq.mpr c3
   have c3b1 : (a0 != 2) = false := bne_eq_false_iff_eq.mpr c3
   clear c3
   obtain rfl := Option.some.inj H
   go_enter Tryz.func68, Tryz.ntmps68
   go_wp2
   go_ret
   exact ⟨by first | rfl | (simp; done) | (simp [*]; done), by repeat (first | exact Drawn0.refl _ | apply Drawn0.step)⟩
  ·rw [if_neg c3] at H
   have c3b0 : (a0 == 2) = false := beq_eq_false_iff_ne.mpr c3
   have c3b1 : (a0 != 2) = true := bne_iff_ne.mpr c3
   by_cases c4 : a0 = 4
   ·rw [if_pos c4] at H
    have c4b0 : (a0 == 4) = true := beq_iff_eq.mpr c4
    have c4b1 : (a0 != 4) = false := bne_eq_false_iff_eq.mpr c4
    clear c4
    obtain rfl := Option.some.inj H
    go_enter Tryz.func68, Tryz.ntmps68
    go_wp2
    go_ret
    exact ⟨by first | rfl | (simp; done) | (simp [*]; done), by repeat (first | exact Drawn0.refl _ | apply Drawn0.step)⟩
   ·rw [if_neg c4] at H
    have c4b0 : (a0 == 4) = false := beq_eq_false_iff_ne.mpr c4
    have c4b1 : (a0 != 4) = true := bne_iff_ne.mpr c4
    obtain rfl := Option.some.inj H
    go_enter Tryz.func68, Tryz.ntmps68
    go_wp2
    go_ret
    exact ⟨by first | rfl | (simp; done) | (simp [*]; done), by repeat (first | exact Drawn0.refl _ | apply Drawn0.step)⟩
mutual
def trefoilref02_Get.j0 : Nat → ByteArray → Int → Int → Bool → Option (Int × Int)
 | 0, _, _, _, _ => none
 | k + 1, x0, x1, x2, x29 => if x29 = true then (some (0, 21)) else (if x2 = 8 then (if 0 ≤ (wrap64 (x1 + 7)) then (if (wrap64 (x1 + 7)) < (x0.size : Int) then (trefoilref02_Get.j1 k x0 x1 x2 (decide ((bt x0 (wrap64 (x1 + 7))) ≥ 128))) else (none)) else (none)) else (trefoilref02_Get.j1 k x0 x1 x2 false))
def trefoilref02_Get.j1 : Nat → ByteArray → Int → Int → Bool → Option (Int × Int)
 | 0, _, _, _, _ => none
 | k + 1, x0, x1, x2, x38 => if x38 = true then (some (0, 20)) else (trefoilref02_Get.l0 k x0 x1 x2 0 1 0)
def trefoilref02_Get.l0 : Nat → ByteArray → Int → Int → Int → Int → Int → Option (Int × Int)
 | 0, _, _, _, _, _, _ => none
 | k + 1, x0, x1, x2, x8, x9, x10 => if x10 < x2 then (if 0 ≤ (wrap64 (x1 + x10)) then (if (wrap64 (x1 + x10)) < (x0.size : Int) then (if x10 < 7 then (trefoilref02_Get.l0 k x0 x1 x2 (wrap64 (x8 + (wrap64 ((wrap64 (bt x0 (wrap64 (x1 + x10)))) * x9)))) (wrap64 (x9 * 256)) (wrap64 (x10 + 1))) else (trefoilref02_Get.l0 k x0 x1 x2 (wrap64 (x8 + (wrap64 ((wrap64 (bt x0 (wrap64 (x1 + x10)))) * x9)))) x9 (wrap64 (x10 + 1)))) else (none)) else (none)) else (some (x8, 0))
end
def trefoilref02_Get.f (k : Nat) (a0 : ByteArray) (a1 : Int) (a2 : Int) : Option (Int × Int) := (trefoilref02_Wide.f a2).bind fun t190 => (if t190 = true then (if a1 < 0 then (trefoilref02_Get.j0 k a0 a1 a2 true) else (if a1 > (a0.size : Int) then (trefoilref02_Get.j0 k a0 a1 a2 true) else (trefoilref02_Get.j0 k a0 a1 a2 (decide ((wrap64 ((a0.size : Int) - a1)) < a2))))) else (some (0, 22)))
theorem trefoilref02_Get.mono_l : ∀ k, (∀ y0 y1 y2 y3, LeO (trefoilref02_Get.j0 k y0 y1 y2 y3) (trefoilref02_Get.j0 (k + 1) y0 y1 y2 y3)) ∧ (∀ y0 y1 y2 y3, LeO (trefoilref02_Get.j1 k y0 y1 y2 y3) (trefoilref02_Get.j1 (k + 1) y0 y1 y2 y3)) ∧ (∀ y0 y1 y2 y3 y4 y5, LeO (trefoilref02_Get.l0 k y0 y1 y2 y3 y4 y5) (trefoilref02_Get.l0 (k + 1) y0 y1 y2 y3 y4 y5))
 | 0 => ⟨fun _ _ _ _ r h => by simp [trefoilref02_Get.j0] at h, fun _ _ _ _ r h => by simp [trefoilref02_Get.j1] at h, fun _ _ _ _ _ _ r h => by simp [trefoilref02_Get.l0] at h⟩
 | k + 1 => by
  obtain ⟨ih0, ih1, ih2⟩ := trefoilref02_Get.mono_l k
  refine ⟨?_, ?_, ?_⟩
  ·intro y0 y1 y2 y3
   unfold trefoilref02_Get.j0
   repeat' first
   | (with_reducible exact ih0 _ _ _ _)
   | (with_reducible exact ih1 _ _ _ _)
   | (with_reducible exact ih2 _ _ _ _ _ _)
   | (with_reducible exact LeO.refl _)
   | (with_reducible exact LeO.none _)
   | (with_reducible refine LeO.ite ?_ ?_)
   | (with_reducible refine LeO.bind ?_ (fun _ => ?_))
   | exact ih0 _ _ _ _
   | exact ih1 _ _ _ _
   | exact ih2 _ _ _ _ _ _
   | exact LeO.none _
   | refine LeO.ite ?_ ?_
   | refine LeO.bind ?_ (fun _ => ?_)
  ·intro y0 y1 y2 y3
   unfold trefoilref02_Get.j1
   repeat' first
   | (with_reducible exact ih0 _ _ _ _)
   | (with_reducible exact ih1 _ _ _ _)
   | (with_reducible exact ih2 _ _ _ _ _ _)
   | (with_reducible exact LeO.refl _)
   | (with_reducible exact LeO.none _)
   | (with_reducible refine LeO.ite ?_ ?_)
   | (with_reducible refine LeO.bind ?_ (fun _ => ?_))
   | exact ih0 _ _ _ _
   | exact ih1 _ _ _ _
   | exact ih2 _ _ _ _ _ _
   | exact LeO.none _
   | refine LeO.ite ?_ ?_
   | refine LeO.bind ?_ (fun _ => ?_)
  ·intro y0 y1 y2 y3 y4 y5
   unfold trefoilref02_Get.l0
   repeat' first
   | (with_reducible exact ih0 _ _ _ _)
   | (with_reducible exact ih1 _ _ _ _)
   | (with_reducible exact ih2 _ _ _ _ _ _)
   | (with_reducible exact LeO.refl _)
   | (with_reducible exact LeO.none _)
   | (with_reducible refine LeO.ite ?_ ?_)
   | (with_reducible refine LeO.bind ?_ (fun _ => ?_))
   | exact ih0 _ _ _ _
   | exact ih1 _ _ _ _
   | exact ih2 _ _ _ _ _ _
   | exact LeO.none _
   | refine LeO.ite ?_ ?_
   | refine LeO.bind ?_ (fun _ => ?_)
theorem trefoilref02_Get.mono : ∀ a0 a1 a2 k, LeO (trefoilref02_Get.f k a0 a1 a2) (trefoilref02_Get.f (k + 1) a0 a1 a2) := by
 intro a0 a1 a2 k
 obtain ⟨ih0, ih1, ih2⟩ := trefoilref02_Get.mono_l k
 unfold trefoilref02_Get.f
 repeat' first
   | (with_reducible exact ih0 _ _ _ _)
   | (with_reducible exact ih1 _ _ _ _)
   | (with_reducible exact ih2 _ _ _ _ _ _)
   | (with_reducible exact LeO.refl _)
   | (with_reducible exact LeO.none _)
   | (with_reducible refine LeO.ite ?_ ?_)
   | (with_reducible refine LeO.bind ?_ (fun _ => ?_))
   | exact ih0 _ _ _ _
   | exact ih1 _ _ _ _
   | exact ih2 _ _ _ _ _ _
   | exact LeO.none _
   | refine LeO.ite ?_ ?_
   | refine LeO.bind ?_ (fun _ => ?_)
set_option maxHeartbeats 8000000 in
set_option maxRecDepth 100000 in
theorem trefoilref02_Get.calls (k : Nat) (a0 : ByteArray) (a1 : Int) (a2 : Int) (r1 : Int) (r2 : Int) (w : World) (h : trefoilref02_Get.f k a0 a1 a2 = some (r1, r2)) :
  Calls Tryz.prog 29 #[.string a0, .int .i64 a1, .int .i64 a2] w fun e w' => e = .returned (.tuple #[.int .i64 r1, .int .i64 r2]) ∧ Drawn0 w w' := by
 have H : ((trefoilref02_Wide.f a2).bind fun t190 => (if t190 = true then (if a1 < 0 then (trefoilref02_Get.j0 k a0 a1 a2 true) else (if a1 > (a0.size : Int) then (trefoilref02_Get.j0 k a0 a1 a2 true) else (trefoilref02_Get.j0 k a0 a1 a2 (decide ((wrap64 ((a0.size : Int) - a1)) < a2))))) else (some (0, 22)))) = some (r1, r2) := h
 clear h
 replace H := Option.bind_eq_some_iff.mp H
 obtain ⟨t190, A40, H⟩ := H
 have A4 := Z0 A40
 clear A40
 by_cases c5 : t190 = true
 ·subst c5
  have H1 : (if a1 < 0 then (trefoilref02_Get.j0 k a0 a1 a2 true) else (if a1 > (a0.size : Int) then (trefoilref02_Get.j0 k a0 a1 a2 true) else (trefoilref02_Get.j0 k a0 a1 a2 (decide ((wrap64 ((a0.size : Int) - a1)) < a2))))) = some (r1, r2) := by rw [if_pos rfl] at H; exact H
  clear H
  have H := H1
  clear H1
  have HC6 := Z0 H
  clear H
  go_enter Tryz.func29, Tryz.ntmps29
  go_upto_region 3 with (first | ((with_reducible refine gate_callee (f := 68) rfl ?_); refine goesL_ (some 12) rfl rfl Tryz.func68 (by kernel_rfl) rfl #[.int .i64 a2] rfl (by (try simp only [List.map_toArray, List.map_cons, List.map_nil]); first | done | rfl | (simp only [List.length_drop, List.length_take]; rfl)) ?_; (with_reducible refine (trefoilref02_Wide.calls a2 true _ A4.out).mono ?_); rintro e w' ⟨rfl, ⟨nd, rfl⟩⟩; refine ⟨_, rfl, ?_⟩))
  (try simp only [Act.put, y0, y1, y2])
  go_cut [29] (fun v29 wc => ∃ (kq : Nat) (x29_5 : Bool), v29 = .bool x29_5 ∧ Aside0 (trefoilref02_Get.j0 kq a0 a1 a2 x29_5 = some (r1, r2)) ∧ Aside0 (kq ≤ k) ∧ Drawn0 w wc)
  case first =>
   have H := HC6.out
   clear HC6
   by_cases c7 : a1 < 0
   ·rw [if_pos c7] at H
    have c7b0 : decide (a1 < 0) = true := decide_eq_true c7
    clear c7
    (first | rw [c7b0] | (simp only [i64_w, i32_w]; rw [c7b0]) | skip)
    have H' := Z0 H
    clear H
    go_wp2
    go_meet
    case rel => exact ⟨_, (true), zs, H', ⟨by first | omega | exact Nat.le_refl _⟩, by repeat (first | exact Drawn0.refl _ | apply Drawn0.step)⟩
   ·rw [if_neg c7] at H
    have c7b0 : decide (a1 < 0) = false := decide_eq_false c7
    clear c7
    (first | rw [c7b0] | (simp only [i64_w, i32_w]; rw [c7b0]) | skip)
    by_cases c8 : a1 > (a0.size : Int)
    ·rw [if_pos c8] at H
     have c8b0 : decide ((a0.size : Int) < a1) = true := decide_eq_true c8
     clear c8
     have H' := Z0 H
     clear H
     go_wp2
     go_meet
     case rel => exact ⟨_, (true), zs, H', ⟨by first | omega | exact Nat.le_refl _⟩, by repeat (first | exact Drawn0.refl _ | apply Drawn0.step)⟩
    ·rw [if_neg c8] at H
     have c8b0 : decide ((a0.size : Int) < a1) = false := decide_eq_false c8
     clear c8
     have H' := Z0 H
     clear H
     go_wp2
     go_meet
     case rel => exact ⟨_, (decide ((wrap64 ((a0.size : Int) - a1)) < a2)), zs, H', ⟨by first | omega | exact Nat.le_refl _⟩, by repeat (first | exact Drawn0.refl _ | apply Drawn0.step)⟩
  case rest =>
   clear HC6
   try clear c2
   try clear p2
   try clear c5
   try clear c6
   try clear p6
   try clear c7
   try clear c7b0
   try clear c8
   try clear c8b0
   obtain ⟨kq, x29_5, rfl, HA, HJ5, ⟨mc5, rfl⟩⟩ := hcut
   cases kq with
   | zero => exact absurd HA.out (by simp [trefoilref02_Get.j0])
   | succ kj5 =>
    have H := HA.out
    clear HA
    simp only [trefoilref02_Get.j0] at H
    by_cases c9 : x29_5 = true
    ·subst c9
     have H1 : (some (0, 21)) = some (r1, r2) := by rw [if_pos rfl] at H; exact H
     clear H
     have H := H1
     clear H1
     simp only [Option.some.injEq, Prod.mk.injEq] at H
     obtain ⟨rfl, rfl⟩ := H
     go_wp2
     go_ret2
     exact ⟨by first | rfl | (simp; done) | (simp [*]; done), by repeat (first | exact Drawn0.refl _ | apply Drawn0.step)⟩
    ·replace c9 := Bool.eq_false_iff.mpr c9
     subst c9
     have H1 : (if a2 = 8 then (if 0 ≤ (wrap64 (a1 + 7)) then (if (wrap64 (a1 + 7)) < (a0.size : Int) then (trefoilref02_Get.j1 kj5 a0 a1 a2 (decide ((bt a0 (wrap64 (a1 + 7))) ≥ 128))) else (none)) else (none)) else (trefoilref02_Get.j1 kj5 a0 a1 a2 false)) = some (r1, r2) := by rw [if_neg (show ¬ (false = true) by decide)] at H; exact H
     clear H
     have H := H1
     clear H1
     have HC10 := Z0 H
     clear H
     go_upto_region 5 with (fail)
     go_cut [38] (fun v38 wc => ∃ (kq : Nat) (x38_9 : Bool), v38 = .bool x38_9 ∧ Aside0 (trefoilref02_Get.j1 kq a0 a1 a2 x38_9 = some (r1, r2)) ∧ Aside0 (kq ≤ kj5) ∧ Drawn0 w wc)
     case first =>
      have H := HC10.out
      clear HC10
      by_cases c11 : a2 = 8
      ·rw [if_pos c11] at H
       have c11b0 : (a2 == 8) = true := beq_iff_eq.mpr c11
       have c11b1 : (a2 != 8) = false := bne_eq_false_iff_eq.mpr c11
       clear c11
       (first | rw [c11b0] | (simp only [i64_w, i32_w]; rw [c11b0]) | skip)
       obtain ⟨ji12, hji12⟩ : ∃ j_ : Int, (wrap64 (a1 + 7)) = j_ := ⟨_, rfl⟩
       replace H : (if 0 ≤ (ji12) then (if (ji12) < (a0.size : Int) then (trefoilref02_Get.j1 kj5 a0 a1 a2 (decide ((bt a0 (ji12)) ≥ 128))) else (none)) else (none)) = some (r1, r2) := by first | (rw [hji12] at H; exact H) | (simp only [hji12] at H ⊢; exact H)
       have hji12w : (IntKind.i64.wrap (a1 + 7)) = ji12 := (i64_w _).trans hji12
       by_cases c13 : 0 ≤ (ji12)
       ·rw [if_pos c13] at H
        have c13b0 : decide (0 ≤ (ji12)) = true := decide_eq_true c13
        clear c13
        by_cases c14 : (ji12) < (a0.size : Int)
        ·rw [if_pos c14] at H
         have c14b0 : decide ((ji12) < (a0.size : Int)) = true := decide_eq_true c14
         clear c14
         have H' := Z0 H
         clear H
         have p15 : 0 ≤ ((ji12) : Int) := od
         have q15 : (ji12) < (a0.size : Int) := od
         have hx15 := bt_at a0 (ji12)
         replace p15 := eq_true p15
         replace q15 := eq_true q15
         go_wp2
         go_meet
         case rel => exact ⟨_, (decide ((bt a0 (ji12)) ≥ 128)), (by first | rfl | (simp; done) | (simp only [← hji12] <;> (first | rfl | simp)) | (simp [*]; done)), H', ⟨by have := HJ5.out; first | omega | exact Nat.le_refl _⟩, by repeat (first | exact Drawn0.refl _ | apply Drawn0.step)⟩
        ·rw [if_neg c14] at H
         exact absurd H (by simp)
       ·rw [if_neg c13] at H
        exact absurd H (by simp)
      ·rw [if_neg c11] at H
       have c11b0 : (a2 == 8) = false := beq_eq_false_iff_ne.mpr c11
       have c11b1 : (a2 != 8) = true := bne_iff_ne.mpr c11
       (first | rw [c11b0] | (simp only [i64_w, i32_w]; rw [c11b0]) | skip)
       have H' := Z0 H
       clear H
       go_wp2
       go_meet
       case rel => exact ⟨_, (false), zs, H', ⟨by have := HJ5.out; first | omega | exact Nat.le_refl _⟩, by repeat (first | exact Drawn0.refl _ | apply Drawn0.step)⟩
     case rest =>
      clear HC10
      try clear c1
      try clear p1
      try clear q1
      try clear hx1
      try clear c2
      try clear p2
      try clear c5
      try clear c6
      try clear p6
      try clear c7
      try clear c7b0
      try clear c8
      try clear c8b0
      try clear c9
      try clear c11
      try clear c11b0
      try clear c11b1
      try clear c13
      try clear c13b0
      try clear c14
      try clear c14b0
      try clear p15
      try clear q15
      try clear hx15
      try clear p15
      try clear p2
      try clear p6
      try clear q15
      obtain ⟨kq, x38_9, rfl, HA, HJ9, ⟨mc9, rfl⟩⟩ := hcut
      cases kq with
      | zero => exact absurd HA.out (by simp [trefoilref02_Get.j1])
      | succ kj9 =>
       have H := HA.out
       clear HA
       simp only [trefoilref02_Get.j1] at H
       by_cases c16 : x38_9 = true
       ·subst c16
        have H1 : (some (0, 20)) = some (r1, r2) := by rw [if_pos rfl] at H; exact H
        clear H
        have H := H1
        clear H1
        simp only [Option.some.injEq, Prod.mk.injEq] at H
        obtain ⟨rfl, rfl⟩ := H
        go_wp2
        go_ret2
        exact ⟨by first | rfl | (simp; done) | (simp [*]; done), by repeat (first | exact Drawn0.refl _ | apply Drawn0.step)⟩
       ·replace c16 := Bool.eq_false_iff.mpr c16
        subst c16
        have H1 : (trefoilref02_Get.l0 kj9 a0 a1 a2 0 1 0) = some (r1, r2) := by rw [if_neg (show ¬ (false = true) by decide)] at H; exact H
        clear H
        have H := H1
        clear H1
        have H' := Z0 H
        clear H
        go_wp2
        go_loopg [8, 9, 10] kj9 (fun kq v8 v9 v10 w' => ∃ (x8_3 : Int) (x9_3 : Int) (x10_3 : Int), v8 = .int .i64 x8_3 ∧ v9 = .int .i64 x9_3 ∧ v10 = .int .i64 x10_3 ∧ Aside0 (trefoilref02_Get.l0 kq a0 a1 a2 x8_3 x9_3 x10_3 = some (r1, r2)) ∧ Aside0 (kq ≤ kj9) ∧ Drawn0 w w')
        case atStart => exact ⟨(0), (1), (0), zs, zs, zs, H', ⟨Nat.le_refl _⟩, by repeat (first | exact Drawn0.refl _ | apply Drawn0.step)⟩
        case round =>
         clear H'
         try clear c1
         try clear p1
         try clear q1
         try clear hx1
         try clear c2
         try clear p2
         try clear c5
         try clear c6
         try clear p6
         try clear c7
         try clear c7b0
         try clear c8
         try clear c8b0
         try clear c9
         try clear c11
         try clear c11b0
         try clear c11b1
         try clear c13
         try clear c13b0
         try clear c14
         try clear c14b0
         try clear p15
         try clear q15
         try clear hx15
         try clear c16
         try clear p1
         try clear p15
         try clear p2
         try clear p6
         try clear q1
         try clear q15
         obtain ⟨x8_3, x9_3, x10_3, rfl, rfl, rfl, HA, HK3, ⟨m3, rfl⟩⟩ := hrel
         cases gk with
         | zero => exact absurd HA.out (by simp [trefoilref02_Get.l0])
         | succ k3 =>
          have H := HA.out
          clear HA
          simp only [trefoilref02_Get.l0] at H
          by_cases c17 : x10_3 < a2
          ·rw [if_pos c17] at H
           have c17b0 : decide (x10_3 < a2) = true := decide_eq_true c17
           clear c17
           obtain ⟨ji18, hji18⟩ : ∃ j_ : Int, (wrap64 (a1 + x10_3)) = j_ := ⟨_, rfl⟩
           replace H : (if 0 ≤ (ji18) then (if (ji18) < (a0.size : Int) then (if x10_3 < 7 then (trefoilref02_Get.l0 k3 a0 a1 a2 (wrap64 (x8_3 + (wrap64 ((wrap64 (bt a0 (ji18))) * x9_3)))) (wrap64 (x9_3 * 256)) (wrap64 (x10_3 + 1))) else (trefoilref02_Get.l0 k3 a0 a1 a2 (wrap64 (x8_3 + (wrap64 ((wrap64 (bt a0 (ji18))) * x9_3)))) x9_3 (wrap64 (x10_3 + 1)))) else (none)) else (none)) = some (r1, r2) := by first | (rw [hji18] at H; exact H) | (simp only [hji18] at H ⊢; exact H)
           have hji18w : (IntKind.i64.wrap (a1 + x10_3)) = ji18 := (i64_w _).trans hji18
           by_cases c19 : 0 ≤ (ji18)
           ·rw [if_pos c19] at H
            have c19b0 : decide (0 ≤ (ji18)) = true := decide_eq_true c19
            clear c19
            by_cases c20 : (ji18) < (a0.size : Int)
            ·rw [if_pos c20] at H
             have c20b0 : decide ((ji18) < (a0.size : Int)) = true := decide_eq_true c20
             clear c20
             by_cases c22 : x10_3 < 7
             ·rw [if_pos c22] at H
              have c22b0 : decide (x10_3 < 7) = true := decide_eq_true c22
              clear c22
              have H' := Z0 H
              clear H
              have p21 : 0 ≤ ((ji18) : Int) := od
              have q21 : (ji18) < (a0.size : Int) := od
              have hx21 := bt_at a0 (ji18)
              replace p21 := eq_true p21
              replace q21 := eq_true q21
              go_wp2
              go_roundg k3
              case measure => have := HJ5.out; have := HJ9.out; have := HK3.out; omega
              case rel => exact ⟨(wrap64 (x8_3 + (wrap64 ((wrap64 (bt a0 (ji18))) * x9_3)))), (wrap64 (x9_3 * 256)), (wrap64 (x10_3 + 1)), (by first | rfl | (simp; done) | (simp only [← hji18] <;> (first | rfl | simp)) | (simp [*]; done)), zs, zs, H', ⟨by have := HJ5.out; have := HJ9.out; have := HK3.out; omega⟩, by repeat (first | exact Drawn0.refl _ | apply Drawn0.step)⟩
             ·rw [if_neg c22] at H
              have c22b0 : decide (x10_3 < 7) = false := decide_eq_false c22
              clear c22
              have H' := Z0 H
              clear H
              have p21 : 0 ≤ ((ji18) : Int) := od
              have q21 : (ji18) < (a0.size : Int) := od
              have hx21 := bt_at a0 (ji18)
              replace p21 := eq_true p21
              replace q21 := eq_true q21
              go_wp2
              go_roundg k3
              case measure => have := HJ5.out; have := HJ9.out; have := HK3.out; omega
              case rel => exact ⟨(wrap64 (x8_3 + (wrap64 ((wrap64 (bt a0 (ji18))) * x9_3)))), (x9_3), (wrap64 (x10_3 + 1)), (by first | rfl | (simp; done) | (simp only [← hji18] <;> (first | rfl | simp)) | (simp [*]; done)), zs, zs, H', ⟨by have := HJ5.out; have := HJ9.out; have := HK3.out; omega⟩, by repeat (first | exact Drawn0.refl _ | apply Drawn0.step)⟩
            ·rw [if_neg c20] at H
             exact absurd H (by simp)
           ·rw [if_neg c19] at H
            exact absurd H (by simp)
          ·rw [if_neg c17] at H
           have c17b0 : decide (x10_3 < a2) = false := decide_eq_false c17
           clear c17
           simp only [Option.some.injEq, Prod.mk.injEq] at H
           obtain ⟨rfl, rfl⟩ := H
           go_wp2
           go_ret2
           exact ⟨by first | rfl | (simp; done) | (simp [*]; done), by repeat (first | exact Drawn0.refl _ | apply Drawn0.step)⟩
 ·replace c5 := Bool.eq_false_iff.mpr c5
  subst c5
  have H1 : (some (0, 22)) = some (r1, r2) := by rw [if_neg (show ¬ (false = true) by decide)] at H; exact H
  clear H
  have H := H1
  clear H1
  simp only [Option.some.injEq, Prod.mk.injEq] at H
  obtain ⟨rfl, rfl⟩ := H
  go_enter Tryz.func29, Tryz.ntmps29
  go_wp2_with (first | ((with_reducible refine gate_callee (f := 68) rfl ?_); refine goesL_ (some 12) rfl rfl Tryz.func68 (by kernel_rfl) rfl #[.int .i64 a2] rfl (by (try simp only [List.map_toArray, List.map_cons, List.map_nil]); first | done | rfl | (simp only [List.length_drop, List.length_take]; rfl)) ?_; (with_reducible refine (trefoilref02_Wide.calls a2 false _ A4.out).mono ?_); rintro e w' ⟨rfl, ⟨nd, rfl⟩⟩; refine ⟨_, rfl, ?_⟩))
  go_ret2
  exact ⟨by first | rfl | (simp; done) | (simp [*]; done), by repeat (first | exact Drawn0.refl _ | apply Drawn0.step)⟩
mutual
def trefoilref06_build.l0 : Nat → ByteArray → List Int → Int → Int → Int → Int → List (S47) → Option (Int × Int × (List (S47)) × (List (S63)) × (List (S65)) × (List (S50)))
 | 0, _, _, _, _, _, _, _ => none
 | k + 1, x0, x1, x10, x11, x197000, x197001, x197002 => if 5 < (x0.size : Int) then (if x11 < (wrap64 (bt x0 5)) then (if 0 ≤ x10 then (if x10 < (x1.length : Int) then (if 0 ≤ (wrap64 (x10 + 1)) then (if (wrap64 (x10 + 1)) < (x1.length : Int) then (if 0 ≤ (wrap64 (x10 + 2)) then (if (wrap64 (x10 + 2)) < (x1.length : Int) then (if x197002.length < 5864062014805 then (trefoilref06_build.l0 k x0 x1 (wrap64 (x10 + 3)) (wrap64 (x11 + 1)) x197000 x197001 (x197002 ++ [(⟨rd x1 x10, rd x1 (wrap64 (x10 + 1)), rd x1 (wrap64 (x10 + 2))⟩ : S47)])) else (none)) else (none)) else (none)) else (none)) else (none)) else (none)) else (none)) else (trefoilref06_build.l1 k x0 x1 x10 0 x197000 x197001 x197002 ([] : List (S63)))) else (none)
def trefoilref06_build.l1 : Nat → ByteArray → List Int → Int → Int → Int → Int → List (S47) → List (S63) → Option (Int × Int × (List (S47)) × (List (S63)) × (List (S65)) × (List (S50)))
 | 0, _, _, _, _, _, _, _, _ => none
 | k + 1, x0, x1, x10, x12, x197000, x197001, x197002, x197003 => if 6 < (x0.size : Int) then (if x12 < (wrap64 (bt x0 6)) then (if 0 ≤ x10 then (if x10 < (x1.length : Int) then (if 0 ≤ (wrap64 (x10 + 1)) then (if (wrap64 (x10 + 1)) < (x1.length : Int) then (if x197003.length < 8796093022208 then (trefoilref06_build.l1 k x0 x1 (wrap64 (x10 + 2)) (wrap64 (x12 + 1)) x197000 x197001 x197002 (x197003 ++ [(⟨rd x1 x10, rd x1 (wrap64 (x10 + 1))⟩ : S63)])) else (none)) else (none)) else (none)) else (none)) else (none)) else (trefoilref06_build.l2 k x0 x1 x10 0 x197000 x197001 x197002 x197003 ([] : List (S65)))) else (none)
def trefoilref06_build.l2 : Nat → ByteArray → List Int → Int → Int → Int → Int → List (S47) → List (S63) → List (S65) → Option (Int × Int × (List (S47)) × (List (S63)) × (List (S65)) × (List (S50)))
 | 0, _, _, _, _, _, _, _, _, _ => none
 | k + 1, x0, x1, x10, x13, x197000, x197001, x197002, x197003, x197004 => if 7 < (x0.size : Int) then (if x13 < (wrap64 (bt x0 7)) then (if 0 ≤ x10 then (if x10 < (x1.length : Int) then (if 0 ≤ (wrap64 (x10 + 1)) then (if (wrap64 (x10 + 1)) < (x1.length : Int) then (if 0 ≤ (wrap64 (x10 + 2)) then (if (wrap64 (x10 + 2)) < (x1.length : Int) then (if x197004.length < 5864062014805 then (trefoilref06_build.l2 k x0 x1 (wrap64 (x10 + 3)) (wrap64 (x13 + 1)) x197000 x197001 x197002 x197003 (x197004 ++ [(⟨rd x1 x10, rd x1 (wrap64 (x10 + 1)), rd x1 (wrap64 (x10 + 2))⟩ : S65)])) else (none)) else (none)) else (none)) else (none)) else (none)) else (none)) else (none)) else (trefoilref06_build.l3 k x0 x1 x10 0 x197000 x197001 x197002 x197003 x197004 ([] : List (S50)))) else (none)
def trefoilref06_build.l3 : Nat → ByteArray → List Int → Int → Int → Int → Int → List (S47) → List (S63) → List (S65) → List (S50) → Option (Int × Int × (List (S47)) × (List (S63)) × (List (S65)) × (List (S50)))
 | 0, _, _, _, _, _, _, _, _, _, _ => none
 | k + 1, x0, x1, x10, x14, x197000, x197001, x197002, x197003, x197004, x197005 => if 8 < (x0.size : Int) then (if x14 < (wrap64 (bt x0 8)) then (if 0 ≤ x10 then (if x10 < (x1.length : Int) then (if 0 ≤ (wrap64 (x10 + 1)) then (if (wrap64 (x10 + 1)) < (x1.length : Int) then (if 0 ≤ (wrap64 (x10 + 2)) then (if (wrap64 (x10 + 2)) ≤ (wrap64 ((wrap64 (x10 + 2)) + (rd x1 x10))) then (if (wrap64 ((wrap64 (x10 + 2)) + (rd x1 x10))) ≤ (x1.length : Int) then (if 0 ≤ (wrap64 ((wrap64 (x10 + 2)) + (rd x1 x10))) then (if (wrap64 ((wrap64 (x10 + 2)) + (rd x1 x10))) ≤ (wrap64 ((wrap64 ((wrap64 (x10 + 2)) + (rd x1 x10))) + (rd x1 (wrap64 (x10 + 1))))) then (if (wrap64 ((wrap64 ((wrap64 (x10 + 2)) + (rd x1 x10))) + (rd x1 (wrap64 (x10 + 1))))) ≤ (x1.length : Int) then (if x197005.length < 2932031007402 then (trefoilref06_build.l3 k x0 x1 (wrap64 ((wrap64 ((wrap64 (x10 + 2)) + (rd x1 x10))) + (rd x1 (wrap64 (x10 + 1))))) (wrap64 (x14 + 1)) x197000 x197001 x197002 x197003 x197004 (x197005 ++ [(⟨((x1.take ((wrap64 ((wrap64 (x10 + 2)) + (rd x1 x10))) : Int).toNat).drop ((wrap64 (x10 + 2)) : Int).toNat), ((x1.take ((wrap64 ((wrap64 ((wrap64 (x10 + 2)) + (rd x1 x10))) + (rd x1 (wrap64 (x10 + 1))))) : Int).toNat).drop ((wrap64 ((wrap64 (x10 + 2)) + (rd x1 x10))) : Int).toNat)⟩ : S50)])) else (none)) else (none)) else (none)) else (none)) else (none)) else (none)) else (none)) else (none)) else (none)) else (none)) else (none)) else (some (x197000, x197001, x197002, x197003, x197004, x197005))) else (none)
end
def trefoilref06_build.f (k : Nat) (a0 : ByteArray) (l1 : List Int) : Option (Int × Int × (List (S47)) × (List (S63)) × (List (S65)) × (List (S50))) := (trefoilref02_Get.f k a0 9 4).bind fun bt192 => ((trefoilref02_Get.f k a0 13 4).bind fun bt194 => (trefoilref06_build.l0 k a0 l1 0 0 bt192.1 bt194.1 ([] : List (S47))))
def trefoilref06_build.T7 : Bool × List (List Nat × List Nat) := (true, [([], []), ([0], [0]), ([], []), ([], []), ([2, 3], [2, 3]), ([4], [4]), ([], []), ([], []), ([7], [7]), ([6, 8], [6, 8]), ([9], [9]), ([], []), ([], []), ([12], [12]), ([11, 13], [11, 13]), ([14], [14]), ([5, 10, 15], [5, 10, 15]), ([16], [16]), ([1, 17], [1, 17]), ([0, 1, 2, 3, 4, 5, 6, 7, 8, 9, 10, 11, 12, 13, 14, 15, 16, 17, 18], []), ([19, 18, 18, 0, 1, 2, 3, 4, 5, 6, 7, 8, 9, 10, 11, 12, 13, 14, 15, 16, 17, 18], [18, 19])])
def trefoilref06_build.B7 : List Nat := [0, 1, 0, 0, 12, 28, 0, 0, 128, 448, 960, 0, 0, 4096, 14336, 30720, 65532, 131068, 262143, 524287, 1048575]
theorem trefoilref06_build.tab7 : rtab .any (opsOf Tryz.f30 7) = trefoilref06_build.T7 := by kernel_rfl
theorem trefoilref06_build.bits7 : waitsOk trefoilref06_build.T7.2 trefoilref06_build.B7 = true := by kernel_rfl
def trefoilref06_build.T12 : Bool × List (List Nat × List Nat) := (true, [([], []), ([0], [0]), ([], []), ([], []), ([2, 3], [2, 3]), ([4], [4]), ([], []), ([], []), ([7], [7]), ([6, 8], [6, 8]), ([9], [9]), ([5, 10], [5, 10]), ([11], [11]), ([1, 12], [1, 12]), ([0, 1, 2, 3, 4, 5, 6, 7, 8, 9, 10, 11, 12, 13], []), ([14, 13, 13, 0, 1, 2, 3, 4, 5, 6, 7, 8, 9, 10, 11, 12, 13], [13, 14])])
def trefoilref06_build.B12 : List Nat := [0, 1, 0, 0, 12, 28, 0, 0, 128, 448, 960, 2044, 4092, 8191, 16383, 32767]
theorem trefoilref06_build.tab12 : rtab .any (opsOf Tryz.f30 12) = trefoilref06_build.T12 := by kernel_rfl
theorem trefoilref06_build.bits12 : waitsOk trefoilref06_build.T12.2 trefoilref06_build.B12 = true := by kernel_rfl
def trefoilref06_build.T17 : Bool × List (List Nat × List Nat) := (true, [([], []), ([0], [0]), ([], []), ([], []), ([2, 3], [2, 3]), ([4], [4]), ([], []), ([], []), ([7], [7]), ([6, 8], [6, 8]), ([9], [9]), ([], []), ([], []), ([12], [12]), ([11, 13], [11, 13]), ([14], [14]), ([5, 10, 15], [5, 10, 15]), ([16], [16]), ([1, 17], [1, 17]), ([0, 1, 2, 3, 4, 5, 6, 7, 8, 9, 10, 11, 12, 13, 14, 15, 16, 17, 18], []), ([19, 18, 18, 0, 1, 2, 3, 4, 5, 6, 7, 8, 9, 10, 11, 12, 13, 14, 15, 16, 17, 18], [18, 19])])
def trefoilref06_build.B17 : List Nat := [0, 1, 0, 0, 12, 28, 0, 0, 128, 448, 960, 0, 0, 4096, 14336, 30720, 65532, 131068, 262143, 524287, 1048575]
theorem trefoilref06_build.tab17 : rtab .any (opsOf Tryz.f30 17) = trefoilref06_build.T17 := by kernel_rfl
theorem trefoilref06_build.bits17 : waitsOk trefoilref06_build.T17.2 trefoilref06_build.B17 = true := by kernel_rfl
def trefoilref06_build.T22 : Bool × List (List Nat × List Nat) := (true, [([], []), ([], []), ([0, 1], [0, 1]), ([2], [2]), ([], []), ([], []), ([5], [5]), ([4, 6], [4, 6]), ([7], [7]), ([3, 0, 1, 2, 3], [3]), ([8, 9, 0, 1, 2, 3, 4, 5, 6, 7, 8, 9], [8])])
def trefoilref06_build.B22 : List Nat := [0, 0, 3, 7, 0, 0, 32, 112, 240, 15, 1023]
theorem trefoilref06_build.tab22 : rtab .any (opsOf Tryz.f30 22) = trefoilref06_build.T22 := by kernel_rfl
theorem trefoilref06_build.bits22 : waitsOk trefoilref06_build.T22.2 trefoilref06_build.B22 = true := by kernel_rfl
def trefoilref06_build.T24 : Bool × List (List Nat × List Nat) := (true, [([], []), ([0], [0]), ([], []), ([], []), ([], []), ([], []), ([4, 5], [4, 5]), ([2, 3, 6], [2, 3, 6]), ([], []), ([], []), ([], []), ([9, 10], [9, 10]), ([], []), ([], []), ([12, 13], [12, 13]), ([], []), ([14, 15], [14, 15]), ([8, 11, 16], [8, 11, 16]), ([7, 17], [7, 17]), ([18], [18]), ([1, 19], [1, 19]), ([0, 1, 2, 3, 4, 5, 6, 7, 8, 9, 10, 11, 12, 13, 14, 15, 16, 17, 18, 19, 20], []), ([21, 20, 20, 0, 1, 2, 3, 4, 5, 6, 7, 8, 9, 10, 11, 12, 13, 14, 15, 16, 17, 18, 19, 20], [20, 21])])
def trefoilref06_build.B24 : List Nat := [0, 1, 0, 0, 0, 0, 48, 124, 0, 0, 0, 1536, 0, 0, 12288, 0, 61440, 130816, 262140, 524284, 1048575, 2097151, 4194303]
theorem trefoilref06_build.tab24 : rtab .any (opsOf Tryz.f30 24) = trefoilref06_build.T24 := by kernel_rfl
theorem trefoilref06_build.bits24 : waitsOk trefoilref06_build.T24.2 trefoilref06_build.B24 = true := by kernel_rfl
set_option maxHeartbeats 8000000 in
set_option maxRecDepth 100000 in
theorem trefoilref06_build.calls (k : Nat) (a0 : ByteArray) (P1_ : Nat → Prop) (A1 : Option Addr) (c1 : Nat) (l1 : List Int) (r1 : Int) (r2 : Int) (r3 : List (S47)) (r4 : List (S63)) (r5 : List (S65)) (r6 : List (S50)) (w : World) (hs1 : Kd.V (Kd.int .i64) 3 w w.heap.size (fun k_ => P1_ k_) (.slice A1 l1.length c1) l1) (h : trefoilref06_build.f k a0 l1 = some (r1, r2, r3, r4, r5, r6)) :
  Calls Tryz.prog 30 #[.string a0, .slice A1 l1.length c1] w fun e w' => ∃ v2_ v3_ v4_ v5_ : Value, e = .returned (.agg #[.int .i64 r1, .int .i64 r2, v2_, v3_, v4_, v5_]) ∧ Kd.R k47 47 w' w.heap.size (fun k_ => (w.heap.size ≤ k_)) v2_ r3 ∧ Kd.R k63 63 w' w.heap.size (fun k_ => (w.heap.size ≤ k_)) v3_ r4 ∧ Kd.R k65 65 w' w.heap.size (fun k_ => (w.heap.size ≤ k_)) v4_ r5 ∧ Kd.N k50 50 w' w.heap.size (fun k_ => (P1_ k_ ∨ w.heap.size ≤ k_) ∧ some k_ ≠ (v2_ : Value).ownBlock ∧ some k_ ≠ (v3_ : Value).ownBlock ∧ some k_ ≠ (v4_ : Value).ownBlock) v5_ r6 ∧ Below w.heap.size w w' := by
 have hu27 := Tryz.underlying27
 have hu47 := Tryz.underlying47
 have hu63 := Tryz.underlying63
 have hu65 := Tryz.underlying65
 have hu50 := Tryz.underlying50
 have HO1 := Z0 (show Kd.V (Kd.int .i64) 3 w w.heap.size (fun k_ => (P1_ k_ ∨ w.heap.size ≤ k_)) (.slice A1 l1.length c1) l1 from Kd.V_mono hs1 (fun k_ hk => .inl hk))
 have HB := Z0 (Below.refl w.heap.size w)
 have H : ((trefoilref02_Get.f k a0 9 4).bind fun bt192 => ((trefoilref02_Get.f k a0 13 4).bind fun bt194 => (trefoilref06_build.l0 k a0 l1 0 0 bt192.1 bt194.1 ([] : List (S47))))) = some (r1, r2, r3, r4, r5, r6) := h
 clear h
 replace H := Option.bind_eq_some_iff.mp H
 obtain ⟨⟨t192, t193⟩, A30, H⟩ := H
 dsimp only at H
 have A3 := Z0 A30
 clear A30
 replace H := Option.bind_eq_some_iff.mp H
 obtain ⟨⟨t194, t195⟩, A40, H⟩ := H
 dsimp only at H
 have A4 := Z0 A40
 clear A40
 have H' := Z0 H
 clear H
 go_enter Tryz.func30, Tryz.ntmps30
 go_wp2_with (first | ((with_reducible refine gate_dst (N := 4) rfl ?_); refine zx (N := 4) #[.int .i64 0, .int .i64 0, .slice none 0 0, .slice none 0 0, .slice none 0 0, .slice none 0 0] 27 ?_; intro gb191 hg w5 hbox hb; replace HO1 := Z0 (Kd.V_below (Kd.V_elderB (by (with_reducible repeat (first | apply Kd.V_alloc | apply Kd.V_drewN | apply Kd.V_drew)); exact HO1.out) gb191 (Nat.le_of_eq hg.symm)) hb); have BK191 := Z0 (hbox); have GW191 := Z0 (zh w hg HB); have GE191 := Z0 (zh w hg HB); replace HB := Z0 (below_step (zb HB) hb); clear hb hbox hg) | ((with_reducible refine gate_callee (f := 29) rfl ?_); refine goesL_ (some 19) rfl rfl Tryz.func29 (by kernel_rfl) rfl #[.string a0, .int .i64 9, .int .i64 4] rfl (by (try simp only [List.map_toArray, List.map_cons, List.map_nil]); first | done | rfl | (simp only [List.length_drop, List.length_take]; rfl)) ?_; (with_reducible refine (trefoilref02_Get.calls k a0 9 4 t192 t193 _ A3.out).mono ?_); rintro e w' ⟨rfl, ⟨nd, rfl⟩⟩; refine ⟨_, rfl, ?_⟩; (try (rw [drewN_self w5]; generalize hq_ : World.drewN w5 _ = w5; have n0_ : Aside0 (Kd.V (Kd.int .i64) 3 w5 w.heap.size (fun k_ => (P1_ k_ ∨ w.heap.size ≤ k_) ∧ k_ ≠ gb191) (.slice A1 l1.length c1) l1) := ⟨by rw [← hq_]; exact (by (with_reducible repeat (first | apply Kd.V_alloc | apply Kd.V_drewN | apply Kd.V_drew)); exact HO1.out)⟩; have n1_ : Aside0 (w5.heap[gb191]? = some (.cells #[.int .i64 0, .int .i64 0, .slice none 0 0, .slice none 0 0, .slice none 0 0, .slice none 0 0] 27 (0, 0))) := ⟨by rw [← hq_]; exact (zk BK191)⟩; have n2_ : Aside0 (Below w.heap.size w w5) := ⟨by rw [← hq_]; exact (zb HB)⟩; clear HO1 BK191 HB hq_; have HO1 := n0_; have BK191 := n1_; have HB := n2_; clear n0_ n1_ n2_))) | ((with_reducible refine gate_callee (f := 29) rfl ?_); refine goesL_ (some 24) rfl rfl Tryz.func29 (by kernel_rfl) rfl #[.string a0, .int .i64 13, .int .i64 4] rfl (by (try simp only [List.map_toArray, List.map_cons, List.map_nil]); first | done | rfl | (simp only [List.length_drop, List.length_take]; rfl)) ?_; (with_reducible refine (trefoilref02_Get.calls k a0 13 4 t194 t195 _ A4.out).mono ?_); rintro e w' ⟨rfl, ⟨nd, rfl⟩⟩; refine ⟨_, rfl, ?_⟩; (try (rw [drewN_self w5]; generalize hq_ : World.drewN w5 _ = w5; have n0_ : Aside0 (Kd.V (Kd.int .i64) 3 w5 w.heap.size (fun k_ => (P1_ k_ ∨ w.heap.size ≤ k_) ∧ k_ ≠ gb191) (.slice A1 l1.length c1) l1) := ⟨by rw [← hq_]; exact (by (with_reducible repeat (first | apply Kd.V_alloc | apply Kd.V_drewN | apply Kd.V_drew)); exact HO1.out)⟩; have n1_ : Aside0 (w5.heap[gb191]? = some (.cells #[.int .i64 0, .int .i64 0, .slice none 0 0, .slice none 0 0, .slice none 0 0, .slice none 0 0] 27 (0, 0))) := ⟨by rw [← hq_]; exact (zk BK191)⟩; have n2_ : Aside0 (Below w.heap.size w w5) := ⟨by rw [← hq_]; exact (zb HB)⟩; clear HO1 BK191 HB hq_; have HO1 := n0_; have BK191 := n1_; have HB := n2_; clear n0_ n1_ n2_))) | ((with_reducible refine gate_dst (N := 9) rfl ?_); refine zx (N := 9) #[.int .i64 0, .int .i64 0, .slice none 0 0, .slice none 0 0, .slice none 0 0, .slice none 0 0] 27 ?_; intro gb196 hg w6 hbox hb; replace HO1 := Z0 (Kd.V_below (Kd.V_elderB (by (with_reducible repeat (first | apply Kd.V_alloc | apply Kd.V_drewN | apply Kd.V_drew)); exact HO1.out) gb196 (Nat.le_of_eq hg.symm)) hb); have BK196 := Z0 (hbox); have GW196 := Z0 (zh w hg HB); have GE196 := Z0 (zh w hg HB); replace HB := Z0 (below_step (zb HB) hb); have NB191_196 := Z0 (zl hg BK191); have NB196_191 := Z0 (zu hg BK191); replace BK191 := Z0 (zkb BK191 hb); clear hb hbox hg; have hnb7 := NB196_191.out; have hnc7 := NB191_196.out; have hcz8_0 := kz0 BK196; have hcz8_1 := kz1 BK196; have hcz8_2 := kz2 BK196; have hcz8_3 : w6.cell? ⟨gb196, 3, none⟩ = some (.slice none 0 0) := (kc BK196.out 3).trans rfl; have hcz8_4 : w6.cell? ⟨gb196, 4, none⟩ = some (.slice none 0 0) := (kc BK196.out 4).trans rfl; have hcz8_5 : w6.cell? ⟨gb196, 5, none⟩ = some (.slice none 0 0) := (kc BK196.out 5).trans rfl; have hfz8_0 := blk_frozen BK196.out 0; have hfz8_1 := blk_frozen BK196.out 1; have hfz8_2 := blk_frozen BK196.out 2; have hfz8_3 := blk_frozen BK196.out 3; have hfz8_4 := blk_frozen BK196.out 4; have hfz8_5 := blk_frozen BK196.out 5))
 go_loopg [10, 11] k (fun kq v10 v11 w' => ∃ (x10_1 : Int) (x11_1 : Int) (x197002_1 : List (S47)) (u197002 : Value), v10 = .int .i64 x10_1 ∧ v11 = .int .i64 x11_1 ∧ Aside0 (trefoilref06_build.l0 kq a0 l1 x10_1 x11_1 t192 t194 x197002_1 = some (r1, r2, r3, r4, r5, r6)) ∧ Aside0 (kq ≤ k) ∧ Aside0 (Kd.V (Kd.int .i64) 3 w' w.heap.size (fun k_ => (P1_ k_ ∨ w.heap.size ≤ k_) ∧ some k_ ≠ (u197002 : Value).ownBlock ∧ k_ ≠ gb191 ∧ k_ ≠ gb196) (.slice A1 l1.length c1) l1) ∧ Aside0 (Kd.R k47 47 w' w.heap.size (fun k_ => (w.heap.size ≤ k_)) u197002 x197002_1) ∧ Aside0 (w'.heap[gb191]? = some (.cells #[.int .i64 0, .int .i64 0, (.slice none 0 0), (.slice none 0 0), (.slice none 0 0), (.slice none 0 0)] 27 (0, 0))) ∧ Aside0 (w'.heap[gb196]? = some (.cells #[.int .i64 t192, .int .i64 t194, u197002, (.slice none 0 0), (.slice none 0 0), (.slice none 0 0)] 27 (0, 0))) ∧ Aside0 (Below w.heap.size w w'))
 case atStart => exact ⟨(0), (0), (([] : List (S47))), (.slice none 0 0), zs, zs, H', ⟨Nat.le_refl _⟩, ⟨by (with_reducible repeat (first | apply Kd.V_alloc | apply Kd.V_drewN | apply Kd.V_drew)); exact Kd.V_mono (Kd.V_far (p := ⟨gb196, 5, none⟩) (Kd.V_far (p := ⟨gb196, 4, none⟩) (Kd.V_far (p := ⟨gb196, 3, none⟩) (Kd.V_far (p := ⟨gb196, 2, none⟩) (Kd.V_far (p := ⟨gb196, 1, none⟩) (Kd.V_far (p := ⟨gb196, 0, none⟩) (Kd.V_mono HO1.out (fun k_ hk => (⟨hk, hk.2⟩ : _ ∧ k_ ≠ gb196))) (fun _ hk => hk.2) (.int .i64 t192)) (fun _ hk => hk.2) (.int .i64 t194)) (fun _ hk => hk.2) (.slice none 0 0)) (fun _ hk => hk.2) (.slice none 0 0)) (fun _ hk => hk.2) (.slice none 0 0)) (fun _ hk => hk.2) (.slice none 0 0)) (fun _ hk => ⟨hk.1.1.1, ⟨(by simp [Value.ownBlock]), ⟨hk.1.1.2, hk.1.2⟩⟩⟩)⟩, ⟨by first | exact Kd.R_nil _ _ _ _ _ | exact Kd.N_nil _ _ _ _ _ | exact Kd.V_nil _ _ _ _ _ | exact Kd.Q_nil _ _ _ _ _ | exact Kd.S_nil _ _ _ _ _⟩, ⟨by (with_reducible repeat (first | refine kn ?_ _ | refine kd_ ?_ | refine ka ?_ _)); refine blk_far ?_ NB191_196.out _; (with_reducible repeat (first | refine kn ?_ _ | refine kd_ ?_ | refine ka ?_ _)); refine blk_far ?_ NB191_196.out _; (with_reducible repeat (first | refine kn ?_ _ | refine kd_ ?_ | refine ka ?_ _)); refine blk_far ?_ NB191_196.out _; (with_reducible repeat (first | refine kn ?_ _ | refine kd_ ?_ | refine ka ?_ _)); refine blk_far ?_ NB191_196.out _; (with_reducible repeat (first | refine kn ?_ _ | refine kd_ ?_ | refine ka ?_ _)); refine blk_far ?_ NB191_196.out _; (with_reducible repeat (first | refine kn ?_ _ | refine kd_ ?_ | refine ka ?_ _)); refine blk_far ?_ NB191_196.out _; (with_reducible repeat (first | refine kn ?_ _ | refine kd_ ?_ | refine ka ?_ _)); exact BK191.out⟩, ⟨by (with_reducible repeat (first | refine kn ?_ _ | refine kd_ ?_ | refine ka ?_ _)); refine blk_put (cs := #[.int .i64 t192, .int .i64 t194, .slice none 0 0, .slice none 0 0, .slice none 0 0, .slice none 0 0]) ?_ 5 _ rfl; (with_reducible repeat (first | refine kn ?_ _ | refine kd_ ?_ | refine ka ?_ _)); refine blk_put (cs := #[.int .i64 t192, .int .i64 t194, .slice none 0 0, .slice none 0 0, .slice none 0 0, .slice none 0 0]) ?_ 4 _ rfl; (with_reducible repeat (first | refine kn ?_ _ | refine kd_ ?_ | refine ka ?_ _)); refine blk_put (cs := #[.int .i64 t192, .int .i64 t194, .slice none 0 0, .slice none 0 0, .slice none 0 0, .slice none 0 0]) ?_ 3 _ rfl; (with_reducible repeat (first | refine kn ?_ _ | refine kd_ ?_ | refine ka ?_ _)); refine blk_put (cs := #[.int .i64 t192, .int .i64 t194, .slice none 0 0, .slice none 0 0, .slice none 0 0, .slice none 0 0]) ?_ 2 _ rfl; (with_reducible repeat (first | refine kn ?_ _ | refine kd_ ?_ | refine ka ?_ _)); refine blk_put (cs := #[.int .i64 t192, .int .i64 0, .slice none 0 0, .slice none 0 0, .slice none 0 0, .slice none 0 0]) ?_ 1 _ rfl; (with_reducible repeat (first | refine kn ?_ _ | refine kd_ ?_ | refine ka ?_ _)); refine blk_put (cs := #[.int .i64 0, .int .i64 0, .slice none 0 0, .slice none 0 0, .slice none 0 0, .slice none 0 0]) ?_ 0 _ rfl; (with_reducible repeat (first | refine kn ?_ _ | refine kd_ ?_ | refine ka ?_ _)); exact BK196.out⟩, ⟨zb HB⟩⟩
 case round =>
  clear H'
  try clear c1
  try clear c2
  try clear p2
  try clear c3
  try clear c7
  try clear hcz8_0
  try clear hcz8_1
  try clear hcz8_2
  try clear hcz8_3
  try clear hcz8_4
  try clear hcz8_5
  try clear hfz8_0
  try clear hfz8_1
  try clear hfz8_2
  try clear hfz8_3
  try clear hfz8_4
  try clear hfz8_5
  obtain ⟨x10_1, x11_1, x197002_1, u197002, rfl, rfl, HA, HK1, HO_1, HO_197002, BK191, BK196, HB⟩ := hrel
  cases gk with
  | zero => exact absurd HA.out (by simp [trefoilref06_build.l0])
  | succ k1 =>
   have H := HA.out
   clear HA
   simp only [trefoilref06_build.l0] at H
   by_cases c9 : 5 < (a0.size : Int)
   ·rw [if_pos c9] at H
    have c9b0 : decide (5 < (a0.size : Int)) = true := decide_eq_true c9
    have c9b1 : decide (5 < a0.size) = true := decide_eq_true (by omega)
    clear c9
    by_cases c11 : x11_1 < (wrap64 (bt a0 5))
    ·rw [if_pos c11] at H
     have c11b0 : decide (x11_1 < (wrap64 (bt a0 5))) = true := decide_eq_true c11
     clear c11
     by_cases c12 : 0 ≤ x10_1
     ·rw [if_pos c12] at H
      have c12b0 : decide (0 ≤ x10_1) = true := decide_eq_true c12
      clear c12
      by_cases c13 : x10_1 < (l1.length : Int)
      ·rw [if_pos c13] at H
       have c13b0 : decide (x10_1 < (l1.length : Int)) = true := decide_eq_true c13
       clear c13
       obtain ⟨ji14, hji14⟩ : ∃ j_ : Int, (wrap64 (x10_1 + 1)) = j_ := ⟨_, rfl⟩
       replace H : (if 0 ≤ (ji14) then (if (ji14) < (l1.length : Int) then (if 0 ≤ (wrap64 (x10_1 + 2)) then (if (wrap64 (x10_1 + 2)) < (l1.length : Int) then (if x197002_1.length < 5864062014805 then (trefoilref06_build.l0 k1 a0 l1 (wrap64 (x10_1 + 3)) (wrap64 (x11_1 + 1)) t192 t194 (x197002_1 ++ [(⟨rd l1 x10_1, rd l1 (ji14), rd l1 (wrap64 (x10_1 + 2))⟩ : S47)])) else (none)) else (none)) else (none)) else (none)) else (none)) = some (r1, r2, r3, r4, r5, r6) := by first | (rw [hji14] at H; exact H) | (simp only [hji14] at H ⊢; exact H)
       have hji14w : (IntKind.i64.wrap (x10_1 + 1)) = ji14 := (i64_w _).trans hji14
       by_cases c15 : 0 ≤ (ji14)
       ·rw [if_pos c15] at H
        have c15b0 : decide (0 ≤ (ji14)) = true := decide_eq_true c15
        clear c15
        by_cases c16 : (ji14) < (l1.length : Int)
        ·rw [if_pos c16] at H
         have c16b0 : decide ((ji14) < (l1.length : Int)) = true := decide_eq_true c16
         clear c16
         obtain ⟨ji17, hji17⟩ : ∃ j_ : Int, (wrap64 (x10_1 + 2)) = j_ := ⟨_, rfl⟩
         replace H : (if 0 ≤ (ji17) then (if (ji17) < (l1.length : Int) then (if x197002_1.length < 5864062014805 then (trefoilref06_build.l0 k1 a0 l1 (wrap64 (x10_1 + 3)) (wrap64 (x11_1 + 1)) t192 t194 (x197002_1 ++ [(⟨rd l1 x10_1, rd l1 (ji14), rd l1 (ji17)⟩ : S47)])) else (none)) else (none)) else (none)) = some (r1, r2, r3, r4, r5, r6) := by first | (rw [hji17] at H; exact H) | (simp only [hji17] at H ⊢; exact H)
         have hji17w : (IntKind.i64.wrap (x10_1 + 2)) = ji17 := (i64_w _).trans hji17
         by_cases c18 : 0 ≤ (ji17)
         ·rw [if_pos c18] at H
          have c18b0 : decide (0 ≤ (ji17)) = true := decide_eq_true c18
          clear c18
          by_cases c19 : (ji17) < (l1.length : Int)
          ·rw [if_pos c19] at H
           have c19b0 : decide ((ji17) < (l1.length : Int)) = true := decide_eq_true c19
           clear c19
           by_cases c20 : x197002_1.length < 5864062014805
           ·rw [if_pos c20] at H
            have LMc20 := Z0 c20
            clear c20
            obtain ⟨y200, hy200⟩ : ∃ y_ : List (S47), y_ = (x197002_1 ++ [(⟨rd l1 x10_1, rd l1 (ji14), rd l1 (ji17)⟩ : S47)]) := ⟨_, rfl⟩
            replace H : (trefoilref06_build.l0 k1 a0 l1 (wrap64 (x10_1 + 3)) (wrap64 (x11_1 + 1)) t192 t194 y200) = some (r1, r2, r3, r4, r5, r6) := by first | (rw [hy200]; with_reducible exact H) | (have H2_ := (Option.bind_some _ _).symm.trans H; rw [hy200]; with_reducible exact H2_) | (have H2_ := (Option.bind_some _ _).symm.trans H; with_reducible exact H2_) | with_reducible exact H | (rw [hy200]; exact H) | exact H
            have Ny200 := Z0 hy200
            clear hy200
            have H' := Z0 H
            clear H
            have p10 : 0 ≤ (5 : Int) := (by omega)
            have q10 : 5 < a0.size := (by have : (5 : Int) < (a0.size : Int) := od; omega)
            have hx10 : ∀ h : 5 < a0.size, ((a0[5]'h).toNat : Int) = bt a0 5 := bt_at a0 5
            clear p10
            have qi10 : (5 < (a0.size : Int)) = True := eq_true (of_decide_eq_true (by first | (with_reducible assumption) | assumption))
            replace q10 := eq_true q10
            try go_wp2
            have n0_ := Z0 (Kd.V_drew HO_1.out)
            have n1_ := Z0 (rd_ HO_197002.out)
            have n2_ := Z0 (kd_ BK191.out)
            have n3_ := Z0 (kd_ BK196.out)
            have n4_ := Z0 (wd HB.out)
            clear HO_1
            clear HO_197002
            clear BK191
            clear BK196
            clear HB
            have HO_1 := n0_
            have HO_197002 := n1_
            have BK191 := n2_
            have BK196 := n3_
            have HB := n4_
            clear n0_ n1_ n2_ n3_ n4_
            have p197 : 0 ≤ (x10_1 : Int) := od
            have q197 : x10_1 < (l1.length : Int) := od
            obtain ⟨ad197, e197, hx197_0⟩ := Kd.at_int (Kd.V_reads' HO_1.out).2.2 x10_1 p197 q197
            cases e197
            replace p197 := eq_true p197
            replace q197 := eq_true q197
            have p198 : 0 ≤ ((ji14) : Int) := od
            have q198 : (ji14) < (l1.length : Int) := od
            obtain ⟨ad198, e198, hx198_0⟩ := Kd.at_int (Kd.V_reads' HO_1.out).2.2 (ji14) p198 q198
            obtain rfl : ad197 = ad198 := (by injection e198)
            replace p198 := eq_true p198
            replace q198 := eq_true q198
            have p199 : 0 ≤ ((ji17) : Int) := od
            have q199 : (ji17) < (l1.length : Int) := od
            obtain ⟨ad199, e199, hx199_0⟩ := Kd.at_int (Kd.V_reads' HO_1.out).2.2 (ji17) p199 q199
            obtain rfl : ad197 = ad199 := (by injection e199)
            replace p199 := eq_true p199
            replace q199 := eq_true q199
            refine start_ (n := 21) (S := fun w' => w'.cell? ⟨gb196, 0, none⟩ = some (.int .i64 t192) ∧ w'.cell? ⟨gb196, 1, none⟩ = some (.int .i64 t194) ∧ w'.cell? ⟨gb196, 2, none⟩ = some (u197002) ∧ w'.cell? ⟨gb196, 3, none⟩ = some (.slice none 0 0) ∧ w'.cell? ⟨gb196, 4, none⟩ = some (.slice none 0 0) ∧ w'.cell? ⟨gb196, 5, none⟩ = some (.slice none 0 0) ∧ w'.cell? (ad197.add (x10_1).toNat) = some (.int .i64 (rd l1 x10_1)) ∧ w'.cell? (ad197.add ((ji14)).toNat) = some (.int .i64 (rd l1 (ji14))) ∧ w'.cell? (ad197.add ((ji17)).toNat) = some (.int .i64 (rd l1 (ji17)))) (ds := [18, 20]) (bz 21 0) (by kernel_rfl) rfl rfl ⟨(kc BK196.out 0).trans rfl, (kc BK196.out 1).trans rfl, (kc BK196.out 2).trans rfl, (kc BK196.out 3).trans rfl, (kc BK196.out 4).trans rfl, (kc BK196.out 5).trans rfl, hx197_0, hx198_0, hx199_0⟩ (fun hHeld => ?_); refine with_tabW trefoilref06_build.tab7 trefoilref06_build.bits7 (fun HT_ HW_ => ?_)
            generalize wr.drew = w21 at HO_1 HO_197002 BK191 BK196 HB hx197_0 hx198_0 hx199_0 hHeld ⊢
            refine pu 0 (some 37) (bz 21 1) HT_ ?_
            refine pu 2 (some 39) (bz 21 5) HT_ ?_
            refine pu 3 (some 40) (bz 21 13) HT_ ?_
            refine pu 4 (some 41) (bz 21 29) HT_ ?_
            refine pu 6 (some 43) (bz 21 93) HT_ ?_
            refine pu 7 (some 44) (bz 21 221) HT_ ?_
            refine pu 8 (some 45) (bz 21 477) HT_ ?_
            refine pu 9 (some 46) (bz 21 989) HT_ ?_
            refine pu 11 (some 48) (bz 21 3037) HT_ ?_
            refine pu 12 (some 49) (bz 21 7133) HT_ ?_
            refine pu 13 (some 50) (bz 21 15325) HT_ ?_
            refine pu 14 (some 51) (bz 21 31709) HT_ ?_
            refine tk9 1 (some 38) (bz 21 31711) HT_ HW_ hHeld ?_
            refine tk9 5 (some 42) (bz 21 31743) HT_ HW_ hHeld ?_
            refine tk9 10 (some 47) (bz 21 32767) HT_ HW_ hHeld ?_
            refine tk9 15 (some 52) (bz 21 65535) HT_ HW_ hHeld ?_
            refine pu 16 (some 53) (bz 21 131071) HT_ ?_
            refine one_ (i := 17) (N := some 54) (bz 21 262143) rfl rfl (one_of HT_.out (by kernel_rfl)) (by decide) (fun K hK => ?_)
            refine value_ (w1 := ?_) (v := ?_) (by rfl) rfl ?_ ?_
            rotate_left 2
            ·go_simp
             constructor
             ·rfl
             ·rfl
            refine hK.out _ _ ⟨(kc (ka BK196.out _) 0).trans rfl, (kc (ka BK196.out _) 1).trans rfl, (kc (ka BK196.out _) 2).trans rfl, (kc (ka BK196.out _) 3).trans rfl, (kc (ka BK196.out _) 4).trans rfl, (kc (ka BK196.out _) 5).trans rfl, (World.cell?_alloc_lt _ _ _ (bl _ _ (hHeld.2.2.2.2.2.2.1))).trans (hHeld.2.2.2.2.2.2.1), (World.cell?_alloc_lt _ _ _ (bl _ _ (hHeld.2.2.2.2.2.2.2.1))).trans (hHeld.2.2.2.2.2.2.2.1), (World.cell?_alloc_lt _ _ _ (bl _ _ (hHeld.2.2.2.2.2.2.2.2))).trans (hHeld.2.2.2.2.2.2.2.2)⟩ (fun hHeld => ?_)
            clear hK K
            refine norm_ (a' := ?_) ?_ ?_
            rotate_left
            ·show Act.put _ (some 54) _ = _
             simp only [Act.put, y0, y1, y2, i64_w, i32_w]
             rfl
            refine last_ (i := 18) (N := some 55) (bz 21 524287) rfl rfl (one_of HT_.out (by kernel_rfl)) (by decide) (fun K hK => ?_)
            refine Kd.R_append_step k47 (w0 := w) w.heap.size (by rfl) (.tmp 38) (.tmp 54) 22 47 (.agg #[(.int .i64 0), (.int .i64 0), (.int .i64 0)]) 24 rfl Tryz.underlying22 info47 rfl (by decide) (by omega) u197002 x197002_1 (⟨rd l1 x10_1, rd l1 (ji14), rd l1 (ji17)⟩ : S47) [.int .i64 (rd l1 x10_1), .int .i64 (rd l1 (ji14)), .int .i64 (rd l1 (ji17))] (fun k_ => (w.heap.size ≤ k_)) (fun _ => False) rfl rfl ?aP (fun _ hk => hk.elim) ?aF ?aO ?aB ?aS ?aL ?_
            (case aP => exact k47_mkM _ _ _ (⟨rd l1 x10_1, rd l1 (ji14), rd l1 (ji17)⟩ : S47))
            (case aB => exact (zb HB))
            (case aF => exact (fun k_ hk => (Nat.le_trans (below_size (zb HB)) hk)))
            (case aO => exact (zr HO_197002))
            (case aS => exact (below_size (zb HB)))
            (case aL => have := LMc20.out; omega)
            intro v201 w22 ho hb hg hat
            rw [← Ny200.out] at ho
            have n0_ := Z0 (Kd.V_afterv (ok := (fun k_ => (P1_ k_ ∨ w.heap.size ≤ k_) ∧ k_ ≠ gb191 ∧ k_ ≠ gb196)) (by (with_reducible repeat (first | apply Kd.V_alloc | apply Kd.V_drewN | apply Kd.V_drew)); exact Kd.V_mono HO_1.out (fun _ hk => ⟨⟨hk.1, ⟨hk.2.2.1, hk.2.2.2⟩⟩, hk.2.1⟩)) hg hat)
            have n1_ := Z0 (blk_grown (g := gb191) (o := .cells #[.int .i64 0, .int .i64 0, .slice none 0 0, .slice none 0 0, .slice none 0 0, .slice none 0 0] 27 (0, 0)) (zk BK191) hg (Kd.R_ne HO_197002.out BK191.out (by decide)))
            have n2_ := Z0 (blk_grown (g := gb196) (o := .cells #[.int .i64 t192, .int .i64 t194, u197002, .slice none 0 0, .slice none 0 0, .slice none 0 0] 27 (0, 0)) (zk BK196) hg (Kd.R_ne HO_197002.out BK196.out (by decide)))
            have n3_ := Z0 (hb)
            have n4_ := Z0 (ho)
            clear HO_1
            clear BK191
            clear BK196
            clear HB
            clear HO_197002
            have HO_1 := n0_
            have BK191 := n1_
            have BK196 := n2_
            have HB := n3_
            have HO202 := n4_
            clear n0_ n1_ n2_ n3_ n4_
            clear ho hb hg hat
            obtain ⟨Ao23, co23, eo23⟩ := Kd.R_slice HO202.out
            (first | subst eo23 | (injection eo23 with f1_ f2_ f3_; have f4_ := f1_.symm; have f5_ := f3_.symm; clear f1_ f2_ f3_; subst f4_; subst f5_))
            refine hK.out _ _ ?_
            clear hK K
            refine norm_ (a' := ?_) ?_ ?_
            rotate_left
            ·show Act.put _ (some 55) _ = _
             simp only [Act.put, y0, y1, y2, i64_w, i32_w]
             rfl
            refine pu 19 (some 56) (bz 21 0xfffff) HT_ ?_
            refine last_ (i := 20) (N := none) (bz 21 0x1fffff) rfl rfl (one_of HT_.out (by kernel_rfl)) (by decide) (fun K hK => ?_)
            have hs24 : w22.cell? ⟨gb196, 2, none⟩ = some (u197002) := (kc BK196.out 2).trans rfl
            have hfs24 := blk_frozen BK196.out 2
            have hns24_0 := NB191_196.out
            have hms24_0 := NB196_191.out
            refine skip_ (w1 := ?_) (by rfl) rfl ?_ ?_; rotate_left; go_simp; rfl
            refine hK.out _ _ ?_
            clear hK K
            refine done_ (done_of HT_.out (by kernel_rfl)) ?_
            try go_wp2
            go_roundg k1
            case measure => have := HK1.out; omega
            case rel => exact ⟨(wrap64 (x10_1 + 3)), (wrap64 (x11_1 + 1)), (y200), (.slice Ao23 y200.length co23), zs, zs, H', ⟨by have := HK1.out; omega⟩, ⟨by (with_reducible repeat (first | apply Kd.V_alloc | apply Kd.V_drewN | apply Kd.V_drew)); exact Kd.V_mono (Kd.V_far (p := ⟨gb196, 2, none⟩) (Kd.V_mono HO_1.out (fun k_ hk => (⟨hk, hk.1.2.2⟩ : _ ∧ k_ ≠ gb196))) (fun _ hk => hk.2) (.slice Ao23 y200.length co23)) (fun _ hk => ⟨hk.1.1.1, ⟨hk.1.2, ⟨hk.1.1.2.1, hk.1.1.2.2⟩⟩⟩)⟩, ⟨by (with_reducible repeat (first | apply ra | apply rn | apply rd_)); exact rm (Kd.R_far (p := ⟨gb196, 2, none⟩) (Kd.R_types HO202.out BK196.out (by decide)) (fun _ hk => hk.2) (.slice Ao23 y200.length co23)) (fun _ hk => hk.1)⟩, ⟨by (with_reducible repeat (first | refine kn ?_ _ | refine kd_ ?_ | refine ka ?_ _)); refine blk_far ?_ NB191_196.out _; (with_reducible repeat (first | refine kn ?_ _ | refine kd_ ?_ | refine ka ?_ _)); exact BK191.out⟩, ⟨by (with_reducible repeat (first | refine kn ?_ _ | refine kd_ ?_ | refine ka ?_ _)); refine blk_put (cs := #[.int .i64 t192, .int .i64 t194, u197002, .slice none 0 0, .slice none 0 0, .slice none 0 0]) ?_ 2 _ rfl; (with_reducible repeat (first | refine kn ?_ _ | refine kd_ ?_ | refine ka ?_ _)); exact BK196.out⟩, ⟨zb HB⟩⟩
           ·rw [if_neg c20] at H
            exact absurd H (by simp)
          ·rw [if_neg c19] at H
           exact absurd H (by simp)
         ·rw [if_neg c18] at H
          exact absurd H (by simp)
        ·rw [if_neg c16] at H
         exact absurd H (by simp)
       ·rw [if_neg c15] at H
        exact absurd H (by simp)
      ·rw [if_neg c13] at H
       exact absurd H (by simp)
     ·rw [if_neg c12] at H
      exact absurd H (by simp)
    ·rw [if_neg c11] at H
     have c11b0 : decide (x11_1 < (wrap64 (bt a0 5))) = false := decide_eq_false c11
     clear c11
     have H' := Z0 H
     clear H
     have p10 : 0 ≤ (5 : Int) := (by omega)
     have q10 : 5 < a0.size := (by have : (5 : Int) < (a0.size : Int) := od; omega)
     have hx10 : ∀ h : 5 < a0.size, ((a0[5]'h).toNat : Int) = bt a0 5 := bt_at a0 5
     clear p10
     have qi10 : (5 < (a0.size : Int)) = True := eq_true (of_decide_eq_true (by first | (with_reducible assumption) | assumption))
     replace q10 := eq_true q10
     go_wp2
     go_loopg [10, 12] k1 (fun kq v10 v12 w' => ∃ (x10_2 : Int) (x12_2 : Int) (x197003_2 : List (S63)) (u197003 : Value), v10 = .int .i64 x10_2 ∧ v12 = .int .i64 x12_2 ∧ Aside0 (trefoilref06_build.l1 kq a0 l1 x10_2 x12_2 t192 t194 x197002_1 x197003_2 = some (r1, r2, r3, r4, r5, r6)) ∧ Aside0 (kq ≤ k1) ∧ Aside0 (Kd.V (Kd.int .i64) 3 w' w.heap.size (fun k_ => (P1_ k_ ∨ w.heap.size ≤ k_) ∧ some k_ ≠ (u197002 : Value).ownBlock ∧ some k_ ≠ (u197003 : Value).ownBlock ∧ k_ ≠ gb191 ∧ k_ ≠ gb196) (.slice A1 l1.length c1) l1) ∧ Aside0 (Kd.R k47 47 w' w.heap.size (fun k_ => (w.heap.size ≤ k_)) u197002 x197002_1) ∧ Aside0 (Kd.R k63 63 w' w.heap.size (fun k_ => (w.heap.size ≤ k_)) u197003 x197003_2) ∧ Aside0 (w'.heap[gb191]? = some (.cells #[.int .i64 0, .int .i64 0, (.slice none 0 0), (.slice none 0 0), (.slice none 0 0), (.slice none 0 0)] 27 (0, 0))) ∧ Aside0 (w'.heap[gb196]? = some (.cells #[.int .i64 t192, .int .i64 t194, u197002, u197003, (.slice none 0 0), (.slice none 0 0)] 27 (0, 0))) ∧ Aside0 (Below w.heap.size w w'))
     case atStart => exact ⟨(x10_1), (0), (([] : List (S63))), (.slice none 0 0), zs, zs, H', ⟨Nat.le_refl _⟩, ⟨by (with_reducible repeat (first | apply Kd.V_alloc | apply Kd.V_drewN | apply Kd.V_drew)); exact Kd.V_mono HO_1.out (fun _ hk => ⟨hk.1, ⟨hk.2.1, ⟨(by simp [Value.ownBlock]), ⟨hk.2.2.1, hk.2.2.2⟩⟩⟩⟩)⟩, ⟨by (with_reducible repeat (first | apply ra | apply rn | apply rd_)); exact HO_197002.out⟩, ⟨by first | exact Kd.R_nil _ _ _ _ _ | exact Kd.N_nil _ _ _ _ _ | exact Kd.V_nil _ _ _ _ _ | exact Kd.Q_nil _ _ _ _ _ | exact Kd.S_nil _ _ _ _ _⟩, ⟨zk BK191⟩, ⟨zk BK196⟩, ⟨zb HB⟩⟩
     case round =>
      clear H'
      try clear c1
      try clear p1
      try clear q1
      try clear hx1
      try clear qi1
      try clear c2
      try clear p2
      try clear c3
      try clear p6
      try clear c7
      try clear c9
      try clear c9b0
      try clear c9b1
      try clear p10
      try clear q10
      try clear hx10
      try clear qi10
      try clear c11
      try clear c11b0
      try clear c12
      try clear c12b0
      try clear c13
      try clear c13b0
      try clear c15
      try clear c15b0
      try clear c16
      try clear c16b0
      try clear c18
      try clear c18b0
      try clear c19
      try clear c19b0
      try clear p19
      try clear q19
      try clear hx19
      try clear c20
      try clear hcz8_0
      try clear hcz8_1
      try clear hcz8_2
      try clear hcz8_3
      try clear hcz8_4
      try clear hcz8_5
      try clear hfz8_0
      try clear hfz8_1
      try clear hfz8_2
      try clear hfz8_3
      try clear hfz8_4
      try clear hfz8_5
      try clear hx197_0
      try clear hx198_0
      try clear hx199_0
      try clear p10
      try clear p197
      try clear p198
      try clear p199
      try clear p2
      try clear q10
      try clear q197
      try clear q198
      try clear q199
      obtain ⟨x10_2, x12_2, x197003_2, u197003, rfl, rfl, HA, HK2, HO_1, HO_197002, HO_197003, BK191, BK196, HB⟩ := hrel
      cases gk with
      | zero => exact absurd HA.out (by simp [trefoilref06_build.l1])
      | succ k2 =>
       have H := HA.out
       clear HA
       simp only [trefoilref06_build.l1] at H
       by_cases c25 : 6 < (a0.size : Int)
       ·rw [if_pos c25] at H
        have c25b0 : decide (6 < (a0.size : Int)) = true := decide_eq_true c25
        have c25b1 : decide (6 < a0.size) = true := decide_eq_true (by omega)
        clear c25
        by_cases c27 : x12_2 < (wrap64 (bt a0 6))
        ·rw [if_pos c27] at H
         have c27b0 : decide (x12_2 < (wrap64 (bt a0 6))) = true := decide_eq_true c27
         clear c27
         by_cases c28 : 0 ≤ x10_2
         ·rw [if_pos c28] at H
          have c28b0 : decide (0 ≤ x10_2) = true := decide_eq_true c28
          clear c28
          by_cases c29 : x10_2 < (l1.length : Int)
          ·rw [if_pos c29] at H
           have c29b0 : decide (x10_2 < (l1.length : Int)) = true := decide_eq_true c29
           clear c29
           obtain ⟨ji30, hji30⟩ : ∃ j_ : Int, (wrap64 (x10_2 + 1)) = j_ := ⟨_, rfl⟩
           replace H : (if 0 ≤ (ji30) then (if (ji30) < (l1.length : Int) then (if x197003_2.length < 8796093022208 then (trefoilref06_build.l1 k2 a0 l1 (wrap64 (x10_2 + 2)) (wrap64 (x12_2 + 1)) t192 t194 x197002_1 (x197003_2 ++ [(⟨rd l1 x10_2, rd l1 (ji30)⟩ : S63)])) else (none)) else (none)) else (none)) = some (r1, r2, r3, r4, r5, r6) := by first | (rw [hji30] at H; exact H) | (simp only [hji30] at H ⊢; exact H)
           have hji30w : (IntKind.i64.wrap (x10_2 + 1)) = ji30 := (i64_w _).trans hji30
           by_cases c31 : 0 ≤ (ji30)
           ·rw [if_pos c31] at H
            have c31b0 : decide (0 ≤ (ji30)) = true := decide_eq_true c31
            clear c31
            by_cases c32 : (ji30) < (l1.length : Int)
            ·rw [if_pos c32] at H
             have c32b0 : decide ((ji30) < (l1.length : Int)) = true := decide_eq_true c32
             clear c32
             by_cases c33 : x197003_2.length < 8796093022208
             ·rw [if_pos c33] at H
              have LMc33 := Z0 c33
              clear c33
              obtain ⟨y205, hy205⟩ : ∃ y_ : List (S63), y_ = (x197003_2 ++ [(⟨rd l1 x10_2, rd l1 (ji30)⟩ : S63)]) := ⟨_, rfl⟩
              replace H : (trefoilref06_build.l1 k2 a0 l1 (wrap64 (x10_2 + 2)) (wrap64 (x12_2 + 1)) t192 t194 x197002_1 y205) = some (r1, r2, r3, r4, r5, r6) := by first | (rw [hy205]; with_reducible exact H) | (have H2_ := (Option.bind_some _ _).symm.trans H; rw [hy205]; with_reducible exact H2_) | (have H2_ := (Option.bind_some _ _).symm.trans H; with_reducible exact H2_) | with_reducible exact H | (rw [hy205]; exact H) | exact H
              have Ny205 := Z0 hy205
              clear hy205
              have H' := Z0 H
              clear H
              have p26 : 0 ≤ (6 : Int) := (by omega)
              have q26 : 6 < a0.size := (by have : (6 : Int) < (a0.size : Int) := od; omega)
              have hx26 : ∀ h : 6 < a0.size, ((a0[6]'h).toNat : Int) = bt a0 6 := bt_at a0 6
              clear p26
              have qi26 : (6 < (a0.size : Int)) = True := eq_true (of_decide_eq_true (by first | (with_reducible assumption) | assumption))
              replace q26 := eq_true q26
              try go_wp2
              have n0_ := Z0 (Kd.V_drew HO_1.out)
              have n1_ := Z0 (rd_ HO_197002.out)
              have n2_ := Z0 (rd_ HO_197003.out)
              have n3_ := Z0 (kd_ BK191.out)
              have n4_ := Z0 (kd_ BK196.out)
              have n5_ := Z0 (wd HB.out)
              clear HO_1
              clear HO_197002
              clear HO_197003
              clear BK191
              clear BK196
              clear HB
              have HO_1 := n0_
              have HO_197002 := n1_
              have HO_197003 := n2_
              have BK191 := n3_
              have BK196 := n4_
              have HB := n5_
              clear n0_ n1_ n2_ n3_ n4_ n5_
              have p203 : 0 ≤ (x10_2 : Int) := od
              have q203 : x10_2 < (l1.length : Int) := od
              obtain ⟨ad203, e203, hx203_0⟩ := Kd.at_int (Kd.V_reads' HO_1.out).2.2 x10_2 p203 q203
              cases e203
              replace p203 := eq_true p203
              replace q203 := eq_true q203
              have p204 : 0 ≤ ((ji30) : Int) := od
              have q204 : (ji30) < (l1.length : Int) := od
              obtain ⟨ad204, e204, hx204_0⟩ := Kd.at_int (Kd.V_reads' HO_1.out).2.2 (ji30) p204 q204
              obtain rfl : ad203 = ad204 := (by injection e204)
              replace p204 := eq_true p204
              replace q204 := eq_true q204
              refine start_ (n := 16) (S := fun w' => w'.cell? ⟨gb196, 0, none⟩ = some (.int .i64 t192) ∧ w'.cell? ⟨gb196, 1, none⟩ = some (.int .i64 t194) ∧ w'.cell? ⟨gb196, 2, none⟩ = some (u197002) ∧ w'.cell? ⟨gb196, 3, none⟩ = some (u197003) ∧ w'.cell? ⟨gb196, 4, none⟩ = some (.slice none 0 0) ∧ w'.cell? ⟨gb196, 5, none⟩ = some (.slice none 0 0) ∧ w'.cell? (ad203.add (x10_2).toNat) = some (.int .i64 (rd l1 x10_2)) ∧ w'.cell? (ad203.add ((ji30)).toNat) = some (.int .i64 (rd l1 (ji30)))) (ds := [13, 15]) (bz 16 0) (by kernel_rfl) rfl rfl ⟨(kc BK196.out 0).trans rfl, (kc BK196.out 1).trans rfl, (kc BK196.out 2).trans rfl, (kc BK196.out 3).trans rfl, (kc BK196.out 4).trans rfl, (kc BK196.out 5).trans rfl, hx203_0, hx204_0⟩ (fun hHeld => ?_); refine with_tabW trefoilref06_build.tab12 trefoilref06_build.bits12 (fun HT_ HW_ => ?_)
              generalize wr.drew = w34 at HO_1 HO_197002 HO_197003 BK191 BK196 HB hx203_0 hx204_0 hHeld ⊢
              refine pu 0 (some 66) (bz 16 1) HT_ ?_
              refine pu 2 (some 68) (bz 16 5) HT_ ?_
              refine pu 3 (some 69) (bz 16 13) HT_ ?_
              refine pu 4 (some 70) (bz 16 29) HT_ ?_
              refine pu 6 (some 72) (bz 16 93) HT_ ?_
              refine pu 7 (some 73) (bz 16 221) HT_ ?_
              refine pu 8 (some 74) (bz 16 477) HT_ ?_
              refine pu 9 (some 75) (bz 16 989) HT_ ?_
              refine tk8 1 (some 67) (bz 16 991) HT_ HW_ hHeld ?_
              refine tk8 5 (some 71) (bz 16 1023) HT_ HW_ hHeld ?_
              refine tk8 10 (some 76) (bz 16 2047) HT_ HW_ hHeld ?_
              refine pu 11 (some 77) (bz 16 4095) HT_ ?_
              refine one_ (i := 12) (N := some 78) (bz 16 8191) rfl rfl (one_of HT_.out (by kernel_rfl)) (by decide) (fun K hK => ?_)
              refine value_ (w1 := ?_) (v := ?_) (by rfl) rfl ?_ ?_
              rotate_left 2
              ·go_simp
               constructor
               ·rfl
               ·rfl
              refine hK.out _ _ ⟨(kc (ka BK196.out _) 0).trans rfl, (kc (ka BK196.out _) 1).trans rfl, (kc (ka BK196.out _) 2).trans rfl, (kc (ka BK196.out _) 3).trans rfl, (kc (ka BK196.out _) 4).trans rfl, (kc (ka BK196.out _) 5).trans rfl, (World.cell?_alloc_lt _ _ _ (bl _ _ (hHeld.2.2.2.2.2.2.1))).trans (hHeld.2.2.2.2.2.2.1), (World.cell?_alloc_lt _ _ _ (bl _ _ (hHeld.2.2.2.2.2.2.2))).trans (hHeld.2.2.2.2.2.2.2)⟩ (fun hHeld => ?_)
              clear hK K
              refine norm_ (a' := ?_) ?_ ?_
              rotate_left
              ·show Act.put _ (some 78) _ = _
               simp only [Act.put, y0, y1, y2, i64_w, i32_w]
               rfl
              refine last_ (i := 13) (N := some 79) (bz 16 16383) rfl rfl (one_of HT_.out (by kernel_rfl)) (by decide) (fun K hK => ?_)
              refine Kd.R_append_step k63 (w0 := w) w.heap.size (by rfl) (.tmp 67) (.tmp 78) 23 63 (.agg #[(.int .i64 0), (.int .i64 0)]) 16 rfl Tryz.underlying23 info63 rfl (by decide) (by omega) u197003 x197003_2 (⟨rd l1 x10_2, rd l1 (ji30)⟩ : S63) [.int .i64 (rd l1 x10_2), .int .i64 (rd l1 (ji30))] (fun k_ => (w.heap.size ≤ k_)) (fun _ => False) rfl rfl ?aP (fun _ hk => hk.elim) ?aF ?aO ?aB ?aS ?aL ?_
              (case aP => exact k63_mkM _ _ _ (⟨rd l1 x10_2, rd l1 (ji30)⟩ : S63))
              (case aB => exact (zb HB))
              (case aF => exact (fun k_ hk => (Nat.le_trans (below_size (zb HB)) hk)))
              (case aO => exact (zr HO_197003))
              (case aS => exact (below_size (zb HB)))
              (case aL => have := LMc33.out; omega)
              intro v206 w35 ho hb hg hat
              rw [← Ny205.out] at ho
              have n0_ := Z0 (Kd.V_afterv (ok := (fun k_ => (P1_ k_ ∨ w.heap.size ≤ k_) ∧ some k_ ≠ (u197002 : Value).ownBlock ∧ k_ ≠ gb191 ∧ k_ ≠ gb196)) (by (with_reducible repeat (first | apply Kd.V_alloc | apply Kd.V_drewN | apply Kd.V_drew)); exact Kd.V_mono HO_1.out (fun _ hk => ⟨⟨hk.1, ⟨hk.2.1, ⟨hk.2.2.2.1, hk.2.2.2.2⟩⟩⟩, hk.2.2.1⟩)) hg hat)
              have n1_ := Z0 (Kd.R_over' (zr HO_197002) (Kd.R_typed (zr HO_197003)) (by decide) hg)
              have n2_ := Z0 (blk_grown (g := gb191) (o := .cells #[.int .i64 0, .int .i64 0, .slice none 0 0, .slice none 0 0, .slice none 0 0, .slice none 0 0] 27 (0, 0)) (zk BK191) hg (Kd.R_ne HO_197003.out BK191.out (by decide)))
              have n3_ := Z0 (blk_grown (g := gb196) (o := .cells #[.int .i64 t192, .int .i64 t194, u197002, u197003, .slice none 0 0, .slice none 0 0] 27 (0, 0)) (zk BK196) hg (Kd.R_ne HO_197003.out BK196.out (by decide)))
              have n4_ := Z0 (hb)
              have n5_ := Z0 (ho)
              clear HO_1
              clear HO_197002
              clear BK191
              clear BK196
              clear HB
              clear HO_197003
              have HO_1 := n0_
              have HO_197002 := n1_
              have BK191 := n2_
              have BK196 := n3_
              have HB := n4_
              have HO207 := n5_
              clear n0_ n1_ n2_ n3_ n4_ n5_
              clear ho hb hg hat
              obtain ⟨Ao36, co36, eo36⟩ := Kd.R_slice HO207.out
              (first | subst eo36 | (injection eo36 with f1_ f2_ f3_; have f4_ := f1_.symm; have f5_ := f3_.symm; clear f1_ f2_ f3_; subst f4_; subst f5_))
              refine hK.out _ _ ?_
              clear hK K
              refine norm_ (a' := ?_) ?_ ?_
              rotate_left
              ·show Act.put _ (some 79) _ = _
               simp only [Act.put, y0, y1, y2, i64_w, i32_w]
               rfl
              refine pu 14 (some 80) (bz 16 32767) HT_ ?_
              refine last_ (i := 15) (N := none) (bz 16 65535) rfl rfl (one_of HT_.out (by kernel_rfl)) (by decide) (fun K hK => ?_)
              have hs37 : w35.cell? ⟨gb196, 3, none⟩ = some (u197003) := (kc BK196.out 3).trans rfl
              have hfs37 := blk_frozen BK196.out 3
              have hns37_0 := NB191_196.out
              have hms37_0 := NB196_191.out
              refine skip_ (w1 := ?_) (by rfl) rfl ?_ ?_; rotate_left; go_simp; rfl
              refine hK.out _ _ ?_
              clear hK K
              refine done_ (done_of HT_.out (by kernel_rfl)) ?_
              try go_wp2
              go_roundg k2
              case measure => have := HK1.out; have := HK2.out; omega
              case rel => exact ⟨(wrap64 (x10_2 + 2)), (wrap64 (x12_2 + 1)), (y205), (.slice Ao36 y205.length co36), zs, zs, H', ⟨by have := HK1.out; have := HK2.out; omega⟩, ⟨by (with_reducible repeat (first | apply Kd.V_alloc | apply Kd.V_drewN | apply Kd.V_drew)); exact Kd.V_mono (Kd.V_far (p := ⟨gb196, 3, none⟩) (Kd.V_mono HO_1.out (fun k_ hk => (⟨hk, hk.1.2.2.2⟩ : _ ∧ k_ ≠ gb196))) (fun _ hk => hk.2) (.slice Ao36 y205.length co36)) (fun _ hk => ⟨hk.1.1.1, ⟨hk.1.1.2.1, ⟨hk.1.2, ⟨hk.1.1.2.2.1, hk.1.1.2.2.2⟩⟩⟩⟩)⟩, ⟨by (with_reducible repeat (first | apply ra | apply rn | apply rd_)); exact rm (Kd.R_far (p := ⟨gb196, 3, none⟩) (Kd.R_types HO_197002.out BK196.out (by decide)) (fun _ hk => hk.2) (.slice Ao36 y205.length co36)) (fun _ hk => hk.1)⟩, ⟨by (with_reducible repeat (first | apply ra | apply rn | apply rd_)); exact rm (Kd.R_far (p := ⟨gb196, 3, none⟩) (Kd.R_types HO207.out BK196.out (by decide)) (fun _ hk => hk.2) (.slice Ao36 y205.length co36)) (fun _ hk => hk.1)⟩, ⟨by (with_reducible repeat (first | refine kn ?_ _ | refine kd_ ?_ | refine ka ?_ _)); refine blk_far ?_ NB191_196.out _; (with_reducible repeat (first | refine kn ?_ _ | refine kd_ ?_ | refine ka ?_ _)); exact BK191.out⟩, ⟨by (with_reducible repeat (first | refine kn ?_ _ | refine kd_ ?_ | refine ka ?_ _)); refine blk_put (cs := #[.int .i64 t192, .int .i64 t194, u197002, u197003, .slice none 0 0, .slice none 0 0]) ?_ 3 _ rfl; (with_reducible repeat (first | refine kn ?_ _ | refine kd_ ?_ | refine ka ?_ _)); exact BK196.out⟩, ⟨zb HB⟩⟩
             ·rw [if_neg c33] at H
              exact absurd H (by simp)
            ·rw [if_neg c32] at H
             exact absurd H (by simp)
           ·rw [if_neg c31] at H
            exact absurd H (by simp)
          ·rw [if_neg c29] at H
           exact absurd H (by simp)
         ·rw [if_neg c28] at H
          exact absurd H (by simp)
        ·rw [if_neg c27] at H
         have c27b0 : decide (x12_2 < (wrap64 (bt a0 6))) = false := decide_eq_false c27
         clear c27
         have H' := Z0 H
         clear H
         have p26 : 0 ≤ (6 : Int) := (by omega)
         have q26 : 6 < a0.size := (by have : (6 : Int) < (a0.size : Int) := od; omega)
         have hx26 : ∀ h : 6 < a0.size, ((a0[6]'h).toNat : Int) = bt a0 6 := bt_at a0 6
         clear p26
         have qi26 : (6 < (a0.size : Int)) = True := eq_true (of_decide_eq_true (by first | (with_reducible assumption) | assumption))
         replace q26 := eq_true q26
         go_wp2
         go_loopg [10, 13] k2 (fun kq v10 v13 w' => ∃ (x10_3 : Int) (x13_3 : Int) (x197004_3 : List (S65)) (u197004 : Value), v10 = .int .i64 x10_3 ∧ v13 = .int .i64 x13_3 ∧ Aside0 (trefoilref06_build.l2 kq a0 l1 x10_3 x13_3 t192 t194 x197002_1 x197003_2 x197004_3 = some (r1, r2, r3, r4, r5, r6)) ∧ Aside0 (kq ≤ k2) ∧ Aside0 (Kd.V (Kd.int .i64) 3 w' w.heap.size (fun k_ => (P1_ k_ ∨ w.heap.size ≤ k_) ∧ some k_ ≠ (u197002 : Value).ownBlock ∧ some k_ ≠ (u197003 : Value).ownBlock ∧ some k_ ≠ (u197004 : Value).ownBlock ∧ k_ ≠ gb191 ∧ k_ ≠ gb196) (.slice A1 l1.length c1) l1) ∧ Aside0 (Kd.R k47 47 w' w.heap.size (fun k_ => (w.heap.size ≤ k_)) u197002 x197002_1) ∧ Aside0 (Kd.R k63 63 w' w.heap.size (fun k_ => (w.heap.size ≤ k_)) u197003 x197003_2) ∧ Aside0 (Kd.R k65 65 w' w.heap.size (fun k_ => (w.heap.size ≤ k_)) u197004 x197004_3) ∧ Aside0 (w'.heap[gb191]? = some (.cells #[.int .i64 0, .int .i64 0, (.slice none 0 0), (.slice none 0 0), (.slice none 0 0), (.slice none 0 0)] 27 (0, 0))) ∧ Aside0 (w'.heap[gb196]? = some (.cells #[.int .i64 t192, .int .i64 t194, u197002, u197003, u197004, (.slice none 0 0)] 27 (0, 0))) ∧ Aside0 (Below w.heap.size w w'))
         case atStart => exact ⟨(x10_2), (0), (([] : List (S65))), (.slice none 0 0), zs, zs, H', ⟨Nat.le_refl _⟩, ⟨by (with_reducible repeat (first | apply Kd.V_alloc | apply Kd.V_drewN | apply Kd.V_drew)); exact Kd.V_mono HO_1.out (fun _ hk => ⟨hk.1, ⟨hk.2.1, ⟨hk.2.2.1, ⟨(by simp [Value.ownBlock]), ⟨hk.2.2.2.1, hk.2.2.2.2⟩⟩⟩⟩⟩)⟩, ⟨by (with_reducible repeat (first | apply ra | apply rn | apply rd_)); exact HO_197002.out⟩, ⟨by (with_reducible repeat (first | apply ra | apply rn | apply rd_)); exact HO_197003.out⟩, ⟨by first | exact Kd.R_nil _ _ _ _ _ | exact Kd.N_nil _ _ _ _ _ | exact Kd.V_nil _ _ _ _ _ | exact Kd.Q_nil _ _ _ _ _ | exact Kd.S_nil _ _ _ _ _⟩, ⟨zk BK191⟩, ⟨zk BK196⟩, ⟨zb HB⟩⟩
         case round =>
          clear H'
          try clear c1
          try clear p1
          try clear q1
          try clear hx1
          try clear qi1
          try clear c2
          try clear p2
          try clear q2
          try clear hx2
          try clear qi2
          try clear c3
          try clear p6
          try clear c7
          try clear c9
          try clear c9b0
          try clear c9b1
          try clear p10
          try clear q10
          try clear hx10
          try clear qi10
          try clear c11
          try clear c11b0
          try clear c12
          try clear c12b0
          try clear c13
          try clear c13b0
          try clear c15
          try clear c15b0
          try clear c16
          try clear c16b0
          try clear c18
          try clear c18b0
          try clear c19
          try clear c19b0
          try clear p19
          try clear q19
          try clear hx19
          try clear c20
          try clear p20
          try clear q20
          try clear hx20
          try clear c25
          try clear c25b0
          try clear c25b1
          try clear p26
          try clear q26
          try clear hx26
          try clear qi26
          try clear c27
          try clear c27b0
          try clear c28
          try clear c28b0
          try clear c29
          try clear c29b0
          try clear c31
          try clear c31b0
          try clear c32
          try clear c32b0
          try clear c33
          try clear hcz8_0
          try clear hcz8_1
          try clear hcz8_2
          try clear hcz8_3
          try clear hcz8_4
          try clear hcz8_5
          try clear hfz8_0
          try clear hfz8_1
          try clear hfz8_2
          try clear hfz8_3
          try clear hfz8_4
          try clear hfz8_5
          try clear hx197_0
          try clear hx198_0
          try clear hx199_0
          try clear hx203_0
          try clear hx204_0
          try clear p1
          try clear p10
          try clear p19
          try clear p197
          try clear p198
          try clear p199
          try clear p2
          try clear p203
          try clear p204
          try clear p26
          try clear p6
          try clear q1
          try clear q10
          try clear q19
          try clear q197
          try clear q198
          try clear q199
          try clear q203
          try clear q204
          try clear q26
          obtain ⟨x10_3, x13_3, x197004_3, u197004, rfl, rfl, HA, HK3, HO_1, HO_197002, HO_197003, HO_197004, BK191, BK196, HB⟩ := hrel
          cases gk with
          | zero => exact absurd HA.out (by simp [trefoilref06_build.l2])
          | succ k3 =>
           have H := HA.out
           clear HA
           simp only [trefoilref06_build.l2] at H
           by_cases c38 : 7 < (a0.size : Int)
           ·rw [if_pos c38] at H
            have c38b0 : decide (7 < (a0.size : Int)) = true := decide_eq_true c38
            have c38b1 : decide (7 < a0.size) = true := decide_eq_true (by omega)
            clear c38
            by_cases c40 : x13_3 < (wrap64 (bt a0 7))
            ·rw [if_pos c40] at H
             have c40b0 : decide (x13_3 < (wrap64 (bt a0 7))) = true := decide_eq_true c40
             clear c40
             by_cases c41 : 0 ≤ x10_3
             ·rw [if_pos c41] at H
              have c41b0 : decide (0 ≤ x10_3) = true := decide_eq_true c41
              clear c41
              by_cases c42 : x10_3 < (l1.length : Int)
              ·rw [if_pos c42] at H
               have c42b0 : decide (x10_3 < (l1.length : Int)) = true := decide_eq_true c42
               clear c42
               obtain ⟨ji43, hji43⟩ : ∃ j_ : Int, (wrap64 (x10_3 + 1)) = j_ := ⟨_, rfl⟩
               replace H : (if 0 ≤ (ji43) then (if (ji43) < (l1.length : Int) then (if 0 ≤ (wrap64 (x10_3 + 2)) then (if (wrap64 (x10_3 + 2)) < (l1.length : Int) then (if x197004_3.length < 5864062014805 then (trefoilref06_build.l2 k3 a0 l1 (wrap64 (x10_3 + 3)) (wrap64 (x13_3 + 1)) t192 t194 x197002_1 x197003_2 (x197004_3 ++ [(⟨rd l1 x10_3, rd l1 (ji43), rd l1 (wrap64 (x10_3 + 2))⟩ : S65)])) else (none)) else (none)) else (none)) else (none)) else (none)) = some (r1, r2, r3, r4, r5, r6) := by first | (rw [hji43] at H; exact H) | (simp only [hji43] at H ⊢; exact H)
               have hji43w : (IntKind.i64.wrap (x10_3 + 1)) = ji43 := (i64_w _).trans hji43
               by_cases c44 : 0 ≤ (ji43)
               ·rw [if_pos c44] at H
                have c44b0 : decide (0 ≤ (ji43)) = true := decide_eq_true c44
                clear c44
                by_cases c45 : (ji43) < (l1.length : Int)
                ·rw [if_pos c45] at H
                 have c45b0 : decide ((ji43) < (l1.length : Int)) = true := decide_eq_true c45
                 clear c45
                 obtain ⟨ji46, hji46⟩ : ∃ j_ : Int, (wrap64 (x10_3 + 2)) = j_ := ⟨_, rfl⟩
                 replace H : (if 0 ≤ (ji46) then (if (ji46) < (l1.length : Int) then (if x197004_3.length < 5864062014805 then (trefoilref06_build.l2 k3 a0 l1 (wrap64 (x10_3 + 3)) (wrap64 (x13_3 + 1)) t192 t194 x197002_1 x197003_2 (x197004_3 ++ [(⟨rd l1 x10_3, rd l1 (ji43), rd l1 (ji46)⟩ : S65)])) else (none)) else (none)) else (none)) = some (r1, r2, r3, r4, r5, r6) := by first | (rw [hji46] at H; exact H) | (simp only [hji46] at H ⊢; exact H)
                 have hji46w : (IntKind.i64.wrap (x10_3 + 2)) = ji46 := (i64_w _).trans hji46
                 by_cases c47 : 0 ≤ (ji46)
                 ·rw [if_pos c47] at H
                  have c47b0 : decide (0 ≤ (ji46)) = true := decide_eq_true c47
                  clear c47
                  by_cases c48 : (ji46) < (l1.length : Int)
                  ·rw [if_pos c48] at H
                   have c48b0 : decide ((ji46) < (l1.length : Int)) = true := decide_eq_true c48
                   clear c48
                   by_cases c49 : x197004_3.length < 5864062014805
                   ·rw [if_pos c49] at H
                    have LMc49 := Z0 c49
                    clear c49
                    obtain ⟨y211, hy211⟩ : ∃ y_ : List (S65), y_ = (x197004_3 ++ [(⟨rd l1 x10_3, rd l1 (ji43), rd l1 (ji46)⟩ : S65)]) := ⟨_, rfl⟩
                    replace H : (trefoilref06_build.l2 k3 a0 l1 (wrap64 (x10_3 + 3)) (wrap64 (x13_3 + 1)) t192 t194 x197002_1 x197003_2 y211) = some (r1, r2, r3, r4, r5, r6) := by first | (rw [hy211]; with_reducible exact H) | (have H2_ := (Option.bind_some _ _).symm.trans H; rw [hy211]; with_reducible exact H2_) | (have H2_ := (Option.bind_some _ _).symm.trans H; with_reducible exact H2_) | with_reducible exact H | (rw [hy211]; exact H) | exact H
                    have Ny211 := Z0 hy211
                    clear hy211
                    have H' := Z0 H
                    clear H
                    have p39 : 0 ≤ (7 : Int) := (by omega)
                    have q39 : 7 < a0.size := (by have : (7 : Int) < (a0.size : Int) := od; omega)
                    have hx39 : ∀ h : 7 < a0.size, ((a0[7]'h).toNat : Int) = bt a0 7 := bt_at a0 7
                    clear p39
                    have qi39 : (7 < (a0.size : Int)) = True := eq_true (of_decide_eq_true (by first | (with_reducible assumption) | assumption))
                    replace q39 := eq_true q39
                    try go_wp2
                    have n0_ := Z0 (Kd.V_drew HO_1.out)
                    have n1_ := Z0 (rd_ HO_197002.out)
                    have n2_ := Z0 (rd_ HO_197003.out)
                    have n3_ := Z0 (rd_ HO_197004.out)
                    have n4_ := Z0 (kd_ BK191.out)
                    have n5_ := Z0 (kd_ BK196.out)
                    have n6_ := Z0 (wd HB.out)
                    clear HO_1
                    clear HO_197002
                    clear HO_197003
                    clear HO_197004
                    clear BK191
                    clear BK196
                    clear HB
                    have HO_1 := n0_
                    have HO_197002 := n1_
                    have HO_197003 := n2_
                    have HO_197004 := n3_
                    have BK191 := n4_
                    have BK196 := n5_
                    have HB := n6_
                    clear n0_ n1_ n2_ n3_ n4_ n5_ n6_
                    have p208 : 0 ≤ (x10_3 : Int) := od
                    have q208 : x10_3 < (l1.length : Int) := od
                    obtain ⟨ad208, e208, hx208_0⟩ := Kd.at_int (Kd.V_reads' HO_1.out).2.2 x10_3 p208 q208
                    cases e208
                    replace p208 := eq_true p208
                    replace q208 := eq_true q208
                    have p209 : 0 ≤ ((ji43) : Int) := od
                    have q209 : (ji43) < (l1.length : Int) := od
                    obtain ⟨ad209, e209, hx209_0⟩ := Kd.at_int (Kd.V_reads' HO_1.out).2.2 (ji43) p209 q209
                    obtain rfl : ad208 = ad209 := (by injection e209)
                    replace p209 := eq_true p209
                    replace q209 := eq_true q209
                    have p210 : 0 ≤ ((ji46) : Int) := od
                    have q210 : (ji46) < (l1.length : Int) := od
                    obtain ⟨ad210, e210, hx210_0⟩ := Kd.at_int (Kd.V_reads' HO_1.out).2.2 (ji46) p210 q210
                    obtain rfl : ad208 = ad210 := (by injection e210)
                    replace p210 := eq_true p210
                    replace q210 := eq_true q210
                    refine start_ (n := 21) (S := fun w' => w'.cell? ⟨gb196, 0, none⟩ = some (.int .i64 t192) ∧ w'.cell? ⟨gb196, 1, none⟩ = some (.int .i64 t194) ∧ w'.cell? ⟨gb196, 2, none⟩ = some (u197002) ∧ w'.cell? ⟨gb196, 3, none⟩ = some (u197003) ∧ w'.cell? ⟨gb196, 4, none⟩ = some (u197004) ∧ w'.cell? ⟨gb196, 5, none⟩ = some (.slice none 0 0) ∧ w'.cell? (ad208.add (x10_3).toNat) = some (.int .i64 (rd l1 x10_3)) ∧ w'.cell? (ad208.add ((ji43)).toNat) = some (.int .i64 (rd l1 (ji43))) ∧ w'.cell? (ad208.add ((ji46)).toNat) = some (.int .i64 (rd l1 (ji46)))) (ds := [18, 20]) (bz 21 0) (by kernel_rfl) rfl rfl ⟨(kc BK196.out 0).trans rfl, (kc BK196.out 1).trans rfl, (kc BK196.out 2).trans rfl, (kc BK196.out 3).trans rfl, (kc BK196.out 4).trans rfl, (kc BK196.out 5).trans rfl, hx208_0, hx209_0, hx210_0⟩ (fun hHeld => ?_); refine with_tabW trefoilref06_build.tab17 trefoilref06_build.bits17 (fun HT_ HW_ => ?_)
                    generalize wr.drew = w50 at HO_1 HO_197002 HO_197003 HO_197004 BK191 BK196 HB hx208_0 hx209_0 hx210_0 hHeld ⊢
                    refine pu 0 (some 90) (bz 21 1) HT_ ?_
                    refine pu 2 (some 92) (bz 21 5) HT_ ?_
                    refine pu 3 (some 93) (bz 21 13) HT_ ?_
                    refine pu 4 (some 94) (bz 21 29) HT_ ?_
                    refine pu 6 (some 96) (bz 21 93) HT_ ?_
                    refine pu 7 (some 97) (bz 21 221) HT_ ?_
                    refine pu 8 (some 98) (bz 21 477) HT_ ?_
                    refine pu 9 (some 99) (bz 21 989) HT_ ?_
                    refine pu 11 (some 101) (bz 21 3037) HT_ ?_
                    refine pu 12 (some 102) (bz 21 7133) HT_ ?_
                    refine pu 13 (some 103) (bz 21 15325) HT_ ?_
                    refine pu 14 (some 104) (bz 21 31709) HT_ ?_
                    refine tk9 1 (some 91) (bz 21 31711) HT_ HW_ hHeld ?_
                    refine tk9 5 (some 95) (bz 21 31743) HT_ HW_ hHeld ?_
                    refine tk9 10 (some 100) (bz 21 32767) HT_ HW_ hHeld ?_
                    refine tk9 15 (some 105) (bz 21 65535) HT_ HW_ hHeld ?_
                    refine pu 16 (some 106) (bz 21 131071) HT_ ?_
                    refine one_ (i := 17) (N := some 107) (bz 21 262143) rfl rfl (one_of HT_.out (by kernel_rfl)) (by decide) (fun K hK => ?_)
                    refine value_ (w1 := ?_) (v := ?_) (by rfl) rfl ?_ ?_
                    rotate_left 2
                    ·go_simp
                     constructor
                     ·rfl
                     ·rfl
                    refine hK.out _ _ ⟨(kc (ka BK196.out _) 0).trans rfl, (kc (ka BK196.out _) 1).trans rfl, (kc (ka BK196.out _) 2).trans rfl, (kc (ka BK196.out _) 3).trans rfl, (kc (ka BK196.out _) 4).trans rfl, (kc (ka BK196.out _) 5).trans rfl, (World.cell?_alloc_lt _ _ _ (bl _ _ (hHeld.2.2.2.2.2.2.1))).trans (hHeld.2.2.2.2.2.2.1), (World.cell?_alloc_lt _ _ _ (bl _ _ (hHeld.2.2.2.2.2.2.2.1))).trans (hHeld.2.2.2.2.2.2.2.1), (World.cell?_alloc_lt _ _ _ (bl _ _ (hHeld.2.2.2.2.2.2.2.2))).trans (hHeld.2.2.2.2.2.2.2.2)⟩ (fun hHeld => ?_)
                    clear hK K
                    refine norm_ (a' := ?_) ?_ ?_
                    rotate_left
                    ·show Act.put _ (some 107) _ = _
                     simp only [Act.put, y0, y1, y2, i64_w, i32_w]
                     rfl
                    refine last_ (i := 18) (N := some 108) (bz 21 524287) rfl rfl (one_of HT_.out (by kernel_rfl)) (by decide) (fun K hK => ?_)
                    refine Kd.R_append_step k65 (w0 := w) w.heap.size (by rfl) (.tmp 91) (.tmp 107) 24 65 (.agg #[(.int .i64 0), (.int .i64 0), (.int .i64 0)]) 24 rfl Tryz.underlying24 info65 rfl (by decide) (by omega) u197004 x197004_3 (⟨rd l1 x10_3, rd l1 (ji43), rd l1 (ji46)⟩ : S65) [.int .i64 (rd l1 x10_3), .int .i64 (rd l1 (ji43)), .int .i64 (rd l1 (ji46))] (fun k_ => (w.heap.size ≤ k_)) (fun _ => False) rfl rfl ?aP (fun _ hk => hk.elim) ?aF ?aO ?aB ?aS ?aL ?_
                    (case aP => exact k65_mkM _ _ _ (⟨rd l1 x10_3, rd l1 (ji43), rd l1 (ji46)⟩ : S65))
                    (case aB => exact (zb HB))
                    (case aF => exact (fun k_ hk => (Nat.le_trans (below_size (zb HB)) hk)))
                    (case aO => exact (zr HO_197004))
                    (case aS => exact (below_size (zb HB)))
                    (case aL => have := LMc49.out; omega)
                    intro v212 w51 ho hb hg hat
                    rw [← Ny211.out] at ho
                    have n0_ := Z0 (Kd.V_afterv (ok := (fun k_ => (P1_ k_ ∨ w.heap.size ≤ k_) ∧ some k_ ≠ (u197002 : Value).ownBlock ∧ some k_ ≠ (u197003 : Value).ownBlock ∧ k_ ≠ gb191 ∧ k_ ≠ gb196)) (by (with_reducible repeat (first | apply Kd.V_alloc | apply Kd.V_drewN | apply Kd.V_drew)); exact Kd.V_mono HO_1.out (fun _ hk => ⟨⟨hk.1, ⟨hk.2.1, ⟨hk.2.2.1, ⟨hk.2.2.2.2.1, hk.2.2.2.2.2⟩⟩⟩⟩, hk.2.2.2.1⟩)) hg hat)
                    have n1_ := Z0 (Kd.R_over' (zr HO_197002) (Kd.R_typed (zr HO_197004)) (by decide) hg)
                    have n2_ := Z0 (Kd.R_over' (zr HO_197003) (Kd.R_typed (zr HO_197004)) (by decide) hg)
                    have n3_ := Z0 (blk_grown (g := gb191) (o := .cells #[.int .i64 0, .int .i64 0, .slice none 0 0, .slice none 0 0, .slice none 0 0, .slice none 0 0] 27 (0, 0)) (zk BK191) hg (Kd.R_ne HO_197004.out BK191.out (by decide)))
                    have n4_ := Z0 (blk_grown (g := gb196) (o := .cells #[.int .i64 t192, .int .i64 t194, u197002, u197003, u197004, .slice none 0 0] 27 (0, 0)) (zk BK196) hg (Kd.R_ne HO_197004.out BK196.out (by decide)))
                    have n5_ := Z0 (hb)
                    have n6_ := Z0 (ho)
                    clear HO_1
                    clear HO_197002
                    clear HO_197003
                    clear BK191
                    clear BK196
                    clear HB
                    clear HO_197004
                    have HO_1 := n0_
                    have HO_197002 := n1_
                    have HO_197003 := n2_
                    have BK191 := n3_
                    have BK196 := n4_
                    have HB := n5_
                    have HO213 := n6_
                    clear n0_ n1_ n2_ n3_ n4_ n5_ n6_
                    clear ho hb hg hat
                    obtain ⟨Ao52, co52, eo52⟩ := Kd.R_slice HO213.out
                    (first | subst eo52 | (injection eo52 with f1_ f2_ f3_; have f4_ := f1_.symm; have f5_ := f3_.symm; clear f1_ f2_ f3_; subst f4_; subst f5_))
                    refine hK.out _ _ ?_
                    clear hK K
                    refine norm_ (a' := ?_) ?_ ?_
                    rotate_left
                    ·show Act.put _ (some 108) _ = _
                     simp only [Act.put, y0, y1, y2, i64_w, i32_w]
                     rfl
                    refine pu 19 (some 109) (bz 21 0xfffff) HT_ ?_
                    refine last_ (i := 20) (N := none) (bz 21 0x1fffff) rfl rfl (one_of HT_.out (by kernel_rfl)) (by decide) (fun K hK => ?_)
                    have hs53 : w51.cell? ⟨gb196, 4, none⟩ = some (u197004) := (kc BK196.out 4).trans rfl
                    have hfs53 := blk_frozen BK196.out 4
                    have hns53_0 := NB191_196.out
                    have hms53_0 := NB196_191.out
                    refine skip_ (w1 := ?_) (by rfl) rfl ?_ ?_; rotate_left; go_simp; rfl
                    refine hK.out _ _ ?_
                    clear hK K
                    refine done_ (done_of HT_.out (by kernel_rfl)) ?_
                    try go_wp2
                    go_roundg k3
                    case measure => have := HK1.out; have := HK2.out; have := HK3.out; omega
                    case rel => exact ⟨(wrap64 (x10_3 + 3)), (wrap64 (x13_3 + 1)), (y211), (.slice Ao52 y211.length co52), zs, zs, H', ⟨by have := HK1.out; have := HK2.out; have := HK3.out; omega⟩, ⟨by (with_reducible repeat (first | apply Kd.V_alloc | apply Kd.V_drewN | apply Kd.V_drew)); exact Kd.V_mono (Kd.V_far (p := ⟨gb196, 4, none⟩) (Kd.V_mono HO_1.out (fun k_ hk => (⟨hk, hk.1.2.2.2.2⟩ : _ ∧ k_ ≠ gb196))) (fun _ hk => hk.2) (.slice Ao52 y211.length co52)) (fun _ hk => ⟨hk.1.1.1, ⟨hk.1.1.2.1, ⟨hk.1.1.2.2.1, ⟨hk.1.2, ⟨hk.1.1.2.2.2.1, hk.1.1.2.2.2.2⟩⟩⟩⟩⟩)⟩, ⟨by (with_reducible repeat (first | apply ra | apply rn | apply rd_)); exact rm (Kd.R_far (p := ⟨gb196, 4, none⟩) (Kd.R_types HO_197002.out BK196.out (by decide)) (fun _ hk => hk.2) (.slice Ao52 y211.length co52)) (fun _ hk => hk.1)⟩, ⟨by (with_reducible repeat (first | apply ra | apply rn | apply rd_)); exact rm (Kd.R_far (p := ⟨gb196, 4, none⟩) (Kd.R_types HO_197003.out BK196.out (by decide)) (fun _ hk => hk.2) (.slice Ao52 y211.length co52)) (fun _ hk => hk.1)⟩, ⟨by (with_reducible repeat (first | apply ra | apply rn | apply rd_)); exact rm (Kd.R_far (p := ⟨gb196, 4, none⟩) (Kd.R_types HO213.out BK196.out (by decide)) (fun _ hk => hk.2) (.slice Ao52 y211.length co52)) (fun _ hk => hk.1)⟩, ⟨by (with_reducible repeat (first | refine kn ?_ _ | refine kd_ ?_ | refine ka ?_ _)); refine blk_far ?_ NB191_196.out _; (with_reducible repeat (first | refine kn ?_ _ | refine kd_ ?_ | refine ka ?_ _)); exact BK191.out⟩, ⟨by (with_reducible repeat (first | refine kn ?_ _ | refine kd_ ?_ | refine ka ?_ _)); refine blk_put (cs := #[.int .i64 t192, .int .i64 t194, u197002, u197003, u197004, .slice none 0 0]) ?_ 4 _ rfl; (with_reducible repeat (first | refine kn ?_ _ | refine kd_ ?_ | refine ka ?_ _)); exact BK196.out⟩, ⟨zb HB⟩⟩
                   ·rw [if_neg c49] at H
                    exact absurd H (by simp)
                  ·rw [if_neg c48] at H
                   exact absurd H (by simp)
                 ·rw [if_neg c47] at H
                  exact absurd H (by simp)
                ·rw [if_neg c45] at H
                 exact absurd H (by simp)
               ·rw [if_neg c44] at H
                exact absurd H (by simp)
              ·rw [if_neg c42] at H
               exact absurd H (by simp)
             ·rw [if_neg c41] at H
              exact absurd H (by simp)
            ·rw [if_neg c40] at H
             have c40b0 : decide (x13_3 < (wrap64 (bt a0 7))) = false := decide_eq_false c40
             clear c40
             have H' := Z0 H
             clear H
             have p39 : 0 ≤ (7 : Int) := (by omega)
             have q39 : 7 < a0.size := (by have : (7 : Int) < (a0.size : Int) := od; omega)
             have hx39 : ∀ h : 7 < a0.size, ((a0[7]'h).toNat : Int) = bt a0 7 := bt_at a0 7
             clear p39
             have qi39 : (7 < (a0.size : Int)) = True := eq_true (of_decide_eq_true (by first | (with_reducible assumption) | assumption))
             replace q39 := eq_true q39
             go_wp2
             go_loopg [10, 14] k3 (fun kq v10 v14 w' => ∃ (x10_4 : Int) (x14_4 : Int) (x197005_4 : List (S50)) (u197005 : Value), v10 = .int .i64 x10_4 ∧ v14 = .int .i64 x14_4 ∧ Aside0 (trefoilref06_build.l3 kq a0 l1 x10_4 x14_4 t192 t194 x197002_1 x197003_2 x197004_3 x197005_4 = some (r1, r2, r3, r4, r5, r6)) ∧ Aside0 (kq ≤ k3) ∧ Aside0 (Kd.V (Kd.int .i64) 3 w' w.heap.size (fun k_ => (P1_ k_ ∨ w.heap.size ≤ k_) ∧ some k_ ≠ (u197002 : Value).ownBlock ∧ some k_ ≠ (u197003 : Value).ownBlock ∧ some k_ ≠ (u197004 : Value).ownBlock ∧ some k_ ≠ (u197005 : Value).ownBlock ∧ k_ ≠ gb191 ∧ k_ ≠ gb196) (.slice A1 l1.length c1) l1) ∧ Aside0 (Kd.R k47 47 w' w.heap.size (fun k_ => (w.heap.size ≤ k_)) u197002 x197002_1) ∧ Aside0 (Kd.R k63 63 w' w.heap.size (fun k_ => (w.heap.size ≤ k_)) u197003 x197003_2) ∧ Aside0 (Kd.R k65 65 w' w.heap.size (fun k_ => (w.heap.size ≤ k_)) u197004 x197004_3) ∧ Aside0 (Kd.N k50 50 w' w.heap.size (fun k_ => (P1_ k_ ∨ w.heap.size ≤ k_) ∧ some k_ ≠ (u197002 : Value).ownBlock ∧ some k_ ≠ (u197003 : Value).ownBlock ∧ some k_ ≠ (u197004 : Value).ownBlock ∧ k_ ≠ gb191 ∧ k_ ≠ gb196) u197005 x197005_4) ∧ Aside0 (w'.heap[gb191]? = some (.cells #[.int .i64 0, .int .i64 0, (.slice none 0 0), (.slice none 0 0), (.slice none 0 0), (.slice none 0 0)] 27 (0, 0))) ∧ Aside0 (w'.heap[gb196]? = some (.cells #[.int .i64 t192, .int .i64 t194, u197002, u197003, u197004, u197005] 27 (0, 0))) ∧ Aside0 (Below w.heap.size w w'))
             case atStart => exact ⟨(x10_3), (0), (([] : List (S50))), (.slice none 0 0), zs, zs, H', ⟨Nat.le_refl _⟩, ⟨by (with_reducible repeat (first | apply Kd.V_alloc | apply Kd.V_drewN | apply Kd.V_drew)); exact Kd.V_mono HO_1.out (fun _ hk => ⟨hk.1, ⟨hk.2.1, ⟨hk.2.2.1, ⟨hk.2.2.2.1, ⟨(by simp [Value.ownBlock]), ⟨hk.2.2.2.2.1, hk.2.2.2.2.2⟩⟩⟩⟩⟩⟩)⟩, ⟨by (with_reducible repeat (first | apply ra | apply rn | apply rd_)); exact HO_197002.out⟩, ⟨by (with_reducible repeat (first | apply ra | apply rn | apply rd_)); exact HO_197003.out⟩, ⟨by (with_reducible repeat (first | apply ra | apply rn | apply rd_)); exact HO_197004.out⟩, ⟨by first | exact Kd.S_nil _ _ _ _ _ | exact Kd.N_nil _ _ _ _ _ | exact Kd.V_nil _ _ _ _ _ | exact Kd.Q_nil _ _ _ _ _ | exact Kd.R_nil _ _ _ _ _⟩, ⟨zk BK191⟩, ⟨zk BK196⟩, ⟨zb HB⟩⟩
             case round =>
              clear H'
              try clear c1
              try clear p1
              try clear q1
              try clear hx1
              try clear qi1
              try clear c2
              try clear p2
              try clear q2
              try clear hx2
              try clear qi2
              try clear c3
              try clear p3
              try clear q3
              try clear hx3
              try clear qi3
              try clear c4
              try clear p6
              try clear c7
              try clear c9
              try clear c9b0
              try clear c9b1
              try clear p10
              try clear q10
              try clear hx10
              try clear qi10
              try clear c11
              try clear c11b0
              try clear c12
              try clear c12b0
              try clear c13
              try clear c13b0
              try clear c15
              try clear c15b0
              try clear c16
              try clear c16b0
              try clear c18
              try clear c18b0
              try clear c19
              try clear c19b0
              try clear p19
              try clear q19
              try clear hx19
              try clear c20
              try clear p20
              try clear q20
              try clear hx20
              try clear p21
              try clear q21
              try clear hx21
              try clear c25
              try clear c25b0
              try clear c25b1
              try clear p26
              try clear q26
              try clear hx26
              try clear qi26
              try clear c27
              try clear c27b0
              try clear c28
              try clear c28b0
              try clear c29
              try clear c29b0
              try clear c31
              try clear c31b0
              try clear c32
              try clear c32b0
              try clear c33
              try clear c38
              try clear c38b0
              try clear c38b1
              try clear p39
              try clear q39
              try clear hx39
              try clear qi39
              try clear c40
              try clear c40b0
              try clear c41
              try clear c41b0
              try clear c42
              try clear c42b0
              try clear c44
              try clear c44b0
              try clear c45
              try clear c45b0
              try clear c47
              try clear c47b0
              try clear c48
              try clear c48b0
              try clear c49
              try clear hcz8_0
              try clear hcz8_1
              try clear hcz8_2
              try clear hcz8_3
              try clear hcz8_4
              try clear hcz8_5
              try clear hfz8_0
              try clear hfz8_1
              try clear hfz8_2
              try clear hfz8_3
              try clear hfz8_4
              try clear hfz8_5
              try clear hx197_0
              try clear hx198_0
              try clear hx199_0
              try clear hx203_0
              try clear hx204_0
              try clear hx208_0
              try clear hx209_0
              try clear hx210_0
              try clear p1
              try clear p10
              try clear p19
              try clear p197
              try clear p198
              try clear p199
              try clear p2
              try clear p20
              try clear p203
              try clear p204
              try clear p208
              try clear p209
              try clear p210
              try clear p26
              try clear p39
              try clear p6
              try clear q1
              try clear q10
              try clear q19
              try clear q197
              try clear q198
              try clear q199
              try clear q2
              try clear q20
              try clear q203
              try clear q204
              try clear q208
              try clear q209
              try clear q210
              try clear q26
              try clear q39
              obtain ⟨x10_4, x14_4, x197005_4, u197005, rfl, rfl, HA, HK4, HO_1, HO_197002, HO_197003, HO_197004, HO_197005, BK191, BK196, HB⟩ := hrel
              cases gk with
              | zero => exact absurd HA.out (by simp [trefoilref06_build.l3])
              | succ k4 =>
               have H := HA.out
               clear HA
               simp only [trefoilref06_build.l3] at H
               by_cases c54 : 8 < (a0.size : Int)
               ·rw [if_pos c54] at H
                have c54b0 : decide (8 < (a0.size : Int)) = true := decide_eq_true c54
                have c54b1 : decide (8 < a0.size) = true := decide_eq_true (by omega)
                clear c54
                by_cases c56 : x14_4 < (wrap64 (bt a0 8))
                ·rw [if_pos c56] at H
                 have c56b0 : decide (x14_4 < (wrap64 (bt a0 8))) = true := decide_eq_true c56
                 clear c56
                 by_cases c57 : 0 ≤ x10_4
                 ·rw [if_pos c57] at H
                  have c57b0 : decide (0 ≤ x10_4) = true := decide_eq_true c57
                  clear c57
                  by_cases c58 : x10_4 < (l1.length : Int)
                  ·rw [if_pos c58] at H
                   have c58b0 : decide (x10_4 < (l1.length : Int)) = true := decide_eq_true c58
                   clear c58
                   obtain ⟨ji59, hji59⟩ : ∃ j_ : Int, (wrap64 (x10_4 + 1)) = j_ := ⟨_, rfl⟩
                   replace H : (if 0 ≤ (ji59) then (if (ji59) < (l1.length : Int) then (if 0 ≤ (wrap64 (x10_4 + 2)) then (if (wrap64 (x10_4 + 2)) ≤ (wrap64 ((wrap64 (x10_4 + 2)) + (rd l1 x10_4))) then (if (wrap64 ((wrap64 (x10_4 + 2)) + (rd l1 x10_4))) ≤ (l1.length : Int) then (if 0 ≤ (wrap64 ((wrap64 (x10_4 + 2)) + (rd l1 x10_4))) then (if (wrap64 ((wrap64 (x10_4 + 2)) + (rd l1 x10_4))) ≤ (wrap64 ((wrap64 ((wrap64 (x10_4 + 2)) + (rd l1 x10_4))) + (rd l1 (ji59)))) then (if (wrap64 ((wrap64 ((wrap64 (x10_4 + 2)) + (rd l1 x10_4))) + (rd l1 (ji59)))) ≤ (l1.length : Int) then (if x197005_4.length < 2932031007402 then (trefoilref06_build.l3 k4 a0 l1 (wrap64 ((wrap64 ((wrap64 (x10_4 + 2)) + (rd l1 x10_4))) + (rd l1 (ji59)))) (wrap64 (x14_4 + 1)) t192 t194 x197002_1 x197003_2 x197004_3 (x197005_4 ++ [(⟨((l1.take ((wrap64 ((wrap64 (x10_4 + 2)) + (rd l1 x10_4))) : Int).toNat).drop ((wrap64 (x10_4 + 2)) : Int).toNat), ((l1.take ((wrap64 ((wrap64 ((wrap64 (x10_4 + 2)) + (rd l1 x10_4))) + (rd l1 (ji59)))) : Int).toNat).drop ((wrap64 ((wrap64 (x10_4 + 2)) + (rd l1 x10_4))) : Int).toNat)⟩ : S50)])) else (none)) else (none)) else (none)) else (none)) else (none)) else (none)) else (none)) else (none)) else (none)) = some (r1, r2, r3, r4, r5, r6) := by first | (rw [hji59] at H; exact H) | (simp only [hji59] at H ⊢; exact H)
                   have hji59w : (IntKind.i64.wrap (x10_4 + 1)) = ji59 := (i64_w _).trans hji59
                   by_cases c60 : 0 ≤ (ji59)
                   ·rw [if_pos c60] at H
                    have c60b0 : decide (0 ≤ (ji59)) = true := decide_eq_true c60
                    clear c60
                    by_cases c61 : (ji59) < (l1.length : Int)
                    ·rw [if_pos c61] at H
                     have c61b0 : decide ((ji59) < (l1.length : Int)) = true := decide_eq_true c61
                     clear c61
                     obtain ⟨ji62, hji62⟩ : ∃ j_ : Int, (wrap64 (x10_4 + 2)) = j_ := ⟨_, rfl⟩
                     replace H : (if 0 ≤ (ji62) then (if (ji62) ≤ (wrap64 ((ji62) + (rd l1 x10_4))) then (if (wrap64 ((ji62) + (rd l1 x10_4))) ≤ (l1.length : Int) then (if 0 ≤ (wrap64 ((ji62) + (rd l1 x10_4))) then (if (wrap64 ((ji62) + (rd l1 x10_4))) ≤ (wrap64 ((wrap64 ((ji62) + (rd l1 x10_4))) + (rd l1 (ji59)))) then (if (wrap64 ((wrap64 ((ji62) + (rd l1 x10_4))) + (rd l1 (ji59)))) ≤ (l1.length : Int) then (if x197005_4.length < 2932031007402 then (trefoilref06_build.l3 k4 a0 l1 (wrap64 ((wrap64 ((ji62) + (rd l1 x10_4))) + (rd l1 (ji59)))) (wrap64 (x14_4 + 1)) t192 t194 x197002_1 x197003_2 x197004_3 (x197005_4 ++ [(⟨((l1.take ((wrap64 ((ji62) + (rd l1 x10_4))) : Int).toNat).drop ((ji62) : Int).toNat), ((l1.take ((wrap64 ((wrap64 ((ji62) + (rd l1 x10_4))) + (rd l1 (ji59)))) : Int).toNat).drop ((wrap64 ((ji62) + (rd l1 x10_4))) : Int).toNat)⟩ : S50)])) else (none)) else (none)) else (none)) else (none)) else (none)) else (none)) else (none)) = some (r1, r2, r3, r4, r5, r6) := by first | (rw [hji62] at H; exact H) | (simp only [hji62] at H ⊢; exact H)
                     have hji62w : (IntKind.i64.wrap (x10_4 + 2)) = ji62 := (i64_w _).trans hji62
                     by_cases c63 : 0 ≤ (ji62)
                     ·rw [if_pos c63] at H
                      have c63b0 := eq_true c63
                      have c63b1 : decide (0 ≤ (ji62)) = true := decide_eq_true c63
                      clear c63
                      by_cases c64 : (ji62) ≤ (wrap64 ((ji62) + (rd l1 x10_4)))
                      ·rw [if_pos c64] at H
                       have c64b0 := eq_true c64
                       have c64b1 : decide ((ji62) ≤ (wrap64 ((ji62) + (rd l1 x10_4)))) = true := decide_eq_true c64
                       by_cases c65 : (wrap64 ((ji62) + (rd l1 x10_4))) ≤ (l1.length : Int)
                       ·rw [if_pos c65] at H
                        have c65b0 := eq_true c65
                        have c65b1 : decide ((wrap64 ((ji62) + (rd l1 x10_4))) ≤ (l1.length : Int)) = true := decide_eq_true c65
                        obtain ⟨y216, hy216⟩ : ∃ y_ : List Int, y_ = ((l1.take ((wrap64 ((ji62) + (rd l1 x10_4))) : Int).toNat).drop ((ji62) : Int).toNat) := ⟨_, rfl⟩
                        replace H : (if 0 ≤ (wrap64 ((ji62) + (rd l1 x10_4))) then (if (wrap64 ((ji62) + (rd l1 x10_4))) ≤ (wrap64 ((wrap64 ((ji62) + (rd l1 x10_4))) + (rd l1 (ji59)))) then (if (wrap64 ((wrap64 ((ji62) + (rd l1 x10_4))) + (rd l1 (ji59)))) ≤ (l1.length : Int) then (if x197005_4.length < 2932031007402 then (trefoilref06_build.l3 k4 a0 l1 (wrap64 ((wrap64 ((ji62) + (rd l1 x10_4))) + (rd l1 (ji59)))) (wrap64 (x14_4 + 1)) t192 t194 x197002_1 x197003_2 x197004_3 (x197005_4 ++ [(⟨y216, ((l1.take ((wrap64 ((wrap64 ((ji62) + (rd l1 x10_4))) + (rd l1 (ji59)))) : Int).toNat).drop ((wrap64 ((ji62) + (rd l1 x10_4))) : Int).toNat)⟩ : S50)])) else (none)) else (none)) else (none)) else (none)) = some (r1, r2, r3, r4, r5, r6) := by first | (rw [hy216]; with_reducible exact H) | (have H2_ := (Option.bind_some _ _).symm.trans H; rw [hy216]; with_reducible exact H2_) | (have H2_ := (Option.bind_some _ _).symm.trans H; with_reducible exact H2_) | with_reducible exact H | (rw [hy216]; exact H) | exact H
                        have Ny216 := Z0 hy216
                        clear hy216
                        obtain ⟨ji66, hji66⟩ : ∃ j_ : Int, (wrap64 ((ji62) + (rd l1 x10_4))) = j_ := ⟨_, rfl⟩
                        replace H : (if 0 ≤ (ji66) then (if (ji66) ≤ (wrap64 ((ji66) + (rd l1 (ji59)))) then (if (wrap64 ((ji66) + (rd l1 (ji59)))) ≤ (l1.length : Int) then (if x197005_4.length < 2932031007402 then (trefoilref06_build.l3 k4 a0 l1 (wrap64 ((ji66) + (rd l1 (ji59)))) (wrap64 (x14_4 + 1)) t192 t194 x197002_1 x197003_2 x197004_3 (x197005_4 ++ [(⟨y216, ((l1.take ((wrap64 ((ji66) + (rd l1 (ji59)))) : Int).toNat).drop ((ji66) : Int).toNat)⟩ : S50)])) else (none)) else (none)) else (none)) else (none)) = some (r1, r2, r3, r4, r5, r6) := by first | (rw [hji66] at H; exact H) | (simp only [hji66] at H ⊢; exact H)
                        (try rw [hji66] at c64b0)
                        (try rw [hji66] at c64b1)
                        (try rw [hji66] at c64)
                        (try rw [hji66] at c65b0)
                        (try rw [hji66] at c65b1)
                        (try rw [hji66] at c65)
                        (try rw [hji66] at Ny216)
                        have hji66w : (IntKind.i64.wrap ((ji62) + (rd l1 x10_4))) = ji66 := (i64_w _).trans hji66
                        by_cases c67 : 0 ≤ (ji66)
                        ·rw [if_pos c67] at H
                         have c67b0 := eq_true c67
                         have c67b1 : decide (0 ≤ (ji66)) = true := decide_eq_true c67
                         clear c67
                         by_cases c68 : (ji66) ≤ (wrap64 ((ji66) + (rd l1 (ji59))))
                         ·rw [if_pos c68] at H
                          have c68b0 := eq_true c68
                          have c68b1 : decide ((ji66) ≤ (wrap64 ((ji66) + (rd l1 (ji59))))) = true := decide_eq_true c68
                          by_cases c69 : (wrap64 ((ji66) + (rd l1 (ji59)))) ≤ (l1.length : Int)
                          ·rw [if_pos c69] at H
                           have c69b0 := eq_true c69
                           have c69b1 : decide ((wrap64 ((ji66) + (rd l1 (ji59)))) ≤ (l1.length : Int)) = true := decide_eq_true c69
                           obtain ⟨y221, hy221⟩ : ∃ y_ : List Int, y_ = ((l1.take ((wrap64 ((ji66) + (rd l1 (ji59)))) : Int).toNat).drop ((ji66) : Int).toNat) := ⟨_, rfl⟩
                           replace H : (if x197005_4.length < 2932031007402 then (trefoilref06_build.l3 k4 a0 l1 (wrap64 ((ji66) + (rd l1 (ji59)))) (wrap64 (x14_4 + 1)) t192 t194 x197002_1 x197003_2 x197004_3 (x197005_4 ++ [(⟨y216, y221⟩ : S50)])) else (none)) = some (r1, r2, r3, r4, r5, r6) := by first | (rw [hy221]; with_reducible exact H) | (have H2_ := (Option.bind_some _ _).symm.trans H; rw [hy221]; with_reducible exact H2_) | (have H2_ := (Option.bind_some _ _).symm.trans H; with_reducible exact H2_) | with_reducible exact H | (rw [hy221]; exact H) | exact H
                           have Ny221 := Z0 hy221
                           clear hy221
                           by_cases c70 : x197005_4.length < 2932031007402
                           ·rw [if_pos c70] at H
                            have LMc70 := Z0 c70
                            clear c70
                            obtain ⟨y226, hy226⟩ : ∃ y_ : List (S50), y_ = (x197005_4 ++ [(⟨y216, y221⟩ : S50)]) := ⟨_, rfl⟩
                            replace H : (trefoilref06_build.l3 k4 a0 l1 (wrap64 ((ji66) + (rd l1 (ji59)))) (wrap64 (x14_4 + 1)) t192 t194 x197002_1 x197003_2 x197004_3 y226) = some (r1, r2, r3, r4, r5, r6) := by first | (rw [hy226]; with_reducible exact H) | (have H2_ := (Option.bind_some _ _).symm.trans H; rw [hy226]; with_reducible exact H2_) | (have H2_ := (Option.bind_some _ _).symm.trans H; with_reducible exact H2_) | with_reducible exact H | (rw [hy226]; exact H) | exact H
                            have Ny226 := Z0 hy226
                            clear hy226
                            have H' := Z0 H
                            clear H
                            have p55 : 0 ≤ (8 : Int) := (by omega)
                            have q55 : 8 < a0.size := (by have : (8 : Int) < (a0.size : Int) := od; omega)
                            have hx55 : ∀ h : 8 < a0.size, ((a0[8]'h).toNat : Int) = bt a0 8 := bt_at a0 8
                            clear p55
                            have qi55 : (8 < (a0.size : Int)) = True := eq_true (of_decide_eq_true (by first | (with_reducible assumption) | assumption))
                            replace q55 := eq_true q55
                            try go_wp2
                            have n0_ := Z0 (Kd.V_drew HO_1.out)
                            have n1_ := Z0 (rd_ HO_197002.out)
                            have n2_ := Z0 (rd_ HO_197003.out)
                            have n3_ := Z0 (rd_ HO_197004.out)
                            have n4_ := Z0 (Kd.N_drew HO_197005.out)
                            have n5_ := Z0 (kd_ BK191.out)
                            have n6_ := Z0 (kd_ BK196.out)
                            have n7_ := Z0 (wd HB.out)
                            clear HO_1
                            clear HO_197002
                            clear HO_197003
                            clear HO_197004
                            clear HO_197005
                            clear BK191
                            clear BK196
                            clear HB
                            have HO_1 := n0_
                            have HO_197002 := n1_
                            have HO_197003 := n2_
                            have HO_197004 := n3_
                            have HO_197005 := n4_
                            have BK191 := n5_
                            have BK196 := n6_
                            have HB := n7_
                            clear n0_ n1_ n2_ n3_ n4_ n5_ n6_ n7_
                            have p214 : 0 ≤ (x10_4 : Int) := od
                            have q214 : x10_4 < (l1.length : Int) := od
                            obtain ⟨ad214, e214, hx214_0⟩ := Kd.at_int (Kd.V_reads' HO_1.out).2.2 x10_4 p214 q214
                            cases e214
                            replace p214 := eq_true p214
                            replace q214 := eq_true q214
                            have p215 : 0 ≤ ((ji59) : Int) := od
                            have q215 : (ji59) < (l1.length : Int) := od
                            obtain ⟨ad215, e215, hx215_0⟩ := Kd.at_int (Kd.V_reads' HO_1.out).2.2 (ji59) p215 q215
                            obtain rfl : ad214 = ad215 := (by injection e215)
                            replace p215 := eq_true p215
                            replace q215 := eq_true q215
                            refine start_ (n := 11) (S := fun w' => w'.cell? (ad214.add (x10_4).toNat) = some (.int .i64 (rd l1 x10_4)) ∧ w'.cell? (ad214.add ((ji59)).toNat) = some (.int .i64 (rd l1 (ji59)))) (ds := []) (bz 11 0) (by kernel_rfl) rfl rfl ⟨hx214_0, hx215_0⟩ (fun hHeld => ?_); refine with_tabW trefoilref06_build.tab22 trefoilref06_build.bits22 (fun HT_ HW_ => ?_)
                            generalize wr.drew = w71 at HO_1 HO_197002 HO_197003 HO_197004 HO_197005 BK191 BK196 HB hx214_0 hx215_0 hHeld ⊢
                            refine pu 0 (some 119) (bz 11 1) HT_ ?_
                            refine pu 1 (some 120) (bz 11 3) HT_ ?_
                            refine pu 2 (some 121) (bz 11 7) HT_ ?_
                            refine pu 4 (some 123) (bz 11 23) HT_ ?_
                            refine pu 5 (some 124) (bz 11 55) HT_ ?_
                            refine pu 6 (some 125) (bz 11 119) HT_ ?_
                            refine pu 7 (some 126) (bz 11 247) HT_ ?_
                            refine tk2 3 (some 122) (bz 11 255) HT_ HW_ hHeld ?_
                            refine pu 9 (some 15) (bz 11 767) HT_ ?_
                            refine tk2 8 (some 127) (bz 11 1023) HT_ HW_ hHeld ?_
                            refine pu 10 (some 16) (bz 11 2047) HT_ ?_
                            refine done_ (done_of HT_.out (by kernel_rfl)) ?_
                            try go_wp2
                            have n0_ := Z0 (Kd.V_drew HO_1.out)
                            have n1_ := Z0 (rd_ HO_197002.out)
                            have n2_ := Z0 (rd_ HO_197003.out)
                            have n3_ := Z0 (rd_ HO_197004.out)
                            have n4_ := Z0 (Kd.N_drew HO_197005.out)
                            have n5_ := Z0 (kd_ BK191.out)
                            have n6_ := Z0 (kd_ BK196.out)
                            have n7_ := Z0 (wd HB.out)
                            clear HO_1
                            clear HO_197002
                            clear HO_197003
                            clear HO_197004
                            clear HO_197005
                            clear BK191
                            clear BK196
                            clear HB
                            have HO_1 := n0_
                            have HO_197002 := n1_
                            have HO_197003 := n2_
                            have HO_197004 := n3_
                            have HO_197005 := n4_
                            have BK191 := n5_
                            have BK196 := n6_
                            have HB := n7_
                            clear n0_ n1_ n2_ n3_ n4_ n5_ n6_ n7_
                            have q73 : ((ji66) : Int) ≤ ((l1.length : Int) : Int) := od
                            obtain ⟨i073, hi073, _, hsz73, _⟩ := info_parts info3
                            have hroom73 : l1.length ≤ c1 := (Kd.V_reads' HO_1.out).2.1
                            have hC73 : Kd.F (Kd.int .i64) _ _ (some ad214) l1.length l1 := (Kd.V_at (base := w.heap.size) HO_1.out).2.2
                            have ql73 : ((ji62) : Int) ≤ ((ji66) : Int) := od
                            have q073 : (0 : Int) ≤ ((ji62) : Int) := od
                            have hcut73 := cut_mid (P := Tryz.prog) 48 3 .i64 .i64 Tryz.underlying48 hi073 1 hsz73 (some ad214) l1.length c1 (ji62) (ji66) q073 ql73 q73 hroom73
                            have hr73 := Kd.F_mid (lo := ((ji62) : Int).toNat) (hi := ((ji66) : Int).toNat) (c := c1) hC73 (by omega) (by omega) hroom73
                            obtain ⟨A73, hA73⟩ : ∃ A1, A1 = (if c1 = ((ji62) : Int).toNat then (some ad214) else ((some ad214) : Option Addr).map (·.add (((ji62) : Int).toNat * 1))) := ⟨_, rfl⟩
                            obtain ⟨c73, hc73⟩ : ∃ c9, c9 = c1 - ((ji62) : Int).toNat := ⟨_, rfl⟩
                            have hy73 : y216.length = ((ji66) : Int).toNat - ((ji62) : Int).toNat := (by rw [Ny216.out, List.length_drop, List.length_take] <;> omega)
                            rw [show ((l1).take ((ji66) : Int).toNat).drop ((ji62) : Int).toNat = y216 from Ny216.out.symm] at hr73
                            replace hr73 : Kd.F (Kd.int .i64) _ _ A73 y216.length y216 := (by rw [hA73]; exact hr73)
                            rw [← hy73, ← hA73, ← hc73] at hcut73
                            have HO220 := Z0 (show Kd.V (Kd.int .i64) 3 _ w.heap.size _ (.slice A73 y216.length c73) y216 from Kd.V_mk (by rw [hy73, hc73]; exact Nat.sub_le_sub_right (Nat.le_trans (by omega) hroom73) _) hr73)
                            have HC220 := Z0 (show y216.length ≤ c73 from by rw [hy73, hc73]; exact Nat.sub_le_sub_right (Nat.le_trans (by omega) hroom73) _)
                            clear hr73 hC73 hroom73 hi073 hsz73 hc73
                            have KY73 := Z0 hy73
                            have KA73 := Z0 hA73
                            clear hy73 hA73
                            replace q73 := eq_true q73
                            have q74 : ((wrap64 ((ji66) + (rd l1 (ji59)))) : Int) ≤ ((l1.length : Int) : Int) := od
                            obtain ⟨i074, hi074, _, hsz74, _⟩ := info_parts info3
                            have hroom74 : l1.length ≤ c1 := (Kd.V_reads' HO_1.out).2.1
                            have hC74 : Kd.F (Kd.int .i64) _ _ (some ad214) l1.length l1 := (Kd.V_at (base := w.heap.size) HO_1.out).2.2
                            have ql74 : ((ji66) : Int) ≤ ((wrap64 ((ji66) + (rd l1 (ji59)))) : Int) := od
                            have q074 : (0 : Int) ≤ ((ji66) : Int) := od
                            have hcut74 := cut_mid (P := Tryz.prog) 48 3 .i64 .i64 Tryz.underlying48 hi074 1 hsz74 (some ad214) l1.length c1 (ji66) (wrap64 ((ji66) + (rd l1 (ji59)))) q074 ql74 q74 hroom74
                            have hr74 := Kd.F_mid (lo := ((ji66) : Int).toNat) (hi := ((wrap64 ((ji66) + (rd l1 (ji59)))) : Int).toNat) (c := c1) hC74 (by omega) (by omega) hroom74
                            obtain ⟨A74, hA74⟩ : ∃ A1, A1 = (if c1 = ((ji66) : Int).toNat then (some ad214) else ((some ad214) : Option Addr).map (·.add (((ji66) : Int).toNat * 1))) := ⟨_, rfl⟩
                            obtain ⟨c74, hc74⟩ : ∃ c9, c9 = c1 - ((ji66) : Int).toNat := ⟨_, rfl⟩
                            have hy74 : y221.length = ((wrap64 ((ji66) + (rd l1 (ji59)))) : Int).toNat - ((ji66) : Int).toNat := (by rw [Ny221.out, List.length_drop, List.length_take] <;> omega)
                            rw [show ((l1).take ((wrap64 ((ji66) + (rd l1 (ji59)))) : Int).toNat).drop ((ji66) : Int).toNat = y221 from Ny221.out.symm] at hr74
                            replace hr74 : Kd.F (Kd.int .i64) _ _ A74 y221.length y221 := (by rw [hA74]; exact hr74)
                            rw [← hy74, ← hA74, ← hc74] at hcut74
                            have HO225 := Z0 (show Kd.V (Kd.int .i64) 3 _ w.heap.size _ (.slice A74 y221.length c74) y221 from Kd.V_mk (by rw [hy74, hc74]; exact Nat.sub_le_sub_right (Nat.le_trans (by omega) hroom74) _) hr74)
                            have HC225 := Z0 (show y221.length ≤ c74 from by rw [hy74, hc74]; exact Nat.sub_le_sub_right (Nat.le_trans (by omega) hroom74) _)
                            clear hr74 hC74 hroom74 hi074 hsz74 hc74
                            have KY74 := Z0 hy74
                            have KA74 := Z0 hA74
                            clear hy74 hA74
                            replace q74 := eq_true q74
                            refine start_ (n := 23) (S := fun w' => w'.cell? ⟨gb196, 0, none⟩ = some (.int .i64 t192) ∧ w'.cell? ⟨gb196, 1, none⟩ = some (.int .i64 t194) ∧ w'.cell? ⟨gb196, 2, none⟩ = some (u197002) ∧ w'.cell? ⟨gb196, 3, none⟩ = some (u197003) ∧ w'.cell? ⟨gb196, 4, none⟩ = some (u197004) ∧ w'.cell? ⟨gb196, 5, none⟩ = some (u197005)) (ds := [22]) (bz 23 0) (by kernel_rfl) rfl rfl ⟨(kc BK196.out 0).trans rfl, (kc BK196.out 1).trans rfl, (kc BK196.out 2).trans rfl, (kc BK196.out 3).trans rfl, (kc BK196.out 4).trans rfl, (kc BK196.out 5).trans rfl⟩ (fun hHeld => ?_); refine with_tabW trefoilref06_build.tab24 trefoilref06_build.bits24 (fun HT_ HW_ => ?_)
                            generalize w71.drew = w72 at HO_1 HO_197002 HO_197003 HO_197004 HO_197005 BK191 BK196 HB HO220 HO225 hHeld ⊢
                            refine pu 0 (some 130) (bz 23 1) HT_ ?_
                            refine pu 2 (some 132) (bz 23 5) HT_ ?_
                            refine pu 3 (some 133) (bz 23 13) HT_ ?_
                            refine pu 4 (some 134) (bz 23 29) HT_ ?_
                            refine pu 5 (some 135) (bz 23 61) HT_ ?_
                            refine pu 6 (some 136) (bz 23 125) HT_ ?_
                            refine pu 7 (some 137) (bz 23 253) HT_ ?_
                            refine pu 8 (some 138) (bz 23 509) HT_ ?_
                            refine pu 9 (some 139) (bz 23 1021) HT_ ?_
                            refine pu 10 (some 140) (bz 23 2045) HT_ ?_
                            refine pu 11 (some 141) (bz 23 4093) HT_ ?_
                            refine pu 12 (some 142) (bz 23 8189) HT_ ?_
                            refine pu 13 (some 143) (bz 23 16381) HT_ ?_
                            refine pu 14 (some 144) (bz 23 32765) HT_ ?_
                            refine pu 15 (some 145) (bz 23 65533) HT_ ?_
                            refine pu 16 (some 146) (bz 23 131069) HT_ ?_
                            refine pu 17 (some 147) (bz 23 262141) HT_ ?_
                            refine pu 18 (some 148) (bz 23 524285) HT_ ?_
                            refine tk6 1 (some 131) (bz 23 524287) HT_ HW_ hHeld ?_
                            refine one_ (i := 19) (N := some 149) (bz 23 0xfffff) rfl rfl (one_of HT_.out (by kernel_rfl)) (by decide) (fun K hK => ?_)
                            refine value_ (w1 := ?_) (v := ?_) (by rfl) rfl ?_ ?_
                            rotate_left 2
                            ·go_simp
                             constructor
                             ·rfl
                             ·rfl
                            refine hK.out _ _ ⟨(kc (ka BK196.out _) 0).trans rfl, (kc (ka BK196.out _) 1).trans rfl, (kc (ka BK196.out _) 2).trans rfl, (kc (ka BK196.out _) 3).trans rfl, (kc (ka BK196.out _) 4).trans rfl, (kc (ka BK196.out _) 5).trans rfl⟩ (fun hHeld => ?_)
                            clear hK K
                            refine norm_ (a' := ?_) ?_ ?_
                            rotate_left
                            ·show Act.put _ (some 149) _ = _
                             simp only [Act.put, y0, y1, y2, i64_w, i32_w]
                             rfl
                            refine one_ (i := 20) (N := some 150) (bz 23 0x1fffff) rfl rfl (one_of HT_.out (by kernel_rfl)) (by decide) (fun K hK => ?_)
                            refine Kd.N_append_step k50 (w0 := w) w.heap.size (by rfl) (.tmp 131) (.tmp 149) 25 50 (.agg #[(.slice none 0 0), (.slice none 0 0)]) 48 rfl Tryz.underlying25 info50 rfl (by decide) (by omega) u197005 x197005_4 (⟨y216, y221⟩ : S50) [.slice A73 y216.length c73, .slice A74 y221.length c74] (fun k_ => (P1_ k_ ∨ w.heap.size ≤ k_) ∧ some k_ ≠ (u197002 : Value).ownBlock ∧ some k_ ≠ (u197003 : Value).ownBlock ∧ some k_ ≠ (u197004 : Value).ownBlock ∧ k_ ≠ gb191 ∧ k_ ≠ gb196) (fun k_ => ((fun k_ => (P1_ k_ ∨ w.heap.size ≤ k_) ∧ some k_ ≠ (u197002 : Value).ownBlock ∧ some k_ ≠ (u197003 : Value).ownBlock ∧ some k_ ≠ (u197004 : Value).ownBlock ∧ k_ ≠ gb191 ∧ k_ ≠ gb196)) k_ ∧ some k_ ≠ (u197005 : Value).ownBlock) rfl rfl ?aP (fun _ hk => hk) ?aF ?aO ?aB ?aS ?aL ?_
                            (case aP => exact (k50_mkF _ _ (⟨y216, y221⟩ : S50) (Kd.V_reads' (Kd.V_mono (ok' := (fun k_ => ((fun k_ => (P1_ k_ ∨ w.heap.size ≤ k_) ∧ some k_ ≠ (u197002 : Value).ownBlock ∧ some k_ ≠ (u197003 : Value).ownBlock ∧ some k_ ≠ (u197004 : Value).ownBlock ∧ k_ ≠ gb191 ∧ k_ ≠ gb196)) k_ ∧ some k_ ≠ (u197005 : Value).ownBlock)) (HO220.out) (fun k_ hk => ⟨⟨hk.1, ⟨hk.2.1, ⟨hk.2.2.1, ⟨hk.2.2.2.1, ⟨hk.2.2.2.2.2.1, hk.2.2.2.2.2.2⟩⟩⟩⟩⟩, hk.2.2.2.2.1⟩))).2.1 (Kd.V_F (Kd.V_mono (ok' := (fun k_ => ((fun k_ => (P1_ k_ ∨ w.heap.size ≤ k_) ∧ some k_ ≠ (u197002 : Value).ownBlock ∧ some k_ ≠ (u197003 : Value).ownBlock ∧ some k_ ≠ (u197004 : Value).ownBlock ∧ k_ ≠ gb191 ∧ k_ ≠ gb196)) k_ ∧ some k_ ≠ (u197005 : Value).ownBlock)) (HO220.out) (fun k_ hk => ⟨⟨hk.1, ⟨hk.2.1, ⟨hk.2.2.1, ⟨hk.2.2.2.1, ⟨hk.2.2.2.2.2.1, hk.2.2.2.2.2.2⟩⟩⟩⟩⟩, hk.2.2.2.2.1⟩))) (Kd.V_reads' (Kd.V_mono (ok' := (fun k_ => ((fun k_ => (P1_ k_ ∨ w.heap.size ≤ k_) ∧ some k_ ≠ (u197002 : Value).ownBlock ∧ some k_ ≠ (u197003 : Value).ownBlock ∧ some k_ ≠ (u197004 : Value).ownBlock ∧ k_ ≠ gb191 ∧ k_ ≠ gb196)) k_ ∧ some k_ ≠ (u197005 : Value).ownBlock)) (HO225.out) (fun k_ hk => ⟨⟨hk.1, ⟨hk.2.1, ⟨hk.2.2.1, ⟨hk.2.2.2.1, ⟨hk.2.2.2.2.2.1, hk.2.2.2.2.2.2⟩⟩⟩⟩⟩, hk.2.2.2.2.1⟩))).2.1 (Kd.V_F (Kd.V_mono (ok' := (fun k_ => ((fun k_ => (P1_ k_ ∨ w.heap.size ≤ k_) ∧ some k_ ≠ (u197002 : Value).ownBlock ∧ some k_ ≠ (u197003 : Value).ownBlock ∧ some k_ ≠ (u197004 : Value).ownBlock ∧ k_ ≠ gb191 ∧ k_ ≠ gb196)) k_ ∧ some k_ ≠ (u197005 : Value).ownBlock)) (HO225.out) (fun k_ hk => ⟨⟨hk.1, ⟨hk.2.1, ⟨hk.2.2.1, ⟨hk.2.2.2.1, ⟨hk.2.2.2.2.2.1, hk.2.2.2.2.2.2⟩⟩⟩⟩⟩, hk.2.2.2.2.1⟩)))))
                            (case aB => exact (zb HB))
                            (case aF => exact (fun k_ hk => ⟨(.inr (Nat.le_trans (below_size (zb HB)) hk)), Kd.fresh' (rlt (zr HO_197002)) k_ hk, Kd.fresh' (rlt (zr HO_197003)) k_ hk, Kd.fresh' (rlt (zr HO_197004)) k_ hk, Kd.freshB (g := gb191) (o := .cells #[.int .i64 0, .int .i64 0, .slice none 0 0, .slice none 0 0, .slice none 0 0, .slice none 0 0] 27 (0, 0)) (zk BK191) k_ hk, Kd.freshB (g := gb196) (o := .cells #[.int .i64 t192, .int .i64 t194, u197002, u197003, u197004, u197005] 27 (0, 0)) (zk BK196) k_ hk⟩))
                            (case aO => exact (by (with_reducible repeat (first | apply Kd.N_alloc | apply Kd.N_drewN | apply Kd.N_drew)); exact HO_197005.out))
                            (case aS => exact (below_size (zb HB)))
                            (case aL => have := LMc70.out; omega)
                            intro v227 w75 ho hb hg hat
                            rw [← Ny226.out] at ho
                            have n0_ := Z0 (Kd.V_afterv (ok := (fun k_ => (P1_ k_ ∨ w.heap.size ≤ k_) ∧ some k_ ≠ (u197002 : Value).ownBlock ∧ some k_ ≠ (u197003 : Value).ownBlock ∧ some k_ ≠ (u197004 : Value).ownBlock ∧ k_ ≠ gb191 ∧ k_ ≠ gb196)) (by (with_reducible repeat (first | apply Kd.V_alloc | apply Kd.V_drewN | apply Kd.V_drew)); exact Kd.V_mono HO_1.out (fun _ hk => ⟨⟨hk.1, ⟨hk.2.1, ⟨hk.2.2.1, ⟨hk.2.2.2.1, ⟨hk.2.2.2.2.2.1, hk.2.2.2.2.2.2⟩⟩⟩⟩⟩, hk.2.2.2.2.1⟩)) hg hat)
                            have n1_ := Z0 (Kd.R_over' (zr HO_197002) (Kd.N_typed (by (with_reducible repeat (first | apply Kd.N_alloc | apply Kd.N_drewN | apply Kd.N_drew)); exact HO_197005.out)) (by decide) hg)
                            have n2_ := Z0 (Kd.R_over' (zr HO_197003) (Kd.N_typed (by (with_reducible repeat (first | apply Kd.N_alloc | apply Kd.N_drewN | apply Kd.N_drew)); exact HO_197005.out)) (by decide) hg)
                            have n3_ := Z0 (Kd.R_over' (zr HO_197004) (Kd.N_typed (by (with_reducible repeat (first | apply Kd.N_alloc | apply Kd.N_drewN | apply Kd.N_drew)); exact HO_197005.out)) (by decide) hg)
                            have n4_ := Z0 (blk_grown (g := gb191) (o := .cells #[.int .i64 0, .int .i64 0, .slice none 0 0, .slice none 0 0, .slice none 0 0, .slice none 0 0] 27 (0, 0)) (zk BK191) hg (Kd.N_ne HO_197005.out BK191.out (by decide)))
                            have n5_ := Z0 (blk_grown (g := gb196) (o := .cells #[.int .i64 t192, .int .i64 t194, u197002, u197003, u197004, u197005] 27 (0, 0)) (zk BK196) hg (Kd.N_ne HO_197005.out BK196.out (by decide)))
                            have n6_ := Z0 (Kd.V_afterv (ok := (fun k_ => (P1_ k_ ∨ w.heap.size ≤ k_) ∧ some k_ ≠ (u197002 : Value).ownBlock ∧ some k_ ≠ (u197003 : Value).ownBlock ∧ some k_ ≠ (u197004 : Value).ownBlock ∧ k_ ≠ gb191 ∧ k_ ≠ gb196)) (by (with_reducible repeat (first | apply Kd.V_alloc | apply Kd.V_drewN | apply Kd.V_drew)); exact Kd.V_mono HO220.out (fun _ hk => ⟨⟨hk.1, ⟨hk.2.1, ⟨hk.2.2.1, ⟨hk.2.2.2.1, ⟨hk.2.2.2.2.2.1, hk.2.2.2.2.2.2⟩⟩⟩⟩⟩, hk.2.2.2.2.1⟩)) hg hat)
                            have n7_ := Z0 (Kd.V_afterv (ok := (fun k_ => (P1_ k_ ∨ w.heap.size ≤ k_) ∧ some k_ ≠ (u197002 : Value).ownBlock ∧ some k_ ≠ (u197003 : Value).ownBlock ∧ some k_ ≠ (u197004 : Value).ownBlock ∧ k_ ≠ gb191 ∧ k_ ≠ gb196)) (by (with_reducible repeat (first | apply Kd.V_alloc | apply Kd.V_drewN | apply Kd.V_drew)); exact Kd.V_mono HO225.out (fun _ hk => ⟨⟨hk.1, ⟨hk.2.1, ⟨hk.2.2.1, ⟨hk.2.2.2.1, ⟨hk.2.2.2.2.2.1, hk.2.2.2.2.2.2⟩⟩⟩⟩⟩, hk.2.2.2.2.1⟩)) hg hat)
                            have n8_ := Z0 (hb)
                            have n9_ := Z0 (ho)
                            clear HO_1
                            clear HO_197002
                            clear HO_197003
                            clear HO_197004
                            clear BK191
                            clear BK196
                            clear HO220
                            clear HO225
                            clear HB
                            clear HO_197005
                            have HO_1 := n0_
                            have HO_197002 := n1_
                            have HO_197003 := n2_
                            have HO_197004 := n3_
                            have BK191 := n4_
                            have BK196 := n5_
                            have HO220 := n6_
                            have HO225 := n7_
                            have HB := n8_
                            have HO228 := n9_
                            clear n0_ n1_ n2_ n3_ n4_ n5_ n6_ n7_ n8_ n9_
                            clear ho hb hg hat
                            obtain ⟨Ao76, co76, eo76⟩ := Kd.N_slice HO228.out
                            (first | subst eo76 | (injection eo76 with f1_ f2_ f3_; have f4_ := f1_.symm; have f5_ := f3_.symm; clear f1_ f2_ f3_; subst f4_; subst f5_))
                            refine hK.out _ _ ⟨(kc BK196.out 0).trans rfl, (kc BK196.out 1).trans rfl, (kc BK196.out 2).trans rfl, (kc BK196.out 3).trans rfl, (kc BK196.out 4).trans rfl, (kc BK196.out 5).trans rfl⟩ (fun hHeld => ?_)
                            clear hK K
                            refine norm_ (a' := ?_) ?_ ?_
                            rotate_left
                            ·show Act.put _ (some 150) _ = _
                             simp only [Act.put, y0, y1, y2, i64_w, i32_w]
                             rfl
                            refine pu 21 (some 151) (bz 23 0x3fffff) HT_ ?_
                            refine last_ (i := 22) (N := none) (bz 23 0x7fffff) rfl rfl (one_of HT_.out (by kernel_rfl)) (by decide) (fun K hK => ?_)
                            have hs77 : w75.cell? ⟨gb196, 5, none⟩ = some (u197005) := (kc BK196.out 5).trans rfl
                            have hfs77 := blk_frozen BK196.out 5
                            have hns77_0 := NB191_196.out
                            have hms77_0 := NB196_191.out
                            refine skip_ (w1 := ?_) (by rfl) rfl ?_ ?_; rotate_left; go_simp; rfl
                            refine hK.out _ _ ?_
                            clear hK K
                            refine done_ (done_of HT_.out (by kernel_rfl)) ?_
                            try go_wp2
                            go_roundg k4
                            case measure => have := HK1.out; have := HK2.out; have := HK3.out; have := HK4.out; omega
                            case rel => exact ⟨(wrap64 ((ji66) + (rd l1 (ji59)))), (wrap64 (x14_4 + 1)), (y226), (.slice Ao76 y226.length co76), (by first | rfl | (simp; done) | (simp only [← hji59, ← hji66] <;> (first | rfl | simp)) | (simp [*]; done)), zs, H', ⟨by have := HK1.out; have := HK2.out; have := HK3.out; have := HK4.out; omega⟩, ⟨by (with_reducible repeat (first | apply Kd.V_alloc | apply Kd.V_drewN | apply Kd.V_drew)); exact Kd.V_mono (Kd.V_far (p := ⟨gb196, 5, none⟩) (Kd.V_mono HO_1.out (fun k_ hk => (⟨hk, hk.1.2.2.2.2.2⟩ : _ ∧ k_ ≠ gb196))) (fun _ hk => hk.2) (.slice Ao76 y226.length co76)) (fun _ hk => ⟨hk.1.1.1, ⟨hk.1.1.2.1, ⟨hk.1.1.2.2.1, ⟨hk.1.1.2.2.2.1, ⟨hk.1.2, ⟨hk.1.1.2.2.2.2.1, hk.1.1.2.2.2.2.2⟩⟩⟩⟩⟩⟩)⟩, ⟨by (with_reducible repeat (first | apply ra | apply rn | apply rd_)); exact rm (Kd.R_far (p := ⟨gb196, 5, none⟩) (Kd.R_types HO_197002.out BK196.out (by decide)) (fun _ hk => hk.2) (.slice Ao76 y226.length co76)) (fun _ hk => hk.1)⟩, ⟨by (with_reducible repeat (first | apply ra | apply rn | apply rd_)); exact rm (Kd.R_far (p := ⟨gb196, 5, none⟩) (Kd.R_types HO_197003.out BK196.out (by decide)) (fun _ hk => hk.2) (.slice Ao76 y226.length co76)) (fun _ hk => hk.1)⟩, ⟨by (with_reducible repeat (first | apply ra | apply rn | apply rd_)); exact rm (Kd.R_far (p := ⟨gb196, 5, none⟩) (Kd.R_types HO_197004.out BK196.out (by decide)) (fun _ hk => hk.2) (.slice Ao76 y226.length co76)) (fun _ hk => hk.1)⟩, ⟨by (with_reducible repeat (first | apply Kd.N_alloc | apply Kd.N_drewN | apply Kd.N_drew)); exact Kd.N_mono (Kd.N_far (p := ⟨gb196, 5, none⟩) (Kd.N_mono HO228.out (fun k_ hk => (⟨hk, hk.2.2.2.2.2⟩ : _ ∧ k_ ≠ gb196))) (fun _ hk => hk.2) (.slice Ao76 y226.length co76)) (fun _ hk => ⟨hk.1.1, ⟨hk.1.2.1, ⟨hk.1.2.2.1, ⟨hk.1.2.2.2.1, ⟨hk.1.2.2.2.2.1, hk.1.2.2.2.2.2⟩⟩⟩⟩⟩)⟩, ⟨by (with_reducible repeat (first | refine kn ?_ _ | refine kd_ ?_ | refine ka ?_ _)); refine blk_far ?_ NB191_196.out _; (with_reducible repeat (first | refine kn ?_ _ | refine kd_ ?_ | refine ka ?_ _)); exact BK191.out⟩, ⟨by (with_reducible repeat (first | refine kn ?_ _ | refine kd_ ?_ | refine ka ?_ _)); refine blk_put (cs := #[.int .i64 t192, .int .i64 t194, u197002, u197003, u197004, u197005]) ?_ 5 _ rfl; (with_reducible repeat (first | refine kn ?_ _ | refine kd_ ?_ | refine ka ?_ _)); exact BK196.out⟩, ⟨zb HB⟩⟩
                           ·rw [if_neg c70] at H
                            exact absurd H (by simp)
                          ·rw [if_neg c69] at H
                           exact absurd H (by simp)
                         ·rw [if_neg c68] at H
                          exact absurd H (by simp)
                        ·rw [if_neg c67] at H
                         exact absurd H (by simp)
                       ·rw [if_neg c65] at H
                        exact absurd H (by simp)
                      ·rw [if_neg c64] at H
                       exact absurd H (by simp)
                     ·rw [if_neg c63] at H
                      exact absurd H (by simp)
                    ·rw [if_neg c61] at H
                     exact absurd H (by simp)
                   ·rw [if_neg c60] at H
                    exact absurd H (by simp)
                  ·rw [if_neg c58] at H
                   exact absurd H (by simp)
                 ·rw [if_neg c57] at H
                  exact absurd H (by simp)
                ·rw [if_neg c56] at H
                 have c56b0 : decide (x14_4 < (wrap64 (bt a0 8))) = false := decide_eq_false c56
                 clear c56
                 simp only [Option.some.injEq, Prod.mk.injEq] at H
                 obtain ⟨rfl, rfl, rfl, rfl, rfl, rfl⟩ := H
                 have p55 : 0 ≤ (8 : Int) := (by omega)
                 have q55 : 8 < a0.size := (by have : (8 : Int) < (a0.size : Int) := od; omega)
                 have hx55 : ∀ h : 8 < a0.size, ((a0[8]'h).toNat : Int) = bt a0 8 := bt_at a0 8
                 clear p55
                 have qi55 : (8 < (a0.size : Int)) = True := eq_true (of_decide_eq_true (by first | (with_reducible assumption) | assumption))
                 replace q55 := eq_true q55
                 have hnb78 := NB196_191.out
                 have hnc78 := NB191_196.out
                 have hcz79_0 := kz0 BK196
                 have hcz79_1 := kz1 BK196
                 have hcz79_2 := kz2 BK196
                 have hcz79_3 : wr.cell? ⟨gb196, 3, none⟩ = some (u197003) := (kc BK196.out 3).trans rfl
                 have hcz79_4 : wr.cell? ⟨gb196, 4, none⟩ = some (u197004) := (kc BK196.out 4).trans rfl
                 have hcz79_5 : wr.cell? ⟨gb196, 5, none⟩ = some (u197005) := (kc BK196.out 5).trans rfl
                 have hfz79_0 := blk_frozen BK196.out 0
                 have hfz79_1 := blk_frozen BK196.out 1
                 have hfz79_2 := blk_frozen BK196.out 2
                 have hfz79_3 := blk_frozen BK196.out 3
                 have hfz79_4 := blk_frozen BK196.out 4
                 have hfz79_5 := blk_frozen BK196.out 5
                 have hcz80_0 := kz0 BK191
                 have hcz80_1 := kz1 BK191
                 have hcz80_2 := kz2 BK191
                 have hcz80_3 : wr.cell? ⟨gb191, 3, none⟩ = some (.slice none 0 0) := (kc BK191.out 3).trans rfl
                 have hcz80_4 : wr.cell? ⟨gb191, 4, none⟩ = some (.slice none 0 0) := (kc BK191.out 4).trans rfl
                 have hcz80_5 : wr.cell? ⟨gb191, 5, none⟩ = some (.slice none 0 0) := (kc BK191.out 5).trans rfl
                 have hfz80_0 := blk_frozen BK191.out 0
                 have hfz80_1 := blk_frozen BK191.out 1
                 have hfz80_2 := blk_frozen BK191.out 2
                 have hfz80_3 := blk_frozen BK191.out 3
                 have hfz80_4 := blk_frozen BK191.out 4
                 have hfz80_5 := blk_frozen BK191.out 5
                 obtain ⟨Ao81, co81, eo81⟩ := Kd.R_slice HO_197002.out
                 subst eo81
                 obtain ⟨Ao82, co82, eo82⟩ := Kd.R_slice HO_197003.out
                 subst eo82
                 obtain ⟨Ao83, co83, eo83⟩ := Kd.R_slice HO_197004.out
                 subst eo83
                 obtain ⟨Ao84, co84, eo84⟩ := Kd.N_slice HO_197005.out
                 subst eo84
                 go_wp2
                 refine bodyPost_ret (results_cell_row rfl _ _ gb191 27 #[.int .i64 t192, .int .i64 t194, .slice Ao81 x197002_1.length co81, .slice Ao82 x197003_2.length co82, .slice Ao83 x197004_3.length co83, .slice Ao84 x197005_4.length co84] (0, 0) _ rfl (by (with_reducible repeat (first | refine kn ?_ _ | refine kd_ ?_ | refine ka ?_ _)); refine blk_put (cs := #[.int .i64 t192, .int .i64 t194, .slice Ao81 x197002_1.length co81, .slice Ao82 x197003_2.length co82, .slice Ao83 x197004_3.length co83, .slice none 0 0]) ?_ 5 _ rfl; (with_reducible repeat (first | refine kn ?_ _ | refine kd_ ?_ | refine ka ?_ _)); refine blk_put (cs := #[.int .i64 t192, .int .i64 t194, .slice Ao81 x197002_1.length co81, .slice Ao82 x197003_2.length co82, .slice none 0 0, .slice none 0 0]) ?_ 4 _ rfl; (with_reducible repeat (first | refine kn ?_ _ | refine kd_ ?_ | refine ka ?_ _)); refine blk_put (cs := #[.int .i64 t192, .int .i64 t194, .slice Ao81 x197002_1.length co81, .slice none 0 0, .slice none 0 0, .slice none 0 0]) ?_ 3 _ rfl; (with_reducible repeat (first | refine kn ?_ _ | refine kd_ ?_ | refine ka ?_ _)); refine blk_put (cs := #[.int .i64 t192, .int .i64 t194, .slice none 0 0, .slice none 0 0, .slice none 0 0, .slice none 0 0]) ?_ 2 _ rfl; (with_reducible repeat (first | refine kn ?_ _ | refine kd_ ?_ | refine ka ?_ _)); refine blk_put (cs := #[.int .i64 t192, .int .i64 0, .slice none 0 0, .slice none 0 0, .slice none 0 0, .slice none 0 0]) ?_ 1 _ rfl; (with_reducible repeat (first | refine kn ?_ _ | refine kd_ ?_ | refine ka ?_ _)); refine blk_put (cs := #[.int .i64 0, .int .i64 0, .slice none 0 0, .slice none 0 0, .slice none 0 0, .slice none 0 0]) ?_ 0 _ rfl; (with_reducible repeat (first | refine kn ?_ _ | refine kd_ ?_ | refine ka ?_ _)); exact BK191.out) Tryz.underlying27 rfl (by kernel_rfl)) rfl ?_
                 exact ⟨_, _, _, _, ze, by (with_reducible repeat (first | apply ra | apply rn | apply rd_)); exact rm (Kd.R_far (p := ⟨gb191, 5, none⟩) (Kd.R_far (p := ⟨gb191, 4, none⟩) (Kd.R_far (p := ⟨gb191, 3, none⟩) (Kd.R_far (p := ⟨gb191, 2, none⟩) (Kd.R_far (p := ⟨gb191, 1, none⟩) (Kd.R_far (p := ⟨gb191, 0, none⟩) (Kd.R_types HO_197002.out BK191.out (by decide)) (fun _ hk => hk.2) (.int .i64 t192)) (fun _ hk => hk.2) (.int .i64 t194)) (fun _ hk => hk.2) (.slice Ao81 x197002_1.length co81)) (fun _ hk => hk.2) (.slice Ao82 x197003_2.length co82)) (fun _ hk => hk.2) (.slice Ao83 x197004_3.length co83)) (fun _ hk => hk.2) (.slice Ao84 x197005_4.length co84)) (fun _ hk => hk.1), by (with_reducible repeat (first | apply ra | apply rn | apply rd_)); exact rm (Kd.R_far (p := ⟨gb191, 5, none⟩) (Kd.R_far (p := ⟨gb191, 4, none⟩) (Kd.R_far (p := ⟨gb191, 3, none⟩) (Kd.R_far (p := ⟨gb191, 2, none⟩) (Kd.R_far (p := ⟨gb191, 1, none⟩) (Kd.R_far (p := ⟨gb191, 0, none⟩) (Kd.R_types HO_197003.out BK191.out (by decide)) (fun _ hk => hk.2) (.int .i64 t192)) (fun _ hk => hk.2) (.int .i64 t194)) (fun _ hk => hk.2) (.slice Ao81 x197002_1.length co81)) (fun _ hk => hk.2) (.slice Ao82 x197003_2.length co82)) (fun _ hk => hk.2) (.slice Ao83 x197004_3.length co83)) (fun _ hk => hk.2) (.slice Ao84 x197005_4.length co84)) (fun _ hk => hk.1), by (with_reducible repeat (first | apply ra | apply rn | apply rd_)); exact rm (Kd.R_far (p := ⟨gb191, 5, none⟩) (Kd.R_far (p := ⟨gb191, 4, none⟩) (Kd.R_far (p := ⟨gb191, 3, none⟩) (Kd.R_far (p := ⟨gb191, 2, none⟩) (Kd.R_far (p := ⟨gb191, 1, none⟩) (Kd.R_far (p := ⟨gb191, 0, none⟩) (Kd.R_types HO_197004.out BK191.out (by decide)) (fun _ hk => hk.2) (.int .i64 t192)) (fun _ hk => hk.2) (.int .i64 t194)) (fun _ hk => hk.2) (.slice Ao81 x197002_1.length co81)) (fun _ hk => hk.2) (.slice Ao82 x197003_2.length co82)) (fun _ hk => hk.2) (.slice Ao83 x197004_3.length co83)) (fun _ hk => hk.2) (.slice Ao84 x197005_4.length co84)) (fun _ hk => hk.1), by (with_reducible repeat (first | apply Kd.N_alloc | apply Kd.N_drewN | apply Kd.N_drew)); exact Kd.N_mono (Kd.N_far (p := ⟨gb191, 5, none⟩) (Kd.N_far (p := ⟨gb191, 4, none⟩) (Kd.N_far (p := ⟨gb191, 3, none⟩) (Kd.N_far (p := ⟨gb191, 2, none⟩) (Kd.N_far (p := ⟨gb191, 1, none⟩) (Kd.N_far (p := ⟨gb191, 0, none⟩) (Kd.N_mono HO_197005.out (fun k_ hk => (⟨hk, hk.2.2.2.2.1⟩ : _ ∧ k_ ≠ gb191))) (fun _ hk => hk.2) (.int .i64 t192)) (fun _ hk => hk.2) (.int .i64 t194)) (fun _ hk => hk.2) (.slice Ao81 x197002_1.length co81)) (fun _ hk => hk.2) (.slice Ao82 x197003_2.length co82)) (fun _ hk => hk.2) (.slice Ao83 x197004_3.length co83)) (fun _ hk => hk.2) (.slice Ao84 x197005_4.length co84)) (fun _ hk => ⟨hk.1.1, ⟨hk.1.2.1, ⟨hk.1.2.2.1, hk.1.2.2.2.1⟩⟩⟩), zb HB⟩
               ·rw [if_neg c54] at H
                exact absurd H (by simp)
           ·rw [if_neg c38] at H
            exact absurd H (by simp)
       ·rw [if_neg c25] at H
        exact absurd H (by simp)
   ·rw [if_neg c9] at H
    exact absurd H (by simp)
end Go.Proofs.YtokhibhmlninnaaGreatDoor.PCodB
