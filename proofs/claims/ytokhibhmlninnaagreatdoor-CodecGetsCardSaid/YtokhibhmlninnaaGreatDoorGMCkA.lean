/- Texts of this work, put into one. -/
import Derived.Test.YtokhibhmlninnaaGreatDoorGMP
import Derived.Test.YtokhibhmlninnaaGreatDoorGMPl
import Derived.WalkKit
import Derived.Lib.Hide
set_option linter.unusedVariables false
set_option linter.unusedSimpArgs false
namespace Go.Proofs.YtokhibhmlninnaaGreatDoor
open Go.RowKit Go.Proofs.YtokhibhmlninnaaGreatDoorW.PrintWords
def DbAt (w : World) : Prop := 3 < w.heap.size ∧ ∀ i : Nat, i < 64 → ∃ v : Int, (0 ≤ v ∧ v < 256) ∧ w.cell? ⟨3, i, none⟩ = some (.int .u8 v)
theorem DbAt.below {w w' : World} (h : DbAt w) (hb : Below w.heap.size w w') : DbAt w' :=
 ⟨Nat.lt_of_lt_of_le h.1 hb.size, fun i hi => by rw [hb.cell h.1]; exact h.2 i hi⟩
def SomeInt (w : World) (e : Ending) (w' : World) : Prop := ∃ v : Int, e = .returned (.int .i64 v) ∧ w = w'
theorem u64_in (x : Int) : 0 ≤ IntKind.u64.wrap x ∧ IntKind.u64.wrap x < 18446744073709551616 := by
 have h : IntKind.u64.wrap x = x % 18446744073709551616 := rfl
 rw [h]; omega
set_option maxHeartbeats 1000000 in
theorem tz_any (x : Int) (w : World) (hx : 0 < x ∧ x < 18446744073709551616) (hd : DbAt w) : Calls Tryz.prog 103 #[.int .u64 x] w (SomeInt w) := by
 obtain ⟨P, hP⟩ : ∃ P : Int, P = IntKind.u64.wrap ((Go.bits .and .u64 x (IntKind.u64.wrap (-x))) * 285870213051353865) := ⟨_, rfl⟩
 have hb : 0 ≤ P ∧ P < 18446744073709551616 := by rw [hP]; exact u64_in _
 obtain ⟨j, hj⟩ : ∃ j : Nat, P / 288230376151711744 = j := ⟨(P / 288230376151711744).toNat, by omega⟩
 obtain ⟨v, hv, hc⟩ := hd.2 j (by omega)
 have hcw : w.cell? ⟨3, (IntKind.u64.wrap (Go.bits BinOp.and IntKind.u64 x (IntKind.u64.wrap (-x)) * 285870213051353865) / 288230376151711744).toNat, none⟩ = some (.int .u8 v) := by rw [← hP, hj, Int.toNat_natCast]; exact hc
 have hlo : 0 ≤ IntKind.u64.wrap (Go.bits BinOp.and IntKind.u64 x (IntKind.u64.wrap (-x)) * 285870213051353865) / 288230376151711744 := by rw [← hP]; omega
 have hhi : IntKind.u64.wrap (Go.bits BinOp.and IntKind.u64 x (IntKind.u64.wrap (-x)) * 285870213051353865) / 288230376151711744 < 64 := by rw [← hP]; omega
 have hx0 : (x == 0) = false := by simp; omega
 have hv1 := hv.1
 have hv2 := hv.2
 clear hd hP hb hj hc hv
 go_enter Tryz.func103, Tryz.ntmps103
 go_wp2
 go_ret
 exact ⟨_, rfl, rfl⟩
theorem tzu_any (x : Int) (w : World) (hx : 0 < x ∧ x < 18446744073709551616) (hd : DbAt w) : Calls Tryz.prog 73 #[.int .u64 x] w (SomeInt w) := by
 have C := Lib.hid (tz_any x w hx hd)
 clear hd hx
 go_enter Tryz.func73, Tryz.ntmps73
 go_wp2_with fail
 refine C.out.mono ?_
 rintro e w' ⟨v, rfl, rfl⟩
 go_wp2
 go_ret
 exact ⟨_, rfl, rfl⟩
theorem ones_pow : (List.range 4097).all (fun n => (PCod.bits_OnesCount.f (n : Int) == some 1) == CodPlain.powB (n : Int)) = true := by decide +kernel
theorem ones_some (x : Int) : ∃ c, PCod.bits_OnesCount.f x = some c := ⟨_, rfl⟩
def TwoPost (n : Int) (w : World) (e : Ending) (w' : World) : Prop := ∃ (v : Int) (b : Bool), e = .returned (.tuple #[.int .i64 v, .bool b]) ∧ (n ≤ 4096 → b = CodPlain.powB n) ∧ ∃ k, w' = w.drewN k
theorem pow_neg {n : Int} (h : n < 0) : CodPlain.powB n = false := by
 cases hp : CodPlain.powB n with
 | false => rfl
 | true => have := CodPlain.pow_in hp; omega
theorem ones_in {n c : Int} (h0 : 0 ≤ n) (h1 : n ≤ 4096) (hc : PCod.bits_OnesCount.f n = some c) : CodPlain.powB n = (c == 1) := by
 have := List.all_eq_true.1 ones_pow n.toNat (List.mem_range.2 (by omega))
 rw [show ((n.toNat : Nat) : Int) = n by omega, hc, beq_iff_eq] at this
 rw [← this]; rfl
theorem DbAt.drew {w : World} (h : DbAt w) (k : Nat) : DbAt (w.drewN k) := h.below (pw_below_drewN (Below.refl _ _) k)
theorem u64_id {n : Int} (h : 0 ≤ n ∧ n < 18446744073709551616) : IntKind.u64.wrap n = n := by
 have h2 : IntKind.u64.wrap n = n % 18446744073709551616 := rfl
 rw [h2]; omega
set_option maxHeartbeats 1000000 in
theorem two_any (n : Int) (w : World) (hd : DbAt w) : Calls Tryz.prog 41 #[.int .i64 n] w (TwoPost n w) := by
 by_cases h0 : n < 0
 ·have C := Lib.hid (fun w1 => PCod.num_Check.calls n 10 w1 (by unfold PCod.num_Check.f; rw [if_pos h0]))
  have HP := Lib.hid (pow_neg h0)
  clear hd
  go_enter Tryz.func41, Tryz.ntmps41
  go_wp2_with fail
  refine (C.out _).mono ?_
  rintro e w' ⟨rfl, ⟨k, rfl⟩⟩
  go_wp2
  go_ret2
  exact ⟨_, _, rfl, fun _ => HP.out.symm, k, rfl⟩
 ·by_cases h1 : n > 1099511627775
  ·have C := Lib.hid (fun w1 => PCod.num_Check.calls n 11 w1 (by unfold PCod.num_Check.f; rw [if_neg h0, if_pos h1]))
   have HN := Lib.hid (show 4096 < n by omega)
   clear hd h1 h0
   go_enter Tryz.func41, Tryz.ntmps41
   go_wp2_with fail
   refine (C.out _).mono ?_
   rintro e w' ⟨rfl, ⟨k, rfl⟩⟩
   go_wp2
   go_ret2
   exact ⟨_, _, rfl, fun h => absurd HN.out (by omega), k, rfl⟩
  ·have C := Lib.hid (fun w1 => PCod.num_Check.calls n 0 w1 (by unfold PCod.num_Check.f; rw [if_neg h0, if_neg h1]))
   obtain ⟨c, hc⟩ := ones_some n
   have C2 := Lib.hid (fun w1 => PCod.bits_OnesCount.calls n c w1 hc)
   have HW := Lib.hid (u64_id (n := n) ⟨by omega, by omega⟩)
   have HIN := Lib.hid (show 0 ≤ n ∧ (n ≤ 4096 → CodPlain.powB n = (c == 1)) from ⟨by omega, fun h => ones_in (by omega) h hc⟩)
   by_cases hc1 : c = 1
   ·have hz : n ≠ 0 := fun e => by
     subst e
     have : PCod.bits_OnesCount.f 0 = some 0 := by decide +kernel
     rw [this] at hc
     have := Option.some.inj hc
     omega
    have C3 := Lib.hid (fun w1 h => tzu_any n w1 ⟨by omega, by omega⟩ h)
    have HD := Lib.hid hd
    subst hc1
    clear hd hz h0 h1 hc
    go_enter Tryz.func41, Tryz.ntmps41
    go_wp2_with fail
    refine (C.out _).mono ?_
    rintro e w' ⟨rfl, ⟨k, rfl⟩⟩
    have hw := HW.out
    go_wp2_with fail
    refine (C2.out _).mono ?_
    rintro e w' ⟨rfl, ⟨k2, rfl⟩⟩
    go_wp2_with fail
    refine (C3.out _ (HD.out.drew (k + k2))).mono ?_
    rintro e w' ⟨v, rfl, rfl⟩
    go_wp2
    go_ret2
    exact ⟨_, _, rfl, fun h => by rw [HIN.out.2 h]; rfl, k + k2, rfl⟩
   ·have hcb : (c == 1) = false := by simp [hc1]
    have hcn : (c != 1) = true := by simp [hc1]
    clear hd h0 h1 hc hc1
    go_enter Tryz.func41, Tryz.ntmps41
    go_wp2_with fail
    refine (C.out _).mono ?_
    rintro e w' ⟨rfl, ⟨k, rfl⟩⟩
    have hw := HW.out
    go_wp2_with fail
    refine (C2.out _).mono ?_
    rintro e w' ⟨rfl, ⟨k2, rfl⟩⟩
    go_wp2
    go_ret2
    exact ⟨_, _, rfl, fun h => by rw [HIN.out.2 h]; exact hcb.symm, k + k2, rfl⟩
end Go.Proofs.YtokhibhmlninnaaGreatDoor

set_option linter.unusedVariables false
set_option linter.unusedSimpArgs false
namespace Go.Proofs.YtokhibhmlninnaaGreatDoor
open Go.RowKit Go.Proofs.YtokhibhmlninnaaGreatDoorW.PrintWords
def tP (x : PCod.S47) : Int × Int × Int := (x.f0, x.f1, x.f2)
theorem part_f (x : PCod.S47) : PCod.desc_part.f x.f0 x.f1 x.f2 = some (CodPlain.partOdd (tP x)) := by
 unfold PCod.desc_part.f PCod.desc_within.f CodPlain.partOdd CodPlain.inB tP
 by_cases h1 : 0 ≤ x.f0 <;> by_cases h2 : x.f0 ≤ 5 <;> by_cases h3 : 0 ≤ x.f1 <;> by_cases h4 : x.f1 ≤ 2147483647 <;> by_cases h5 : 1 ≤ x.f2 <;> by_cases h6 : x.f2 ≤ 100 <;> simp [h1, h2, h3, h4, h5, h6]
def IdxPPost (w : World) (xs : List PCod.S47) (e : Ending) (w' : World) : Prop := ∃ i : Int, e = .returned (.int .i64 i) ∧ (0 ≤ i ↔ xs.any (fun x => CodPlain.partOdd (tP x)) = true) ∧ -1 ≤ i ∧ Below w.heap.size w w'
set_option maxHeartbeats 2000000 in
theorem idxP_any (A : Option Addr) (c : Nat) (xs : List PCod.S47) (w : World) (hx : Kd.C PCod.k47 w A xs.length xs) (hm : xs.length ≤ 1000) :
  Calls Tryz.prog 74 #[.slice A xs.length c, .func (Fn.func 43) #[] #[]] w (IdxPPost w xs) := by
 have HX := Lib.hid hx
 clear hx
 go_enter Tryz.func74, Tryz.ntmps74
 go_wp2_with fail
 go_loopw [8] (fun i wr => ∃ k : Nat, k ≤ xs.length ∧ i = .int .i64 k ∧ Hid (∀ j, j < k → CodPlain.partOdd (tP (xs.getD j PCod.z47)) = false) ∧ Hid (Below w.heap.size w wr)) (fun i _ => xs.length - (intOf i).toNat)
 case atStart => exact ⟨0, Nat.zero_le _, rfl, by show ∀ j, j < 0 → _; omega, Below.refl _ _⟩
 case round =>
  obtain ⟨k, hk, rfl, HN, HBW⟩ := hrel
  by_cases hlt : k < xs.length
  ·obtain ⟨ad, hA, hc0, hc1, hc2⟩ := PCod.at_T47 (Kd.C_below HX.out HBW.out) (k : Int) (by omega) (by omega)
   subst hA
   have hrd : PCod.rd_T47 xs (k : Int) = xs.getD k PCod.z47 := by unfold PCod.rd_T47; rw [Int.toNat_natCast]
   rw [Int.toNat_natCast, hrd] at hc0 hc1 hc2
   have hmem : xs.getD k PCod.z47 ∈ xs := CodPlain.getD_in hlt
   have HM := Lib.hid hmem
   obtain ⟨y, hy⟩ : ∃ y, y = xs.getD k PCod.z47 := ⟨_, rfl⟩
   rw [← hy] at hc0 hc1 hc2 HM
   have HNN := Lib.hid hy
   clear hmem hy hrd
   cases ho : CodPlain.partOdd (tP y) with
   | true =>
    have C := Lib.hid (fun w1 => PCod.desc_part.calls y.f0 y.f1 y.f2 true w1 (by rw [part_f, ho]))
    have HA : Hid (xs.any (fun x => CodPlain.partOdd (tP x)) = true) := List.any_eq_true.2 ⟨y, HM.out, ho⟩
    clear ho
    go_wp2_with fail
    refine (C.out _).mono ?_
    rintro e w1 ⟨rfl, hb⟩
    have HB1 := Lib.hid (HBW.out.trans (hb.mono HBW.out.size))
    clear hb hc0 hc1 hc2 HBW
    go_wp2_with fail
    go_ret
    exact ⟨_, rfl, ⟨fun _ => HA.out, fun _ => by omega⟩, by omega, HB1.out⟩
   | false =>
    have C := Lib.hid (fun w1 => PCod.desc_part.calls y.f0 y.f1 y.f2 false w1 (by rw [part_f, ho]))
    have HN2 : Hid (∀ j, j < k + 1 → CodPlain.partOdd (tP (xs.getD j PCod.z47)) = false) := by
     show ∀ j, j < k + 1 → _
     intro j hj
     by_cases e : j = k
     ·rw [e, ← HNN.out]; exact ho
     ·exact HN.out j (by omega)
    clear ho
    go_wp2_with fail
    refine (C.out _).mono ?_
    rintro e w1 ⟨rfl, hb⟩
    have HB1 := Lib.hid (HBW.out.trans (hb.mono HBW.out.size))
    clear hb hc0 hc1 hc2 HBW
    go_wp2_with fail
    go_roundw
    case rel => exact ⟨k + 1, by omega, by go_num, HN2, HB1⟩
    case measure => simp [intOf]; omega
  ·obtain rfl : k = xs.length := by omega
   have HA : Hid (¬ xs.any (fun x => CodPlain.partOdd (tP x)) = true) := by
    show ¬ _
    rw [List.any_eq_true]
    rintro ⟨y, hy, ho⟩
    obtain ⟨j, hj, rfl⟩ := CodPlain.getD_of_mem (d := PCod.z47) hy
    have := HN.out j hj
    rw [this] at ho; cases ho
   clear HN
   go_wp2_with fail
   go_ret
   exact ⟨_, rfl, ⟨fun h => by omega, fun h => absurd h HA.out⟩, by omega, HBW.out⟩
set_option maxHeartbeats 400000 in
theorem contP_any (A : Option Addr) (c : Nat) (xs : List PCod.S47) (w : World) (hx : Kd.C PCod.k47 w A xs.length xs) (hm : xs.length ≤ 1000) :
  Calls Tryz.prog 42 #[.slice A xs.length c, .func (Fn.func 43) #[] #[]] w fun e w' => e = .returned (.bool (xs.any (fun x => CodPlain.partOdd (tP x)))) ∧ Below w.heap.size w w' := by
 have C := Lib.hid (idxP_any A c xs w hx hm)
 clear hx
 cases ho : xs.any (fun x => CodPlain.partOdd (tP x)) with
 | true =>
  have HO := Lib.hid ho
  clear ho
  go_enter Tryz.func42, Tryz.ntmps42
  go_wp2_with fail
  refine C.out.mono ?_
  rintro e w1 ⟨i, rfl, h1, h2, hb⟩
  have h0 : 0 ≤ i := h1.2 HO.out
  have HB := Lib.hid hb
  clear h1 hb
  go_wp2_with fail
  go_ret
  exact ⟨by simp [h0], HB.out⟩
 | false =>
  have HO : Hid (¬ xs.any (fun x => CodPlain.partOdd (tP x)) = true) := by rw [ho]; show ¬ _; simp
  clear ho
  go_enter Tryz.func42, Tryz.ntmps42
  go_wp2_with fail
  refine C.out.mono ?_
  rintro e w1 ⟨i, rfl, h1, h2, hb⟩
  have h0 : ¬ 0 ≤ i := fun h => HO.out (h1.1 h)
  have HB := Lib.hid hb
  clear h1 hb
  go_wp2_with fail
  go_ret
  exact ⟨by simp [h0], HB.out⟩
end Go.Proofs.YtokhibhmlninnaaGreatDoor

set_option linter.unusedVariables false
set_option linter.unusedSimpArgs false
namespace Go.Proofs.YtokhibhmlninnaaGreatDoor
open Go.RowKit Go.Proofs.YtokhibhmlninnaaGreatDoorW.PrintWords
def agB (fu fa : Int) (x : PCod.S65) : Bool := x.f1 == fu && x.f2 == fa
set_option maxHeartbeats 1000000 in
theorem ag_any (g : Nat) (fm fu fa : Int) (x : PCod.S65) (w : World) (hg : w.heap[g]? = some (.cells #[.int .i64 fm, .int .i64 fu, .int .i64 fa] 65 (0, 0))) :
  Calls Tryz.prog 46 #[.agg #[.int .i64 x.f0, .int .i64 x.f1, .int .i64 x.f2], .pointer (some ⟨g, 0, none⟩)] w fun e w' => e = .returned (.bool (agB fu fa x)) ∧ Below w.heap.size w w' := by
 have hlt := blk_lt hg
 have h1 : w.cell? ⟨g, 1, none⟩ = some (.int .i64 fu) := (blk_cell hg 1).trans rfl
 have h2 : w.cell? ⟨g, 2, none⟩ = some (.int .i64 fa) := (blk_cell hg 2).trans rfl
 have hne : g ≠ w.heap.size := Nat.ne_of_lt hlt
 clear hg
 by_cases e1 : x.f1 = fu
 ·have b1 : (x.f1 == fu) = true := by simp [e1]
  have HR : Hid (agB fu fa x = (x.f2 == fa)) := by show _ = _; unfold agB; rw [b1, Bool.true_and]
  clear e1
  go_enter Tryz.func46, Tryz.ntmps46
  go_wp2
  go_ret
  exact ⟨by rw [HR.out]; rfl, (Below.refl _ _).alloc (Nat.le_refl _) _⟩
 ·have b1 : (x.f1 == fu) = false := by simp [e1]
  have HR : Hid (agB fu fa x = false) := by show _ = _; unfold agB; rw [b1, Bool.false_and]
  clear e1
  go_enter Tryz.func46, Tryz.ntmps46
  go_wp2
  go_ret
  exact ⟨by rw [HR.out]; rfl, (Below.refl _ _).alloc (Nat.le_refl _) _⟩
def IdxFPost (w : World) (fu fa : Int) (xs : List PCod.S65) (e : Ending) (w' : World) : Prop := ∃ i : Int, e = .returned (.int .i64 i) ∧ (0 ≤ i ↔ xs.any (agB fu fa) = true) ∧ -1 ≤ i ∧ Below w.heap.size w w'
set_option maxHeartbeats 2000000 in
theorem idxF_any (g : Nat) (fm fu fa : Int) (A : Option Addr) (c : Nat) (xs : List PCod.S65) (w : World) (hx : Kd.C PCod.k65 w A xs.length xs) (hm : xs.length ≤ 1000) (hg : w.heap[g]? = some (.cells #[.int .i64 fm, .int .i64 fu, .int .i64 fa] 65 (0, 0))) :
  Calls Tryz.prog 76 #[.slice A xs.length c, .func (Fn.func 46) #[] #[.pointer (some ⟨g, 0, none⟩)]] w (IdxFPost w fu fa xs) := by
 have HX := Lib.hid hx
 have HG := Lib.hid hg
 clear hx hg
 go_enter Tryz.func76, Tryz.ntmps76
 go_wp2_with fail
 go_loopw [8] (fun i wr => ∃ k : Nat, k ≤ xs.length ∧ i = .int .i64 k ∧ Hid (∀ j, j < k → agB fu fa (xs.getD j PCod.z65) = false) ∧ Hid (Below w.heap.size w wr)) (fun i _ => xs.length - (intOf i).toNat)
 case atStart => exact ⟨0, Nat.zero_le _, rfl, by show ∀ j, j < 0 → _; omega, Below.refl _ _⟩
 case round =>
  obtain ⟨k, hk, rfl, HN, HBW⟩ := hrel
  by_cases hlt : k < xs.length
  ·obtain ⟨ad, hA, hc0, hc1, hc2⟩ := PCod.at_T65 (Kd.C_below HX.out HBW.out) (k : Int) (by omega) (by omega)
   subst hA
   have hrd : PCod.rd_T65 xs (k : Int) = xs.getD k PCod.z65 := by unfold PCod.rd_T65; rw [Int.toNat_natCast]
   rw [Int.toNat_natCast, hrd] at hc0 hc1 hc2
   have hmem : xs.getD k PCod.z65 ∈ xs := CodPlain.getD_in hlt
   have HM := Lib.hid hmem
   obtain ⟨y, hy⟩ : ∃ y, y = xs.getD k PCod.z65 := ⟨_, rfl⟩
   rw [← hy] at hc0 hc1 hc2 HM
   have HNN := Lib.hid hy
   clear hmem hy hrd
   cases ho : agB fu fa y with
   | true =>
    have C := Lib.hid (fun w1 h => ag_any g fm fu fa y w1 h)
    rw [ho] at C
    have HA : Hid (xs.any (agB fu fa) = true) := List.any_eq_true.2 ⟨y, HM.out, ho⟩
    clear ho
    go_wp2_with fail
    refine (C.out _ (blk_below HG.out HBW.out)).mono ?_
    rintro e w1 ⟨rfl, hb⟩
    have HB1 := Lib.hid (HBW.out.trans (hb.mono HBW.out.size))
    clear hb hc0 hc1 hc2 HBW
    go_wp2_with fail
    go_ret
    exact ⟨_, rfl, ⟨fun _ => HA.out, fun _ => by omega⟩, by omega, HB1.out⟩
   | false =>
    have C := Lib.hid (fun w1 h => ag_any g fm fu fa y w1 h)
    rw [ho] at C
    have HN2 : Hid (∀ j, j < k + 1 → agB fu fa (xs.getD j PCod.z65) = false) := by
     show ∀ j, j < k + 1 → _
     intro j hj
     by_cases e : j = k
     ·rw [e, ← HNN.out]; exact ho
     ·exact HN.out j (by omega)
    clear ho
    go_wp2_with fail
    refine (C.out _ (blk_below HG.out HBW.out)).mono ?_
    rintro e w1 ⟨rfl, hb⟩
    have HB1 := Lib.hid (HBW.out.trans (hb.mono HBW.out.size))
    clear hb hc0 hc1 hc2 HBW
    go_wp2_with fail
    go_roundw
    case rel => exact ⟨k + 1, by omega, by go_num, HN2, HB1⟩
    case measure => simp [intOf]; omega
  ·obtain rfl : k = xs.length := by omega
   have HA : Hid (¬ xs.any (agB fu fa) = true) := by
    show ¬ _
    rw [List.any_eq_true]
    rintro ⟨y, hy, ho⟩
    obtain ⟨j, hj, rfl⟩ := CodPlain.getD_of_mem (d := PCod.z65) hy
    have := HN.out j hj
    rw [this] at ho; cases ho
   clear HN
   go_wp2_with fail
   go_ret
   exact ⟨_, rfl, ⟨fun h => by omega, fun h => absurd h HA.out⟩, by omega, HBW.out⟩
set_option maxHeartbeats 400000 in
theorem contF_any (g : Nat) (fm fu fa : Int) (A : Option Addr) (c : Nat) (xs : List PCod.S65) (w : World) (hx : Kd.C PCod.k65 w A xs.length xs) (hm : xs.length ≤ 1000) (hg : w.heap[g]? = some (.cells #[.int .i64 fm, .int .i64 fu, .int .i64 fa] 65 (0, 0))) :
  Calls Tryz.prog 47 #[.slice A xs.length c, .func (Fn.func 46) #[] #[.pointer (some ⟨g, 0, none⟩)]] w fun e w' => e = .returned (.bool (xs.any (agB fu fa))) ∧ Below w.heap.size w w' := by
 have C := Lib.hid (idxF_any g fm fu fa A c xs w hx hm hg)
 clear hx hg
 cases ho : xs.any (agB fu fa) with
 | true =>
  have HO := Lib.hid ho
  clear ho
  go_enter Tryz.func47, Tryz.ntmps47
  go_wp2_with fail
  refine C.out.mono ?_
  rintro e w1 ⟨i, rfl, h1, h2, hb⟩
  have h0 : 0 ≤ i := h1.2 HO.out
  have HB := Lib.hid hb
  clear h1 hb
  go_wp2_with fail
  go_ret
  exact ⟨by simp [h0], HB.out⟩
 | false =>
  have HO : Hid (¬ xs.any (agB fu fa) = true) := by rw [ho]; show ¬ _; simp
  clear ho
  go_enter Tryz.func47, Tryz.ntmps47
  go_wp2_with fail
  refine C.out.mono ?_
  rintro e w1 ⟨i, rfl, h1, h2, hb⟩
  have h0 : ¬ 0 ≤ i := fun h => HO.out (h1.1 h)
  have HB := Lib.hid hb
  clear h1 hb
  go_wp2_with fail
  go_ret
  exact ⟨by simp [h0], HB.out⟩
end Go.Proofs.YtokhibhmlninnaaGreatDoor

set_option linter.unusedVariables false
set_option linter.unusedSimpArgs false
namespace Go.Proofs.YtokhibhmlninnaaGreatDoor
open Go.RowKit Go.Proofs.YtokhibhmlninnaaGreatDoorW.PrintWords
def IdxIPost (w : World) (es : List Int) (x : Int) (e : Ending) (w' : World) : Prop := ∃ i : Int, e = .returned (.int .i64 i) ∧ (0 ≤ i ↔ es.contains x = true) ∧ -1 ≤ i ∧ Below w.heap.size w w'
set_option maxHeartbeats 1000000 in
theorem idxI_any (B : Option Addr) (c : Nat) (es : List Int) (x : Int) (w : World) (hE : ReadsInt w .i64 B es.length es) (hlen : es.length ≤ 1000) :
  Calls Tryz.prog 77 #[.slice B es.length c, .int .i64 x] w (IdxIPost w es x) := by
 have HE := Lib.hid hE
 clear hE
 go_enter Tryz.func77, Tryz.ntmps77
 go_wp2
 go_loopw [8] (fun i wr => ∃ k : Nat, k ≤ es.length ∧ i = .int .i64 k ∧ Hid (∀ j, j < k → es.getD j 0 ≠ x) ∧ Hid (Below w.heap.size w wr)) (fun i _ => es.length - (intOf i).toNat)
 case atStart => exact ⟨0, Nat.zero_le _, rfl, by show ∀ j, j < 0 → _; omega, Below.refl _ _⟩
 case round =>
  obtain ⟨k, hk, rfl, HN, HBW⟩ := hrel
  by_cases hlt : k < es.length
  ·obtain ⟨ad, rfl, hcs⟩ := (HE.out.below HBW.out).2.2 (by omega)
   have hr1 := hcs k hlt
   have hmem : es.getD k 0 ∈ es := by rw [List.getD_eq_getElem?_getD, List.getElem?_eq_getElem hlt]; exact List.getElem_mem hlt
   obtain ⟨f, hft⟩ : ∃ p, p = es.getD k 0 := ⟨_, rfl⟩
   rw [← hft] at hr1 hmem
   have HM := Lib.hid hmem
   have HFT := Lib.hid hft
   clear hcs hmem hft
   by_cases he : x = f
   ·subst he
    have HC : Hid (es.contains x = true) := by show es.contains x = true; rw [List.contains_iff_mem]; exact HM.out
    go_wp2
    go_ret
    exact ⟨_, rfl, ⟨fun _ => HC.out, fun _ => by omega⟩, by omega, HBW.out⟩
   ·have HN2 : Hid (∀ j, j < k + 1 → es.getD j 0 ≠ x) := by
     show ∀ j, j < k + 1 → _
     intro j hj
     by_cases e : j = k
     ·rw [e, ← HFT.out]; intro h; exact he h.symm
     ·exact HN.out j (by omega)
    go_wp2
    go_roundw
    case rel => exact ⟨k + 1, by omega, by go_num, HN2, HBW.out⟩
    case measure => simp [intOf]; omega
  ·obtain rfl : k = es.length := by omega
   have HC : Hid (¬ es.contains x = true) := by
    show ¬ _
    rw [List.contains_iff_mem]
    intro hm
    obtain ⟨j, hj, e⟩ := List.getElem_of_mem hm
    have := HN.out j hj
    rw [List.getD_eq_getElem?_getD, List.getElem?_eq_getElem hj] at this
    exact this e
   clear HN
   go_wp2
   go_ret
   exact ⟨_, rfl, ⟨fun h => by omega, fun h => absurd h HC.out⟩, by omega, HBW.out⟩
set_option maxHeartbeats 400000 in
theorem contI_any (B : Option Addr) (c : Nat) (es : List Int) (x : Int) (w : World) (hE : ReadsInt w .i64 B es.length es) (hlen : es.length ≤ 1000) :
  Calls Tryz.prog 49 #[.slice B es.length c, .int .i64 x] w fun e w' => e = .returned (.bool (es.contains x)) ∧ Below w.heap.size w w' := by
 have C := Lib.hid (fun w1 h => idxI_any B c es x w1 h hlen)
 have HE := Lib.hid hE
 clear hE
 cases ho : es.contains x with
 | true =>
  have HO := Lib.hid ho
  clear ho
  go_enter Tryz.func49, Tryz.ntmps49
  go_wp2_with fail
  refine (C.out _ HE.out).mono ?_
  rintro e w1 ⟨i, rfl, h1, h2, hb⟩
  have h0 : 0 ≤ i := h1.2 HO.out
  have HB := Lib.hid hb
  clear h1 hb
  go_wp2
  go_ret
  exact ⟨by simp [h0], HB.out⟩
 | false =>
  have HO : Hid (¬ es.contains x = true) := by rw [ho]; show ¬ _; simp
  clear ho
  go_enter Tryz.func49, Tryz.ntmps49
  go_wp2_with fail
  refine (C.out _ HE.out).mono ?_
  rintro e w1 ⟨i, rfl, h1, h2, hb⟩
  have h0 : ¬ 0 ≤ i := fun h => HO.out (h1.1 h)
  have HB := Lib.hid hb
  clear h1 hb
  go_wp2
  go_ret
  exact ⟨by simp [h0], HB.out⟩
def outB (out : List Int) (n : Int) : Bool := out.contains n
set_option maxHeartbeats 1000000 in
theorem out_any (g : Nat) (vI : Value) (O : Option Addr) (oc : Nat) (out : List Int) (n : Int) (w : World) (hg : w.heap[g]? = some (.cells #[vI, .slice O out.length oc] 50 (0, 0))) (hO : ReadsInt w .i64 O out.length out) (hm : out.length ≤ 1000) :
  Calls Tryz.prog 48 #[.int .i64 n, .pointer (some ⟨g, 0, none⟩)] w fun e w' => e = .returned (.bool (outB out n)) ∧ Below w.heap.size w w' := by
 have h1 : w.cell? ⟨g, 1, none⟩ = some (.slice O out.length oc) := (blk_cell hg 1).trans rfl
 have C := Lib.hid (contI_any O oc out n w hO hm)
 clear hg hO
 go_enter Tryz.func48, Tryz.ntmps48
 go_wp2_with fail
 refine C.out.mono ?_
 rintro e w1 ⟨rfl, hb⟩
 have HB := Lib.hid hb
 clear hb
 go_wp2_with fail
 go_ret
 exact ⟨by rw [show outB out n = decide (n ∈ out) by unfold outB; simp]; rfl, HB.out⟩
def IdxOPost (w : World) (out : List Int) (xs : List Int) (e : Ending) (w' : World) : Prop := ∃ i : Int, e = .returned (.int .i64 i) ∧ (0 ≤ i ↔ xs.any (outB out) = true) ∧ -1 ≤ i ∧ Below w.heap.size w w'
set_option maxHeartbeats 2000000 in
theorem idxO_any (g : Nat) (vI : Value) (O : Option Addr) (oc : Nat) (out : List Int) (A : Option Addr) (c : Nat) (xs : List Int) (w : World) (hx : ReadsInt w .i64 A xs.length xs) (hm : xs.length ≤ 1000) (hg : w.heap[g]? = some (.cells #[vI, .slice O out.length oc] 50 (0, 0))) (hO : ReadsInt w .i64 O out.length out) (hom : out.length ≤ 1000) :
  Calls Tryz.prog 78 #[.slice A xs.length c, .func (Fn.func 48) #[] #[.pointer (some ⟨g, 0, none⟩)]] w (IdxOPost w out xs) := by
 have HX := Lib.hid hx
 have HG := Lib.hid hg
 have HO := Lib.hid hO
 clear hx hg hO
 go_enter Tryz.func78, Tryz.ntmps78
 go_wp2_with fail
 go_loopw [8] (fun i wr => ∃ k : Nat, k ≤ xs.length ∧ i = .int .i64 k ∧ Hid (∀ j, j < k → outB out (xs.getD j 0) = false) ∧ Hid (Below w.heap.size w wr)) (fun i _ => xs.length - (intOf i).toNat)
 case atStart => exact ⟨0, Nat.zero_le _, rfl, by show ∀ j, j < 0 → _; omega, Below.refl _ _⟩
 case round =>
  obtain ⟨k, hk, rfl, HN, HBW⟩ := hrel
  by_cases hlt : k < xs.length
  ·obtain ⟨ad, hA, hcs⟩ := (HX.out.below HBW.out).2.2 (by omega)
   subst hA
   have hc0 := hcs k hlt
   have hmem : xs.getD k (0 : Int) ∈ xs := CodPlain.getD_in hlt
   clear hcs
   have HM := Lib.hid hmem
   obtain ⟨y, hy⟩ : ∃ y, y = xs.getD k (0 : Int) := ⟨_, rfl⟩
   rw [← hy] at hc0 HM
   have HNN := Lib.hid hy
   clear hmem hy
   cases ho : outB out y with
   | true =>
    have C := Lib.hid (fun w1 h h2 => out_any g vI O oc out y w1 h h2 hom)
    rw [ho] at C
    have HA : Hid (xs.any (outB out) = true) := List.any_eq_true.2 ⟨y, HM.out, ho⟩
    clear ho
    go_wp2_with fail
    refine (C.out _ (blk_below HG.out HBW.out) (HO.out.below HBW.out)).mono ?_
    rintro e w1 ⟨rfl, hb⟩
    have HB1 := Lib.hid (HBW.out.trans (hb.mono HBW.out.size))
    clear hb hc0 HBW
    go_wp2_with fail
    go_ret
    exact ⟨_, rfl, ⟨fun _ => HA.out, fun _ => by omega⟩, by omega, HB1.out⟩
   | false =>
    have C := Lib.hid (fun w1 h h2 => out_any g vI O oc out y w1 h h2 hom)
    rw [ho] at C
    have HN2 : Hid (∀ j, j < k + 1 → outB out (xs.getD j 0) = false) := by
     show ∀ j, j < k + 1 → _
     intro j hj
     by_cases e : j = k
     ·rw [e, ← HNN.out]; exact ho
     ·exact HN.out j (by omega)
    clear ho
    go_wp2_with fail
    refine (C.out _ (blk_below HG.out HBW.out) (HO.out.below HBW.out)).mono ?_
    rintro e w1 ⟨rfl, hb⟩
    have HB1 := Lib.hid (HBW.out.trans (hb.mono HBW.out.size))
    clear hb hc0 HBW
    go_wp2_with fail
    go_roundw
    case rel => exact ⟨k + 1, by omega, by go_num, HN2, HB1⟩
    case measure => simp [intOf]; omega
  ·obtain rfl : k = xs.length := by omega
   have HA : Hid (¬ xs.any (outB out) = true) := by
    show ¬ _
    rw [List.any_eq_true]
    rintro ⟨y, hy, ho⟩
    obtain ⟨j, hj, rfl⟩ := CodPlain.getD_of_mem (d := (0 : Int)) hy
    have := HN.out j hj
    rw [this] at ho; cases ho
   clear HN
   go_wp2_with fail
   go_ret
   exact ⟨_, rfl, ⟨fun h => by omega, fun h => absurd h HA.out⟩, by omega, HBW.out⟩
set_option maxHeartbeats 400000 in
theorem contO_any (g : Nat) (vI : Value) (O : Option Addr) (oc : Nat) (out : List Int) (A : Option Addr) (c : Nat) (xs : List Int) (w : World) (hx : ReadsInt w .i64 A xs.length xs) (hm : xs.length ≤ 1000) (hg : w.heap[g]? = some (.cells #[vI, .slice O out.length oc] 50 (0, 0))) (hO : ReadsInt w .i64 O out.length out) (hom : out.length ≤ 1000) :
  Calls Tryz.prog 51 #[.slice A xs.length c, .func (Fn.func 48) #[] #[.pointer (some ⟨g, 0, none⟩)]] w fun e w' => e = .returned (.bool (xs.any (outB out))) ∧ Below w.heap.size w w' := by
 have C := Lib.hid (idxO_any g vI O oc out A c xs w hx hm hg hO hom)
 clear hx hg hO
 cases ho : xs.any (outB out) with
 | true =>
  have HO := Lib.hid ho
  clear ho
  go_enter Tryz.func51, Tryz.ntmps51
  go_wp2_with fail
  refine C.out.mono ?_
  rintro e w1 ⟨i, rfl, h1, h2, hb⟩
  have h0 : 0 ≤ i := h1.2 HO.out
  have HB := Lib.hid hb
  clear h1 hb
  go_wp2_with fail
  go_ret
  exact ⟨by simp [h0], HB.out⟩
 | false =>
  have HO : Hid (¬ xs.any (outB out) = true) := by rw [ho]; show ¬ _; simp
  clear ho
  go_enter Tryz.func51, Tryz.ntmps51
  go_wp2_with fail
  refine C.out.mono ?_
  rintro e w1 ⟨i, rfl, h1, h2, hb⟩
  have h0 : ¬ 0 ≤ i := fun h => HO.out (h1.1 h)
  have HB := Lib.hid hb
  clear h1 hb
  go_wp2_with fail
  go_ret
  exact ⟨by simp [h0], HB.out⟩
end Go.Proofs.YtokhibhmlninnaaGreatDoor

set_option linter.unusedVariables false
set_option linter.unusedSimpArgs false
namespace Go.Proofs.YtokhibhmlninnaaGreatDoor
open Go.RowKit Go.Proofs.YtokhibhmlninnaaGreatDoorW.PrintWords
theorem wrap_in {x : Int} (h : -9223372036854775808 ≤ x ∧ x ≤ 9223372036854775807) : wrap64 x = x := by unfold wrap64; omega
theorem within_f (a b c : Int) : PCod.desc_within.f a b c = some (CodPlain.inB a b c) := by
 unfold PCod.desc_within.f CodPlain.inB
 by_cases h : b ≤ a
 ·rw [if_pos h, decide_eq_true h, Bool.true_and]
 ·rw [if_neg h, decide_eq_false h, Bool.false_and]
theorem two_f (p dl : Int) (l2 : List PCod.S47) (l3 : List PCod.S63) (l4 : List PCod.S65) (l5 : List PCod.S50) (a b : Int) (h : l2.length ≤ 1000) : PCod.desc_two.f p dl l2 l3 l4 l5 a b = some (CodPlain.twoB l2.length a b) := by
 unfold PCod.desc_two.f CodPlain.twoB
 rw [wrap_in (by omega), within_f, within_f]
 by_cases e : a = b
 ·rw [if_pos e, show (a != b) = false by simp [e]]; rfl
 ·rw [if_neg e, show (a != b) = true by simp [e], Option.bind_some, Bool.true_and, Option.bind_some]
  cases CodPlain.inB a 0 ((l2.length : Int) - 1) with
  | true => rw [if_pos rfl, Bool.true_and]
  | false => rw [if_neg (by simp), Bool.false_and]
theorem row_ev (p dl : Int) (l2 : List PCod.S47) (l3 : List PCod.S63) (l4 : List PCod.S65) (l5 : List PCod.S50) (l : List Int) (h : l2.length ≤ 1000) (hl : l.length ≤ 1000) : ∃ k, PCod.desc_row.f k p dl l2 l3 l4 l5 l = some (CodPlain.rowB l2.length l) := by
 have rdn : ∀ i : Nat, rd l (i : Int) = l.getD i 0 := fun i => by unfold rd; rw [Int.toNat_natCast]
 have key : ∀ (m x : Nat), x + m = l.length → Ev (fun k => PCod.desc_row.l0 k l l (l.length : Int) (x : Int) p dl l2 l3 l4 l5) (!(List.range' x m).any (CodPlain.rowOdd l2.length l) && decide (0 < l.length)) := by
  intro m
  induction m with
  | zero =>
   intro x hx
   rw [show (List.range' x 0).any (CodPlain.rowOdd l2.length l) = false from rfl, Bool.not_false, Bool.true_and]
   refine Ev.step (f := fun _ => some (decide (0 < l.length))) (fun k => ?_) (Ev.now _)
   rw [PCod.desc_row.l0, if_neg (by omega)]
   exact congrArg some (decide_eq_decide.2 (by omega))
  | succ m ih =>
   intro x hx
   have hn := ih (x + 1) (by omega)
   rw [List.range'_succ, List.any_cons]
   have hodd : CodPlain.rowOdd l2.length l x = (!CodPlain.inB (l.getD x 0) 0 ((l2.length : Int) - 1) || (decide (0 < x) && decide (l.getD x 0 ≤ l.getD (x - 1) 0))) := rfl
   rw [hodd]
   have hw : wrap64 ((l2.length : Int) - 1) = (l2.length : Int) - 1 := wrap_in (by omega)
   have hw2 : wrap64 ((x : Int) + 1) = ((x + 1 : Nat) : Int) := by rw [wrap_in (by omega)]; omega
   cases hb : CodPlain.inB (l.getD x 0) 0 ((l2.length : Int) - 1) with
   | false =>
    rw [Bool.not_false, Bool.true_or, Bool.true_or, Bool.not_true, Bool.false_and]
    refine Ev.step (f := fun _ => some false) (fun k => ?_) (Ev.now _)
    rw [PCod.desc_row.l0, if_pos (by omega), if_pos (by omega), if_pos (by omega), rdn, hw, within_f, hb, Option.bind_some, if_neg (by simp)]
   | true =>
    rw [Bool.not_true, Bool.false_or]
    by_cases h0 : 0 < x
    ·have hx1 : wrap64 ((x : Int) - 1) = ((x - 1 : Nat) : Int) := by rw [wrap_in (by omega)]; omega
     rw [decide_eq_true h0, Bool.true_and]
     by_cases hle : l.getD x 0 ≤ l.getD (x - 1) 0
     ·rw [decide_eq_true hle, Bool.true_or, Bool.not_true, Bool.false_and]
      refine Ev.step (f := fun _ => some false) (fun k => ?_) (Ev.now _)
      rw [PCod.desc_row.l0, if_pos (by omega), if_pos (by omega), if_pos (by omega), rdn, hw, within_f, hb, Option.bind_some, if_pos rfl, if_pos (by omega), hx1, if_pos (by omega), if_pos (by omega), rdn, if_pos (by omega)]
     ·rw [decide_eq_false hle, Bool.false_or]
      refine Ev.step (fun k => ?_) hn
      rw [PCod.desc_row.l0, if_pos (by omega), if_pos (by omega), if_pos (by omega), rdn, hw, within_f, hb, Option.bind_some, if_pos rfl, if_pos (by omega), hx1, if_pos (by omega), if_pos (by omega), rdn, if_neg (by omega), hw2]
    ·rw [decide_eq_false h0, Bool.false_and, Bool.false_or]
     refine Ev.step (fun k => ?_) hn
     rw [PCod.desc_row.l0, if_pos (by omega), if_pos (by omega), if_pos (by omega), rdn, hw, within_f, hb, Option.bind_some, if_pos rfl, if_neg (by omega), hw2]
 have h2 := key l.length 0 (by omega)
 rw [← List.range_eq_range'] at h2
 exact Ev.rounds h2
def tE (x : PCod.S63) : Int × Int := (x.f0, x.f1)
theorem edge_ev (es : List PCod.S63) (a b : Int) (h : es.length ≤ 1000) : ∃ k, PCod.api_Edge_45.f k es a b = some ((es.map tE).contains (a, b)) := by
 have key : ∀ (m x : Nat), x + m = es.length → ∃ i : Int, Ev (fun k => PCod.api_Edge_75.l0 k es (es.length : Int) (x : Int) a b) i ∧ (0 ≤ i ↔ ((es.map tE).drop x).contains (a, b) = true) := by
  intro m
  induction m with
  | zero =>
   intro x hx
   refine ⟨-1, Ev.step (f := fun _ => some (-1)) (fun k => by rw [PCod.api_Edge_75.l0, if_neg (by omega)]) (Ev.now _), ?_⟩
   rw [List.drop_of_length_le (by rw [List.length_map]; omega)]
   simp
  | succ m ih =>
   intro x hx
   obtain ⟨i, hi, h2⟩ := ih (x + 1) (by omega)
   have hr : PCod.rd_T63 es (x : Int) = es[x] := by unfold PCod.rd_T63; rw [Int.toNat_natCast, List.getD_eq_getElem?_getD, List.getElem?_eq_getElem (by omega)]; rfl
   have hd : (es.map tE).drop x = tE es[x] :: (es.map tE).drop (x + 1) := by rw [List.drop_eq_getElem_cons (by rw [List.length_map]; omega), List.getElem_map]
   rw [hd, List.contains_cons]
   by_cases e1 : a = es[x].f0 ∧ b = es[x].f1
   ·refine ⟨(x : Int), Ev.step (f := fun _ => some (x : Int)) (fun k => ?_) (Ev.now _), ?_⟩
    ·rw [PCod.api_Edge_75.l0, if_pos (by omega), if_pos (by omega), if_pos (by omega), hr, if_pos (by simp [e1.1, e1.2])]
    ·rw [show ((a, b) == tE es[x]) = true by unfold tE; simp [e1.1, e1.2], Bool.true_or]
     exact ⟨fun _ => rfl, fun _ => by omega⟩
   ·have hb : (a == es[x].f0 && b == es[x].f1) = false := by
     rw [Bool.and_eq_false_iff, beq_eq_false_iff_ne, beq_eq_false_iff_ne]
     by_cases q : a = es[x].f0
     ·exact .inr fun q2 => e1 ⟨q, q2⟩
     ·exact .inl q
    refine ⟨i, Ev.step (fun k => ?_) hi, ?_⟩
    ·rw [PCod.api_Edge_75.l0, if_pos (by omega), if_pos (by omega), if_pos (by omega), hr, hb, if_neg (by simp), wrap_in (by omega)]; rfl
    ·rw [show ((a, b) == tE es[x]) = false by rw [beq_eq_false_iff_ne]; intro q; exact e1 ⟨congrArg Prod.fst q, congrArg Prod.snd q⟩, Bool.false_or]
     exact h2
 obtain ⟨i, hi, h2⟩ := key es.length 0 (by omega)
 rw [List.drop_zero] at h2
 have : Ev (fun k => PCod.api_Edge_45.f k es a b) ((es.map tE).contains (a, b)) := by
  unfold PCod.api_Edge_45.f
  refine Ev.bind (a := i) hi ?_
  have : decide (i ≥ 0) = (es.map tE).contains (a, b) := by rw [Bool.eq_iff_iff, decide_eq_true_eq]; exact h2
  rw [this]
  exact Ev.now _
 exact Ev.rounds this
end Go.Proofs.YtokhibhmlninnaaGreatDoor

set_option linter.unusedVariables false
set_option linter.unusedSimpArgs false
namespace CodPlain
structure Pre1 (d : D) : Prop where
 many : manyB d = false
structure Pre2 (d : D) : Prop extends Pre1 d where
 time : timeB d = true
structure Pre3 (d : D) : Prop extends Pre2 d where
 part : d.parts.any partOdd = false
structure Pre4 (d : D) : Prop extends Pre3 d where
 edge : (List.range d.edges.length).any (edgeOdd d) = false
structure Pre5 (d : D) : Prop extends Pre4 d where
 fut : (List.range d.futs.length).any (futOdd d) = false
theorem check50 {d : D} (h : manyB d = true) : checkD d = 50 := by unfold checkD; rw [if_pos h]
theorem check51 {d : D} (p : Pre1 d) (h : timeB d = false) : checkD d = 51 := by unfold checkD; rw [p.many, if_neg (by simp), if_pos h]
theorem check52 {d : D} (p : Pre2 d) (h : d.parts.any partOdd = true) : checkD d = 52 := by unfold checkD; rw [p.many, if_neg (by simp), p.time, if_neg (by simp), if_pos h]
theorem check53 {d : D} (p : Pre3 d) {k : Nat} (hk : k < d.edges.length) (h : edgeOdd d k = true) : checkD d = 53 := by
 have : (List.range d.edges.length).any (edgeOdd d) = true := List.any_eq_true.2 ⟨k, List.mem_range.2 hk, h⟩
 unfold checkD; rw [p.many, if_neg (by simp), p.time, if_neg (by simp), p.part, if_neg (by simp), if_pos this]
theorem check54 {d : D} (p : Pre4 d) {k : Nat} (hk : k < d.futs.length) (h : futOdd d k = true) : checkD d = 54 := by
 have : (List.range d.futs.length).any (futOdd d) = true := List.any_eq_true.2 ⟨k, List.mem_range.2 hk, h⟩
 unfold checkD; rw [p.many, if_neg (by simp), p.time, if_neg (by simp), p.part, if_neg (by simp), p.edge, if_neg (by simp), if_pos this]
theorem check55 {d : D} (p : Pre5 d) {k : Nat} (hk : k < d.bars.length) (h : barOdd d (d.bars.getD k ([], [])) = true) : checkD d = 55 := by
 have : d.bars.any (barOdd d) = true := List.any_eq_true.2 ⟨_, getD_in hk, h⟩
 unfold checkD; rw [p.many, if_neg (by simp), p.time, if_neg (by simp), p.part, if_neg (by simp), p.edge, if_neg (by simp), p.fut, if_neg (by simp), if_pos this]
theorem check0 {d : D} (p : Pre5 d) (h : ∀ j, j < d.bars.length → barOdd d (d.bars.getD j ([], [])) = false) : checkD d = 0 := by
 have : d.bars.any (barOdd d) = false := by
  rw [List.any_eq_false]
  intro b hb
  obtain ⟨j, hj, rfl⟩ := getD_of_mem (d := (([], []) : List Int × List Int)) hb
  rw [h j hj]; simp
 unfold checkD; rw [p.many, if_neg (by simp), p.time, if_neg (by simp), p.part, if_neg (by simp), p.edge, if_neg (by simp), p.fut, if_neg (by simp), this, if_neg (by simp)]
theorem range_no {n : Nat} {p : Nat → Bool} (h : ∀ j, j < n → p j = false) : (List.range n).any p = false := by
 rw [List.any_eq_false]; intro j hj; rw [h j (List.mem_range.1 hj)]; simp
theorem snoc_no {p : Nat → Bool} {k : Nat} (h : ∀ j, j < k → p j = false) (hk : p k = false) : ∀ j, j < k + 1 → p j = false := fun j hj => by
 by_cases e : j = k
 ·rw [e]; exact hk
 ·exact h j (by omega)
end CodPlain
namespace Go.Proofs.YtokhibhmlninnaaGreatDoor
open Go.RowKit Go.Proofs.YtokhibhmlninnaaGreatDoorW.PrintWords
def tF (x : PCod.S65) : Int × Int × Int := (x.f0, x.f1, x.f2)
def tB (x : PCod.S50) : List Int × List Int := (x.f0, x.f1)
structure DR (w : World) (P : Option Addr) (cp : Nat) (ps : List PCod.S47) (E : Option Addr) (ce : Nat) (es : List PCod.S63) (F : Option Addr) (cf : Nat) (fs : List PCod.S65) (B : Option Addr) (cb : Nat) (bs : List PCod.S50) : Prop where
 p : Kd.C PCod.k47 w P ps.length ps
 pc : ps.length ≤ cp
 e : Kd.C PCod.k63 w E es.length es
 ec : es.length ≤ ce
 f : Kd.C PCod.k65 w F fs.length fs
 fc : fs.length ≤ cf
 b : Kd.C PCod.k50 w B bs.length bs
 bc : bs.length ≤ cb
theorem DR.below {w w' : World} {P : Option Addr} {cp : Nat} {ps : List PCod.S47} {E : Option Addr} {ce : Nat} {es : List PCod.S63} {F : Option Addr} {cf : Nat} {fs : List PCod.S65} {B : Option Addr} {cb : Nat} {bs : List PCod.S50} (h : DR w P cp ps E ce es F cf fs B cb bs) (hb : Below w.heap.size w w') : DR w' P cp ps E ce es F cf fs B cb bs :=
 ⟨Kd.C_below h.p hb, h.pc, Kd.C_below h.e hb, h.ec, Kd.C_below h.f hb, h.fc, Kd.C_below h.b hb, h.bc⟩
def dOf (per dl : Int) (ps : List PCod.S47) (es : List PCod.S63) (fs : List PCod.S65) (bs : List PCod.S50) : CodPlain.D := ⟨per, dl, ps.map tP, es.map tE, fs.map tF, bs.map tB⟩
end Go.Proofs.YtokhibhmlninnaaGreatDoor

set_option linter.unusedVariables false
set_option linter.unusedSimpArgs false
namespace Go.Proofs.YtokhibhmlninnaaGreatDoor
open Go.RowKit Go.Proofs.YtokhibhmlninnaaGreatDoorW.PrintWords
theorem in_any (a b c : Int) (r : Bool) (w : World) (h : CodPlain.inB a b c = r) : Calls Tryz.prog 40 #[.int .i64 a, .int .i64 b, .int .i64 c] w fun e w' => e = .returned (.bool r) ∧ Drawn0 w w' :=
 PCod.desc_within.calls a b c r w (by rw [within_f, h])
theorem many_cases {per dl : Int} {ps : List PCod.S47} {es : List PCod.S63} {fs : List PCod.S65} {bs : List PCod.S50} (h : CodPlain.manyB (dOf per dl ps es fs bs) = true) :
  CodPlain.inB ps.length 1 16 = false ∨ (CodPlain.inB ps.length 1 16 = true ∧ (48 < es.length ∨ (¬ 48 < es.length ∧ (16 < fs.length ∨ (¬ 16 < fs.length ∧ 4 < bs.length))))) := by
 unfold CodPlain.manyB dOf at h
 simp only [List.length_map, Bool.or_eq_true, Bool.not_eq_true', decide_eq_true_eq] at h
 have hi : CodPlain.inB ps.length 1 16 = (decide (1 ≤ ps.length) && decide (ps.length ≤ 16)) := by
  unfold CodPlain.inB
  rw [show decide ((1 : Int) ≤ (ps.length : Int)) = decide (1 ≤ ps.length) from decide_eq_decide.2 (by omega), show decide ((ps.length : Int) ≤ 16) = decide (ps.length ≤ 16) from decide_eq_decide.2 (by omega)]
 rw [hi]
 cases hq : (decide (1 ≤ ps.length) && decide (ps.length ≤ 16)) with
 | false => exact .inl rfl
 | true => rw [hq] at h; exact .inr ⟨rfl, by rcases h with ((h | h) | h) | h <;> first | (cases h; done) | omega⟩
set_option maxRecDepth 100000 in
set_option maxHeartbeats 8000000 in
theorem check_many (per dl : Int) (P : Option Addr) (cp : Nat) (ps : List PCod.S47) (E : Option Addr) (ce : Nat) (es : List PCod.S63) (F : Option Addr) (cf : Nat) (fs : List PCod.S65) (B : Option Addr) (cb : Nat) (bs : List PCod.S50) (w : World)
  (hs : ps.length ≤ 1000 ∧ es.length ≤ 1000 ∧ fs.length ≤ 1000 ∧ bs.length ≤ 1000) (h : CodPlain.manyB (dOf per dl ps es fs bs) = true) :
  Calls Tryz.prog 17 #[.agg #[.int .i64 per, .int .i64 dl, .slice P ps.length cp, .slice E es.length ce, .slice F fs.length cf, .slice B bs.length cb]] w fun e w' => e = .returned (.int .i64 50) ∧ Below w.heap.size w w' := by
 have hc := many_cases h
 clear h
 obtain ⟨s1, s2, s3, s4⟩ := hs
 rcases hc with h | ⟨h, h | ⟨h0, h | ⟨h1, h2⟩⟩⟩
 ·have C := Lib.hid (fun w1 => in_any ps.length 1 16 false w1 h)
  clear h
  go_enter Tryz.func17, Tryz.ntmps17
  go_wp2_with fail
  refine (C.out _).mono ?_
  rintro e w' ⟨rfl, ⟨k, rfl⟩⟩
  go_wp2_with fail
  go_ret
  exact ⟨rfl, pw_below_drewN ((Below.refl _ _).alloc (Nat.le_refl _) _) k⟩
 all_goals
  have C := Lib.hid (fun w1 => in_any ps.length 1 16 true w1 (by assumption))
  go_enter Tryz.func17, Tryz.ntmps17
  go_wp2_with fail
  refine (C.out _).mono ?_
  rintro e w' ⟨rfl, ⟨k, rfl⟩⟩
  go_wp2_with fail
  go_ret
  exact ⟨rfl, pw_below_drewN ((Below.refl _ _).alloc (Nat.le_refl _) _) k⟩
theorem few_cases {per dl : Int} {ps : List PCod.S47} {es : List PCod.S63} {fs : List PCod.S65} {bs : List PCod.S50} (h : CodPlain.manyB (dOf per dl ps es fs bs) = false) :
  CodPlain.inB ps.length 1 16 = true ∧ ¬ 48 < es.length ∧ ¬ 16 < fs.length ∧ ¬ 4 < bs.length := by
 unfold CodPlain.manyB dOf at h
 simp only [List.length_map, Bool.or_eq_false_iff, Bool.not_eq_false', Bool.and_eq_true, decide_eq_true_eq, decide_eq_false_iff_not] at h
 refine ⟨?_, h.1.1.2, h.1.2, h.2⟩
 unfold CodPlain.inB
 rw [Bool.and_eq_true, decide_eq_true_eq, decide_eq_true_eq]
 omega
theorem DbAt.box {w : World} (h : DbAt w) (o : Obj) (k : Nat) : DbAt ((w.alloc o).drewN k) := (h.below ((Below.refl _ _).alloc (Nat.le_refl _) o)).drew k
set_option maxRecDepth 100000 in
set_option maxHeartbeats 8000000 in
theorem check_time (per dl : Int) (P : Option Addr) (cp : Nat) (ps : List PCod.S47) (E : Option Addr) (ce : Nat) (es : List PCod.S63) (F : Option Addr) (cf : Nat) (fs : List PCod.S65) (B : Option Addr) (cb : Nat) (bs : List PCod.S50) (w : World)
  (hs : ps.length ≤ 1000 ∧ es.length ≤ 1000 ∧ fs.length ≤ 1000 ∧ bs.length ≤ 1000) (hd : DbAt w) (h : CodPlain.manyB (dOf per dl ps es fs bs) = false) (ht : CodPlain.timeB (dOf per dl ps es fs bs) = false) :
  Calls Tryz.prog 17 #[.agg #[.int .i64 per, .int .i64 dl, .slice P ps.length cp, .slice E es.length ce, .slice F fs.length cf, .slice B bs.length cb]] w fun e w' => e = .returned (.int .i64 51) ∧ Below w.heap.size w w' := by
 obtain ⟨m1, m2, m3, m4⟩ := few_cases h
 have hq : ¬ per ≤ 4096 ∨ (per ≤ 4096 ∧ (CodPlain.powB per = false ∨ (CodPlain.powB per = true ∧ CodPlain.inB dl 1 per = false))) := by
  unfold CodPlain.timeB dOf at ht
  dsimp only at ht
  by_cases hp : per ≤ 4096
  ·refine .inr ⟨hp, ?_⟩
   cases hb : CodPlain.powB per with
   | false => exact .inl rfl
   | true => rw [hb, Bool.true_and] at ht; exact .inr ⟨rfl, ht⟩
  ·exact .inl hp
 clear h ht
 obtain ⟨s1, s2, s3, s4⟩ := hs
 have C := Lib.hid (fun w1 => in_any ps.length 1 16 true w1 m1)
 have C2 := Lib.hid (fun w1 h => two_any per w1 h)
 have HD := Lib.hid hd
 clear m1 hd
 rcases hq with hp | ⟨hp, hb | ⟨hb, hi⟩⟩
 ·go_enter Tryz.func17, Tryz.ntmps17
  go_wp2_with fail
  refine (C.out _).mono ?_
  rintro e w' ⟨rfl, ⟨k, rfl⟩⟩
  go_wp2_with fail
  refine (C2.out _ (HD.out.box _ k)).mono ?_
  rintro e w' ⟨v, b, rfl, -, k2, rfl⟩
  cases b with
  | false =>
   go_wp2_with fail
   go_ret
   exact ⟨rfl, pw_below_drewN ((Below.refl _ _).alloc (Nat.le_refl _) _) _⟩
  | true =>
   go_wp2_with fail
   go_ret
   exact ⟨rfl, pw_below_drewN ((Below.refl _ _).alloc (Nat.le_refl _) _) _⟩
 ·have HB := Lib.hid hb
  have HP := Lib.hid hp
  clear hb
  go_enter Tryz.func17, Tryz.ntmps17
  go_wp2_with fail
  refine (C.out _).mono ?_
  rintro e w' ⟨rfl, ⟨k, rfl⟩⟩
  go_wp2_with fail
  refine (C2.out _ (HD.out.box _ k)).mono ?_
  rintro e w' ⟨v, b, rfl, hv, k2, rfl⟩
  obtain rfl : b = false := (hv HP.out).trans HB.out
  clear hv
  go_wp2_with fail
  go_ret
  exact ⟨rfl, pw_below_drewN ((Below.refl _ _).alloc (Nat.le_refl _) _) _⟩
 ·have HB := Lib.hid hb
  have HP := Lib.hid hp
  have C3 := Lib.hid (fun w1 => in_any dl 1 per false w1 hi)
  clear hb hi
  go_enter Tryz.func17, Tryz.ntmps17
  go_wp2_with fail
  refine (C.out _).mono ?_
  rintro e w' ⟨rfl, ⟨k, rfl⟩⟩
  go_wp2_with fail
  refine (C2.out _ (HD.out.box _ k)).mono ?_
  rintro e w' ⟨v, b, rfl, hv, k2, rfl⟩
  obtain rfl : b = true := (hv HP.out).trans HB.out
  clear hv
  go_wp2_with fail
  refine (C3.out _).mono ?_
  rintro e w' ⟨rfl, ⟨k3, rfl⟩⟩
  go_wp2_with fail
  go_ret
  exact ⟨rfl, pw_below_drewN ((Below.refl _ _).alloc (Nat.le_refl _) _) _⟩
theorem time_cases {per dl : Int} {ps : List PCod.S47} {es : List PCod.S63} {fs : List PCod.S65} {bs : List PCod.S50} (h : CodPlain.timeB (dOf per dl ps es fs bs) = true) :
  (1 ≤ per ∧ per ≤ 4096) ∧ CodPlain.powB per = true ∧ CodPlain.inB dl 1 per = true := by
 unfold CodPlain.timeB dOf at h
 dsimp only at h
 rw [Bool.and_eq_true] at h
 exact ⟨CodPlain.pow_in h.1, h.1, h.2⟩
theorem part_any_map (ps : List PCod.S47) : (ps.map tP).any CodPlain.partOdd = ps.any (fun x => CodPlain.partOdd (tP x)) := by rw [List.any_map]; rfl
set_option maxRecDepth 100000 in
set_option maxHeartbeats 8000000 in
theorem check_part (per dl : Int) (P : Option Addr) (cp : Nat) (ps : List PCod.S47) (E : Option Addr) (ce : Nat) (es : List PCod.S63) (F : Option Addr) (cf : Nat) (fs : List PCod.S65) (B : Option Addr) (cb : Nat) (bs : List PCod.S50) (w : World)
  (hs : ps.length ≤ 1000 ∧ es.length ≤ 1000 ∧ fs.length ≤ 1000 ∧ bs.length ≤ 1000) (hd : DbAt w) (hr : DR w P cp ps E ce es F cf fs B cb bs) (h : CodPlain.manyB (dOf per dl ps es fs bs) = false) (ht : CodPlain.timeB (dOf per dl ps es fs bs) = true) (hp : ps.any (fun x => CodPlain.partOdd (tP x)) = true) :
  Calls Tryz.prog 17 #[.agg #[.int .i64 per, .int .i64 dl, .slice P ps.length cp, .slice E es.length ce, .slice F fs.length cf, .slice B bs.length cb]] w fun e w' => e = .returned (.int .i64 52) ∧ Below w.heap.size w w' := by
 obtain ⟨m1, m2, m3, m4⟩ := few_cases h
 obtain ⟨⟨t1, t2⟩, t3, t4⟩ := time_cases ht
 clear h ht
 obtain ⟨s1, s2, s3, s4⟩ := hs
 have C := Lib.hid (fun w1 => in_any ps.length 1 16 true w1 m1)
 have C2 := Lib.hid (fun w1 h => two_any per w1 h)
 have C3 := Lib.hid (fun w1 => in_any dl 1 per true w1 t4)
 have C4 := Lib.hid (fun w1 h => contP_any P cp ps w1 h s1)
 rw [hp] at C4
 have HD := Lib.hid hd
 have HR := Lib.hid hr
 have HB := Lib.hid t3
 have HP := Lib.hid t2
 clear m1 hd hr t3 t4 hp
 go_enter Tryz.func17, Tryz.ntmps17
 go_wp2_with fail
 refine (C.out _).mono ?_
 rintro e w' ⟨rfl, ⟨k, rfl⟩⟩
 go_wp2_with fail
 refine (C2.out _ (HD.out.box _ k)).mono ?_
 rintro e w' ⟨v, b, rfl, hv, k2, rfl⟩
 obtain rfl : b = true := (hv HP.out).trans HB.out
 clear hv
 go_wp2_with fail
 refine (C3.out _).mono ?_
 rintro e w' ⟨rfl, ⟨k3, rfl⟩⟩
 go_wp2_with fail
 refine (C4.out _ (HR.out.below (pw_below_drewN ((Below.refl _ _).alloc (Nat.le_refl _) _) _)).p).mono ?_
 rintro e w' ⟨rfl, hb⟩
 have HBW := Lib.hid ((pw_below_drewN ((Below.refl _ _).alloc (Nat.le_refl _) _) _ : Below w.heap.size w _).trans (hb.mono (by simp)))
 clear hb
 go_wp2_with fail
 go_ret
 exact ⟨rfl, HBW.out⟩
end Go.Proofs.YtokhibhmlninnaaGreatDoor
