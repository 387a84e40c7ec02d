/- Texts of this work, put into one. -/
import Derived.Test.YtokhibhmlninnaaGreatDoorRows
import Derived.Test.YtokhibhmlninnaaGreatDoorGMPl
import Derived.WalkKit
import Derived.WalkSpells
import Derived.WalkLawsBesides
import Derived.Lib.Hide
import Derived.Laws.IdiomStrings
namespace Go.Proofs.YtokhibhmlninnaaGreatDoor
open Go.RowKit
def TabAt (w : World) : Prop := 1 < w.heap.size ∧ ∀ i, i < 16 → w.cell? ⟨1, i, none⟩ = some (.int .u32 ((CrcPlain.tab.getD i 0 : Nat) : Int))
theorem TabAt.below {w w' : World} (h : TabAt w) (hb : Below w.heap.size w w') : TabAt w' :=
 ⟨Nat.lt_of_lt_of_le h.1 hb.size, fun i hi => by rw [hb.cell h.1]; exact h.2 i hi⟩
theorem ones_u32 (n : Nat) (h : n < 4294967296) : bits BinOp.xor IntKind.u32 IntKind.u32.max (n : Int) = ((CrcPlain.ones ^^^ n : Nat) : Int) := by
 have := u32_xor_nat 4294967295 n (by decide) h
 exact this
theorem byte_u32 (R : Nat) (c : UInt8) (h : R < 4294967296) : bits BinOp.xor IntKind.u32 (R : Int) ((c.toNat : Int) % 4294967296) = ((R ^^^ c.toNat : Nat) : Int) := by
 have hc := CrcPlain.u8_lt c
 rw [show (c.toNat : Int) % 4294967296 = (c.toNat : Int) by omega]
 exact u32_xor_nat R c.toNat h (by omega)
theorem and_u32 (X : Nat) (h : X < 4294967296) : bits BinOp.and IntKind.u32 (X : Int) 15 = ((X % 16 : Nat) : Int) := by
 have := u32_and_nat X 15 h (by decide)
 rw [show ((15 : Nat) : Int) = 15 by rfl] at this
 rw [this]
 congr 1
 exact Nat.and_two_pow_sub_one_eq_mod X 4
theorem turn_u32 (X : Nat) (h : X < 4294967296) (w : World) (ht : TabAt w) : ∃ m t Y : Nat, m < 16 ∧ bits BinOp.and IntKind.u32 (X : Int) 15 = (m : Int) ∧ w.cell? ⟨1, m, none⟩ = some (.int .u32 (t : Int)) ∧
  bits BinOp.xor IntKind.u32 ((X : Int) / 16) (t : Int) = (Y : Int) ∧ Y < 4294967296 ∧ Y = CrcPlain.nib X := by
 have htab : ∀ i, i < 16 → CrcPlain.tab.getD i 0 < 4294967296 := by decide
 refine ⟨X % 16, CrcPlain.tab.getD (X % 16) 0, CrcPlain.nib X, by omega, and_u32 X h, ht.2 _ (by omega), ?_, ?_, rfl⟩
 ·have := u32_xor_nat (X / 16) (CrcPlain.tab.getD (X % 16) 0) (by omega) (htab _ (by omega))
  rw [← show ((X / 16 : Nat) : Int) = (X : Int) / 16 by simp]
  exact this
 ·exact Nat.xor_lt_two_pow (n := 32) (by omega) (htab _ (by omega))
theorem run_take (S : Nat) (s : ByteArray) (k : Nat) (h : k < s.size) : CrcPlain.run S (s.data.toList.take (k + 1)) = CrcPlain.byt (CrcPlain.run S (s.data.toList.take k)) s[k].toNat := by
 have : s.data.toList.take (k + 1) = s.data.toList.take k ++ [s[k]] := by
  rw [List.take_succ_eq_append_getElem (by simpa using h)]; rfl
 rw [this, CrcPlain.run_append]; rfl
theorem ret_int {k : IntKind} {a b : Int} (h : a = b) : Ending.returned (.int k a) = .returned (.int k b) := by rw [h]
set_option maxHeartbeats 400000 in
theorem more_any (sum : Nat) (s : ByteArray) (w : World) (hs : sum < 4294967296) (hl : s.size ≤ maxLen) (ht : TabAt w) :
  Calls Tryz.prog 82 #[.int .u32 (sum : Int), .string s] w fun e w' => e = .returned (.int .u32 ((CrcPlain.more sum s.data.toList : Nat) : Int)) ∧ w = w' := by
 unfold maxLen at hl
 have hone := CrcPlain.ones_lt hs
 obtain ⟨S, hS⟩ : ∃ S, S = CrcPlain.ones ^^^ sum := ⟨_, rfl⟩
 have hlt : ∀ k, CrcPlain.run S (s.data.toList.take k) < 4294967296 := fun k => CrcPlain.run_lt _ (by rw [hS]; exact hone)
 have HLT := Lib.hid hlt; clear hlt
 have hu := ones_u32 sum hs
 rw [← hS] at hu
 have hfin : CrcPlain.more sum s.data.toList = CrcPlain.ones ^^^ CrcPlain.run S s.data.toList := by rw [hS]; rfl
 have HF := Lib.hid hfin; clear hfin hone hS
 have HT := Lib.hid ht; clear ht
 go_enter Tryz.func82, Tryz.ntmps82
 go_wp2
 go_loop [0, 10] (fun x i => ∃ k R : Nat, k ≤ s.size ∧ R < 4294967296 ∧ i = .int .i64 k ∧ x = .int .u32 (R : Int) ∧ R = CrcPlain.run S (s.data.toList.take k)) (fun _ i => s.size - (intOf i).toNat)
 case atStart => exact ⟨0, S, Nat.zero_le _, by have := HLT.out 0; simpa [CrcPlain.run] using this, rfl, rfl, by simp [CrcPlain.run]⟩
 case round =>
  obtain ⟨k, R, hk, hR, rfl, rfl, hr⟩ := hrel
  have Hr := Lib.hid hr; clear hr hu
  by_cases hlt : k < s.size
  ·have hb := byte_u32 R s[k] hR
   have hX : R ^^^ s[k].toNat < 4294967296 := Nat.xor_lt_two_pow (n := 32) hR (by have := CrcPlain.u8_lt s[k]; omega)
   obtain ⟨X, hXe⟩ : ∃ X, X = R ^^^ s[k].toNat := ⟨_, rfl⟩
   rw [← hXe] at hb hX
   obtain ⟨m, t, Y, hm, ha, hc, hx, hY, hYe⟩ := turn_u32 X hX w HT.out
   obtain ⟨m2, t2, Z, hm2, ha2, hc2, hx2, hZ, hZe⟩ := turn_u32 Y hY w HT.out
   have hz : Z = CrcPlain.run S (s.data.toList.take (k + 1)) := by
    rw [run_take S s k hlt, ← Hr.out, hZe, hYe, hXe]; rfl
   have Hz := Lib.hid hz
   clear hz hXe hYe hZe
   go_wp2
   go_round
   case rel => exact ⟨k + 1, Z, by omega, hZ, by go_num, rfl, Hz.out⟩
   case measure => simp [intOf]; omega
  ·have hu := ones_u32 R hR
   obtain ⟨V, hV⟩ : ∃ V, V = CrcPlain.ones ^^^ R := ⟨_, rfl⟩
   rw [← hV] at hu
   have HV := Lib.hid hV; clear hV
   go_wp2
   go_ret
   exact ⟨ret_int (by rw [HF.out, HV.out, Hr.out, List.take_of_length_le (by simp; omega)]), rfl⟩
set_option maxHeartbeats 400000 in
theorem sum_any (s : ByteArray) (w : World) (hl : s.size ≤ maxLen) (ht : TabAt w) :
  Calls Tryz.prog 54 #[.string s] w fun e w' => e = .returned (.int .u32 ((CrcPlain.sum s.data.toList : Nat) : Int)) ∧ w = w' := by
 go_enter Tryz.func54, Tryz.ntmps54
 go_wp2_with (go_at_call 82; refine (more_any 0 s _ (by decide) hl ht).mono ?_; rintro e w' ⟨rfl, rfl⟩)
 go_ret
 exact ⟨rfl, rfl⟩
end Go.Proofs.YtokhibhmlninnaaGreatDoor

namespace Go.Proofs.YtokhibhmlninnaaGreatDoor
open Go.RowKit
theorem back_tail (n : Nat) (hn : n < 4294967296) (w : World) (t : TypeId) :
  (convert 53 9 (.slice (some ⟨w.heap.size, 0, none⟩) 4 4)).run Tryz.prog (w.alloc (.cells #[.int .u8 ((n : Int) % 256), .int .u8 ((n : Int) / 256 % 256), .int .u8 ((n : Int) / 65536 % 256), .int .u8 ((n : Int) / 16777216)] t)) =
   .ok (.string ⟨(CrcPlain.tail n).toArray⟩) (w.alloc (.cells #[.int .u8 ((n : Int) % 256), .int .u8 ((n : Int) / 256 % 256), .int .u8 ((n : Int) / 65536 % 256), .int .u8 ((n : Int) / 16777216)] t)) := by
 refine run_convert_bytes_back (l := CrcPlain.tail n) _ 53 9 5 _ 4 Tryz.underlying53 Tryz.underlying5 Tryz.underlying9 ?_
 intro j hj
 have hj' : j < 4 := hj
 have e : (⟨w.heap.size, 0, none⟩ : Addr).add j = ⟨w.heap.size, j, none⟩ := by simp [Addr.add, eq_comm]
 rw [e, World.cell?_alloc_mark]
 match j, hj' with
 | 0, _ => simp [CrcPlain.tail]
 | 1, _ => simp [CrcPlain.tail]
 | 2, _ => simp [CrcPlain.tail]
 | 3, _ => simp [CrcPlain.tail]; omega
def tailB (n : Nat) : ByteArray := ⟨(CrcPlain.tail n).toArray⟩
def sumB (s : ByteArray) : Nat := CrcPlain.sum s.data.toList
def sealB (s : ByteArray) : ByteArray := s ++ tailB (sumB s)
def openB (s : ByteArray) : ByteArray × Bool := if s.size < 4 then (⟨#[]⟩, false) else if sealB (s.extract 0 (s.size - 4)) = s then (s.extract 0 (s.size - 4), true) else (⟨#[]⟩, false)
theorem str_ne {a b : ByteArray} (h : a ≠ b) : (a.toList == b.toList) = false := by
 rw [ByteArray.toList_eq, ByteArray.toList_eq, beq_eq_false_iff_ne]
 intro e
 exact h (ByteArray.ext (Array.toList_inj.mp e))
theorem tailB_size (n : Nat) : (tailB n).size = 4 := rfl
theorem sealB_size (s : ByteArray) : (sealB s).size = s.size + 4 := by unfold sealB; simp [tailB_size]
set_option maxHeartbeats 400000 in
theorem tail_any (n : Nat) (hn : n < 4294967296) (w : World) :
  Calls Tryz.prog 24 #[.int .u32 (n : Int)] w fun e w' => e = .returned (.string (tailB n)) ∧ Below w.heap.size w w' := by
 have hb := back_tail n hn w 5
 rw [show (⟨(CrcPlain.tail n).toArray⟩ : ByteArray) = tailB n from rfl] at hb
 generalize tailB n = T at *
 go_enter Tryz.func24, Tryz.ntmps24
 go_wp2
 go_ret
 exact ⟨rfl, (Below.refl _ _).alloc (Nat.le_refl _) _⟩
set_option maxHeartbeats 400000 in
theorem seal_any (s : ByteArray) (w : World) (hl : s.size ≤ 1000) (ht : TabAt w) :
  Calls Tryz.prog 20 #[.string s] w fun e w' => e = .returned (.string (sealB s)) ∧ Below w.heap.size w w' := by
 have hs := CrcPlain.sum_lt s.data.toList
 unfold sealB
 obtain ⟨S, hS⟩ : ∃ S, S = sumB s := ⟨_, rfl⟩
 have hcall := sum_any s w (by unfold maxLen; omega) ht
 rw [show CrcPlain.sum s.data.toList = S from hS.symm] at hs hcall
 rw [← hS]
 have HC := Lib.hid hcall
 have hb := back_tail S hs w 110
 rw [show (⟨(CrcPlain.tail S).toArray⟩ : ByteArray) = tailB S from rfl] at hb
 have hT : (tailB S).size ≤ 4 := Nat.le_refl _
 generalize tailB S = T at *
 clear hS hcall ht
 go_enter Tryz.func20, Tryz.ntmps20
 go_wp2_with fail
 refine HC.out.mono ?_
 rintro e w' ⟨rfl, rfl⟩
 go_wp2
 go_ret
 exact ⟨rfl, (Below.refl _ _).alloc (Nat.le_refl _) _⟩
set_option maxHeartbeats 400000 in
theorem open_any (s : ByteArray) (w : World) (hl : s.size ≤ 1000) (ht : TabAt w) :
  Calls Tryz.prog 61 #[.string s] w fun e w' => e = .returned (.tuple #[.string (openB s).1, .bool (openB s).2]) ∧ Below w.heap.size w w' := by
 by_cases h4 : s.size < 4
 ·have he : openB s = (⟨#[]⟩, false) := by unfold openB; rw [if_pos h4]
  rw [he]
  clear he
  go_enter Tryz.func61, Tryz.ntmps61
  go_wp2
  go_ret2
  exact ⟨rfl, Below.refl _ _⟩
 ·have hcall := seal_any (s.extract 0 (s.size - 4)) w (by simp; omega) ht
  have HC := Lib.hid hcall
  by_cases hq : sealB (s.extract 0 (s.size - 4)) = s
  ·have he : openB s = (s.extract 0 (s.size - 4), true) := by unfold openB; rw [if_neg h4, if_pos hq]
   rw [he]
   clear he hcall
   have HQ := Lib.hid hq
   clear hq
   go_enter Tryz.func61, Tryz.ntmps61
   go_wp2_with fail
   refine HC.out.mono ?_
   rintro e w1 ⟨rfl, hb⟩
   rw [HQ.out]
   go_wp2
   go_ret2
   exact ⟨rfl, hb⟩
  ·have he : openB s = (⟨#[]⟩, false) := by unfold openB; rw [if_neg h4, if_neg hq]
   rw [he]
   clear he hcall
   have hne := str_ne hq
   clear hq
   go_enter Tryz.func61, Tryz.ntmps61
   go_wp2_with fail
   refine HC.out.mono ?_
   rintro e w1 ⟨rfl, hb⟩
   go_wp2
   go_ret2
   exact ⟨rfl, hb⟩
theorem bit_u32_odd (X : Nat) (h : X < 4294967296) (ho : X % 2 = 1) : bits BinOp.xor IntKind.u32 ((X : Int) / 2) 3988292384 = ((CrcPlain.bit X : Nat) : Int) := by
 have := u32_xor_nat (X / 2) 3988292384 (by omega) (by decide)
 unfold CrcPlain.bit
 rw [if_pos ho, ← this]
 simp
theorem it_snoc (n : Nat) : ∀ s, CrcPlain.it (n + 1) s = CrcPlain.bit (CrcPlain.it n s) := by
 intro s; rw [CrcPlain.it_add n 1 s]; rfl
theorem xor_ones_u32 (n : Nat) (h : n < 4294967296) : bits BinOp.xor IntKind.u32 (n : Int) 4294967295 = ((CrcPlain.ones ^^^ n : Nat) : Int) := by
 have := u32_xor_nat n 4294967295 h (by decide)
 rw [Nat.xor_comm] at this
 exact this
set_option maxHeartbeats 400000 in
theorem refsum_any (s : ByteArray) (w : World) (hl : s.size ≤ 1000) :
  Calls Tryz.prog 25 #[.string s] w fun e w' => e = .returned (.int .u32 ((sumB s : Nat) : Int)) ∧ w = w' := by
 have hlt : ∀ k, CrcPlain.run CrcPlain.ones (s.data.toList.take k) < 4294967296 := fun k => CrcPlain.run_lt _ (by decide)
 have HLT := Lib.hid hlt; clear hlt
 have hfin : sumB s = CrcPlain.ones ^^^ CrcPlain.run CrcPlain.ones s.data.toList := rfl
 have HF := Lib.hid hfin; clear hfin
 go_enter Tryz.func25, Tryz.ntmps25
 go_wp2
 go_loop [3, 4] (fun x i => ∃ k R : Nat, k ≤ s.size ∧ R < 4294967296 ∧ i = .int .i64 k ∧ x = .int .u32 (R : Int) ∧ R = CrcPlain.run CrcPlain.ones (s.data.toList.take k)) (fun _ i => s.size - (intOf i).toNat)
 case atStart => exact ⟨0, 4294967295, Nat.zero_le _, by decide, rfl, rfl, by simp [CrcPlain.run, CrcPlain.ones]⟩
 case round =>
  obtain ⟨k, R, hk, hR, rfl, rfl, hr⟩ := hrel
  have Hr := Lib.hid hr; clear hr
  by_cases hlt : k < s.size
  ·have hb := byte_u32 R s[k] hR
   have hX : R ^^^ s[k].toNat < 4294967296 := Nat.xor_lt_two_pow (n := 32) hR (by have := CrcPlain.u8_lt s[k]; omega)
   obtain ⟨X, hXe⟩ : ∃ X, X = R ^^^ s[k].toNat := ⟨_, rfl⟩
   rw [← hXe] at hb hX
   have hz : CrcPlain.it 8 X = CrcPlain.run CrcPlain.ones (s.data.toList.take (k + 1)) := by
    rw [run_take CrcPlain.ones s k hlt, ← Hr.out, hXe, CrcPlain.byt_it]
   have Hz := Lib.hid hz
   clear hz hXe
   go_wp2
   go_loop [3, 5] (fun x i => ∃ j Y : Nat, j ≤ 8 ∧ Y < 4294967296 ∧ i = .int .i64 j ∧ x = .int .u32 (Y : Int) ∧ Y = CrcPlain.it j X) (fun _ i => 8 - (intOf i).toNat)
   case atStart => exact ⟨0, X, by omega, hX, rfl, rfl, rfl⟩
   case round =>
    obtain ⟨j, Y, hj, hY, rfl, rfl, hy⟩ := hrel
    have Hy := Lib.hid hy; clear hy
    by_cases hj8 : j < 8
    ·by_cases ho : Y % 2 = 1
     ·have hbit := bit_u32_odd Y hY ho
      have hq : (((Y : Int) % 2) == 1) = true := by simp; omega
      have hB : CrcPlain.bit Y < 4294967296 := CrcPlain.bit_lt hY
      obtain ⟨B, hBe⟩ : ∃ B, B = CrcPlain.bit Y := ⟨_, rfl⟩
      rw [← hBe] at hbit hB
      have HB := Lib.hid hBe
      clear hBe ho
      go_wp2
      go_round
      case rel => exact ⟨j + 1, B, by omega, hB, by go_num, rfl, by rw [it_snoc, ← Hy.out, HB.out]⟩
      case measure => simp [intOf]; omega
     ·have hq : (((Y : Int) % 2) == 1) = false := by simp; omega
      have HB : Hid (CrcPlain.bit Y = Y / 2) := by show CrcPlain.bit Y = Y / 2; unfold CrcPlain.bit; rw [if_neg ho]
      clear ho
      go_wp2
      go_round
      case rel => exact ⟨j + 1, Y / 2, by omega, by omega, by go_num, by go_num, by rw [it_snoc, ← Hy.out, HB.out]⟩
      case measure => simp [intOf]; omega
    ·obtain rfl : j = 8 := by omega
     go_wp2
     go_round
     case rel => exact ⟨k + 1, Y, by omega, hY, by go_num, rfl, by rw [Hy.out, Hz.out]⟩
     case measure => simp [intOf]; omega
  ·have hu := xor_ones_u32 R hR
   obtain ⟨V, hV⟩ : ∃ V, V = CrcPlain.ones ^^^ R := ⟨_, rfl⟩
   rw [← hV] at hu
   have HV := Lib.hid hV; clear hV
   go_wp2
   go_ret
   exact ⟨ret_int (by rw [HF.out, HV.out, Hr.out, List.take_of_length_le (by simp; omega)]), rfl⟩
end Go.Proofs.YtokhibhmlninnaaGreatDoor
