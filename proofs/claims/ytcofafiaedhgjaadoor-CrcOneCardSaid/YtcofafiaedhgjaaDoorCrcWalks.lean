/- More and Sum compute the table-driven sum of the bytes, wherever the table holds its sixteen numbers; the bytes are at most maxLen. -/
import Derived.Test.YtcofafiaedhgjaaDoorRows
import Derived.Test.YtcofafiaedhgjaaDoorCrcPlain
import Derived.WalkKit
import Derived.WalkSpells
import Derived.WalkLawsBesides
import Derived.Lib.Hide
namespace Go.Proofs.YtcofafiaedhgjaaDoor
open Go.RowKit

def TabAt (w : World) : Prop := 0 < w.heap.size ∧ ∀ i, i < 16 → w.cell? ⟨0, i, none⟩ = some (.int .u32 ((CrcPlain.tab.getD i 0 : Nat) : Int))

theorem TabAt.below {w w' : World} (h : TabAt w) (hb : Below w.heap.size w w') : TabAt w' :=
  ⟨Nat.lt_of_lt_of_le h.1 hb.size, fun i hi => by rw [hb.cell h.1]; exact h.2 i hi⟩
theorem ones_u32 (n : Nat) (h : n < 4294967296) : bits BinOp.xor IntKind.u32 IntKind.u32.max (n : Int) = ((CrcPlain.ones ^^^ n : Nat) : Int) := by
  have := u32_xor_nat 4294967295 n (by decide) h
  exact this
theorem byte_u32 (R : Nat) (c : UInt8) (h : R < 4294967296) : bits BinOp.xor IntKind.u32 (R : Int) ((c.toNat : Int) % 4294967296) = ((R ^^^ c.toNat : Nat) : Int) := by
  have hc := CrcPlain.u8_lt c
  rw [show (c.toNat : Int) % 4294967296 = (c.toNat : Int) by omega]
  exact u32_xor_nat R c.toNat h (by omega)
theorem and_u32 (X : Nat) (h : X < 4294967296) : bits BinOp.and IntKind.u32 (X : Int) 15 = ((X % 16 : Nat) : Int) := by
  have := u32_and_nat X 15 h (by decide)
  rw [show ((15 : Nat) : Int) = 15 by rfl] at this
  rw [this]
  congr 1
  exact Nat.and_two_pow_sub_one_eq_mod X 4
/-- one turn of four bits, as the walk spells it -/
theorem turn_u32 (X : Nat) (h : X < 4294967296) (w : World) (ht : TabAt w) : ∃ m t Y : Nat, m < 16 ∧ bits BinOp.and IntKind.u32 (X : Int) 15 = (m : Int) ∧ w.cell? ⟨0, m, none⟩ = some (.int .u32 (t : Int)) ∧
    bits BinOp.xor IntKind.u32 ((X : Int) / 16) (t : Int) = (Y : Int) ∧ Y < 4294967296 ∧ Y = CrcPlain.nib X := by
  have htab : ∀ i, i < 16 → CrcPlain.tab.getD i 0 < 4294967296 := by decide
  refine ⟨X % 16, CrcPlain.tab.getD (X % 16) 0, CrcPlain.nib X, by omega, and_u32 X h, ht.2 _ (by omega), ?_, ?_, rfl⟩
  · have := u32_xor_nat (X / 16) (CrcPlain.tab.getD (X % 16) 0) (by omega) (htab _ (by omega))
    rw [← show ((X / 16 : Nat) : Int) = (X : Int) / 16 by simp]
    exact this
  · exact Nat.xor_lt_two_pow (n := 32) (by omega) (htab _ (by omega))
theorem run_take (S : Nat) (s : ByteArray) (k : Nat) (h : k < s.size) : CrcPlain.run S (s.data.toList.take (k + 1)) = CrcPlain.byt (CrcPlain.run S (s.data.toList.take k)) s[k].toNat := by
  have : s.data.toList.take (k + 1) = s.data.toList.take k ++ [s[k]] := by
    rw [List.take_succ_eq_append_getElem (by simpa using h)]; rfl
  rw [this, CrcPlain.run_append]; rfl
theorem ret_int {k : IntKind} {a b : Int} (h : a = b) : Ending.returned (.int k a) = .returned (.int k b) := by rw [h]

set_option maxHeartbeats 400000 in
theorem more_any (sum : Nat) (s : ByteArray) (w : World) (hs : sum < 4294967296) (hl : s.size ≤ maxLen) (ht : TabAt w) :
    Calls Tryd.prog 16 #[.int .u32 (sum : Int), .string s] w fun e w' => e = .returned (.int .u32 ((CrcPlain.more sum s.data.toList : Nat) : Int)) ∧ w = w' := by
  unfold maxLen at hl
  have hone := CrcPlain.ones_lt hs
  obtain ⟨S, hS⟩ : ∃ S, S = CrcPlain.ones ^^^ sum := ⟨_, rfl⟩
  have hlt : ∀ k, CrcPlain.run S (s.data.toList.take k) < 4294967296 := fun k => CrcPlain.run_lt _ (by rw [hS]; exact hone)
  have HLT := Lib.hid hlt; clear hlt
  have hu := ones_u32 sum hs
  rw [← hS] at hu
  have hfin : CrcPlain.more sum s.data.toList = CrcPlain.ones ^^^ CrcPlain.run S s.data.toList := by rw [hS]; rfl
  have HF := Lib.hid hfin; clear hfin hone hS
  have HT := Lib.hid ht; clear ht
  go_enter Tryd.func16, Tryd.ntmps16
  go_wp2
  go_loop [0, 10] (fun x i => ∃ k R : Nat, k ≤ s.size ∧ R < 4294967296 ∧ i = .int .i64 k ∧ x = .int .u32 (R : Int) ∧ R = CrcPlain.run S (s.data.toList.take k)) (fun _ i => s.size - (intOf i).toNat)
  case atStart => exact ⟨0, S, Nat.zero_le _, by have := HLT.out 0; simpa [CrcPlain.run] using this, rfl, rfl, by simp [CrcPlain.run]⟩
  case round =>
    obtain ⟨k, R, hk, hR, rfl, rfl, hr⟩ := hrel
    have Hr := Lib.hid hr; clear hr hu
    by_cases hlt : k < s.size
    · have hb := byte_u32 R s[k] hR
      have hX : R ^^^ s[k].toNat < 4294967296 := Nat.xor_lt_two_pow (n := 32) hR (by have := CrcPlain.u8_lt s[k]; omega)
      obtain ⟨X, hXe⟩ : ∃ X, X = R ^^^ s[k].toNat := ⟨_, rfl⟩
      rw [← hXe] at hb hX
      obtain ⟨m, t, Y, hm, ha, hc, hx, hY, hYe⟩ := turn_u32 X hX w HT.out
      obtain ⟨m2, t2, Z, hm2, ha2, hc2, hx2, hZ, hZe⟩ := turn_u32 Y hY w HT.out
      have hz : Z = CrcPlain.run S (s.data.toList.take (k + 1)) := by
        rw [run_take S s k hlt, ← Hr.out, hZe, hYe, hXe]; rfl
      have Hz := Lib.hid hz
      clear hz hXe hYe hZe
      go_wp2
      go_round
      case rel => exact ⟨k + 1, Z, by omega, hZ, by go_num, rfl, Hz.out⟩
      case measure => simp [intOf]; omega
    · have hu := ones_u32 R hR
      obtain ⟨V, hV⟩ : ∃ V, V = CrcPlain.ones ^^^ R := ⟨_, rfl⟩
      rw [← hV] at hu
      have HV := Lib.hid hV; clear hV
      go_wp2
      go_ret
      exact ⟨ret_int (by rw [HF.out, HV.out, Hr.out, List.take_of_length_le (by simp; omega)]), rfl⟩

set_option maxHeartbeats 400000 in
theorem sum_any (s : ByteArray) (w : World) (hl : s.size ≤ maxLen) (ht : TabAt w) :
    Calls Tryd.prog 10 #[.string s] w fun e w' => e = .returned (.int .u32 ((CrcPlain.sum s.data.toList : Nat) : Int)) ∧ w = w' := by
  go_enter Tryd.func10, Tryd.ntmps10
  go_wp2_with (go_at_call 16; refine (more_any 0 s _ (by decide) hl ht).mono ?_; rintro e w' ⟨rfl, rfl⟩)
  go_ret
  exact ⟨rfl, rfl⟩
end Go.Proofs.YtcofafiaedhgjaaDoor
