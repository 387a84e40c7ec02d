/- Seal, Open and the reference Sum and Tail compute the functions sealB, openB, sumB and tailB, wherever the table holds its sixteen numbers; the bytes are at most 1000. -/
import Derived.Test.YtcofafiaedhgjaaDoorCrcWalks
import Derived.Laws.IdiomStrings
namespace Go.Proofs.YtcofafiaedhgjaaDoor
open Go.RowKit

theorem back_tail (n : Nat) (hn : n < 4294967296) (w : World) (t : TypeId) :
    (convert 32 9 (.slice (some ⟨w.heap.size, 0, none⟩) 4 4)).run Tryd.prog (w.alloc (.cells #[.int .u8 ((n : Int) % 256), .int .u8 ((n : Int) / 256 % 256), .int .u8 ((n : Int) / 65536 % 256), .int .u8 ((n : Int) / 16777216)] t)) =
      .ok (.string ⟨(CrcPlain.tail n).toArray⟩) (w.alloc (.cells #[.int .u8 ((n : Int) % 256), .int .u8 ((n : Int) / 256 % 256), .int .u8 ((n : Int) / 65536 % 256), .int .u8 ((n : Int) / 16777216)] t)) := by
  refine run_convert_bytes_back (l := CrcPlain.tail n) _ 32 9 5 _ 4 Tryd.underlying32 Tryd.underlying5 Tryd.underlying9 ?_
  intro j hj
  have hj' : j < 4 := hj
  have e : (⟨w.heap.size, 0, none⟩ : Addr).add j = ⟨w.heap.size, j, none⟩ := by simp [Addr.add, eq_comm]
  rw [e, World.cell?_alloc_mark]
  match j, hj' with
  | 0, _ => simp [CrcPlain.tail]
  | 1, _ => simp [CrcPlain.tail]
  | 2, _ => simp [CrcPlain.tail]
  | 3, _ => simp [CrcPlain.tail]; omega

def tailB (n : Nat) : ByteArray := ⟨(CrcPlain.tail n).toArray⟩
def sumB (s : ByteArray) : Nat := CrcPlain.sum s.data.toList
def sealB (s : ByteArray) : ByteArray := s ++ tailB (sumB s)
def openB (s : ByteArray) : ByteArray × Bool := if s.size < 4 then (⟨#[]⟩, false) else if sealB (s.extract 0 (s.size - 4)) = s then (s.extract 0 (s.size - 4), true) else (⟨#[]⟩, false)
theorem str_ne {a b : ByteArray} (h : a ≠ b) : (a.toList == b.toList) = false := by
  rw [ByteArray.toList_eq, ByteArray.toList_eq, beq_eq_false_iff_ne]
  intro e
  exact h (ByteArray.ext (Array.toList_inj.mp e))
theorem tailB_size (n : Nat) : (tailB n).size = 4 := rfl
theorem sealB_size (s : ByteArray) : (sealB s).size = s.size + 4 := by unfold sealB; simp [tailB_size]

set_option maxHeartbeats 400000 in
theorem tail_any (n : Nat) (hn : n < 4294967296) (w : World) :
    Calls Tryd.prog 13 #[.int .u32 (n : Int)] w fun e w' => e = .returned (.string (tailB n)) ∧ Below w.heap.size w w' := by
  have hb := back_tail n hn w 5
  rw [show (⟨(CrcPlain.tail n).toArray⟩ : ByteArray) = tailB n from rfl] at hb
  generalize tailB n = T at *
  go_enter Tryd.func13, Tryd.ntmps13
  go_wp2
  go_ret
  exact ⟨rfl, (Below.refl _ _).alloc (Nat.le_refl _) _⟩

set_option maxHeartbeats 400000 in
theorem seal_any (s : ByteArray) (w : World) (hl : s.size ≤ 1000) (ht : TabAt w) :
    Calls Tryd.prog 12 #[.string s] w fun e w' => e = .returned (.string (sealB s)) ∧ Below w.heap.size w w' := by
  have hs := CrcPlain.sum_lt s.data.toList
  unfold sealB
  obtain ⟨S, hS⟩ : ∃ S, S = sumB s := ⟨_, rfl⟩
  have hcall := sum_any s w (by unfold maxLen; omega) ht
  rw [show CrcPlain.sum s.data.toList = S from hS.symm] at hs hcall
  rw [← hS]
  have HC := Lib.hid hcall
  have hb := back_tail S hs w 37
  rw [show (⟨(CrcPlain.tail S).toArray⟩ : ByteArray) = tailB S from rfl] at hb
  have hT : (tailB S).size ≤ 4 := Nat.le_refl _
  generalize tailB S = T at *
  clear hS hcall ht
  go_enter Tryd.func12, Tryd.ntmps12
  go_wp2_with fail
  refine HC.out.mono ?_
  rintro e w' ⟨rfl, rfl⟩
  go_wp2
  go_ret
  exact ⟨rfl, (Below.refl _ _).alloc (Nat.le_refl _) _⟩

set_option maxHeartbeats 400000 in
theorem open_any (s : ByteArray) (w : World) (hl : s.size ≤ 1000) (ht : TabAt w) :
    Calls Tryd.prog 14 #[.string s] w fun e w' => e = .returned (.tuple #[.string (openB s).1, .bool (openB s).2]) ∧ Below w.heap.size w w' := by
  by_cases h4 : s.size < 4
  · have he : openB s = (⟨#[]⟩, false) := by unfold openB; rw [if_pos h4]
    rw [he]
    clear he
    go_enter Tryd.func14, Tryd.ntmps14
    go_wp2
    go_ret2
    exact ⟨rfl, Below.refl _ _⟩
  · have hcall := seal_any (s.extract 0 (s.size - 4)) w (by simp; omega) ht
    have HC := Lib.hid hcall
    by_cases hq : sealB (s.extract 0 (s.size - 4)) = s
    · have he : openB s = (s.extract 0 (s.size - 4), true) := by unfold openB; rw [if_neg h4, if_pos hq]
      rw [he]
      clear he hcall
      have HQ := Lib.hid hq
      clear hq
      go_enter Tryd.func14, Tryd.ntmps14
      go_wp2_with fail
      refine HC.out.mono ?_
      rintro e w1 ⟨rfl, hb⟩
      rw [HQ.out]
      go_wp2
      go_ret2
      exact ⟨rfl, hb⟩
    · have he : openB s = (⟨#[]⟩, false) := by unfold openB; rw [if_neg h4, if_neg hq]
      rw [he]
      clear he hcall
      have hne := str_ne hq
      clear hq
      go_enter Tryd.func14, Tryd.ntmps14
      go_wp2_with fail
      refine HC.out.mono ?_
      rintro e w1 ⟨rfl, hb⟩
      go_wp2
      go_ret2
      exact ⟨rfl, hb⟩

/-! the reference, bit by bit -/
theorem bit_u32_odd (X : Nat) (h : X < 4294967296) (ho : X % 2 = 1) : bits BinOp.xor IntKind.u32 ((X : Int) / 2) 3988292384 = ((CrcPlain.bit X : Nat) : Int) := by
  have := u32_xor_nat (X / 2) 3988292384 (by omega) (by decide)
  unfold CrcPlain.bit
  rw [if_pos ho, ← this]
  simp
theorem it_snoc (n : Nat) : ∀ s, CrcPlain.it (n + 1) s = CrcPlain.bit (CrcPlain.it n s) := by
  intro s; rw [CrcPlain.it_add n 1 s]; rfl
theorem xor_ones_u32 (n : Nat) (h : n < 4294967296) : bits BinOp.xor IntKind.u32 (n : Int) 4294967295 = ((CrcPlain.ones ^^^ n : Nat) : Int) := by
  have := u32_xor_nat n 4294967295 h (by decide)
  rw [Nat.xor_comm] at this
  exact this

set_option maxHeartbeats 400000 in
theorem refsum_any (s : ByteArray) (w : World) (hl : s.size ≤ 1000) :
    Calls Tryd.prog 11 #[.string s] w fun e w' => e = .returned (.int .u32 ((sumB s : Nat) : Int)) ∧ w = w' := by
  have hlt : ∀ k, CrcPlain.run CrcPlain.ones (s.data.toList.take k) < 4294967296 := fun k => CrcPlain.run_lt _ (by decide)
  have HLT := Lib.hid hlt; clear hlt
  have hfin : sumB s = CrcPlain.ones ^^^ CrcPlain.run CrcPlain.ones s.data.toList := rfl
  have HF := Lib.hid hfin; clear hfin
  go_enter Tryd.func11, Tryd.ntmps11
  go_wp2
  go_loop [3, 4] (fun x i => ∃ k R : Nat, k ≤ s.size ∧ R < 4294967296 ∧ i = .int .i64 k ∧ x = .int .u32 (R : Int) ∧ R = CrcPlain.run CrcPlain.ones (s.data.toList.take k)) (fun _ i => s.size - (intOf i).toNat)
  case atStart => exact ⟨0, 4294967295, Nat.zero_le _, by decide, rfl, rfl, by simp [CrcPlain.run, CrcPlain.ones]⟩
  case round =>
    obtain ⟨k, R, hk, hR, rfl, rfl, hr⟩ := hrel
    have Hr := Lib.hid hr; clear hr
    by_cases hlt : k < s.size
    · have hb := byte_u32 R s[k] hR
      have hX : R ^^^ s[k].toNat < 4294967296 := Nat.xor_lt_two_pow (n := 32) hR (by have := CrcPlain.u8_lt s[k]; omega)
      obtain ⟨X, hXe⟩ : ∃ X, X = R ^^^ s[k].toNat := ⟨_, rfl⟩
      rw [← hXe] at hb hX
      have hz : CrcPlain.it 8 X = CrcPlain.run CrcPlain.ones (s.data.toList.take (k + 1)) := by
        rw [run_take CrcPlain.ones s k hlt, ← Hr.out, hXe, CrcPlain.byt_it]
      have Hz := Lib.hid hz
      clear hz hXe
      go_wp2
      go_loop [3, 5] (fun x i => ∃ j Y : Nat, j ≤ 8 ∧ Y < 4294967296 ∧ i = .int .i64 j ∧ x = .int .u32 (Y : Int) ∧ Y = CrcPlain.it j X) (fun _ i => 8 - (intOf i).toNat)
      case atStart => exact ⟨0, X, by omega, hX, rfl, rfl, rfl⟩
      case round =>
        obtain ⟨j, Y, hj, hY, rfl, rfl, hy⟩ := hrel
        have Hy := Lib.hid hy; clear hy
        by_cases hj8 : j < 8
        · by_cases ho : Y % 2 = 1
          · have hbit := bit_u32_odd Y hY ho
            have hq : (((Y : Int) % 2) == 1) = true := by simp; omega
            have hB : CrcPlain.bit Y < 4294967296 := CrcPlain.bit_lt hY
            obtain ⟨B, hBe⟩ : ∃ B, B = CrcPlain.bit Y := ⟨_, rfl⟩
            rw [← hBe] at hbit hB
            have HB := Lib.hid hBe
            clear hBe ho
            go_wp2
            go_round
            case rel => exact ⟨j + 1, B, by omega, hB, by go_num, rfl, by rw [it_snoc, ← Hy.out, HB.out]⟩
            case measure => simp [intOf]; omega
          · have hq : (((Y : Int) % 2) == 1) = false := by simp; omega
            have HB : Hid (CrcPlain.bit Y = Y / 2) := by show CrcPlain.bit Y = Y / 2; unfold CrcPlain.bit; rw [if_neg ho]
            clear ho
            go_wp2
            go_round
            case rel => exact ⟨j + 1, Y / 2, by omega, by omega, by go_num, by go_num, by rw [it_snoc, ← Hy.out, HB.out]⟩
            case measure => simp [intOf]; omega
        · obtain rfl : j = 8 := by omega
          go_wp2
          go_round
          case rel => exact ⟨k + 1, Y, by omega, hY, by go_num, rfl, by rw [Hy.out, Hz.out]⟩
          case measure => simp [intOf]; omega
    · have hu := xor_ones_u32 R hR
      obtain ⟨V, hV⟩ : ∃ V, V = CrcPlain.ones ^^^ R := ⟨_, rfl⟩
      rw [← hV] at hu
      have HV := Lib.hid hV; clear hV
      go_wp2
      go_ret
      exact ⟨ret_int (by rw [HF.out, HV.out, Hr.out, List.take_of_length_le (by simp; omega)]), rfl⟩
end Go.Proofs.YtcofafiaedhgjaaDoor
