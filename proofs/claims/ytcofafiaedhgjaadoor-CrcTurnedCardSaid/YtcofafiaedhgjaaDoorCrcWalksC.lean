/- The law package awake answers true, wherever the table holds its sixteen numbers. -/
import Derived.Test.YtcofafiaedhgjaaDoorCrcWalksB
namespace Go.Proofs.YtcofafiaedhgjaaDoor
open Go.RowKit

theorem k1 : openB (sealB ⟨#[97, 98, 99]⟩) = (⟨#[97, 98, 99]⟩, true) := by decide +kernel
theorem k2 : openB ⟨#[97, 98, 99, 100]⟩ = (⟨#[]⟩, false) := by decide +kernel
theorem k3 : CrcPlain.sum (⟨#[49, 50, 51, 52, 53, 54, 55, 56, 57]⟩ : ByteArray).data.toList = 3421780262 := by decide +kernel
theorem k4 : CrcPlain.sum (⟨#[]⟩ : ByteArray).data.toList = 0 := by decide +kernel
theorem k5 : CrcPlain.more (CrcPlain.sum (⟨#[49, 50, 51, 52]⟩ : ByteArray).data.toList) (⟨#[53, 54, 55, 56, 57]⟩ : ByteArray).data.toList = 3421780262 := by decide +kernel

set_option maxHeartbeats 400000 in
theorem awake_any (w : World) (ht : TabAt w) :
    Calls Tryd.prog 9 #[] w fun e w' => e = .returned (.bool true) ∧ Below w.heap.size w w' := by
  have C1 := Lib.hid (seal_any ⟨#[97, 98, 99]⟩ w (by decide) ht)
  have C2 := Lib.hid (fun (w1 : World) (h : TabAt w1) => open_any (sealB ⟨#[97, 98, 99]⟩) w1 (by decide +kernel) h)
  have C3 := Lib.hid (fun (w1 : World) (h : TabAt w1) => open_any ⟨#[97, 98, 99, 100]⟩ w1 (by decide +kernel) h)
  have C4 := Lib.hid (fun (w1 : World) (h : TabAt w1) => sum_any ⟨#[49, 50, 51, 52, 53, 54, 55, 56, 57]⟩ w1 (by decide +kernel) h)
  have C5 := Lib.hid (fun (w1 : World) (h : TabAt w1) => sum_any ⟨#[]⟩ w1 (by decide +kernel) h)
  have C6 := Lib.hid (fun (w1 : World) (h : TabAt w1) => sum_any ⟨#[49, 50, 51, 52]⟩ w1 (by decide +kernel) h)
  have C7 := Lib.hid (fun (w1 : World) (h : TabAt w1) => more_any (CrcPlain.sum (⟨#[49, 50, 51, 52]⟩ : ByteArray).data.toList) ⟨#[53, 54, 55, 56, 57]⟩ w1 (CrcPlain.sum_lt _) (by decide +kernel) h)
  have HT := Lib.hid ht; clear ht
  go_enter Tryd.func9, Tryd.ntmps9
  go_wp2_with fail
  refine C1.out.mono ?_
  rintro e w1 ⟨rfl, hb1⟩
  have t1 := Lib.hid (HT.out.below hb1)
  go_wp2_with fail
  refine (C2.out w1 t1.out).mono ?_
  rintro e w2 ⟨rfl, hb2⟩
  rw [k1]
  have t2 := Lib.hid (t1.out.below hb2)
  go_wp2_with fail
  refine (C3.out w2 t2.out).mono ?_
  rintro e w3 ⟨rfl, hb3⟩
  rw [k2]
  have t3 := Lib.hid (t2.out.below hb3)
  go_wp2_with fail
  refine (C4.out w3 t3.out).mono ?_
  rintro e w4 ⟨rfl, rfl⟩
  rw [k3]
  go_wp2_with fail
  refine (C5.out w3 t3.out).mono ?_
  rintro e w4 ⟨rfl, rfl⟩
  rw [k4]
  go_wp2_with fail
  refine (C6.out w3 t3.out).mono ?_
  rintro e w4 ⟨rfl, rfl⟩
  go_wp2_with fail
  refine (C7.out w3 t3.out).mono ?_
  rintro e w4 ⟨rfl, rfl⟩
  rw [k5]
  go_wp2
  go_ret
  exact ⟨rfl, hb1.trans ((hb2.mono hb1.size).trans (hb3.mono (Nat.le_trans hb1.size hb2.size)))⟩
end Go.Proofs.YtcofafiaedhgjaaDoor
