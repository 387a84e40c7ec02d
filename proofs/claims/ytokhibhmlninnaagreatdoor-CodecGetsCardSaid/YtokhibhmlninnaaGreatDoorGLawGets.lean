/- trefoillaw06.CodecGets returns true, whatever the bytes. -/
import Derived.Test.YtokhibhmlninnaaGreatDoorGMAwk
import Derived.Test.YtokhibhmlninnaaGreatDoorGMBk
import Derived.Test.YtokhibhmlninnaaGreatDoorGRefWhy
import Derived.Test.YtokhibhmlninnaaGreatDoorGMBk
set_option linter.unusedVariables false
set_option linter.unusedSimpArgs false
namespace Go.Proofs.YtokhibhmlninnaaGreatDoor
open Go.RowKit Go.Sort Go.Proofs.YtokhibhmlninnaaGreatDoorW.PrintWords
set_option maxRecDepth 100000 in
set_option maxHeartbeats 16000000 in
theorem gets_walk (s : ByteArray) (w : World) (hl : s.size ≤ maxLen) (hd : DbAt w) (ht : TabAt w) (he : ErAt w) : Calls Tryz.prog 4 #[.string s] w fun e w' => e = .returned (.bool true) ∧ Below w.heap.size w w' := by
 unfold maxLen at hl
 have CA := Lib.hid (fun w1 h1 h2 h3 => awake_any w1 h1 h2 h3)
 have HD := Lib.hid hd
 have HT := Lib.hid ht
 have HE := Lib.hid he
 clear hd ht he
 by_cases hbig : 700 < s.size
 ·have hbI : 700 < (s.size : Int) := by omega
  go_enter Tryz.func4, Tryz.ntmps4
  go_wp2_with fail
  refine (CA.out w HD.out HT.out HE.out).mono ?_
  rintro e w1 ⟨rfl, hb⟩
  have HB1 := Lib.hid hb
  clear hb
  go_wp2_with fail
  refine (CA.out w1 (HD.out.below HB1.out) (HT.out.below HB1.out) (HE.out.below HB1.out)).mono ?_
  rintro e w2 ⟨rfl, hb⟩
  have HB2 := Lib.hid (HB1.out.trans (hb.mono HB1.out.size))
  clear hb
  go_wp2_with fail
  go_ret
  exact ⟨rfl, HB2.out⟩
 ·have hbI : ¬ 700 < (s.size : Int) := by omega
  have CD := Lib.hid (fun w1 h1 h2 h3 => Decode_any s w1 (by omega) h1 h2 h3)
  have CR := Lib.hid (fun w1 => refwhy_any s w1 (by omega))
  have CW := Lib.hid (fun w1 h1 h2 h3 => Why_any s w1 (by omega) h1 h2 h3)
  have hshort : CodPlain.Short (decOf s).1 := by
   by_cases h : (decOf s).2.2.2 = 0
   ·have hok := CodPlain.ok_of (dec_ok h).1
    exact ⟨by have := hok.np; omega, by have := hok.ne; omega, by have := hok.nf; omega, by have := hok.nb; omega, fun b hb => by have := (hok.bar b hb).2.2; omega⟩
   ·rw [dec_bad h]
    exact ⟨by decide, by decide, by decide, by decide, fun b hb => by cases hb⟩
  have HSHORT := Lib.hid hshort
  clear hshort
  unfold DecodePost at CD
  unfold RefWhyPost at CR
  unfold WhyPost at CW
  obtain ⟨q, hq⟩ : ∃ q, decOf s = q := ⟨_, rfl⟩
  rw [hq] at CD CR CW HSHORT
  obtain ⟨d, qa, qb, qe⟩ := q
  dsimp only at CD CR CW HSHORT
  clear hq
  go_enter Tryz.func4, Tryz.ntmps4
  go_wp2_with fail
  refine (CA.out w HD.out HT.out HE.out).mono ?_
  rintro e w1 ⟨rfl, hb⟩
  have HB1 := Lib.hid hb
  clear hb
  go_wp2_with fail
  refine (CD.out w1 (HD.out.below HB1.out) (HT.out.below HB1.out) (HE.out.below HB1.out)).mono ?_
  rintro e w2 ⟨per1, dl1, P1, cp1, ps1, E1, ce1, es1, F1, cf1, fs1, B1, cb1, bs1, rfl, hdof, ⟨R, hdm⟩, hb⟩
  have HSH := Lib.hid (short_of HSHORT.out hdof)
  have HDF := Lib.hid hdof
  have hb' : Below w1.heap.size w1 (w2.alloc (.cells #[.int .i64 per1, .int .i64 dl1, .slice P1 ps1.length cp1, .slice E1 es1.length ce1, .slice F1 fs1.length cf1, .slice B1 bs1.length cb1] 27)) := hb.alloc hb.size _
  have HB2 := Lib.hid (HB1.out.trans (hb'.mono HB1.out.size))
  have HDR2 := Lib.hid (hdm.dr.below (below_alloc' w2 (.cells #[.int .i64 per1, .int .i64 dl1, .slice P1 ps1.length cp1, .slice E1 es1.length ce1, .slice F1 fs1.length cf1, .slice B1 bs1.length cb1] 27)))
  have HY2 := Lib.hid (blk_new w2 (.cells #[.int .i64 per1, .int .i64 dl1, .slice P1 ps1.length cp1, .slice E1 es1.length ce1, .slice F1 fs1.length cf1, .slice B1 bs1.length cb1] 27))
  obtain ⟨g1, hg1⟩ : ∃ x, x = w2.heap.size := ⟨_, rfl⟩
  rw [← hg1] at HY2
  clear hdof hdm hb hb' HB1
  go_upto_region 4 with fail
  generalize w2.alloc (.cells #[.int .i64 per1, .int .i64 dl1, .slice P1 ps1.length cp1, .slice E1 es1.length ce1, .slice F1 fs1.length cf1, .slice B1 bs1.length cb1] 27) = w3 at *
  rw [← hg1]
  clear hg1
  go_wp2_with fail
  refine (CR.out w3).mono ?_
  rintro e w4 ⟨per2, dl2, P2, cp2, ps2, E2, ce2, es2, F2, cf2, fs2, B2, cb2, bs2, rfl, hdof, hdr, hb⟩
  obtain ⟨rfl, rfl, rfl, rfl, rfl, rfl⟩ := dOf_inj (HDF.out.trans hdof.symm)
  clear hdof
  have hb4 : Below w4.heap.size w4 ((w4.alloc (.cells #[.int .i64 per1, .int .i64 dl1, .slice P2 ps1.length cp2, .slice E2 es1.length ce2, .slice F2 fs1.length cf2, .slice B2 bs1.length cb2] 27)).alloc (.cells #[.int .i64 qa, .int .i64 qb] 37)) := ((Below.refl _ _).alloc (Nat.le_refl _) _).alloc (by simp) _
  have HB4 := Lib.hid (HB2.out.trans ((hb.trans (hb4.mono hb.size)).mono HB2.out.size))
  have HY4 := Lib.hid (blk_below HY2.out (hb.trans (hb4.mono hb.size)))
  have HDA := Lib.hid (HDR2.out.below (hb.trans (hb4.mono hb.size)))
  have HDB := Lib.hid (hdr.below hb4)
  have HZ4 : Hid (((w4.alloc (.cells #[.int .i64 per1, .int .i64 dl1, .slice P2 ps1.length cp2, .slice E2 es1.length ce2, .slice F2 fs1.length cf2, .slice B2 bs1.length cb2] 27)).alloc (.cells #[.int .i64 qa, .int .i64 qb] 37)).heap[w4.heap.size]? = some (.cells #[.int .i64 per1, .int .i64 dl1, .slice P2 ps1.length cp2, .slice E2 es1.length ce2, .slice F2 fs1.length cf2, .slice B2 bs1.length cb2] 27)) := blk_below (blk_new w4 (.cells #[.int .i64 per1, .int .i64 dl1, .slice P2 ps1.length cp2, .slice E2 es1.length ce2, .slice F2 fs1.length cf2, .slice B2 bs1.length cb2] 27)) (below_alloc' _ _)
  have HS4 : Hid (((w4.alloc (.cells #[.int .i64 per1, .int .i64 dl1, .slice P2 ps1.length cp2, .slice E2 es1.length ce2, .slice F2 fs1.length cf2, .slice B2 bs1.length cb2] 27)).alloc (.cells #[.int .i64 qa, .int .i64 qb] 37)).heap[w4.heap.size + 1]? = some (.cells #[.int .i64 qa, .int .i64 qb] 37)) := by
   have := blk_new (w4.alloc (.cells #[.int .i64 per1, .int .i64 dl1, .slice P2 ps1.length cp2, .slice E2 es1.length ce2, .slice F2 fs1.length cf2, .slice B2 bs1.length cb2] 27)) (.cells #[.int .i64 qa, .int .i64 qb] 37)
   rw [show (w4.alloc (.cells #[.int .i64 per1, .int .i64 dl1, .slice P2 ps1.length cp2, .slice E2 es1.length ce2, .slice F2 fs1.length cf2, .slice B2 bs1.length cb2] 27)).heap.size = w4.heap.size + 1 by simp] at this
   exact this
  clear hb hb4 hdr HB2 HY2 HDR2
  go_upto_region 5 with fail
  generalize (w4.alloc (.cells #[.int .i64 per1, .int .i64 dl1, .slice P2 ps1.length cp2, .slice E2 es1.length ce2, .slice F2 fs1.length cf2, .slice B2 bs1.length cb2] 27)).alloc (.cells #[.int .i64 qa, .int .i64 qb] 37) = w5 at *
  obtain ⟨g4, hg4⟩ : ∃ x, x = w4.heap.size := ⟨_, rfl⟩
  rw [← hg4] at HZ4 HS4 ⊢
  clear hg4
  go_wp2_with fail
  refine (CW.out w5 (HD.out.below HB4.out) (HT.out.below HB4.out) (HE.out.below HB4.out)).mono ?_
  rintro e w6 ⟨rfl, hb⟩
  have hb6 : Below w5.heap.size w5 (w6.alloc (.cells #[.int .i64 qa, .int .i64 qb] 37)) := hb.alloc hb.size _
  have HB6 := Lib.hid (HB4.out.trans (hb6.mono HB4.out.size))
  have HY6 := Lib.hid (blk_below HY4.out hb6)
  have HZ6 := Lib.hid (blk_below HZ4.out hb6)
  have HS6 := Lib.hid (blk_below HS4.out hb6)
  have HDA6 := Lib.hid (HDA.out.below hb6)
  have HDB6 := Lib.hid (HDB.out.below hb6)
  have HW6 := Lib.hid (blk_new w6 (.cells #[.int .i64 qa, .int .i64 qb] 37))
  clear hb hb6 HB4 HY4 HZ4 HS4 HDA HDB
  go_upto_region 6 with fail
  generalize w6.alloc (.cells #[.int .i64 qa, .int .i64 qb] 37) = w7 at *
  obtain ⟨g6, hg6⟩ : ∃ x, x = w6.heap.size := ⟨_, rfl⟩
  rw [← hg6] at HW6 ⊢
  clear hg6
  have y0 : w7.cell? ⟨g1, 0, none⟩ = some (.int .i64 per1) := (blk_cell HY6.out 0).trans rfl
  have y1 : w7.cell? ⟨g1, 1, none⟩ = some (.int .i64 dl1) := (blk_cell HY6.out 1).trans rfl
  have y2 : w7.cell? ⟨g1, 2, none⟩ = some (.slice P1 ps1.length cp1) := (blk_cell HY6.out 2).trans rfl
  have y3 : w7.cell? ⟨g1, 3, none⟩ = some (.slice E1 es1.length ce1) := (blk_cell HY6.out 3).trans rfl
  have y4 : w7.cell? ⟨g1, 4, none⟩ = some (.slice F1 fs1.length cf1) := (blk_cell HY6.out 4).trans rfl
  have y5 : w7.cell? ⟨g1, 5, none⟩ = some (.slice B1 bs1.length cb1) := (blk_cell HY6.out 5).trans rfl
  have z0 : w7.cell? ⟨g4, 0, none⟩ = some (.int .i64 per1) := (blk_cell HZ6.out 0).trans rfl
  have z1 : w7.cell? ⟨g4, 1, none⟩ = some (.int .i64 dl1) := (blk_cell HZ6.out 1).trans rfl
  have z2 : w7.cell? ⟨g4, 2, none⟩ = some (.slice P2 ps1.length cp2) := (blk_cell HZ6.out 2).trans rfl
  have z3 : w7.cell? ⟨g4, 3, none⟩ = some (.slice E2 es1.length ce2) := (blk_cell HZ6.out 3).trans rfl
  have z4 : w7.cell? ⟨g4, 4, none⟩ = some (.slice F2 fs1.length cf2) := (blk_cell HZ6.out 4).trans rfl
  have z5 : w7.cell? ⟨g4, 5, none⟩ = some (.slice B2 bs1.length cb2) := (blk_cell HZ6.out 5).trans rfl
  go_wp2_with fail
  refine (same_any per1 dl1 P1 cp1 ps1 E1 ce1 es1 F1 cf1 fs1 B1 cb1 bs1 per1 dl1 P2 cp2 ps1 E2 ce2 es1 F2 cf2 fs1 B2 cb2 bs1 w7 HSH.out HSH.out HDA6.out HDB6.out).mono ?_
  rintro e w8 ⟨rfl, hb⟩
  have hsame : CodPlain.sameB (dOf per1 dl1 ps1 es1 fs1 bs1) (dOf per1 dl1 ps1 es1 fs1 bs1) = true := CodPlain.sameB_eq.2 rfl
  rw [hsame]
  have HB8 := Lib.hid (HB6.out.trans (hb.mono HB6.out.size))
  have HY8 := Lib.hid (blk_below HY6.out hb)
  have HZ8 := Lib.hid (blk_below HZ6.out hb)
  have HS8 := Lib.hid (blk_below HS6.out hb)
  have HW8 := Lib.hid (blk_below HW6.out hb)
  have HDA8 := Lib.hid (HDA6.out.below hb)
  have HDB8 := Lib.hid (HDB6.out.below hb)
  clear hsame hb HB6 HY6 HZ6 HS6 HW6 HDA6 HDB6 y0 z0 y1 z1 y2 z2 y3 z3 y4 z4 y5 z5
  have y0 : w8.cell? ⟨g1, 0, none⟩ = some (.int .i64 per1) := (blk_cell HY8.out 0).trans rfl
  have y1 : w8.cell? ⟨g1, 1, none⟩ = some (.int .i64 dl1) := (blk_cell HY8.out 1).trans rfl
  have y2 : w8.cell? ⟨g1, 2, none⟩ = some (.slice P1 ps1.length cp1) := (blk_cell HY8.out 2).trans rfl
  have y3 : w8.cell? ⟨g1, 3, none⟩ = some (.slice E1 es1.length ce1) := (blk_cell HY8.out 3).trans rfl
  have y4 : w8.cell? ⟨g1, 4, none⟩ = some (.slice F1 fs1.length cf1) := (blk_cell HY8.out 4).trans rfl
  have y5 : w8.cell? ⟨g1, 5, none⟩ = some (.slice B1 bs1.length cb1) := (blk_cell HY8.out 5).trans rfl
  have z0 : w8.cell? ⟨g4, 0, none⟩ = some (.int .i64 per1) := (blk_cell HZ8.out 0).trans rfl
  have z1 : w8.cell? ⟨g4, 1, none⟩ = some (.int .i64 dl1) := (blk_cell HZ8.out 1).trans rfl
  have z2 : w8.cell? ⟨g4, 2, none⟩ = some (.slice P2 ps1.length cp2) := (blk_cell HZ8.out 2).trans rfl
  have z3 : w8.cell? ⟨g4, 3, none⟩ = some (.slice E2 es1.length ce2) := (blk_cell HZ8.out 3).trans rfl
  have z4 : w8.cell? ⟨g4, 4, none⟩ = some (.slice F2 fs1.length cf2) := (blk_cell HZ8.out 4).trans rfl
  have z5 : w8.cell? ⟨g4, 5, none⟩ = some (.slice B2 bs1.length cb2) := (blk_cell HZ8.out 5).trans rfl
  go_wp2_with fail
  refine (refsame_any per1 dl1 P1 cp1 ps1 E1 ce1 es1 F1 cf1 fs1 B1 cb1 bs1 P2 cp2 E2 ce2 F2 cf2 B2 cb2 w8 HSH.out HDA8.out HDB8.out).mono ?_
  rintro e w9 ⟨rfl, hb⟩
  have HB9 := Lib.hid (HB8.out.trans (hb.mono HB8.out.size))
  have HS9 := Lib.hid (blk_below HS8.out hb)
  have HW9 := Lib.hid (blk_below HW8.out hb)
  clear hb HB8 HY8 HZ8 HS8 HW8 HDA8 HDB8 y0 z0 y1 z1 y2 z2 y3 z3 y4 z4 y5 z5
  have s0 : w9.cell? ⟨g4 + 1, 0, none⟩ = some (.int .i64 qa) := (blk_cell HS9.out 0).trans rfl
  have s1 : w9.cell? ⟨g4 + 1, 1, none⟩ = some (.int .i64 qb) := (blk_cell HS9.out 1).trans rfl
  have v0 : w9.cell? ⟨g6, 0, none⟩ = some (.int .i64 qa) := (blk_cell HW9.out 0).trans rfl
  have v1 : w9.cell? ⟨g6, 1, none⟩ = some (.int .i64 qb) := (blk_cell HW9.out 1).trans rfl
  by_cases h0 : qe = 0
  ·subst h0
   go_wp2_with fail
   go_ret
   exact ⟨by first | rfl | simp, HB9.out⟩
  ·have h0b : (qe != 0) = true := by simpa using h0
   go_wp2_with fail
   go_ret
   exact ⟨by first | rfl | simp [h0], HB9.out⟩
end Go.Proofs.YtokhibhmlninnaaGreatDoor
