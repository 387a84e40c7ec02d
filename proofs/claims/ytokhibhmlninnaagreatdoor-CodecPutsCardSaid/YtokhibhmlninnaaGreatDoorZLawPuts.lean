/- trefoillaw06.CodecPuts returns true, whatever the task. -/
import Derived.Test.YtokhibhmlninnaaGreatDoorZMPre
import Derived.Test.YtokhibhmlninnaaGreatDoorZMAwk
import Derived.Test.YtokhibhmlninnaaGreatDoorZRefEnc
set_option linter.unusedVariables false
set_option linter.unusedSimpArgs false
namespace Go.Proofs.YtokhibhmlninnaaGreatDoor
open Go.RowKit Go.Sort Go.Proofs.YtokhibhmlninnaaGreatDoorW.PrintWords
set_option maxRecDepth 100000 in
set_option maxHeartbeats 8000000 in
theorem puts_walk (per dl : Int) (P : Option Addr) (cp : Nat) (ps : List PCod.S47) (E : Option Addr) (ce : Nat) (es : List PCod.S63) (F : Option Addr) (cf : Nat) (fs : List PCod.S65) (B : Option Addr) (cb : Nat) (bs : List PCod.S50) (w : World) (hr : DR w P cp ps E ce es F cf fs B cb bs) (hd : DbAt w) (ht : TabAt w) (he : ErAt w) : Calls Tryz.prog 3 #[.agg #[.int .i64 per, .int .i64 dl, .slice P ps.length cp, .slice E es.length ce, .slice F fs.length cf, .slice B bs.length cb]] w fun e w' => e = .returned (.bool true) ∧ Below w.heap.size w w' := by
 have CA := Lib.hid (fun w1 h1 h2 h3 => awake_any w1 h1 h2 h3)
 have CF := Lib.hid (fun w1 h => few_any per dl P cp ps E ce es F cf fs B cb bs w1 h)
 have HD := Lib.hid hd
 have HT := Lib.hid ht
 have HE := Lib.hid he
 have HR := Lib.hid hr
 have HB0 := Lib.hid (below_alloc' w (.cells #[.int .i64 per, .int .i64 dl, .slice P ps.length cp, .slice E es.length ce, .slice F fs.length cf, .slice B bs.length cb] 27))
 have HX0 := Lib.hid (blk_new w (.cells #[.int .i64 per, .int .i64 dl, .slice P ps.length cp, .slice E es.length ce, .slice F fs.length cf, .slice B bs.length cb] 27))
 clear hd ht he hr
 cases hf : fewB ps es fs bs with
 | false =>
  rw [hf] at CF
  clear hf
  go_enter Tryz.func3, Tryz.ntmps3
  go_upto_region 1 with fail
  generalize w.alloc (.cells #[.int .i64 per, .int .i64 dl, .slice P ps.length cp, .slice E es.length ce, .slice F fs.length cf, .slice B bs.length cb] 27) = w0 at *
  go_wp2_with fail
  refine (CA.out w0 (HD.out.below HB0.out) (HT.out.below HB0.out) (HE.out.below HB0.out)).mono ?_
  rintro e w1 ⟨rfl, hb⟩
  have HB1 := Lib.hid (HB0.out.trans (hb.mono HB0.out.size))
  have HX1 := Lib.hid (blk_below HX0.out hb)
  clear hb HB0 HX0
  have y0 : w1.cell? ⟨w.heap.size, 0, none⟩ = some (.int .i64 per) := (blk_cell HX1.out 0).trans rfl
  have y1 : w1.cell? ⟨w.heap.size, 1, none⟩ = some (.int .i64 dl) := (blk_cell HX1.out 1).trans rfl
  have y2 : w1.cell? ⟨w.heap.size, 2, none⟩ = some (.slice P ps.length cp) := (blk_cell HX1.out 2).trans rfl
  have y3 : w1.cell? ⟨w.heap.size, 3, none⟩ = some (.slice E es.length ce) := (blk_cell HX1.out 3).trans rfl
  have y4 : w1.cell? ⟨w.heap.size, 4, none⟩ = some (.slice F fs.length cf) := (blk_cell HX1.out 4).trans rfl
  have y5 : w1.cell? ⟨w.heap.size, 5, none⟩ = some (.slice B bs.length cb) := (blk_cell HX1.out 5).trans rfl
  go_wp2_with fail
  refine (CF.out w1 (HR.out.below HB1.out)).mono ?_
  rintro e w2 ⟨rfl, hb⟩
  have HB2 := Lib.hid (HB1.out.trans (hb.mono HB1.out.size))
  clear hb HB1 HX1 y0 y1 y2 y3 y4 y5
  go_wp2_with fail
  refine (CA.out w2 (HD.out.below HB2.out) (HT.out.below HB2.out) (HE.out.below HB2.out)).mono ?_
  rintro e w3 ⟨rfl, hb⟩
  have HB3 := Lib.hid (HB2.out.trans (hb.mono HB2.out.size))
  clear hb HB2
  go_wp2_with fail
  go_ret
  exact ⟨rfl, HB3.out⟩
 | true =>
  have hfew := few_yes hf
  rw [hf] at CF
  have HSH := Lib.hid hfew.short
  obtain ⟨er, her⟩ : ∃ x, x = CodPlain.checkD (dOf per dl ps es fs bs) := ⟨_, rfl⟩
  obtain ⟨S, hS⟩ : ∃ S : ByteArray, S = ⟨(CodPlain.encL (dOf per dl ps es fs bs)).toArray⟩ := ⟨_, rfl⟩
  have CO := Lib.hid (fun w1 h => own_any per dl P cp ps E ce es F cf fs B cb bs w1 HSH.out h)
  have CE : Hid (∀ P cp E ce F cf B cb w1, DbAt w1 → TabAt w1 → DR w1 P cp ps E ce es F cf fs B cb bs → Calls Tryz.prog 9 #[.agg #[.int .i64 per, .int .i64 dl, .slice P ps.length cp, .slice E es.length ce, .slice F fs.length cf, .slice B bs.length cb]] w1 fun e w' => e = .returned (.tuple #[.string S, .int .i64 er]) ∧ Below w1.heap.size w1 w') := by
   show ∀ _ _ _ _ _ _ _ _ _, _
   intro P cp E ce F cf B cb w1 h1 h2 h3
   have := encode_any per dl P cp ps E ce es F cf fs B cb bs w1 HSH.out h1 h2 h3
   rw [← her, ← hS] at this
   exact this
  have CR : Hid (∀ P cp E ce F cf B cb w1, DR w1 P cp ps E ce es F cf fs B cb bs → Calls Tryz.prog 11 #[.agg #[.int .i64 per, .int .i64 dl, .slice P ps.length cp, .slice E es.length ce, .slice F fs.length cf, .slice B bs.length cb]] w1 fun e w' => e = .returned (.tuple #[.string S, .int .i64 er]) ∧ Below w1.heap.size w1 w') := by
   show ∀ _ _ _ _ _ _ _ _ _, _
   intro P cp E ce F cf B cb w1 h3
   have := refencode_any per dl P cp ps E ce es F cf fs B cb bs w1 HSH.out h3
   rw [← her, ← hS] at this
   exact this
  clear hf her hS hfew
  go_enter Tryz.func3, Tryz.ntmps3
  go_upto_region 1 with fail
  generalize w.alloc (.cells #[.int .i64 per, .int .i64 dl, .slice P ps.length cp, .slice E es.length ce, .slice F fs.length cf, .slice B bs.length cb] 27) = w0 at *
  go_wp2_with fail
  refine (CA.out w0 (HD.out.below HB0.out) (HT.out.below HB0.out) (HE.out.below HB0.out)).mono ?_
  rintro e w1 ⟨rfl, hb⟩
  have HB1 := Lib.hid (HB0.out.trans (hb.mono HB0.out.size))
  have HX1 := Lib.hid (blk_below HX0.out hb)
  clear hb HB0 HX0
  have y0 : w1.cell? ⟨w.heap.size, 0, none⟩ = some (.int .i64 per) := (blk_cell HX1.out 0).trans rfl
  have y1 : w1.cell? ⟨w.heap.size, 1, none⟩ = some (.int .i64 dl) := (blk_cell HX1.out 1).trans rfl
  have y2 : w1.cell? ⟨w.heap.size, 2, none⟩ = some (.slice P ps.length cp) := (blk_cell HX1.out 2).trans rfl
  have y3 : w1.cell? ⟨w.heap.size, 3, none⟩ = some (.slice E es.length ce) := (blk_cell HX1.out 3).trans rfl
  have y4 : w1.cell? ⟨w.heap.size, 4, none⟩ = some (.slice F fs.length cf) := (blk_cell HX1.out 4).trans rfl
  have y5 : w1.cell? ⟨w.heap.size, 5, none⟩ = some (.slice B bs.length cb) := (blk_cell HX1.out 5).trans rfl
  go_wp2_with fail
  refine (CF.out w1 (HR.out.below HB1.out)).mono ?_
  rintro e w2 ⟨rfl, hb⟩
  have HB2 := Lib.hid (HB1.out.trans (hb.mono HB1.out.size))
  have HX2 := Lib.hid (blk_below HX1.out hb)
  clear hb HB1 HX1 y0 y1 y2 y3 y4 y5
  have y0 : w2.cell? ⟨w.heap.size, 0, none⟩ = some (.int .i64 per) := (blk_cell HX2.out 0).trans rfl
  have y1 : w2.cell? ⟨w.heap.size, 1, none⟩ = some (.int .i64 dl) := (blk_cell HX2.out 1).trans rfl
  have y2 : w2.cell? ⟨w.heap.size, 2, none⟩ = some (.slice P ps.length cp) := (blk_cell HX2.out 2).trans rfl
  have y3 : w2.cell? ⟨w.heap.size, 3, none⟩ = some (.slice E es.length ce) := (blk_cell HX2.out 3).trans rfl
  have y4 : w2.cell? ⟨w.heap.size, 4, none⟩ = some (.slice F fs.length cf) := (blk_cell HX2.out 4).trans rfl
  have y5 : w2.cell? ⟨w.heap.size, 5, none⟩ = some (.slice B bs.length cb) := (blk_cell HX2.out 5).trans rfl
  go_wp2_with fail
  refine (CO.out w2 (HR.out.below HB2.out)).mono ?_
  rintro e w3 ⟨P2, cp2, E2, ce2, F2, cf2, B2, cb2, rfl, hdr, hb⟩
  have HB3 := Lib.hid (HB2.out.trans (hb.mono HB2.out.size))
  have HX3 := Lib.hid (blk_below HX2.out hb)
  have HDR3 := Lib.hid hdr
  clear hb hdr HB2 HX2 y0 y1 y2 y3 y4 y5
  go_wp2_with fail
  refine (CE.out P2 cp2 E2 ce2 F2 cf2 B2 cb2 w3 (HD.out.below HB3.out) (HT.out.below HB3.out) HDR3.out).mono ?_
  rintro e w4 ⟨rfl, hb⟩
  have HB4 := Lib.hid (HB3.out.trans (hb.mono HB3.out.size))
  have HX4 := Lib.hid (blk_below HX3.out hb)
  clear hb HB3 HX3 HDR3
  have y0 : w4.cell? ⟨w.heap.size, 0, none⟩ = some (.int .i64 per) := (blk_cell HX4.out 0).trans rfl
  have y1 : w4.cell? ⟨w.heap.size, 1, none⟩ = some (.int .i64 dl) := (blk_cell HX4.out 1).trans rfl
  have y2 : w4.cell? ⟨w.heap.size, 2, none⟩ = some (.slice P ps.length cp) := (blk_cell HX4.out 2).trans rfl
  have y3 : w4.cell? ⟨w.heap.size, 3, none⟩ = some (.slice E es.length ce) := (blk_cell HX4.out 3).trans rfl
  have y4 : w4.cell? ⟨w.heap.size, 4, none⟩ = some (.slice F fs.length cf) := (blk_cell HX4.out 4).trans rfl
  have y5 : w4.cell? ⟨w.heap.size, 5, none⟩ = some (.slice B bs.length cb) := (blk_cell HX4.out 5).trans rfl
  go_wp2_with fail
  refine (CR.out P cp E ce F cf B cb w4 (HR.out.below HB4.out)).mono ?_
  rintro e w5 ⟨rfl, hb⟩
  have HB5 := Lib.hid (HB4.out.trans (hb.mono HB4.out.size))
  clear hb HB4 HX4 y0 y1 y2 y3 y4 y5
  go_wp2_with fail
  go_ret
  exact ⟨by first | rfl | simp, HB5.out⟩
end Go.Proofs.YtokhibhmlninnaaGreatDoor
