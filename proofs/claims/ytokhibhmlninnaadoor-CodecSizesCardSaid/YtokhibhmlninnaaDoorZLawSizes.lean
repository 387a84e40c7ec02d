/- trefoillaw06.CodecSizes returns true, whatever the task. -/
import Derived.Test.YtokhibhmlninnaaDoorZMPre
import Derived.Test.YtokhibhmlninnaaDoorZMAwk
import Derived.Deep.QuietTactic
import Derived.BigQuiet
set_option linter.unusedVariables false
set_option linter.unusedSimpArgs false
namespace Go.Proofs.YtokhibhmlninnaaDoor
open Go.RowKit Go.Sort Go.Proofs.YtokhibhmlninnaaDoorW.PrintWords
set_option maxRecDepth 100000 in
set_option maxHeartbeats 8000000 in
theorem sizes_walk (per dl : Int) (P : Option Addr) (cp : Nat) (ps : List PCod.S48) (E : Option Addr) (ce : Nat) (es : List PCod.S62) (F : Option Addr) (cf : Nat) (fs : List PCod.S64) (B : Option Addr) (cb : Nat) (bs : List PCod.S45) (w : World) (hr : DR w P cp ps E ce es F cf fs B cb bs) (hd : DbAt w) (ht : TabAt w) (he : ErAt w) : Calls Tryd.prog 5 #[.agg #[.int .i64 per, .int .i64 dl, .slice P ps.length cp, .slice E es.length ce, .slice F fs.length cf, .slice B bs.length cb]] w fun e w' => e = .returned (.bool true) ∧ Below w.heap.size w w' := by
 have CA := Lib.hid (fun w1 h1 h2 h3 => awake_any w1 h1 h2 h3)
 have CF := Lib.hid (fun w1 h => few_any per dl P cp ps E ce es F cf fs B cb bs w1 h)
 have HD := Lib.hid hd
 have HT := Lib.hid ht
 have HE := Lib.hid he
 have HR := Lib.hid hr
 have HB0 := Lib.hid (below_alloc' w (.cells #[.int .i64 per, .int .i64 dl, .slice P ps.length cp, .slice E es.length ce, .slice F fs.length cf, .slice B bs.length cb] 27))
 have HX0 := Lib.hid (blk_new w (.cells #[.int .i64 per, .int .i64 dl, .slice P ps.length cp, .slice E es.length ce, .slice F fs.length cf, .slice B bs.length cb] 27))
 clear hd ht he hr
 cases hf : fewB ps es fs bs with
 | false =>
  rw [hf] at CF
  clear hf
  go_enter Tryd.func5, Tryd.ntmps5
  go_upto_region 1 with fail
  generalize w.alloc (.cells #[.int .i64 per, .int .i64 dl, .slice P ps.length cp, .slice E es.length ce, .slice F fs.length cf, .slice B bs.length cb] 27) = w0 at *
  go_wp2_with fail
  refine (CA.out w0 (HD.out.below HB0.out) (HT.out.below HB0.out) (HE.out.below HB0.out)).mono ?_
  rintro e w1 ⟨rfl, hb⟩
  have HB1 := Lib.hid (HB0.out.trans (hb.mono HB0.out.size))
  have HX1 := Lib.hid (blk_below HX0.out hb)
  clear hb HB0 HX0
  have y0 : w1.cell? ⟨w.heap.size, 0, none⟩ = some (.int .i64 per) := (blk_cell HX1.out 0).trans rfl
  have y1 : w1.cell? ⟨w.heap.size, 1, none⟩ = some (.int .i64 dl) := (blk_cell HX1.out 1).trans rfl
  have y2 : w1.cell? ⟨w.heap.size, 2, none⟩ = some (.slice P ps.length cp) := (blk_cell HX1.out 2).trans rfl
  have y3 : w1.cell? ⟨w.heap.size, 3, none⟩ = some (.slice E es.length ce) := (blk_cell HX1.out 3).trans rfl
  have y4 : w1.cell? ⟨w.heap.size, 4, none⟩ = some (.slice F fs.length cf) := (blk_cell HX1.out 4).trans rfl
  have y5 : w1.cell? ⟨w.heap.size, 5, none⟩ = some (.slice B bs.length cb) := (blk_cell HX1.out 5).trans rfl
  go_wp2_with fail
  refine (CF.out w1 (HR.out.below HB1.out)).mono ?_
  rintro e w2 ⟨rfl, hb⟩
  have HB2 := Lib.hid (HB1.out.trans (hb.mono HB1.out.size))
  clear hb HB1 HX1 y0 y1 y2 y3 y4 y5
  go_wp2_with fail
  refine (CA.out w2 (HD.out.below HB2.out) (HT.out.below HB2.out) (HE.out.below HB2.out)).mono ?_
  rintro e w3 ⟨rfl, hb⟩
  have HB3 := Lib.hid (HB2.out.trans (hb.mono HB2.out.size))
  clear hb HB2
  go_wp2_with fail
  go_ret
  exact ⟨rfl, HB3.out⟩
 | true =>
  have hfew := few_yes hf
  rw [hf] at CF
  have HSH := Lib.hid hfew.short
  have HRR := Lib.hid hfew.r
  have hp := hfew.p; have hes := hfew.e; have hfs := hfew.f; have hbs := hfew.b
  obtain ⟨er, her⟩ : ∃ x, x = CodPlain.checkD (dOf per dl ps es fs bs) := ⟨_, rfl⟩
  obtain ⟨S, hS⟩ : ∃ S : ByteArray, S = ⟨(CodPlain.encL (dOf per dl ps es fs bs)).toArray⟩ := ⟨_, rfl⟩
  have HSZ : Hid (er = 0 → S.size = 21 + 7 * ps.length + 2 * es.length + 4 * fs.length + sumN bs bs.length) := fun h => by rw [hS]; show (CodPlain.encL _).toArray.size = _; rw [List.size_toArray]; exact enc_size per dl ps es fs bs (by rw [← her]; exact h)
  have HSE : Hid (er ≠ 0 → S = ⟨#[]⟩) := fun h => by rw [hS]; unfold CodPlain.encL; rw [if_neg (by rw [← her]; exact h)]
  have CO := Lib.hid (fun w1 h => own_any per dl P cp ps E ce es F cf fs B cb bs w1 HSH.out h)
  have CE : Hid (∀ P cp E ce F cf B cb w1, DbAt w1 → TabAt w1 → DR w1 P cp ps E ce es F cf fs B cb bs → Calls Tryd.prog 8 #[.agg #[.int .i64 per, .int .i64 dl, .slice P ps.length cp, .slice E es.length ce, .slice F fs.length cf, .slice B bs.length cb]] w1 fun e w' => e = .returned (.tuple #[.string S, .int .i64 er]) ∧ Below w1.heap.size w1 w') := by
   show ∀ _ _ _ _ _ _ _ _ _, _
   intro P cp E ce F cf B cb w1 h1 h2 h3
   have := encode_any per dl P cp ps E ce es F cf fs B cb bs w1 HSH.out h1 h2 h3
   rw [← her, ← hS] at this
   exact this
  have hw1 : wrap64 (7 * (ps.length : Int)) = 7 * (ps.length : Int) := wrap_in (by omega)
  have hw2 : wrap64 (21 + 7 * (ps.length : Int)) = 21 + 7 * (ps.length : Int) := wrap_in (by omega)
  have hw3 : wrap64 (2 * (es.length : Int)) = 2 * (es.length : Int) := wrap_in (by omega)
  have hw4 : wrap64 (21 + 7 * (ps.length : Int) + 2 * (es.length : Int)) = 21 + 7 * (ps.length : Int) + 2 * (es.length : Int) := wrap_in (by omega)
  have hw5 : wrap64 (4 * (fs.length : Int)) = 4 * (fs.length : Int) := wrap_in (by omega)
  have hw6 : wrap64 (21 + 7 * (ps.length : Int) + 2 * (es.length : Int) + 4 * (fs.length : Int)) = 21 + 7 * (ps.length : Int) + 2 * (es.length : Int) + 4 * (fs.length : Int) := wrap_in (by omega)
  clear hf her hS hfew
  go_enter Tryd.func5, Tryd.ntmps5
  go_upto_region 1 with fail
  generalize w.alloc (.cells #[.int .i64 per, .int .i64 dl, .slice P ps.length cp, .slice E es.length ce, .slice F fs.length cf, .slice B bs.length cb] 27) = w0 at *
  go_wp2_with fail
  refine (CA.out w0 (HD.out.below HB0.out) (HT.out.below HB0.out) (HE.out.below HB0.out)).mono ?_
  rintro e w1 ⟨rfl, hb⟩
  have HB1 := Lib.hid (HB0.out.trans (hb.mono HB0.out.size))
  have HX1 := Lib.hid (blk_below HX0.out hb)
  clear hb HB0 HX0
  have y0 : w1.cell? ⟨w.heap.size, 0, none⟩ = some (.int .i64 per) := (blk_cell HX1.out 0).trans rfl
  have y1 : w1.cell? ⟨w.heap.size, 1, none⟩ = some (.int .i64 dl) := (blk_cell HX1.out 1).trans rfl
  have y2 : w1.cell? ⟨w.heap.size, 2, none⟩ = some (.slice P ps.length cp) := (blk_cell HX1.out 2).trans rfl
  have y3 : w1.cell? ⟨w.heap.size, 3, none⟩ = some (.slice E es.length ce) := (blk_cell HX1.out 3).trans rfl
  have y4 : w1.cell? ⟨w.heap.size, 4, none⟩ = some (.slice F fs.length cf) := (blk_cell HX1.out 4).trans rfl
  have y5 : w1.cell? ⟨w.heap.size, 5, none⟩ = some (.slice B bs.length cb) := (blk_cell HX1.out 5).trans rfl
  go_wp2_with fail
  refine (CF.out w1 (HR.out.below HB1.out)).mono ?_
  rintro e w2 ⟨rfl, hb⟩
  have HB2 := Lib.hid (HB1.out.trans (hb.mono HB1.out.size))
  have HX2 := Lib.hid (blk_below HX1.out hb)
  clear hb HB1 HX1 y0 y1 y2 y3 y4 y5
  have y0 : w2.cell? ⟨w.heap.size, 0, none⟩ = some (.int .i64 per) := (blk_cell HX2.out 0).trans rfl
  have y1 : w2.cell? ⟨w.heap.size, 1, none⟩ = some (.int .i64 dl) := (blk_cell HX2.out 1).trans rfl
  have y2 : w2.cell? ⟨w.heap.size, 2, none⟩ = some (.slice P ps.length cp) := (blk_cell HX2.out 2).trans rfl
  have y3 : w2.cell? ⟨w.heap.size, 3, none⟩ = some (.slice E es.length ce) := (blk_cell HX2.out 3).trans rfl
  have y4 : w2.cell? ⟨w.heap.size, 4, none⟩ = some (.slice F fs.length cf) := (blk_cell HX2.out 4).trans rfl
  have y5 : w2.cell? ⟨w.heap.size, 5, none⟩ = some (.slice B bs.length cb) := (blk_cell HX2.out 5).trans rfl
  go_wp2_with fail
  refine (CO.out w2 (HR.out.below HB2.out)).mono ?_
  rintro e w3 ⟨P2, cp2, E2, ce2, F2, cf2, B2, cb2, rfl, hdr, hb⟩
  have HB3 := Lib.hid (HB2.out.trans (hb.mono HB2.out.size))
  have HX3 := Lib.hid (blk_below HX2.out hb)
  have HDR3 := Lib.hid hdr
  clear hb hdr HB2 HX2 y0 y1 y2 y3 y4 y5
  go_wp2_with fail
  refine (CE.out P2 cp2 E2 ce2 F2 cf2 B2 cb2 w3 (HD.out.below HB3.out) (HT.out.below HB3.out) HDR3.out).mono ?_
  rintro e w4 ⟨rfl, hb⟩
  have HB4 := Lib.hid (HB3.out.trans (hb.mono HB3.out.size))
  have HX4 := Lib.hid (blk_below HX3.out hb)
  clear hb HB3 HX3 HDR3
  have y0 : w4.cell? ⟨w.heap.size, 0, none⟩ = some (.int .i64 per) := (blk_cell HX4.out 0).trans rfl
  have y1 : w4.cell? ⟨w.heap.size, 1, none⟩ = some (.int .i64 dl) := (blk_cell HX4.out 1).trans rfl
  have y2 : w4.cell? ⟨w.heap.size, 2, none⟩ = some (.slice P ps.length cp) := (blk_cell HX4.out 2).trans rfl
  have y3 : w4.cell? ⟨w.heap.size, 3, none⟩ = some (.slice E es.length ce) := (blk_cell HX4.out 3).trans rfl
  have y4 : w4.cell? ⟨w.heap.size, 4, none⟩ = some (.slice F fs.length cf) := (blk_cell HX4.out 4).trans rfl
  have y5 : w4.cell? ⟨w.heap.size, 5, none⟩ = some (.slice B bs.length cb) := (blk_cell HX4.out 5).trans rfl
  go_wp2_with fail
  clear y0 y1 y2 y3 y4 y5
  obtain ⟨N0, hN0⟩ : ∃ n, n = 21 + 7 * ps.length + 2 * es.length + 4 * fs.length := ⟨_, rfl⟩
  have hN0I : 21 + 7 * (ps.length : Int) + 2 * (es.length : Int) + 4 * (fs.length : Int) = ((N0 + 0 : Nat) : Int) := by omega
  have hN0l : N0 ≤ 400 := by omega
  rw [hN0I]
  have HSZ2 : Hid (er = 0 → S.size = N0 + sumN bs bs.length) := fun h => by rw [HSZ.out h, hN0]
  clear HSZ hN0 hN0I hw1 hw2 hw3 hw4 hw5 hw6 CF CO CE CA HD HT HE HSH
  go_loopw [6, 5] (fun i n wr => ∃ k : Nat, k ≤ bs.length ∧ i = .int .i64 k ∧ n = .int .i64 ((N0 + sumN bs k : Nat) : Int) ∧ Hid (Below w.heap.size w wr) ∧ Hid (wr.heap[w.heap.size]? = some (.cells #[.int .i64 per, .int .i64 dl, .slice P ps.length cp, .slice E es.length ce, .slice F fs.length cf, .slice B bs.length cb] 27))) (fun i _ _ => bs.length - (intOf i).toNat)
  case atStart => exact ⟨0, Nat.zero_le _, rfl, rfl, HB4, HX4⟩
  case round =>
   clear HB4 HX4
   obtain ⟨k, hk, rfl, rfl, HB, HX⟩ := hrel
   have y0 : wr.cell? ⟨w.heap.size, 0, none⟩ = some (.int .i64 per) := (blk_cell HX.out 0).trans rfl
   have y1 : wr.cell? ⟨w.heap.size, 1, none⟩ = some (.int .i64 dl) := (blk_cell HX.out 1).trans rfl
   have y2 : wr.cell? ⟨w.heap.size, 2, none⟩ = some (.slice P ps.length cp) := (blk_cell HX.out 2).trans rfl
   have y3 : wr.cell? ⟨w.heap.size, 3, none⟩ = some (.slice E es.length ce) := (blk_cell HX.out 3).trans rfl
   have y4 : wr.cell? ⟨w.heap.size, 4, none⟩ = some (.slice F fs.length cf) := (blk_cell HX.out 4).trans rfl
   have y5 : wr.cell? ⟨w.heap.size, 5, none⟩ = some (.slice B bs.length cb) := (blk_cell HX.out 5).trans rfl
   by_cases hlt : k < bs.length
   ·obtain ⟨ad, A0, c0, A1, c1, hF, hr0, hr1, -, -, -, -⟩ := PCod.at_T45 (Kd.C_below HR.out.b HB.out) (k : Int) (by omega) (by omega)
    subst hF
    have hrd : PCod.rd_T45 bs (k : Int) = bs.getD k PCod.z45 := by unfold PCod.rd_T45; rw [Int.toNat_natCast]
    rw [Int.toNat_natCast, hrd] at hr0 hr1
    have hsn := sumN_snoc bs hlt
    have hsl := sumN_le bs HRR.out k hk
    have hmb := HRR.out _ (CodPlain.getD_in (d := PCod.z45) hlt)
    obtain ⟨y, hy⟩ : ∃ y, y = bs.getD k PCod.z45 := ⟨_, rfl⟩
    rw [← hy] at hr0 hr1 hsn hmb
    obtain ⟨l0, l1⟩ := y
    unfold barN at hsn
    dsimp only at hr0 hr1 hsn hmb
    obtain ⟨s1, hs1⟩ : ∃ x, x = sumN bs (k + 1) := ⟨_, rfl⟩
    obtain ⟨s0, hs0⟩ : ∃ x, x = N0 + sumN bs k := ⟨_, rfl⟩
    rw [← hs0]
    rw [← hs1] at hsn
    have HS1 := Lib.hid hs1
    obtain ⟨hq1, hq2, hq3, hq4⟩ := siz_q hN0l hsl (Nat.le_trans hk hbs) hmb.1 hmb.2 hs0 hsn
    have hltI : (k : Int) < (bs.length : Int) := by omega
    have hkm : k ≤ 8 := Nat.le_trans hk hbs
    have hkl : k + 1 ≤ bs.length := hlt
    have HQ := Lib.hid hq4
    clear hq4 hrd hsn hsl hmb hy hs0 hs1
    go_upto_region 8 with fail
    clear y0 y1 y2 y3 y4
    go_quiet (fail)
    go_wp2_with fail
    go_roundw
    case rel => exact ⟨k + 1, by omega, by go_num, by rw [← HS1.out]; exact congrArg (Value.int .i64) HQ.out, pw_below_drewN HB.out nq, HX⟩
    case measure => simp [intOf]; omega
   ·obtain rfl : k = bs.length := by omega
    by_cases h0 : er = 0
    ·subst h0
     have hS := HSZ2.out rfl
     clear HSE HSZ2
     go_wp2_with fail
     go_ret
     exact ⟨rfl, HB.out⟩
    ·have hS := HSE.out h0
     subst hS
     clear HSE HSZ2
     go_wp2_with fail
     go_ret
     exact ⟨rfl, HB.out⟩
end Go.Proofs.YtokhibhmlninnaaDoor
