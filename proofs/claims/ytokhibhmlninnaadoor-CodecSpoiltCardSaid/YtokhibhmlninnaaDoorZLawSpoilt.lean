/- trefoillaw06.CodecSpoilt returns true, whatever the task, the place and the byte. -/
import Derived.Test.YtokhibhmlninnaaDoorZMPre
import Derived.Test.YtokhibhmlninnaaDoorZMAwk
import Derived.Test.YtokhibhmlninnaaDoorZMCut
import Derived.Test.YtokhibhmlninnaaDoorZMCut
set_option linter.unusedVariables false
set_option linter.unusedSimpArgs false
namespace Go.Proofs.YtokhibhmlninnaaDoor
open Go.RowKit Go.Sort Go.Proofs.YtokhibhmlninnaaDoorW.PrintWords
theorem set_size (l : List UInt8) (k : Nat) (x : UInt8) : (⟨(l.set k x).toArray⟩ : ByteArray).size = l.length := by
 show (l.set k x).toArray.size = _
 rw [List.size_toArray, List.length_set]
theorem cut_bytes (S : ByteArray) (k : Nat) : S.extract 0 k = ⟨(S.data.toList.take k).toArray⟩ := by
 apply ByteArray.ext
 apply Array.toList_inj.1
 simp
set_option maxRecDepth 100000 in
set_option maxHeartbeats 8000000 in
theorem spoilt_walk (per dl : Int) (P : Option Addr) (cp : Nat) (ps : List PCod.S48) (E : Option Addr) (ce : Nat) (es : List PCod.S62) (F : Option Addr) (cf : Nat) (fs : List PCod.S64) (B : Option Addr) (cb : Nat) (bs : List PCod.S45) (at_ by_ : Int) (w : World) (hr : DR w P cp ps E ce es F cf fs B cb bs) (hat : (Lit.int .i64 at_).wf = true) (hby : (Lit.int .u8 by_).wf = true) (hd : DbAt w) (ht : TabAt w) (he : ErAt w) : Calls Tryd.prog 3 #[.agg #[.int .i64 per, .int .i64 dl, .slice P ps.length cp, .slice E es.length ce, .slice F fs.length cf, .slice B bs.length cb], .int .i64 at_, .int .u8 by_] w fun e w' => e = .returned (.bool true) ∧ Below w.heap.size w w' := by
 have hy := bounds_u8 hby
 have ha := bounds_i64 hat
 clear hat hby
 have CA := Lib.hid (fun w1 h1 h2 h3 => awake_any w1 h1 h2 h3)
 have CF := Lib.hid (fun w1 h => few_any per dl P cp ps E ce es F cf fs B cb bs w1 h)
 have HD := Lib.hid hd
 have HT := Lib.hid ht
 have HE := Lib.hid he
 have HR := Lib.hid hr
 have HB0 := Lib.hid (below_alloc' w (.cells #[.int .i64 per, .int .i64 dl, .slice P ps.length cp, .slice E es.length ce, .slice F fs.length cf, .slice B bs.length cb] 27))
 have HX0 := Lib.hid (blk_new w (.cells #[.int .i64 per, .int .i64 dl, .slice P ps.length cp, .slice E es.length ce, .slice F fs.length cf, .slice B bs.length cb] 27))
 clear hd ht he hr
 cases hf : fewB ps es fs bs with
 | false =>
  rw [hf] at CF
  clear hf
  go_enter Tryd.func3, Tryd.ntmps3
  go_upto_region 1 with fail
  generalize w.alloc (.cells #[.int .i64 per, .int .i64 dl, .slice P ps.length cp, .slice E es.length ce, .slice F fs.length cf, .slice B bs.length cb] 27) = w0 at *
  go_wp2_with fail
  refine (CA.out w0 (HD.out.below HB0.out) (HT.out.below HB0.out) (HE.out.below HB0.out)).mono ?_
  rintro e w1 ⟨rfl, hb⟩
  have HB1 := Lib.hid (HB0.out.trans (hb.mono HB0.out.size))
  have HX1 := Lib.hid (blk_below HX0.out hb)
  clear hb HB0 HX0
  have y0 : w1.cell? ⟨w.heap.size, 0, none⟩ = some (.int .i64 per) := (blk_cell HX1.out 0).trans rfl
  have y1 : w1.cell? ⟨w.heap.size, 1, none⟩ = some (.int .i64 dl) := (blk_cell HX1.out 1).trans rfl
  have y2 : w1.cell? ⟨w.heap.size, 2, none⟩ = some (.slice P ps.length cp) := (blk_cell HX1.out 2).trans rfl
  have y3 : w1.cell? ⟨w.heap.size, 3, none⟩ = some (.slice E es.length ce) := (blk_cell HX1.out 3).trans rfl
  have y4 : w1.cell? ⟨w.heap.size, 4, none⟩ = some (.slice F fs.length cf) := (blk_cell HX1.out 4).trans rfl
  have y5 : w1.cell? ⟨w.heap.size, 5, none⟩ = some (.slice B bs.length cb) := (blk_cell HX1.out 5).trans rfl
  go_wp2_with fail
  refine (CF.out w1 (HR.out.below HB1.out)).mono ?_
  rintro e w2 ⟨rfl, hb⟩
  have HB2 := Lib.hid (HB1.out.trans (hb.mono HB1.out.size))
  clear hb HB1 HX1 y0 y1 y2 y3 y4 y5
  go_wp2_with fail
  refine (CA.out w2 (HD.out.below HB2.out) (HT.out.below HB2.out) (HE.out.below HB2.out)).mono ?_
  rintro e w3 ⟨rfl, hb⟩
  have HB3 := Lib.hid (HB2.out.trans (hb.mono HB2.out.size))
  clear hb HB2
  go_wp2_with fail
  go_ret
  exact ⟨rfl, HB3.out⟩
 | true =>
  have hfew := few_yes hf
  rw [hf] at CF
  have HSH := Lib.hid hfew.short
  obtain ⟨er, her⟩ : ∃ x, x = CodPlain.checkD (dOf per dl ps es fs bs) := ⟨_, rfl⟩
  obtain ⟨S, hS⟩ : ∃ S : ByteArray, S = ⟨(CodPlain.encL (dOf per dl ps es fs bs)).toArray⟩ := ⟨_, rfl⟩
  have HSl : Hid (S.data.toList = CodPlain.encL (dOf per dl ps es fs bs)) := by show _ = _; rw [hS]
  have HSZ : Hid (S.size ≤ 700) := by
   show S.size ≤ 700
   rw [hS]
   show (CodPlain.encL _).toArray.size ≤ 700
   rw [List.size_toArray]
   by_cases hc : CodPlain.checkD (dOf per dl ps es fs bs) = 0
   ·have := enc_size per dl ps es fs bs hc
    have h2 := sumN_le bs hfew.r bs.length (Nat.le_refl _)
    have hp := hfew.p; have hes := hfew.e; have hfs := hfew.f; have hbs := hfew.b
    generalize sumN bs bs.length = sN at *
    omega
   ·unfold CodPlain.encL; rw [if_neg hc]; exact Nat.zero_le _
  have CO := Lib.hid (fun w1 h => own_any per dl P cp ps E ce es F cf fs B cb bs w1 HSH.out h)
  have CE : Hid (∀ P cp E ce F cf B cb w1, DbAt w1 → TabAt w1 → DR w1 P cp ps E ce es F cf fs B cb bs → Calls Tryd.prog 8 #[.agg #[.int .i64 per, .int .i64 dl, .slice P ps.length cp, .slice E es.length ce, .slice F fs.length cf, .slice B bs.length cb]] w1 fun e w' => e = .returned (.tuple #[.string S, .int .i64 er]) ∧ Below w1.heap.size w1 w') := by
   show ∀ _ _ _ _ _ _ _ _ _, _
   intro P cp E ce F cf B cb w1 h1 h2 h3
   have := encode_any per dl P cp ps E ce es F cf fs B cb bs w1 HSH.out h1 h2 h3
   rw [← her, ← hS] at this
   exact this
  have HER := Lib.hid her
  clear hf her hS hfew
  by_cases hbig : er ≠ 0 ∨ at_ < 0 ∨ (S.size : Int) ≤ at_ ∨ by_ = 0
  ·have hcases : er ≠ 0 ∨ (er = 0 ∧ at_ < 0) ∨ (er = 0 ∧ ¬ at_ < 0 ∧ (S.size : Int) ≤ at_) ∨ (er = 0 ∧ ¬ at_ < 0 ∧ ¬ (S.size : Int) ≤ at_ ∧ by_ = 0) := by omega
   clear hbig HSl HSZ HER
   rcases hcases with h0 | ⟨rfl, h1⟩ | ⟨rfl, h1, h2⟩ | ⟨rfl, h1, h2, rfl⟩
   all_goals
    go_enter Tryd.func3, Tryd.ntmps3
    go_upto_region 1 with fail
    generalize w.alloc (.cells #[.int .i64 per, .int .i64 dl, .slice P ps.length cp, .slice E es.length ce, .slice F fs.length cf, .slice B bs.length cb] 27) = w0 at *
    go_wp2_with fail
    refine (CA.out w0 (HD.out.below HB0.out) (HT.out.below HB0.out) (HE.out.below HB0.out)).mono ?_
    rintro e w1 ⟨rfl, hb⟩
    have HB1 := Lib.hid (HB0.out.trans (hb.mono HB0.out.size))
    have HX1 := Lib.hid (blk_below HX0.out hb)
    clear hb HB0 HX0
    have y0 : w1.cell? ⟨w.heap.size, 0, none⟩ = some (.int .i64 per) := (blk_cell HX1.out 0).trans rfl
    have y1 : w1.cell? ⟨w.heap.size, 1, none⟩ = some (.int .i64 dl) := (blk_cell HX1.out 1).trans rfl
    have y2 : w1.cell? ⟨w.heap.size, 2, none⟩ = some (.slice P ps.length cp) := (blk_cell HX1.out 2).trans rfl
    have y3 : w1.cell? ⟨w.heap.size, 3, none⟩ = some (.slice E es.length ce) := (blk_cell HX1.out 3).trans rfl
    have y4 : w1.cell? ⟨w.heap.size, 4, none⟩ = some (.slice F fs.length cf) := (blk_cell HX1.out 4).trans rfl
    have y5 : w1.cell? ⟨w.heap.size, 5, none⟩ = some (.slice B bs.length cb) := (blk_cell HX1.out 5).trans rfl
    go_wp2_with fail
    refine (CF.out w1 (HR.out.below HB1.out)).mono ?_
    rintro e w2 ⟨rfl, hb⟩
    have HB2 := Lib.hid (HB1.out.trans (hb.mono HB1.out.size))
    have HX2 := Lib.hid (blk_below HX1.out hb)
    clear hb HB1 HX1 y0 y1 y2 y3 y4 y5
    have y0 : w2.cell? ⟨w.heap.size, 0, none⟩ = some (.int .i64 per) := (blk_cell HX2.out 0).trans rfl
    have y1 : w2.cell? ⟨w.heap.size, 1, none⟩ = some (.int .i64 dl) := (blk_cell HX2.out 1).trans rfl
    have y2 : w2.cell? ⟨w.heap.size, 2, none⟩ = some (.slice P ps.length cp) := (blk_cell HX2.out 2).trans rfl
    have y3 : w2.cell? ⟨w.heap.size, 3, none⟩ = some (.slice E es.length ce) := (blk_cell HX2.out 3).trans rfl
    have y4 : w2.cell? ⟨w.heap.size, 4, none⟩ = some (.slice F fs.length cf) := (blk_cell HX2.out 4).trans rfl
    have y5 : w2.cell? ⟨w.heap.size, 5, none⟩ = some (.slice B bs.length cb) := (blk_cell HX2.out 5).trans rfl
    go_wp2_with fail
    refine (CO.out w2 (HR.out.below HB2.out)).mono ?_
    rintro e w3 ⟨P2, cp2, E2, ce2, F2, cf2, B2, cb2, rfl, hdr, hb⟩
    have HB3 := Lib.hid (HB2.out.trans (hb.mono HB2.out.size))
    have HX3 := Lib.hid (blk_below HX2.out hb)
    have HDR3 := Lib.hid hdr
    clear hb hdr HB2 HX2 y0 y1 y2 y3 y4 y5
    go_wp2_with fail
    refine (CE.out P2 cp2 E2 ce2 F2 cf2 B2 cb2 w3 (HD.out.below HB3.out) (HT.out.below HB3.out) HDR3.out).mono ?_
    rintro e w4 ⟨rfl, hb⟩
    have HB4 := Lib.hid (HB3.out.trans (hb.mono HB3.out.size))
    have HX4 := Lib.hid (blk_below HX3.out hb)
    clear hb HB3 HX3 HDR3
    go_wp2_with fail
    go_ret
    exact ⟨rfl, HB4.out⟩
  ·obtain ⟨a, rfl⟩ : ∃ a : Nat, at_ = a := ⟨at_.toNat, by omega⟩
   obtain ⟨d, rfl⟩ : ∃ d : UInt8, by_ = d.toNat := ⟨UInt8.ofNat by_.toNat, by simp; omega⟩
   obtain rfl : er = 0 := by omega
   have haS : a < S.size := by omega
   have haI : (a : Int) < (S.size : Int) := by omega
   have hd0 : (((d.toNat : Nat) : Int) == 0) = false := by rw [beq_eq_false_iff_ne]; omega
   have hdn : d ≠ 0 := by rintro rfl; simp at hd0
   clear hbig
   have hl : S.data.toList.length = S.size := rfl
   obtain ⟨c, hcd⟩ : ∃ c, c = S.data.toList.getD a 0 := ⟨_, rfl⟩
   obtain ⟨x, hxd⟩ : ∃ x, x = c ^^^ d := ⟨_, rfl⟩
   obtain ⟨T, hTd⟩ : ∃ T : ByteArray, T = ⟨(S.data.toList.set a x).toArray⟩ := ⟨_, rfl⟩
   obtain ⟨U, hUd⟩ : ∃ U : ByteArray, U = S.extract 0 a := ⟨_, rfl⟩
   have HTs : Hid (T.size ≤ 1000) := by show T.size ≤ 1000; rw [hTd, set_size, hl]; have := HSZ.out; omega
   have HUs : Hid (U.size ≤ 1000) := by show U.size ≤ 1000; rw [hUd]; have := HSZ.out; simp; omega
   have HT61 : Hid ((decOf T).2.2.2 = 61) := by
    show _ = _
    rw [hTd, hxd, hcd, HSl.out]
    exact dec_one HER.out.symm (by rw [← HSl.out, hl]; exact haS) hdn
   have HU : Hid ((decOf U).2.2.2 = 60 ∨ (decOf U).2.2.2 = 61 ∨ (decOf U).2.2.2 = 64) := by
    show _ ∨ _
    rw [hUd, cut_bytes, HSl.out]
    exact dec_cut HER.out.symm (by rw [← HSl.out, hl]; exact haS)
   have CT : Hid (∀ w1, DbAt w1 → TabAt w1 → ErAt w1 → Calls Tryd.prog 10 #[.string T] w1 (DecodePost T w1)) := fun w1 h1 h2 h3 => Decode_any T w1 HTs.out h1 h2 h3
   have CU : Hid (∀ w1, DbAt w1 → TabAt w1 → ErAt w1 → Calls Tryd.prog 10 #[.string U] w1 (DecodePost U w1)) := fun w1 h1 h2 h3 => Decode_any U w1 HUs.out h1 h2 h3
   obtain ⟨qT, hqT⟩ : ∃ q, decOf T = q := ⟨_, rfl⟩
   obtain ⟨qU, hqU⟩ : ∃ q, decOf U = q := ⟨_, rfl⟩
   unfold DecodePost at CT CU
   rw [hqT] at CT HT61
   rw [hqU] at CU HU
   obtain ⟨dT, tA, tB', tE'⟩ := qT
   obtain ⟨dU, uA, uB, uE⟩ := qU
   dsimp only at CT CU HT61 HU
   obtain rfl : tE' = 61 := HT61.out
   clear hqT hqU HT61 HTs HUs HSl HSZ HER
   go_enter Tryd.func3, Tryd.ntmps3
   go_upto_region 1 with fail
   generalize w.alloc (.cells #[.int .i64 per, .int .i64 dl, .slice P ps.length cp, .slice E es.length ce, .slice F fs.length cf, .slice B bs.length cb] 27) = w0 at *
   go_wp2_with fail
   refine (CA.out w0 (HD.out.below HB0.out) (HT.out.below HB0.out) (HE.out.below HB0.out)).mono ?_
   rintro e w1 ⟨rfl, hb⟩
   have HB1 := Lib.hid (HB0.out.trans (hb.mono HB0.out.size))
   have HX1 := Lib.hid (blk_below HX0.out hb)
   clear hb HB0 HX0
   have y0 : w1.cell? ⟨w.heap.size, 0, none⟩ = some (.int .i64 per) := (blk_cell HX1.out 0).trans rfl
   have y1 : w1.cell? ⟨w.heap.size, 1, none⟩ = some (.int .i64 dl) := (blk_cell HX1.out 1).trans rfl
   have y2 : w1.cell? ⟨w.heap.size, 2, none⟩ = some (.slice P ps.length cp) := (blk_cell HX1.out 2).trans rfl
   have y3 : w1.cell? ⟨w.heap.size, 3, none⟩ = some (.slice E es.length ce) := (blk_cell HX1.out 3).trans rfl
   have y4 : w1.cell? ⟨w.heap.size, 4, none⟩ = some (.slice F fs.length cf) := (blk_cell HX1.out 4).trans rfl
   have y5 : w1.cell? ⟨w.heap.size, 5, none⟩ = some (.slice B bs.length cb) := (blk_cell HX1.out 5).trans rfl
   go_wp2_with fail
   refine (CF.out w1 (HR.out.below HB1.out)).mono ?_
   rintro e w2 ⟨rfl, hb⟩
   have HB2 := Lib.hid (HB1.out.trans (hb.mono HB1.out.size))
   have HX2 := Lib.hid (blk_below HX1.out hb)
   clear hb HB1 HX1 y0 y1 y2 y3 y4 y5
   have y0 : w2.cell? ⟨w.heap.size, 0, none⟩ = some (.int .i64 per) := (blk_cell HX2.out 0).trans rfl
   have y1 : w2.cell? ⟨w.heap.size, 1, none⟩ = some (.int .i64 dl) := (blk_cell HX2.out 1).trans rfl
   have y2 : w2.cell? ⟨w.heap.size, 2, none⟩ = some (.slice P ps.length cp) := (blk_cell HX2.out 2).trans rfl
   have y3 : w2.cell? ⟨w.heap.size, 3, none⟩ = some (.slice E es.length ce) := (blk_cell HX2.out 3).trans rfl
   have y4 : w2.cell? ⟨w.heap.size, 4, none⟩ = some (.slice F fs.length cf) := (blk_cell HX2.out 4).trans rfl
   have y5 : w2.cell? ⟨w.heap.size, 5, none⟩ = some (.slice B bs.length cb) := (blk_cell HX2.out 5).trans rfl
   go_wp2_with fail
   refine (CO.out w2 (HR.out.below HB2.out)).mono ?_
   rintro e w3 ⟨P2, cp2, E2, ce2, F2, cf2, B2, cb2, rfl, hdr, hb⟩
   have HB3 := Lib.hid (HB2.out.trans (hb.mono HB2.out.size))
   have HX3 := Lib.hid (blk_below HX2.out hb)
   have HDR3 := Lib.hid hdr
   clear hb hdr HB2 HX2 y0 y1 y2 y3 y4 y5
   go_wp2_with fail
   refine (CE.out P2 cp2 E2 ce2 F2 cf2 B2 cb2 w3 (HD.out.below HB3.out) (HT.out.below HB3.out) HDR3.out).mono ?_
   rintro e w4 ⟨rfl, hb⟩
   have HB4 := Lib.hid (HB3.out.trans (hb.mono HB3.out.size))
   have HX4 := Lib.hid (blk_below HX3.out hb)
   clear hb HB3 HX3 HDR3
   obtain ⟨cap, W, hconv, hbW, hszW, hcell, hfroz⟩ := bytes_conv w4 S
   have hc := hcell a haS
   have hf := hfroz a haS
   have hx := u8_xor_nat c.toNat d.toNat c.toNat_lt d.toNat_lt
   rw [← UInt8.toNat_xor, ← hxd] at hx
   rw [← hcd] at hc
   have hback := bytes_back (W.setCell ⟨w4.heap.size, a, none⟩ (.int .u8 (x.toNat : Int))) w4.heap.size S.size cap (S.data.toList.set a x) (by rw [List.length_set]; exact hl) (by
    intro j hj
    by_cases e : j = a
    ·subst e
     rw [World.cell?_setCell_same _ _ _ (hcell j haS), List.getD_eq_getElem?_getD, List.getElem?_set_self (by rw [hl]; exact haS)]
     rfl
    ·rw [World.cell?_setCell_other _ _ _ _ (by intro h; exact e (congrArg Addr.off h).symm), hcell j hj, List.getD_eq_getElem?_getD, List.getD_eq_getElem?_getD, List.getElem?_set_ne (by omega)])
   rw [← hTd] at hback
   have hb5 : Below w4.heap.size w4 (W.setCell ⟨w4.heap.size, a, none⟩ (.int .u8 (x.toNat : Int))) := hbW.setCell (Nat.le_refl _) _
   have HB5 := Lib.hid (HB4.out.trans (hb5.mono HB4.out.size))
   clear hcell hfroz hb5 hbW hcd hxd hTd CF CO CE HSH HR
   go_wp2_with fail
   refine (CT.out _ (HD.out.below HB5.out) (HT.out.below HB5.out) (HE.out.below HB5.out)).mono ?_
   rintro e w6 ⟨v60, v61, v62, v63, v64, v65, v66, v67, v68, v69, v610, v611, v612, v613, rfl, -, -, hb⟩
   have HB6 := Lib.hid (HB5.out.trans ((hb.alloc hb.size (.cells #[.int .i64 v60, .int .i64 v61, .slice v62 v64.length v63, .slice v65 v67.length v66, .slice v68 v610.length v69, .slice v611 v613.length v612] 27)).mono HB5.out.size))
   clear hb HB5
   go_wp2_with fail
   rw [← hUd]
   refine (CU.out _ (HD.out.below HB6.out) (HT.out.below HB6.out) (HE.out.below HB6.out)).mono ?_
   rintro e w7 ⟨v70, v71, v72, v73, v74, v75, v76, v77, v78, v79, v710, v711, v712, v713, rfl, -, -, hb⟩
   have HB7 := Lib.hid (HB6.out.trans ((hb.alloc hb.size (.cells #[.int .i64 v70, .int .i64 v71, .slice v72 v74.length v73, .slice v75 v77.length v76, .slice v78 v710.length v79, .slice v711 v713.length v712] 27)).mono HB6.out.size))
   clear hb HB6
   rcases HU.out with rfl | rfl | rfl
   all_goals
    go_wp2_with fail
    go_ret
    exact ⟨rfl, HB7.out⟩
end Go.Proofs.YtokhibhmlninnaaDoor
