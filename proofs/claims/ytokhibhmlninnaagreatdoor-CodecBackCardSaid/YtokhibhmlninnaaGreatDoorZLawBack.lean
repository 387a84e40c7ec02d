/- trefoillaw06.CodecBack returns true, whatever the task. -/
import Derived.Test.YtokhibhmlninnaaGreatDoorZMPre
import Derived.Test.YtokhibhmlninnaaGreatDoorZMAwk
import Derived.Test.YtokhibhmlninnaaGreatDoorZMBk
set_option linter.unusedVariables false
set_option linter.unusedSimpArgs false
namespace Go.Proofs.YtokhibhmlninnaaGreatDoor
open Go.RowKit Go.Sort Go.Proofs.YtokhibhmlninnaaGreatDoorW.PrintWords
theorem map_inj {α β : Type} {f : α → β} (hf : ∀ x y, f x = f y → x = y) : ∀ {l m : List α}, l.map f = m.map f → l = m
 | [], [], _ => rfl
 | [], b :: m, h => by cases h
 | a :: l, [], h => by cases h
 | a :: l, b :: m, h => by
  rw [List.map_cons, List.map_cons] at h
  injection h with h1 h2
  rw [hf _ _ h1, map_inj hf h2]
theorem dOf_inj {per dl per' dl' : Int} {ps ps' : List PCod.S47} {es es' : List PCod.S63} {fs fs' : List PCod.S65} {bs bs' : List PCod.S50} (h : dOf per dl ps es fs bs = dOf per' dl' ps' es' fs' bs') : per = per' ∧ dl = dl' ∧ ps = ps' ∧ es = es' ∧ fs = fs' ∧ bs = bs' := by
 unfold dOf at h
 injection h with h1 h2 h3 h4 h5 h6
 refine ⟨h1, h2, map_inj ?_ h3, map_inj ?_ h4, map_inj ?_ h5, map_inj ?_ h6⟩
 ·rintro ⟨a, b, c⟩ ⟨a', b', c'⟩ e
  injection e with e1 e2; injection e2 with e2 e3
  dsimp only at e1 e2 e3
  rw [e1, e2, e3]
 ·rintro ⟨a, b⟩ ⟨a', b'⟩ e
  injection e with e1 e2
  dsimp only at e1 e2
  rw [e1, e2]
 ·rintro ⟨a, b, c⟩ ⟨a', b', c'⟩ e
  injection e with e1 e2; injection e2 with e2 e3
  dsimp only at e1 e2 e3
  rw [e1, e2, e3]
 ·rintro ⟨a, b⟩ ⟨a', b'⟩ e
  injection e with e1 e2
  dsimp only at e1 e2
  rw [e1, e2]
set_option maxRecDepth 100000 in
set_option maxHeartbeats 8000000 in
theorem back_walk (per dl : Int) (P : Option Addr) (cp : Nat) (ps : List PCod.S47) (E : Option Addr) (ce : Nat) (es : List PCod.S63) (F : Option Addr) (cf : Nat) (fs : List PCod.S65) (B : Option Addr) (cb : Nat) (bs : List PCod.S50) (w : World) (hr : DR w P cp ps E ce es F cf fs B cb bs) (hd : DbAt w) (ht : TabAt w) (he : ErAt w) : Calls Tryz.prog 5 #[.agg #[.int .i64 per, .int .i64 dl, .slice P ps.length cp, .slice E es.length ce, .slice F fs.length cf, .slice B bs.length cb]] w fun e w' => e = .returned (.bool true) ∧ Below w.heap.size w w' := by
 have CA := Lib.hid (fun w1 h1 h2 h3 => awake_any w1 h1 h2 h3)
 have CF := Lib.hid (fun w1 h => few_any per dl P cp ps E ce es F cf fs B cb bs w1 h)
 have HD := Lib.hid hd
 have HT := Lib.hid ht
 have HE := Lib.hid he
 have HR := Lib.hid hr
 have HB0 := Lib.hid (below_alloc' w (.cells #[.int .i64 per, .int .i64 dl, .slice P ps.length cp, .slice E es.length ce, .slice F fs.length cf, .slice B bs.length cb] 27))
 have HX0 := Lib.hid (blk_new w (.cells #[.int .i64 per, .int .i64 dl, .slice P ps.length cp, .slice E es.length ce, .slice F fs.length cf, .slice B bs.length cb] 27))
 clear hd ht he hr
 cases hf : fewB ps es fs bs with
 | false =>
  rw [hf] at CF
  clear hf
  go_enter Tryz.func5, Tryz.ntmps5
  go_upto_region 1 with fail
  generalize w.alloc (.cells #[.int .i64 per, .int .i64 dl, .slice P ps.length cp, .slice E es.length ce, .slice F fs.length cf, .slice B bs.length cb] 27) = w0 at *
  go_wp2_with fail
  refine (CA.out w0 (HD.out.below HB0.out) (HT.out.below HB0.out) (HE.out.below HB0.out)).mono ?_
  rintro e w1 ⟨rfl, hb⟩
  have HB1 := Lib.hid (HB0.out.trans (hb.mono HB0.out.size))
  have HX1 := Lib.hid (blk_below HX0.out hb)
  clear hb HB0 HX0
  have y0 : w1.cell? ⟨w.heap.size, 0, none⟩ = some (.int .i64 per) := (blk_cell HX1.out 0).trans rfl
  have y1 : w1.cell? ⟨w.heap.size, 1, none⟩ = some (.int .i64 dl) := (blk_cell HX1.out 1).trans rfl
  have y2 : w1.cell? ⟨w.heap.size, 2, none⟩ = some (.slice P ps.length cp) := (blk_cell HX1.out 2).trans rfl
  have y3 : w1.cell? ⟨w.heap.size, 3, none⟩ = some (.slice E es.length ce) := (blk_cell HX1.out 3).trans rfl
  have y4 : w1.cell? ⟨w.heap.size, 4, none⟩ = some (.slice F fs.length cf) := (blk_cell HX1.out 4).trans rfl
  have y5 : w1.cell? ⟨w.heap.size, 5, none⟩ = some (.slice B bs.length cb) := (blk_cell HX1.out 5).trans rfl
  go_wp2_with fail
  refine (CF.out w1 (HR.out.below HB1.out)).mono ?_
  rintro e w2 ⟨rfl, hb⟩
  have HB2 := Lib.hid (HB1.out.trans (hb.mono HB1.out.size))
  clear hb HB1 HX1 y0 y1 y2 y3 y4 y5
  go_wp2_with fail
  refine (CA.out w2 (HD.out.below HB2.out) (HT.out.below HB2.out) (HE.out.below HB2.out)).mono ?_
  rintro e w3 ⟨rfl, hb⟩
  have HB3 := Lib.hid (HB2.out.trans (hb.mono HB2.out.size))
  clear hb HB2
  go_wp2_with fail
  go_ret
  exact ⟨rfl, HB3.out⟩
 | true =>
  have hfew := few_yes hf
  rw [hf] at CF
  have HSH := Lib.hid hfew.short
  obtain ⟨er, her⟩ : ∃ x, x = CodPlain.checkD (dOf per dl ps es fs bs) := ⟨_, rfl⟩
  obtain ⟨S, hS⟩ : ∃ S : ByteArray, S = ⟨(CodPlain.encL (dOf per dl ps es fs bs)).toArray⟩ := ⟨_, rfl⟩
  have hsz : S.size ≤ 700 := by
   rw [hS]
   show (CodPlain.encL _).toArray.size ≤ 700
   rw [List.size_toArray]
   by_cases hc : CodPlain.checkD (dOf per dl ps es fs bs) = 0
   ·have := enc_size per dl ps es fs bs hc
    have h2 := sumN_le bs hfew.r bs.length (Nat.le_refl _)
    have hp := hfew.p; have hes := hfew.e; have hfs := hfew.f; have hbs := hfew.b
    generalize sumN bs bs.length = sN at *
    omega
   ·unfold CodPlain.encL; rw [if_neg hc]; exact Nat.zero_le _
  have CO := Lib.hid (fun P cp E ce F cf B cb w1 h => own_any per dl P cp ps E ce es F cf fs B cb bs w1 HSH.out h)
  have CE : Hid (∀ P cp E ce F cf B cb w1, DbAt w1 → TabAt w1 → DR w1 P cp ps E ce es F cf fs B cb bs → Calls Tryz.prog 9 #[.agg #[.int .i64 per, .int .i64 dl, .slice P ps.length cp, .slice E es.length ce, .slice F fs.length cf, .slice B bs.length cb]] w1 fun e w' => e = .returned (.tuple #[.string S, .int .i64 er]) ∧ Below w1.heap.size w1 w') := by
   show ∀ _ _ _ _ _ _ _ _ _, _
   intro P cp E ce F cf B cb w1 h1 h2 h3
   have := encode_any per dl P cp ps E ce es F cf fs B cb bs w1 HSH.out h1 h2 h3
   rw [← her, ← hS] at this
   exact this
  have CK : Hid (∀ P cp E ce F cf B cb w1, DbAt w1 → DR w1 P cp ps E ce es F cf fs B cb bs → Calls Tryz.prog 17 #[.agg #[.int .i64 per, .int .i64 dl, .slice P ps.length cp, .slice E es.length ce, .slice F fs.length cf, .slice B bs.length cb]] w1 fun e w' => e = .returned (.int .i64 er) ∧ Below w1.heap.size w1 w') := by
   show ∀ _ _ _ _ _ _ _ _ _, _
   intro P cp E ce F cf B cb w1 h1 h2
   have := check_any per dl P cp ps E ce es F cf fs B cb bs w1 HSH.out.1 HSH.out.2 h1 h2
   rw [← her] at this
   exact this
  have CD := Lib.hid (fun w1 h1 h2 h3 => Decode_any S w1 (by omega) h1 h2 h3)
  have HSZ := Lib.hid hsz
  have HOK : Hid (er = 0 → decOf S = (dOf per dl ps es fs bs, 0, 0, 0)) := fun h => by rw [hS]; exact dec_enc (by rw [← her]; exact h)
  have HSE : Hid (er ≠ 0 → S = ⟨#[]⟩) := fun h => by rw [hS]; unfold CodPlain.encL; rw [if_neg (by rw [← her]; exact h)]
  clear hf her hS hfew hsz
  unfold DecodePost at CD
  obtain ⟨q, hq⟩ : ∃ q, decOf S = q := ⟨_, rfl⟩
  rw [hq] at CD HOK
  obtain ⟨d, qa, qb, qe⟩ := q
  dsimp only at CD HOK
  clear hq
  by_cases h0 : er = 0
  ·subst h0
   have hok := HOK.out rfl
   injection hok with hok1 hok2
   injection hok2 with hok2 hok3
   injection hok3 with hok3 hok4
   subst hok1 hok2 hok3 hok4
   have hszI : (S.size : Int) ≤ 700 := by have := HSZ.out; omega
   clear HOK HSE HSZ CK
   go_enter Tryz.func5, Tryz.ntmps5
   go_upto_region 1 with fail
   generalize w.alloc (.cells #[.int .i64 per, .int .i64 dl, .slice P ps.length cp, .slice E es.length ce, .slice F fs.length cf, .slice B bs.length cb] 27) = w0 at *
   go_wp2_with fail
   refine (CA.out w0 (HD.out.below HB0.out) (HT.out.below HB0.out) (HE.out.below HB0.out)).mono ?_
   rintro e w1 ⟨rfl, hb⟩
   have HB1 := Lib.hid (HB0.out.trans (hb.mono HB0.out.size))
   have HX1 := Lib.hid (blk_below HX0.out hb)
   clear hb HB0 HX0
   have y0 : w1.cell? ⟨w.heap.size, 0, none⟩ = some (.int .i64 per) := (blk_cell HX1.out 0).trans rfl
   have y1 : w1.cell? ⟨w.heap.size, 1, none⟩ = some (.int .i64 dl) := (blk_cell HX1.out 1).trans rfl
   have y2 : w1.cell? ⟨w.heap.size, 2, none⟩ = some (.slice P ps.length cp) := (blk_cell HX1.out 2).trans rfl
   have y3 : w1.cell? ⟨w.heap.size, 3, none⟩ = some (.slice E es.length ce) := (blk_cell HX1.out 3).trans rfl
   have y4 : w1.cell? ⟨w.heap.size, 4, none⟩ = some (.slice F fs.length cf) := (blk_cell HX1.out 4).trans rfl
   have y5 : w1.cell? ⟨w.heap.size, 5, none⟩ = some (.slice B bs.length cb) := (blk_cell HX1.out 5).trans rfl
   go_wp2_with fail
   refine (CF.out w1 (HR.out.below HB1.out)).mono ?_
   rintro e w2 ⟨rfl, hb⟩
   have HB2 := Lib.hid (HB1.out.trans (hb.mono HB1.out.size))
   have HX2 := Lib.hid (blk_below HX1.out hb)
   clear hb HB1 HX1 y0 y1 y2 y3 y4 y5
   have y0 : w2.cell? ⟨w.heap.size, 0, none⟩ = some (.int .i64 per) := (blk_cell HX2.out 0).trans rfl
   have y1 : w2.cell? ⟨w.heap.size, 1, none⟩ = some (.int .i64 dl) := (blk_cell HX2.out 1).trans rfl
   have y2 : w2.cell? ⟨w.heap.size, 2, none⟩ = some (.slice P ps.length cp) := (blk_cell HX2.out 2).trans rfl
   have y3 : w2.cell? ⟨w.heap.size, 3, none⟩ = some (.slice E es.length ce) := (blk_cell HX2.out 3).trans rfl
   have y4 : w2.cell? ⟨w.heap.size, 4, none⟩ = some (.slice F fs.length cf) := (blk_cell HX2.out 4).trans rfl
   have y5 : w2.cell? ⟨w.heap.size, 5, none⟩ = some (.slice B bs.length cb) := (blk_cell HX2.out 5).trans rfl
   go_wp2_with fail
   refine (CO.out P cp E ce F cf B cb w2 (HR.out.below HB2.out)).mono ?_
   rintro e w3 ⟨P2, cp2, E2, ce2, F2, cf2, B2, cb2, rfl, hdr, hb⟩
   have HB3 := Lib.hid (HB2.out.trans (hb.mono HB2.out.size))
   have HX3 := Lib.hid (blk_below HX2.out hb)
   have HDR3 := Lib.hid hdr
   clear hb hdr HB2 HX2 y0 y1 y2 y3 y4 y5
   go_wp2_with fail
   refine (CE.out P2 cp2 E2 ce2 F2 cf2 B2 cb2 w3 (HD.out.below HB3.out) (HT.out.below HB3.out) HDR3.out).mono ?_
   rintro e w4 ⟨rfl, hb⟩
   have HB4 := Lib.hid (HB3.out.trans (hb.mono HB3.out.size))
   have HX4 := Lib.hid (blk_below HX3.out hb)
   clear hb HB3 HX3 HDR3
   have y0 : w4.cell? ⟨w.heap.size, 0, none⟩ = some (.int .i64 per) := (blk_cell HX4.out 0).trans rfl
   have y1 : w4.cell? ⟨w.heap.size, 1, none⟩ = some (.int .i64 dl) := (blk_cell HX4.out 1).trans rfl
   have y2 : w4.cell? ⟨w.heap.size, 2, none⟩ = some (.slice P ps.length cp) := (blk_cell HX4.out 2).trans rfl
   have y3 : w4.cell? ⟨w.heap.size, 3, none⟩ = some (.slice E es.length ce) := (blk_cell HX4.out 3).trans rfl
   have y4 : w4.cell? ⟨w.heap.size, 4, none⟩ = some (.slice F fs.length cf) := (blk_cell HX4.out 4).trans rfl
   have y5 : w4.cell? ⟨w.heap.size, 5, none⟩ = some (.slice B bs.length cb) := (blk_cell HX4.out 5).trans rfl
   go_wp2_with fail
   refine (CD.out w4 (HD.out.below HB4.out) (HT.out.below HB4.out) (HE.out.below HB4.out)).mono ?_
   rintro e w5 ⟨per', dl', P', cp', ps', E', ce', es', F', cf', fs', B', cb', bs', rfl, hdof, ⟨R, hdm⟩, hb⟩
   obtain ⟨rfl, rfl, rfl, rfl, rfl, rfl⟩ := dOf_inj hdof
   clear hdof
   have hb' : Below w4.heap.size w4 (w5.alloc (.cells #[.int .i64 per', .int .i64 dl', .slice P' ps'.length cp', .slice E' es'.length ce', .slice F' fs'.length cf', .slice B' bs'.length cb'] 27)) := hb.alloc hb.size _
   have HB5 := Lib.hid (HB4.out.trans (hb'.mono HB4.out.size))
   have HX5 := Lib.hid (blk_below HX4.out hb')
   have HDR5 := Lib.hid (hdm.dr.below (below_alloc' w5 (.cells #[.int .i64 per', .int .i64 dl', .slice P' ps'.length cp', .slice E' es'.length ce', .slice F' fs'.length cf', .slice B' bs'.length cb'] 27)))
   have HY5 := Lib.hid (blk_new w5 (.cells #[.int .i64 per', .int .i64 dl', .slice P' ps'.length cp', .slice E' es'.length ce', .slice F' fs'.length cf', .slice B' bs'.length cb'] 27))
   obtain ⟨gy, hgy⟩ : ∃ x, x = w5.heap.size := ⟨_, rfl⟩
   rw [← hgy] at HY5
   clear hdm hb hb' HB4 HX4 y0 y1 y2 y3 y4 y5
   go_upto_region 5 with fail
   generalize w5.alloc (.cells #[.int .i64 per', .int .i64 dl', .slice P' ps'.length cp', .slice E' es'.length ce', .slice F' fs'.length cf', .slice B' bs'.length cb'] 27) = w6 at *
   rw [← hgy]
   clear hgy
   have y0 : w6.cell? ⟨w.heap.size, 0, none⟩ = some (.int .i64 per') := (blk_cell HX5.out 0).trans rfl
   have y1 : w6.cell? ⟨w.heap.size, 1, none⟩ = some (.int .i64 dl') := (blk_cell HX5.out 1).trans rfl
   have y2 : w6.cell? ⟨w.heap.size, 2, none⟩ = some (.slice P ps'.length cp) := (blk_cell HX5.out 2).trans rfl
   have y3 : w6.cell? ⟨w.heap.size, 3, none⟩ = some (.slice E es'.length ce) := (blk_cell HX5.out 3).trans rfl
   have y4 : w6.cell? ⟨w.heap.size, 4, none⟩ = some (.slice F fs'.length cf) := (blk_cell HX5.out 4).trans rfl
   have y5 : w6.cell? ⟨w.heap.size, 5, none⟩ = some (.slice B bs'.length cb) := (blk_cell HX5.out 5).trans rfl
   have z0 : w6.cell? ⟨gy, 0, none⟩ = some (.int .i64 per') := (blk_cell HY5.out 0).trans rfl
   have z1 : w6.cell? ⟨gy, 1, none⟩ = some (.int .i64 dl') := (blk_cell HY5.out 1).trans rfl
   have z2 : w6.cell? ⟨gy, 2, none⟩ = some (.slice P' ps'.length cp') := (blk_cell HY5.out 2).trans rfl
   have z3 : w6.cell? ⟨gy, 3, none⟩ = some (.slice E' es'.length ce') := (blk_cell HY5.out 3).trans rfl
   have z4 : w6.cell? ⟨gy, 4, none⟩ = some (.slice F' fs'.length cf') := (blk_cell HY5.out 4).trans rfl
   have z5 : w6.cell? ⟨gy, 5, none⟩ = some (.slice B' bs'.length cb') := (blk_cell HY5.out 5).trans rfl
   go_wp2_with fail
   refine (refsame_any per' dl' P cp ps' E ce es' F cf fs' B cb bs' P' cp' E' ce' F' cf' B' cb' w6 HSH.out (HR.out.below HB5.out) HDR5.out).mono ?_
   rintro e w7 ⟨rfl, hb⟩
   have HB7 := Lib.hid (HB5.out.trans (hb.mono HB5.out.size))
   clear hb y0 y1 y2 y3 y4 y5 z0 z1 z2 z3 z4 z5
   go_wp2_with fail
   go_ret
   exact ⟨rfl, HB7.out⟩
  ·have hse := HSE.out h0
   subst hse
   clear HOK HSE HSZ
   go_enter Tryz.func5, Tryz.ntmps5
   go_upto_region 1 with fail
   generalize w.alloc (.cells #[.int .i64 per, .int .i64 dl, .slice P ps.length cp, .slice E es.length ce, .slice F fs.length cf, .slice B bs.length cb] 27) = w0 at *
   go_wp2_with fail
   refine (CA.out w0 (HD.out.below HB0.out) (HT.out.below HB0.out) (HE.out.below HB0.out)).mono ?_
   rintro e w1 ⟨rfl, hb⟩
   have HB1 := Lib.hid (HB0.out.trans (hb.mono HB0.out.size))
   have HX1 := Lib.hid (blk_below HX0.out hb)
   clear hb HB0 HX0
   have y0 : w1.cell? ⟨w.heap.size, 0, none⟩ = some (.int .i64 per) := (blk_cell HX1.out 0).trans rfl
   have y1 : w1.cell? ⟨w.heap.size, 1, none⟩ = some (.int .i64 dl) := (blk_cell HX1.out 1).trans rfl
   have y2 : w1.cell? ⟨w.heap.size, 2, none⟩ = some (.slice P ps.length cp) := (blk_cell HX1.out 2).trans rfl
   have y3 : w1.cell? ⟨w.heap.size, 3, none⟩ = some (.slice E es.length ce) := (blk_cell HX1.out 3).trans rfl
   have y4 : w1.cell? ⟨w.heap.size, 4, none⟩ = some (.slice F fs.length cf) := (blk_cell HX1.out 4).trans rfl
   have y5 : w1.cell? ⟨w.heap.size, 5, none⟩ = some (.slice B bs.length cb) := (blk_cell HX1.out 5).trans rfl
   go_wp2_with fail
   refine (CF.out w1 (HR.out.below HB1.out)).mono ?_
   rintro e w2 ⟨rfl, hb⟩
   have HB2 := Lib.hid (HB1.out.trans (hb.mono HB1.out.size))
   have HX2 := Lib.hid (blk_below HX1.out hb)
   clear hb HB1 HX1 y0 y1 y2 y3 y4 y5
   have y0 : w2.cell? ⟨w.heap.size, 0, none⟩ = some (.int .i64 per) := (blk_cell HX2.out 0).trans rfl
   have y1 : w2.cell? ⟨w.heap.size, 1, none⟩ = some (.int .i64 dl) := (blk_cell HX2.out 1).trans rfl
   have y2 : w2.cell? ⟨w.heap.size, 2, none⟩ = some (.slice P ps.length cp) := (blk_cell HX2.out 2).trans rfl
   have y3 : w2.cell? ⟨w.heap.size, 3, none⟩ = some (.slice E es.length ce) := (blk_cell HX2.out 3).trans rfl
   have y4 : w2.cell? ⟨w.heap.size, 4, none⟩ = some (.slice F fs.length cf) := (blk_cell HX2.out 4).trans rfl
   have y5 : w2.cell? ⟨w.heap.size, 5, none⟩ = some (.slice B bs.length cb) := (blk_cell HX2.out 5).trans rfl
   go_wp2_with fail
   refine (CO.out P cp E ce F cf B cb w2 (HR.out.below HB2.out)).mono ?_
   rintro e w3 ⟨P2, cp2, E2, ce2, F2, cf2, B2, cb2, rfl, hdr, hb⟩
   have HB3 := Lib.hid (HB2.out.trans (hb.mono HB2.out.size))
   have HX3 := Lib.hid (blk_below HX2.out hb)
   have HDR3 := Lib.hid hdr
   clear hb hdr HB2 HX2 y0 y1 y2 y3 y4 y5
   go_wp2_with fail
   refine (CE.out P2 cp2 E2 ce2 F2 cf2 B2 cb2 w3 (HD.out.below HB3.out) (HT.out.below HB3.out) HDR3.out).mono ?_
   rintro e w4 ⟨rfl, hb⟩
   have HB4 := Lib.hid (HB3.out.trans (hb.mono HB3.out.size))
   have HX4 := Lib.hid (blk_below HX3.out hb)
   clear hb HB3 HX3 HDR3
   have y0 : w4.cell? ⟨w.heap.size, 0, none⟩ = some (.int .i64 per) := (blk_cell HX4.out 0).trans rfl
   have y1 : w4.cell? ⟨w.heap.size, 1, none⟩ = some (.int .i64 dl) := (blk_cell HX4.out 1).trans rfl
   have y2 : w4.cell? ⟨w.heap.size, 2, none⟩ = some (.slice P ps.length cp) := (blk_cell HX4.out 2).trans rfl
   have y3 : w4.cell? ⟨w.heap.size, 3, none⟩ = some (.slice E es.length ce) := (blk_cell HX4.out 3).trans rfl
   have y4 : w4.cell? ⟨w.heap.size, 4, none⟩ = some (.slice F fs.length cf) := (blk_cell HX4.out 4).trans rfl
   have y5 : w4.cell? ⟨w.heap.size, 5, none⟩ = some (.slice B bs.length cb) := (blk_cell HX4.out 5).trans rfl
   go_wp2_with fail
   refine (CD.out w4 (HD.out.below HB4.out) (HT.out.below HB4.out) (HE.out.below HB4.out)).mono ?_
   rintro e w5 ⟨per', dl', P', cp', ps', E', ce', es', F', cf', fs', B', cb', bs', rfl, -, -, hb⟩
   have hb' : Below w4.heap.size w4 (w5.alloc (.cells #[.int .i64 per', .int .i64 dl', .slice P' ps'.length cp', .slice E' es'.length ce', .slice F' fs'.length cf', .slice B' bs'.length cb'] 27)) := hb.alloc hb.size _
   have HB5 := Lib.hid (HB4.out.trans (hb'.mono HB4.out.size))
   have HX5 := Lib.hid (blk_below HX4.out hb')
   clear hb hb' HB4 HX4 y0 y1 y2 y3 y4 y5
   go_upto_region 5 with fail
   generalize w5.alloc (.cells #[.int .i64 per', .int .i64 dl', .slice P' ps'.length cp', .slice E' es'.length ce', .slice F' fs'.length cf', .slice B' bs'.length cb'] 27) = w6 at *
   have y0 : w6.cell? ⟨w.heap.size, 0, none⟩ = some (.int .i64 per) := (blk_cell HX5.out 0).trans rfl
   have y1 : w6.cell? ⟨w.heap.size, 1, none⟩ = some (.int .i64 dl) := (blk_cell HX5.out 1).trans rfl
   have y2 : w6.cell? ⟨w.heap.size, 2, none⟩ = some (.slice P ps.length cp) := (blk_cell HX5.out 2).trans rfl
   have y3 : w6.cell? ⟨w.heap.size, 3, none⟩ = some (.slice E es.length ce) := (blk_cell HX5.out 3).trans rfl
   have y4 : w6.cell? ⟨w.heap.size, 4, none⟩ = some (.slice F fs.length cf) := (blk_cell HX5.out 4).trans rfl
   have y5 : w6.cell? ⟨w.heap.size, 5, none⟩ = some (.slice B bs.length cb) := (blk_cell HX5.out 5).trans rfl
   go_wp2_with fail
   refine (CO.out P cp E ce F cf B cb w6 (HR.out.below HB5.out)).mono ?_
   rintro e w7 ⟨P2, cp2, E2, ce2, F2, cf2, B2, cb2, rfl, hdr, hb⟩
   have HB7 := Lib.hid (HB5.out.trans (hb.mono HB5.out.size))
   have HDR7 := Lib.hid hdr
   clear hb hdr HB5 HX5 y0 y1 y2 y3 y4 y5
   go_wp2_with fail
   refine (CK.out P2 cp2 E2 ce2 F2 cf2 B2 cb2 w7 (HD.out.below HB7.out) HDR7.out).mono ?_
   rintro e w8 ⟨rfl, hb⟩
   have HB8 := Lib.hid (HB7.out.trans (hb.mono HB7.out.size))
   clear hb
   go_wp2_with fail
   go_ret
   exact ⟨by first | rfl | simp, HB8.out⟩
end Go.Proofs.YtokhibhmlninnaaGreatDoor
