/- Texts of this work, put into one: LawOnly. -/
import Derived.Test.YtokhibhmlninnaaGreatDoorMAwk
set_option linter.unusedVariables false
set_option linter.unusedSimpArgs false
namespace Go.Proofs.YtokhibhmlninnaaGreatDoor
open Go.RowKit Go.Proofs.YtokhibhmlninnaaGreatDoorW.PrintWords
set_option maxRecDepth 100000 in
set_option maxHeartbeats 2000000 in
/-- The reference's Same of two graphs without anything. -/
theorem same4_nil (E : Option Addr) (ce : Nat) (w : World) : Calls Tryz.prog 38 #[.agg #[.slice none 0 0, .slice E 0 ce], .agg #[.slice none 0 0, .slice none 0 0]] w fun e w' => e = .returned (.bool true) ∧ Below w.heap.size w w' := by
  have HB0 : Hid (Below w.heap.size w ((w.alloc (.cells #[.slice none 0 0, .slice E 0 ce] 94)).alloc (.cells #[.slice none 0 0, .slice none 0 0] 94))) := ((Below.refl _ _).alloc (Nat.le_refl _) _).alloc (by simp) _
  go_enter Tryz.func38, Tryz.ntmps38
  go_wp2_with fail
  refine wp_loop_rounds 1 ?_
  rw [rounds_succ]
  go_wp2_with fail
  refine wp_loop_rounds 1 ?_
  rw [rounds_succ]
  go_wp2_with fail
  go_ret
  exact ⟨rfl, HB0.out⟩
set_option maxRecDepth 100000 in
set_option maxHeartbeats 4000000 in
/-- The reference's Same of two tasks without anything. -/
theorem same5_nil (P : Option Addr) (cp : Nat) (E : Option Addr) (ce : Nat) (F : Option Addr) (cf : Nat) (B : Option Addr) (cb : Nat) (w : World) : Calls Tryz.prog 16 #[.agg #[.int .i64 0, .int .i64 0, .slice P 0 cp, .slice E 0 ce, .slice F 0 cf, .slice B 0 cb], .agg #[.int .i64 0, .int .i64 0, .slice none 0 0, .slice none 0 0, .slice none 0 0, .slice none 0 0]] w fun e w' => e = .returned (.bool true) ∧ Below w.heap.size w w' := by
  have C := Lib.hid (fun w1 => same4_nil E ce w1)
  have HB0 : Hid (Below w.heap.size w ((w.alloc (.cells #[.int .i64 0, .int .i64 0, .slice P 0 cp, .slice E 0 ce, .slice F 0 cf, .slice B 0 cb] 27)).alloc (.cells #[.int .i64 0, .int .i64 0, .slice none 0 0, .slice none 0 0, .slice none 0 0, .slice none 0 0] 27))) := ((Below.refl _ _).alloc (Nat.le_refl _) _).alloc (by simp) _
  go_enter Tryz.func16, Tryz.ntmps16
  go_wp2_with fail
  refine (C.out _).mono ?_
  rintro e w1 ⟨rfl, hb⟩
  have HB1 := Lib.hid (HB0.out.trans (hb.mono HB0.out.size))
  have x2 : w1.cell? ⟨w.heap.size, 2, none⟩ = some (.slice P 0 cp) := by rw [hb.cell (by simp; try omega)]; simp
  have x4 : w1.cell? ⟨w.heap.size, 4, none⟩ = some (.slice F 0 cf) := by rw [hb.cell (by simp; try omega)]; simp
  have x5 : w1.cell? ⟨w.heap.size, 5, none⟩ = some (.slice B 0 cb) := by rw [hb.cell (by simp; try omega)]; simp
  clear hb
  go_wp2_with fail
  refine wp_loop_rounds 1 ?_
  rw [rounds_succ]
  go_wp2_with fail
  refine wp_loop_rounds 1 ?_
  rw [rounds_succ]
  go_wp2_with fail
  refine wp_loop_rounds 1 ?_
  rw [rounds_succ]
  go_wp2_with fail
  go_ret
  exact ⟨rfl, HB1.out⟩
theorem none_of {per dl : Int} {ps : List PCod.S47} {es : List PCod.S63} {fs : List PCod.S65} {bs : List PCod.S50} (h : dOf per dl ps es fs bs = CodPlain.noD) : per = 0 ∧ dl = 0 ∧ ps = [] ∧ es = [] ∧ fs = [] ∧ bs = [] := by
  unfold dOf CodPlain.noD at h
  injection h with h1 h2 h3 h4 h5 h6
  exact ⟨h1, h2, List.map_eq_nil_iff.1 h3, List.map_eq_nil_iff.1 h4, List.map_eq_nil_iff.1 h5, List.map_eq_nil_iff.1 h6⟩
set_option maxRecDepth 100000 in
set_option maxHeartbeats 8000000 in
theorem only_walk (s : ByteArray) (w : World) (hl : s.size ≤ maxLen) (hd : DbAt w) (ht : TabAt w) (he : ErAt w) : Calls Tryz.prog 6 #[.string s] w fun e w' => e = .returned (.bool true) ∧ Below w.heap.size w w' := by
  unfold maxLen at hl
  have CA := Lib.hid (fun w1 h1 h2 h3 => awake_any w1 h1 h2 h3)
  have HD := Lib.hid hd
  have HT := Lib.hid ht
  have HE := Lib.hid he
  clear hd ht he
  by_cases hbig : 700 < s.size
  · have hbI : 700 < (s.size : Int) := by omega
    go_enter Tryz.func6, Tryz.ntmps6
    go_wp2_with fail
    refine (CA.out w HD.out HT.out HE.out).mono ?_
    rintro e w1 ⟨rfl, hb⟩
    have HB1 := Lib.hid hb
    clear hb
    go_wp2_with fail
    refine (CA.out w1 (HD.out.below HB1.out) (HT.out.below HB1.out) (HE.out.below HB1.out)).mono ?_
    rintro e w2 ⟨rfl, hb⟩
    have HB2 := Lib.hid (HB1.out.trans (hb.mono HB1.out.size))
    clear hb
    go_wp2_with fail
    go_ret
    exact ⟨rfl, HB2.out⟩
  · have hbI : ¬ 700 < (s.size : Int) := by omega
    have CW := Lib.hid (fun w1 h1 h2 h3 => Decode_any s w1 (by omega) h1 h2 h3)
    have HOK : Hid ((decOf s).2.2.2 = 0 → CodPlain.checkD (decOf s).1 = 0 ∧ (⟨(CodPlain.encL (decOf s).1).toArray⟩ : ByteArray) = s) := fun h => dec_ok h
    have HBAD : Hid ((decOf s).2.2.2 ≠ 0 → (decOf s).1 = CodPlain.noD) := fun h => dec_bad h
    have hshort : CodPlain.Short (decOf s).1 := by
      by_cases h : (decOf s).2.2.2 = 0
      · have hok := CodPlain.ok_of (dec_ok h).1
        exact ⟨by have := hok.np; omega, by have := hok.ne; omega, by have := hok.nf; omega, by have := hok.nb; omega, fun b hb => by have := (hok.bar b hb).2.2; omega⟩
      · rw [dec_bad h]
        exact ⟨by decide, by decide, by decide, by decide, fun b hb => by cases hb⟩
    have HSHORT := Lib.hid hshort
    clear hshort
    unfold DecodePost at CW
    obtain ⟨q, hq⟩ : ∃ q, decOf s = q := ⟨_, rfl⟩
    rw [hq] at CW HOK HBAD HSHORT
    obtain ⟨d, qa, qb, qe⟩ := q
    dsimp only at CW HOK HBAD HSHORT
    clear hq
    by_cases hq : qe = 0
    · obtain ⟨hck, hen⟩ := HOK.out hq
      have HCK := Lib.hid hck
      have HEN := Lib.hid hen
      subst hq
      clear hck hen HOK HBAD
      go_enter Tryz.func6, Tryz.ntmps6
      go_wp2_with fail
      refine (CA.out w HD.out HT.out HE.out).mono ?_
      rintro e w1 ⟨rfl, hb⟩
      have HB1 := Lib.hid hb
      clear hb
      go_wp2_with fail
      refine (CW.out w1 (HD.out.below HB1.out) (HT.out.below HB1.out) (HE.out.below HB1.out)).mono ?_
      rintro e w2 ⟨per, dl, P, cp, ps, E, ce, es, F, cf, fs, B, cb, bs, rfl, hdof, ⟨R, hdm⟩, hb⟩
      have HSH := Lib.hid (short_of HSHORT.out hdof)
      subst hdof
      have hb' : Below w1.heap.size w1 (w2.alloc (.cells #[.int .i64 per, .int .i64 dl, .slice P ps.length cp, .slice E es.length ce, .slice F fs.length cf, .slice B bs.length cb] 27)) := hb.alloc hb.size _
      have HB2 := Lib.hid (HB1.out.trans (hb'.mono HB1.out.size))
      have HDR2 := Lib.hid (hdm.dr.below (below_alloc' w2 (.cells #[.int .i64 per, .int .i64 dl, .slice P ps.length cp, .slice E es.length ce, .slice F fs.length cf, .slice B bs.length cb] 27)))
      have HY2 := Lib.hid (blk_new w2 (.cells #[.int .i64 per, .int .i64 dl, .slice P ps.length cp, .slice E es.length ce, .slice F fs.length cf, .slice B bs.length cb] 27))
      obtain ⟨gy, hgy⟩ : ∃ x, x = w2.heap.size := ⟨_, rfl⟩
      rw [← hgy] at HY2
      clear hdm hb hb' HB1
      go_upto_region 4 with fail
      generalize w2.alloc (.cells #[.int .i64 per, .int .i64 dl, .slice P ps.length cp, .slice E es.length ce, .slice F fs.length cf, .slice B bs.length cb] 27) = w3 at *
      rw [← hgy]
      clear hgy
      have y0 : w3.cell? ⟨gy, 0, none⟩ = some (.int .i64 per) := (blk_cell HY2.out 0).trans rfl
      have y1 : w3.cell? ⟨gy, 1, none⟩ = some (.int .i64 dl) := (blk_cell HY2.out 1).trans rfl
      have y2 : w3.cell? ⟨gy, 2, none⟩ = some (.slice P ps.length cp) := (blk_cell HY2.out 2).trans rfl
      have y3 : w3.cell? ⟨gy, 3, none⟩ = some (.slice E es.length ce) := (blk_cell HY2.out 3).trans rfl
      have y4 : w3.cell? ⟨gy, 4, none⟩ = some (.slice F fs.length cf) := (blk_cell HY2.out 4).trans rfl
      have y5 : w3.cell? ⟨gy, 5, none⟩ = some (.slice B bs.length cb) := (blk_cell HY2.out 5).trans rfl
      go_wp2_with fail
      refine (encode_any per dl P cp ps E ce es F cf fs B cb bs w3 HSH.out (HD.out.below HB2.out) (HT.out.below HB2.out) HDR2.out).mono ?_
      rintro e w4 ⟨he, hb⟩
      rw [HEN.out, HCK.out] at he
      subst he
      have HB4 := Lib.hid (HB2.out.trans (hb.mono HB2.out.size))
      have HY4 := Lib.hid (blk_below HY2.out hb)
      have HDR4 := Lib.hid (HDR2.out.below hb)
      clear hb HB2 HY2 HDR2 y0 y1 y2 y3 y4 y5
      have y0 : w4.cell? ⟨gy, 0, none⟩ = some (.int .i64 per) := (blk_cell HY4.out 0).trans rfl
      have y1 : w4.cell? ⟨gy, 1, none⟩ = some (.int .i64 dl) := (blk_cell HY4.out 1).trans rfl
      have y2 : w4.cell? ⟨gy, 2, none⟩ = some (.slice P ps.length cp) := (blk_cell HY4.out 2).trans rfl
      have y3 : w4.cell? ⟨gy, 3, none⟩ = some (.slice E es.length ce) := (blk_cell HY4.out 3).trans rfl
      have y4 : w4.cell? ⟨gy, 4, none⟩ = some (.slice F fs.length cf) := (blk_cell HY4.out 4).trans rfl
      have y5 : w4.cell? ⟨gy, 5, none⟩ = some (.slice B bs.length cb) := (blk_cell HY4.out 5).trans rfl
      go_wp2_with fail
      refine (check_any per dl P cp ps E ce es F cf fs B cb bs w4 HSH.out.1 HSH.out.2 (HD.out.below HB4.out) HDR4.out).mono ?_
      rintro e w5 ⟨he, hb⟩
      rw [HCK.out] at he
      subst he
      have HB5 := Lib.hid (HB4.out.trans (hb.mono HB4.out.size))
      clear hb y0 y1 y2 y3 y4 y5
      go_wp2_with fail
      go_ret
      exact ⟨by first | rfl | simp, HB5.out⟩
    · have hbad := HBAD.out hq
      have hqb : (qe != 0) = true := by simpa using hq
      subst hbad
      clear HOK HBAD
      go_enter Tryz.func6, Tryz.ntmps6
      go_wp2_with fail
      refine (CA.out w HD.out HT.out HE.out).mono ?_
      rintro e w1 ⟨rfl, hb⟩
      have HB1 := Lib.hid hb
      clear hb
      go_wp2_with fail
      refine (CW.out w1 (HD.out.below HB1.out) (HT.out.below HB1.out) (HE.out.below HB1.out)).mono ?_
      rintro e w2 ⟨per, dl, P, cp, ps, E, ce, es, F, cf, fs, B, cb, bs, rfl, hdof, -, hb⟩
      obtain ⟨rfl, rfl, rfl, rfl, rfl, rfl⟩ := none_of hdof
      have hb' : Below w1.heap.size w1 (w2.alloc (.cells #[.int .i64 0, .int .i64 0, .slice P 0 cp, .slice E 0 ce, .slice F 0 cf, .slice B 0 cb] 27)) := hb.alloc hb.size _
      have HB2 := Lib.hid (HB1.out.trans (hb'.mono HB1.out.size))
      clear hb hb' HB1 hdof
      go_wp2_with fail
      refine (same5_nil P cp E ce F cf B cb _).mono ?_
      rintro e w5 ⟨rfl, hb⟩
      have HB5 := Lib.hid (HB2.out.trans (hb.mono HB2.out.size))
      clear hb
      go_wp2_with fail
      go_ret
      exact ⟨rfl, HB5.out⟩
end Go.Proofs.YtokhibhmlninnaaGreatDoor
