/- Texts of this work, put into one. -/
import Derived.Test.YtokhibhmlninnaaGreatDoorGMLaw
set_option linter.unusedVariables false
set_option linter.unusedSimpArgs false
namespace Go.Proofs.YtokhibhmlninnaaGreatDoor
open Go.RowKit Go.Proofs.YtokhibhmlninnaaGreatDoorW.PrintWords
theorem part_one {W : World} {g : Nat} {a b c : Int} (h : W.heap[g]? = some (.cells #[.int .i64 a, .int .i64 b, .int .i64 c] 47 (0, 0))) : Kd.C PCod.k47 W (some ⟨g, 0, none⟩) ([⟨a, b, c⟩] : List PCod.S47).length [⟨a, b, c⟩] := by
 refine ⟨rfl, by show 1 ≤ 9223372036854775807; decide, fun _ => ⟨⟨g, 0, none⟩, rfl, fun j p hj => ?_⟩⟩
 match j, hj with
 | 0, hj =>
  obtain rfl : (⟨a, b, c⟩ : PCod.S47) = p := by simpa using hj
  refine ⟨[.int .i64 a, .int .i64 b, .int .i64 c], rfl, PCod.k47_mk W ⟨a, b, c⟩, fun i u hu => ?_⟩
  rw [add_plain, blk_cell h, Nat.zero_mul, Nat.zero_add]
  rw [← hu, ← Array.getElem?_toList]
 | j + 1, hj => simp at hj
def dA : CodPlain.D := ⟨2, 1, [(1, 3, 1)], [], [], []⟩
theorem dA_check : CodPlain.checkD dA = 0 := by decide +kernel
theorem dA_more : (decOf (⟨(CodPlain.encL dA).toArray⟩ ++ ⟨#[97]⟩)).2.2.2 = 61 := by decide +kernel
theorem dA_dag1 : decOf ⟨#[100, 97, 103, 49]⟩ = (CodPlain.noD, 0, 4, 60) := rfl
set_option maxRecDepth 100000 in
set_option maxHeartbeats 8000000 in
theorem awake_any (w : World) (hd : DbAt w) (ht : TabAt w) (he : ErAt w) : Calls Tryz.prog 7 #[] w fun e w' => e = .returned (.bool true) ∧ Below w.heap.size w w' := by
 obtain ⟨S, hS⟩ : ∃ S : ByteArray, S = ⟨(CodPlain.encL dA).toArray⟩ := ⟨_, rfl⟩
 have HDS : Hid (decOf S = (dA, 0, 0, 0)) := by rw [hS]; exact dec_enc dA_check
 obtain ⟨T, hT⟩ : ∃ T : ByteArray, T = S ++ ⟨#[97]⟩ := ⟨_, rfl⟩
 have HDM : Hid ((decOf T).2.2.2 = 61) := by rw [hT, hS]; exact dA_more
 have HTE := Lib.hid hT
 have hsz : S.size = 28 := by rw [hS]; show (CodPlain.encL dA).toArray.size = 28; rw [List.size_toArray, CodPlain.enc_len dA_check]; rfl
 have hsa : T.size ≤ 1000 := by rw [hT, ByteArray.size_append, hsz]; decide
 have HSA := Lib.hid hsa
 have hszI : (S.size : Int) = 28 := by omega
 have HS1 : Hid (S.size ≤ 1000) := by show _ ≤ _; omega
 have HSZ := Lib.hid hszI
 have HSE := Lib.hid hS
 have HD := Lib.hid hd
 have HT := Lib.hid ht
 have HE := Lib.hid he
 have hb0 : Below w.heap.size w ((w.alloc (.cells #[.int .i64 1, .int .i64 3, .int .i64 1] 47)).alloc (.cells #[.int .i64 2, .int .i64 1, .slice (some ⟨w.heap.size, 0, none⟩) 1 1, .slice none 0 0, .slice none 0 0, .slice none 0 0] 27)) := ((Below.refl _ _).alloc (Nat.le_refl _) _).alloc (by simp) _
 have HB0 := Lib.hid hb0
 have HR0 : Hid (((w.alloc (.cells #[.int .i64 1, .int .i64 3, .int .i64 1] 47)).alloc (.cells #[.int .i64 2, .int .i64 1, .slice (some ⟨w.heap.size, 0, none⟩) 1 1, .slice none 0 0, .slice none 0 0, .slice none 0 0] 27)).heap[w.heap.size]? = some (.cells #[.int .i64 1, .int .i64 3, .int .i64 1] 47)) := blk_alloc (blk_new _ _) _
 have HX0 : Hid (((w.alloc (.cells #[.int .i64 1, .int .i64 3, .int .i64 1] 47)).alloc (.cells #[.int .i64 2, .int .i64 1, .slice (some ⟨w.heap.size, 0, none⟩) 1 1, .slice none 0 0, .slice none 0 0, .slice none 0 0] 27)).heap[w.heap.size + 1]? = some (.cells #[.int .i64 2, .int .i64 1, .slice (some ⟨w.heap.size, 0, none⟩) 1 1, .slice none 0 0, .slice none 0 0, .slice none 0 0] 27)) := by have := blk_new (w.alloc (.cells #[.int .i64 1, .int .i64 3, .int .i64 1] 47)) (.cells #[.int .i64 2, .int .i64 1, .slice (some ⟨w.heap.size, 0, none⟩) 1 1, .slice none 0 0, .slice none 0 0, .slice none 0 0] 27); rwa [World.size_alloc] at this
 clear hd ht he hb0 hsz hszI hsa hS hT
 go_enter Tryz.func7, Tryz.ntmps7
 go_upto_region 2 with fail
 generalize (w.alloc (.cells #[.int .i64 1, .int .i64 3, .int .i64 1] 47)).alloc (.cells #[.int .i64 2, .int .i64 1, .slice (some ⟨w.heap.size, 0, none⟩) 1 1, .slice none 0 0, .slice none 0 0, .slice none 0 0] 27) = w0 at *
 obtain ⟨gx, hgx⟩ : ∃ x, x = w.heap.size + 1 := ⟨_, rfl⟩
 rw [← hgx] at HX0
 try rw [← hgx]
 clear hgx
 have hX : ∀ i, w0.cell? ⟨gx, i, none⟩ = _ := fun i => blk_cell HX0.out i
 have c0 : w0.cell? ⟨gx, 0, none⟩ = some _ := (hX 0).trans rfl
 have c1 : w0.cell? ⟨gx, 1, none⟩ = some _ := (hX 1).trans rfl
 have c2 : w0.cell? ⟨gx, 2, none⟩ = some _ := (hX 2).trans rfl
 have c3 : w0.cell? ⟨gx, 3, none⟩ = some _ := (hX 3).trans rfl
 have c4 : w0.cell? ⟨gx, 4, none⟩ = some _ := (hX 4).trans rfl
 have c5 : w0.cell? ⟨gx, 5, none⟩ = some _ := (hX 5).trans rfl
 clear hX
 have HDR0 : Hid (DR w0 (some ⟨w.heap.size, 0, none⟩) 1 [⟨1, 3, 1⟩] none 0 [] none 0 [] none 0 []) := ⟨part_one HR0.out, Nat.le_refl _, Kd.C_nil _ _, Nat.le_refl _, Kd.C_nil _ _, Nat.le_refl _, Kd.C_nil _ _, Nat.le_refl _⟩
 have HSH : Hid (ShortD [⟨1, 3, 1⟩] [] [] []) := ⟨⟨by decide, by decide, by decide, by decide⟩, fun b hb => by cases hb⟩
 go_wp2_with fail
 refine (encode_any 2 1 (some ⟨w.heap.size, 0, none⟩) 1 [⟨1, 3, 1⟩] none 0 [] none 0 [] none 0 [] w0 HSH.out (HD.out.below HB0.out) (HT.out.below HB0.out) HDR0.out).mono ?_
 rw [show dOf 2 1 [⟨1, 3, 1⟩] [] [] [] = dA from rfl, dA_check, ← HSE.out]
 rintro e w1 ⟨rfl, hb⟩
 have HB1 := Lib.hid (HB0.out.trans (hb.mono HB0.out.size))
 have HX1 := Lib.hid (blk_below HX0.out hb)
 have HDR1 := Lib.hid (HDR0.out.below hb)
 clear hb c0 c1 c2 c3 c4 c5 HB0 HX0 HDR0 HR0
 go_wp2_with fail
 refine (Decode_any S w1 HS1.out (HD.out.below HB1.out) (HT.out.below HB1.out) (HE.out.below HB1.out)).mono ?_
 rintro e w2 ⟨per, dl, P, cp, ps, E, ce, es, F, cf, fs, B, cb, bs, he, hdof, ⟨R, hdm⟩, hb⟩
 rw [HDS.out] at hdof he
 dsimp only at hdof he
 subst he
 have HDOF := Lib.hid hdof
 have hb' : Below w1.heap.size w1 (w2.alloc (.cells #[.int .i64 per, .int .i64 dl, .slice P ps.length cp, .slice E es.length ce, .slice F fs.length cf, .slice B bs.length cb] 27)) := hb.alloc hb.size _
 have HB2 := Lib.hid (HB1.out.trans (hb'.mono HB1.out.size))
 have HX2 := Lib.hid (blk_below HX1.out hb')
 have HDR2 := Lib.hid (HDR1.out.below hb')
 have HDM2 := Lib.hid (hdm.dr.below (below_alloc' w2 (.cells #[.int .i64 per, .int .i64 dl, .slice P ps.length cp, .slice E es.length ce, .slice F fs.length cf, .slice B bs.length cb] 27)))
 have HY2 := Lib.hid (blk_new w2 (.cells #[.int .i64 per, .int .i64 dl, .slice P ps.length cp, .slice E es.length ce, .slice F fs.length cf, .slice B bs.length cb] 27))
 obtain ⟨gy, hgy⟩ : ∃ x, x = w2.heap.size := ⟨_, rfl⟩
 rw [← hgy] at HY2
 clear hdof hdm hb hb' HB1 HX1 HDR1
 go_upto_region 4 with fail
 generalize w2.alloc (.cells #[.int .i64 per, .int .i64 dl, .slice P ps.length cp, .slice E es.length ce, .slice F fs.length cf, .slice B bs.length cb] 27) = w3 at *
 rw [← hgy]
 clear hgy
 have hs1 := HS1.out
 have hs2 : (S.size : Int) + 1 ≤ 140737488355328 := by omega
 go_wp2_with fail
 rw [← HTE.out]
 refine (Decode_any T w3 HSA.out (HD.out.below HB2.out) (HT.out.below HB2.out) (HE.out.below HB2.out)).mono ?_
 rintro e w4 ⟨per2, dl2, P2, cp2, ps2, E2, ce2, es2, F2, cf2, fs2, B2, cb2, bs2, he, -, -, hb⟩
 rw [HDM.out] at he
 subst he
 have hb' : Below w3.heap.size w3 (w4.alloc (.cells #[.int .i64 per2, .int .i64 dl2, .slice P2 ps2.length cp2, .slice E2 es2.length ce2, .slice F2 fs2.length cf2, .slice B2 bs2.length cb2] 27)) := hb.alloc hb.size _
 have HB4 := Lib.hid (HB2.out.trans (hb'.mono HB2.out.size))
 have HX4 := Lib.hid (blk_below HX2.out hb')
 have HY4 := Lib.hid (blk_below HY2.out hb')
 have HDR4 := Lib.hid (HDR2.out.below hb')
 have HDM4 := Lib.hid (HDM2.out.below hb')
 clear hb hb' HB2 HX2 HY2 HDR2 HDM2
 go_upto_region 5 with fail
 generalize w4.alloc (.cells #[.int .i64 per2, .int .i64 dl2, .slice P2 ps2.length cp2, .slice E2 es2.length ce2, .slice F2 fs2.length cf2, .slice B2 bs2.length cb2] 27) = w5 at *
 go_wp2_with fail
 refine (Why_any ⟨#[100, 97, 103, 49]⟩ w5 (by decide) (HD.out.below HB4.out) (HT.out.below HB4.out) (HE.out.below HB4.out)).mono ?_
 rintro e w6 ⟨he, hb⟩
 rw [dA_dag1] at he
 replace he : e = .returned (.tuple #[.agg #[.int .i64 0, .int .i64 4], .int .i64 60, .bool true]) := he
 subst he
 have hb' : Below w5.heap.size w5 (w6.alloc (.cells #[.int .i64 0, .int .i64 4] 37)) := hb.alloc hb.size _
 have HB6 := Lib.hid (HB4.out.trans (hb'.mono HB4.out.size))
 have HX6 := Lib.hid (blk_below HX4.out hb')
 have HY6 := Lib.hid (blk_below HY4.out hb')
 have HDR6 := Lib.hid (HDR4.out.below hb')
 have HDM6 := Lib.hid (HDM4.out.below hb')
 have HZ6 := Lib.hid (blk_new w6 (.cells #[.int .i64 0, .int .i64 4] 37))
 obtain ⟨gz, hgz⟩ : ∃ x, x = w6.heap.size := ⟨_, rfl⟩
 rw [← hgz] at HZ6
 clear hb hb' HB4 HX4 HY4 HDR4 HDM4
 go_upto_region 6 with fail
 generalize w6.alloc (.cells #[.int .i64 0, .int .i64 4] 37) = w7 at *
 rw [← hgz]
 clear hgz
 go_wp2_with fail
 refine (Why_any S w7 HS1.out (HD.out.below HB6.out) (HT.out.below HB6.out) (HE.out.below HB6.out)).mono ?_
 rintro e w8 ⟨he, hb⟩
 rw [HDS.out] at he
 replace he : e = .returned (.tuple #[.agg #[.int .i64 0, .int .i64 0], .int .i64 0, .bool false]) := he
 subst he
 have hb' : Below w7.heap.size w7 (w8.alloc (.cells #[.int .i64 0, .int .i64 0] 37)) := hb.alloc hb.size _
 have HB8 := Lib.hid (HB6.out.trans (hb'.mono HB6.out.size))
 have HX8 := Lib.hid (blk_below HX6.out hb')
 have HY8 := Lib.hid (blk_below HY6.out hb')
 have HZ8 := Lib.hid (blk_below HZ6.out hb')
 have HDR8 := Lib.hid (HDR6.out.below hb')
 have HDM8 := Lib.hid (HDM6.out.below hb')
 clear hb hb' HB6 HX6 HY6 HZ6 HDR6 HDM6
 go_upto_region 7 with fail
 generalize w8.alloc (.cells #[.int .i64 0, .int .i64 0] 37) = w9 at *
 have hszI := HSZ.out
 have z1 : w9.cell? ⟨gz, 1, none⟩ = some (.int .i64 4) := (blk_cell HZ8.out 1).trans rfl
 have x0 : w9.cell? ⟨gx, 0, none⟩ = some (.int .i64 2) := (blk_cell HX8.out 0).trans rfl
 have x1 : w9.cell? ⟨gx, 1, none⟩ = some (.int .i64 1) := (blk_cell HX8.out 1).trans rfl
 have x2 : w9.cell? ⟨gx, 2, none⟩ = some (.slice (some ⟨w.heap.size, 0, none⟩) 1 1) := (blk_cell HX8.out 2).trans rfl
 have x3 : w9.cell? ⟨gx, 3, none⟩ = some (.slice none 0 0) := (blk_cell HX8.out 3).trans rfl
 have x4 : w9.cell? ⟨gx, 4, none⟩ = some (.slice none 0 0) := (blk_cell HX8.out 4).trans rfl
 have x5 : w9.cell? ⟨gx, 5, none⟩ = some (.slice none 0 0) := (blk_cell HX8.out 5).trans rfl
 have y0 : w9.cell? ⟨gy, 0, none⟩ = some (.int .i64 per) := (blk_cell HY8.out 0).trans rfl
 have y1 : w9.cell? ⟨gy, 1, none⟩ = some (.int .i64 dl) := (blk_cell HY8.out 1).trans rfl
 have y2 : w9.cell? ⟨gy, 2, none⟩ = some (.slice P ps.length cp) := (blk_cell HY8.out 2).trans rfl
 have y3 : w9.cell? ⟨gy, 3, none⟩ = some (.slice E es.length ce) := (blk_cell HY8.out 3).trans rfl
 have y4 : w9.cell? ⟨gy, 4, none⟩ = some (.slice F fs.length cf) := (blk_cell HY8.out 4).trans rfl
 have y5 : w9.cell? ⟨gy, 5, none⟩ = some (.slice B bs.length cb) := (blk_cell HY8.out 5).trans rfl
 have HSB : Hid (CodPlain.sameB (dOf 2 1 [⟨1, 3, 1⟩] [] [] []) (dOf per dl ps es fs bs) = true) := by show _ = _; rw [HDOF.out]; exact CodPlain.sameB_eq.2 rfl
 have HSH2 := Lib.hid (short_of (d := dA) ⟨by decide, by decide, by decide, by decide, fun b hb => by cases hb⟩ HDOF.out)
 go_wp2_with fail
 refine (same_any 2 1 (some ⟨w.heap.size, 0, none⟩) 1 [⟨1, 3, 1⟩] none 0 [] none 0 [] none 0 [] per dl P cp ps E ce es F cf fs B cb bs w9 HSH.out HSH2.out HDR8.out HDM8.out).mono ?_
 rintro e w10 ⟨he, hb⟩
 rw [HSB.out] at he
 subst he
 have HB10 := Lib.hid (HB8.out.trans (hb.mono HB8.out.size))
 have z2 : w10.cell? ⟨gz, 1, none⟩ = some (.int .i64 4) := (blk_cell (blk_below HZ8.out hb) 1).trans rfl
 clear hb x0 x1 x2 x3 x4 x5 y0 y1 y2 y3 y4 y5 z1
 go_wp2_with fail
 go_ret
 exact ⟨rfl, HB10.out⟩
end Go.Proofs.YtokhibhmlninnaaGreatDoor
