/- The reference's Encode of a task is encL. -/
import Derived.Test.YtokhibhmlninnaaGreatDoorZMRf
import Derived.Test.YtokhibhmlninnaaGreatDoorZMRf
import Derived.Test.YtokhibhmlninnaaGreatDoorZMCrc
set_option linter.unusedVariables false
set_option linter.unusedSimpArgs false
namespace Go.Proofs.YtokhibhmlninnaaGreatDoor
open Go.RowKit Go.Sort Go.Proofs.YtokhibhmlninnaaGreatDoorW.PrintWords
theorem row_app2 (l m : List Int) (k : Int) : CodPlain.row (l ++ m) k = CodPlain.row l k ++ CodPlain.row m k := List.flatMap_append
def headB (per dl : Int) (a b c d : Nat) : ByteArray := bB (headH per dl a b c d)
theorem head_cat (per dl : Int) (a b c d : Nat) : (⟨#[100, 97, 103, 49]⟩ : ByteArray) ++ pB 1 1 ++ pB (a : Int) 1 ++ pB (b : Int) 1 ++ pB (c : Int) 1 ++ pB (d : Int) 1 ++ pB per 4 ++ pB dl 4 = headB per dl a b c d := by
 have h : (⟨#[100, 97, 103, 49]⟩ : ByteArray) = bB CodPlain.magicL := rfl
 unfold headB headH pB
 rw [h, bB_cat, bB_cat, bB_cat, bB_cat, bB_cat, bB_cat, bB_cat]
 simp only [CodPlain.row_cons, CodPlain.row_nil, List.append_nil, List.append_assoc]
theorem tail_cat (l : List UInt8) : bB l ++ tailB (sumB (bB l)) = bB (CrcPlain.sealed l) := by
 have := seal_sealed l
 unfold sealB at this
 exact this
set_option maxRecDepth 100000 in
set_option maxHeartbeats 16000000 in
theorem refencode_yes (per dl : Int) (P : Option Addr) (cp : Nat) (ps : List PCod.S47) (E : Option Addr) (ce : Nat) (es : List PCod.S63) (F : Option Addr) (cf : Nat) (fs : List PCod.S65) (B : Option Addr) (cb : Nat) (bs : List PCod.S50) (w : World) (hs : ShortD ps es fs bs) (hr : DR w P cp ps E ce es F cf fs B cb bs) (hc : CodPlain.checkD (dOf per dl ps es fs bs) = 0) :
  Calls Tryz.prog 11 #[.agg #[.int .i64 per, .int .i64 dl, .slice P ps.length cp, .slice E es.length ce, .slice F fs.length cf, .slice B bs.length cb]] w fun e w' => e = .returned (.tuple #[.string (bB (CodPlain.sealedB (CodPlain.bodyL (dOf per dl ps es fs bs)))), .int .i64 0]) ∧ Below w.heap.size w w' := by
 have hok := CodPlain.ok_of hc
 have hnp : 1 ≤ ps.length ∧ ps.length ≤ 16 := by have := hok.np; unfold dOf at this; rwa [List.length_map] at this
 have hne : es.length ≤ 48 := by have := hok.ne; unfold dOf at this; rwa [List.length_map] at this
 have hnf : fs.length ≤ 16 := by have := hok.nf; unfold dOf at this; rwa [List.length_map] at this
 have hnb : bs.length ≤ 4 := by have := hok.nb; unfold dOf at this; rwa [List.length_map] at this
 have hper : 1 ≤ per ∧ per ≤ 4096 := hok.per
 have hdl : 1 ≤ dl ∧ dl ≤ per := hok.dl
 have HPR : Hid (∀ x ∈ ps, (0 ≤ x.f0 ∧ x.f0 ≤ 5) ∧ (0 ≤ x.f1 ∧ x.f1 ≤ 2147483647) ∧ 1 ≤ x.f2 ∧ x.f2 ≤ 100) := fun x hx => CodPlain.part_in (p := tP x) (hok.part _ (List.mem_map_of_mem hx))
 have HER : Hid (∀ x ∈ es, (0 ≤ x.f0 ∧ x.f0 < 16) ∧ 0 ≤ x.f1 ∧ x.f1 < 16) := fun x hx => hok.edge (tE x) (List.mem_map_of_mem hx)
 have HFR : Hid (∀ x ∈ fs, (0 ≤ x.f0 ∧ x.f0 < 16) ∧ (0 ≤ x.f1 ∧ x.f1 < 16) ∧ 1 ≤ x.f2 ∧ x.f2 ≤ 99) := fun x hx => hok.fut (tF x) (List.mem_map_of_mem hx)
 have HBR : Hid (∀ x ∈ bs, (∀ n ∈ x.f0, 0 ≤ n ∧ n < 16) ∧ (∀ n ∈ x.f1, 0 ≤ n ∧ n < 16) ∧ x.f0.length ≤ 16 ∧ x.f1.length ≤ 16) := fun x hx => hok.bar (tB x) (List.mem_map_of_mem hx)
 have HBODY := Lib.hid (body_dOf per dl ps es fs bs)
 have C := Lib.hid (fun w1 h => refcheck_any per dl P cp ps E ce es F cf fs B cb bs w1 hs h)
 rw [hc] at C
 have HR := Lib.hid hr
 have HB0 := Lib.hid (below_alloc' w (.cells #[.int .i64 per, .int .i64 dl, .slice P ps.length cp, .slice E es.length ce, .slice F fs.length cf, .slice B bs.length cb] 27))
 have HX0 := Lib.hid (blk_new w (.cells #[.int .i64 per, .int .i64 dl, .slice P ps.length cp, .slice E es.length ce, .slice F fs.length cf, .slice B bs.length cb] 27))
 obtain ⟨R, hR⟩ : ∃ x, x = bB (CodPlain.sealedB (CodPlain.bodyL (dOf per dl ps es fs bs))) := ⟨_, rfl⟩
 rw [← hR]
 have HRR := Lib.hid hR
 clear hok hr hc hs hR
 generalize CodPlain.bodyL (dOf per dl ps es fs bs) = BL at *
 go_enter Tryz.func11, Tryz.ntmps11
 go_upto_region 1 with fail
 generalize w.alloc (.cells #[.int .i64 per, .int .i64 dl, .slice P ps.length cp, .slice E es.length ce, .slice F fs.length cf, .slice B bs.length cb] 27) = w0 at *
 have y0 : w0.cell? ⟨w.heap.size, 0, none⟩ = some (.int .i64 per) := (blk_cell HX0.out 0).trans rfl
 have y1 : w0.cell? ⟨w.heap.size, 1, none⟩ = some (.int .i64 dl) := (blk_cell HX0.out 1).trans rfl
 have y2 : w0.cell? ⟨w.heap.size, 2, none⟩ = some (.slice P ps.length cp) := (blk_cell HX0.out 2).trans rfl
 have y3 : w0.cell? ⟨w.heap.size, 3, none⟩ = some (.slice E es.length ce) := (blk_cell HX0.out 3).trans rfl
 have y4 : w0.cell? ⟨w.heap.size, 4, none⟩ = some (.slice F fs.length cf) := (blk_cell HX0.out 4).trans rfl
 have y5 : w0.cell? ⟨w.heap.size, 5, none⟩ = some (.slice B bs.length cb) := (blk_cell HX0.out 5).trans rfl
 go_wp2_with fail
 refine (C.out w0 (HR.out.below HB0.out)).mono ?_
 rintro e w1 ⟨rfl, hb⟩
 have HB1 := Lib.hid (HB0.out.trans (hb.mono HB0.out.size))
 have HX1 := Lib.hid (blk_below HX0.out hb)
 clear hb HB0 HX0 y0 y1 y2 y3 y4 y5 C
 have HBW1 : Hid (Below w1.heap.size w1 w1) := Below.refl _ _
 go_wp2_with fail
 have y0 : w1.cell? ⟨w.heap.size, 0, none⟩ = some (.int .i64 per) := (blk_cell HX1.out 0).trans rfl
 have y1 : w1.cell? ⟨w.heap.size, 1, none⟩ = some (.int .i64 dl) := (blk_cell HX1.out 1).trans rfl
 have y2 : w1.cell? ⟨w.heap.size, 2, none⟩ = some (.slice P ps.length cp) := (blk_cell HX1.out 2).trans rfl
 have y3 : w1.cell? ⟨w.heap.size, 3, none⟩ = some (.slice E es.length ce) := (blk_cell HX1.out 3).trans rfl
 have y4 : w1.cell? ⟨w.heap.size, 4, none⟩ = some (.slice F fs.length cf) := (blk_cell HX1.out 4).trans rfl
 have y5 : w1.cell? ⟨w.heap.size, 5, none⟩ = some (.slice B bs.length cb) := (blk_cell HX1.out 5).trans rfl
 obtain ⟨T0, hT0⟩ : ∃ x, x = pB 1 1 := ⟨_, rfl⟩
 have sT0 : T0.size = 1 := by rw [hT0]; exact pB1 _
 have CT0 : ∀ d' os', Calls Tryz.prog 23 #[.int .i64 1, .int .i64 1] (grow (redrawn w1 d') os') _ := regrown_calls (w := w1) (fun W2 hB => put1_any 1 (by omega) W2)
 rw [← hT0] at CT0
 have HT0 := Lib.hid hT0
 clear hT0
 obtain ⟨T1, hT1⟩ : ∃ x, x = pB (ps.length : Int) 1 := ⟨_, rfl⟩
 have sT1 : T1.size = 1 := by rw [hT1]; exact pB1 _
 have CT1 : ∀ d' os', Calls Tryz.prog 23 #[.int .i64 (ps.length : Int), .int .i64 1] (grow (redrawn w1 d') os') _ := regrown_calls (w := w1) (fun W2 hB => put1_any (ps.length : Int) (by omega) W2)
 rw [← hT1] at CT1
 have HT1 := Lib.hid hT1
 clear hT1
 obtain ⟨T2, hT2⟩ : ∃ x, x = pB (es.length : Int) 1 := ⟨_, rfl⟩
 have sT2 : T2.size = 1 := by rw [hT2]; exact pB1 _
 have CT2 : ∀ d' os', Calls Tryz.prog 23 #[.int .i64 (es.length : Int), .int .i64 1] (grow (redrawn w1 d') os') _ := regrown_calls (w := w1) (fun W2 hB => put1_any (es.length : Int) (by omega) W2)
 rw [← hT2] at CT2
 have HT2 := Lib.hid hT2
 clear hT2
 obtain ⟨T3, hT3⟩ : ∃ x, x = pB (fs.length : Int) 1 := ⟨_, rfl⟩
 have sT3 : T3.size = 1 := by rw [hT3]; exact pB1 _
 have CT3 : ∀ d' os', Calls Tryz.prog 23 #[.int .i64 (fs.length : Int), .int .i64 1] (grow (redrawn w1 d') os') _ := regrown_calls (w := w1) (fun W2 hB => put1_any (fs.length : Int) (by omega) W2)
 rw [← hT3] at CT3
 have HT3 := Lib.hid hT3
 clear hT3
 obtain ⟨T4, hT4⟩ : ∃ x, x = pB (bs.length : Int) 1 := ⟨_, rfl⟩
 have sT4 : T4.size = 1 := by rw [hT4]; exact pB1 _
 have CT4 : ∀ d' os', Calls Tryz.prog 23 #[.int .i64 (bs.length : Int), .int .i64 1] (grow (redrawn w1 d') os') _ := regrown_calls (w := w1) (fun W2 hB => put1_any (bs.length : Int) (by omega) W2)
 rw [← hT4] at CT4
 have HT4 := Lib.hid hT4
 clear hT4
 obtain ⟨T5, hT5⟩ : ∃ x, x = pB per 4 := ⟨_, rfl⟩
 have sT5 : T5.size = 4 := by rw [hT5]; exact pB4 _
 have CT5 : ∀ d' os', Calls Tryz.prog 23 #[.int .i64 per, .int .i64 4] (grow (redrawn w1 d') os') _ := regrown_calls (w := w1) (fun W2 hB => put4_any per (by omega) W2)
 rw [← hT5] at CT5
 have HT5 := Lib.hid hT5
 clear hT5
 obtain ⟨T6, hT6⟩ : ∃ x, x = pB dl 4 := ⟨_, rfl⟩
 have sT6 : T6.size = 4 := by rw [hT6]; exact pB4 _
 have CT6 : ∀ d' os', Calls Tryz.prog 23 #[.int .i64 dl, .int .i64 4] (grow (redrawn w1 d') os') _ := regrown_calls (w := w1) (fun W2 hB => put4_any dl (by omega) W2)
 rw [← hT6] at CT6
 have HT6 := Lib.hid hT6
 clear hT6
 have Y0 := fun d' os' => cell_regrown y0 d' os'
 have Y1 := fun d' os' => cell_regrown y1 d' os'
 have Y2 := fun d' os' => cell_regrown y2 d' os'
 have Y3 := fun d' os' => cell_regrown y3 d' os'
 have Y4 := fun d' os' => cell_regrown y4 d' os'
 have Y5 := fun d' os' => cell_regrown y5 d' os'
 go_upto_region 4 with fail
 clear y0 y1 y2 y3 y4 y5
 refine wp_region_quiet_below (by kernel_rfl) (by kernel_rfl) ?_
 repeat (any_goals (first | go_big_quiet_step ((with_reducible (first | exact CT0 _ _ | exact CT1 _ _ | exact CT2 _ _ | exact CT3 _ _ | exact CT4 _ _ | exact CT5 _ _ | exact CT6 _ _))) | quiet_step ((with_reducible (first | exact CT0 _ _ | exact CT1 _ _ | exact CT2 _ _ | exact CT3 _ _ | exact CT4 _ _ | exact CT5 _ _ | exact CT6 _ _)))))
 refine wpQuiet_nil ?_
 rintro _ ⟨⟨dq, osq⟩, rfl⟩
 have hbq := below_regrown w1 dq osq
 have HB2 := Lib.hid (HBW1.out.trans (hbq.mono HBW1.out.size))
 clear hbq Y0 Y1 Y2 Y3 Y4 Y5 CT0 CT1 CT2 CT3 CT4 CT5 CT6
 generalize grow (redrawn w1 dq) osq = w2 at *
 go_wp2_with fail
 have HS : Hid ((⟨#[100, 97, 103, 49]⟩ : ByteArray) ++ T0 ++ T1 ++ T2 ++ T3 ++ T4 ++ T5 ++ T6 = bB (headH per dl ps.length es.length fs.length bs.length)) := by
  show _ = _
  rw [HT0.out, HT1.out, HT2.out, HT3.out, HT4.out, HT5.out, HT6.out]
  exact head_cat per dl ps.length es.length fs.length bs.length
 have hl0 := head_len per dl ps.length es.length fs.length bs.length
 generalize headH per dl ps.length es.length fs.length bs.length = H0 at *
 clear HT0 HT1 HT2 HT3 HT4 HT5 HT6
 have HLE6 : Hid (∀ k, ((ps.take k).flatMap (fun x => CodPlain.partL (tP x))).length ≤ 112) := fun k => pfx_take (n := 7) (fun x _ => Nat.le_of_eq (CodPlain.part_len _)) (by omega) k
 go_loopw [5, 6] (fun s i wr => ∃ (k : Nat) (S : ByteArray), k ≤ ps.length ∧ s = .string S ∧ i = .int .i64 k ∧ Hid (S = bB (H0 ++ (ps.take k).flatMap (fun x => CodPlain.partL (tP x)))) ∧ Hid (Below w1.heap.size w1 wr)) (fun _ i _ => ps.length - (intOf i).toNat)
 case atStart => exact ⟨0, _, Nat.zero_le _, rfl, rfl, by show _ = bB _; rw [List.take_zero, List.flatMap_nil, List.append_nil]; exact HS.out, HB2⟩
 case round =>
  clear HS HB2
  obtain ⟨k, S, hk, rfl, rfl, HS, HB⟩ := hrel
  have hsz : S.size ≤ 500 := by
   rw [HS.out, bB_size, List.length_append]
   have := HLE6.out k
   omega
  have y2 : wr.cell? ⟨w.heap.size, 2, none⟩ = some (.slice P ps.length cp) := (blk_cell (blk_below HX1.out HB.out) 2).trans rfl
  by_cases hlt : k < ps.length
  ·have hltI : (k : Int) < (ps.length : Int) := by omega
   have hc := HR.out.pc
   have hbw : Below w.heap.size w wr := HB1.out.trans (HB.out.mono HB1.out.size)
   obtain ⟨ad, hA, a0, a1, a2⟩ := PCod.at_T47 ((HR.out.below hbw).p) (k : Int) (by omega) (by omega)
   subst hA
   have hrd : PCod.rd_T47 ps (k : Int) = ps.getD k PCod.z47 := by unfold PCod.rd_T47; rw [Int.toNat_natCast]
   have hmem := CodPlain.getD_in (d := PCod.z47) hlt
   have hsn := CodPlain.flat_snoc (d := PCod.z47) (fun x => CodPlain.partL (tP x)) hlt
   rw [Int.toNat_natCast, hrd] at a0 a1 a2
   obtain ⟨y, hy⟩ : ∃ y, y = ps.getD k PCod.z47 := ⟨_, rfl⟩
   rw [← hy] at a0 a1 a2 hmem hsn
   have hrng := HPR.out y hmem
   clear hrd hy hmem hbw
   obtain ⟨x0, x1, x2⟩ := y
   dsimp only at a0 a1 a2 hrng
   have HSN := Lib.hid hsn
   clear hsn
   obtain ⟨T0, hT0⟩ : ∃ x, x = pB x0 1 := ⟨_, rfl⟩
   have sT0 : T0.size = 1 := by rw [hT0]; exact pB1 _
   have CT0 : ∀ d' os', Calls Tryz.prog 23 #[.int .i64 x0, .int .i64 1] (grow (redrawn wr d') os') _ := regrown_calls (w := wr) (fun W2 hB => put1_any x0 (by omega) W2)
   rw [← hT0] at CT0
   have HT0 := Lib.hid hT0
   clear hT0
   obtain ⟨T1, hT1⟩ : ∃ x, x = pB x1 4 := ⟨_, rfl⟩
   have sT1 : T1.size = 4 := by rw [hT1]; exact pB4 _
   have CT1 : ∀ d' os', Calls Tryz.prog 23 #[.int .i64 x1, .int .i64 4] (grow (redrawn wr d') os') _ := regrown_calls (w := wr) (fun W2 hB => put4_any x1 (by omega) W2)
   rw [← hT1] at CT1
   have HT1 := Lib.hid hT1
   clear hT1
   obtain ⟨T2, hT2⟩ : ∃ x, x = pB x2 2 := ⟨_, rfl⟩
   have sT2 : T2.size = 2 := by rw [hT2]; exact pB2 _
   have CT2 : ∀ d' os', Calls Tryz.prog 23 #[.int .i64 x2, .int .i64 2] (grow (redrawn wr d') os') _ := regrown_calls (w := wr) (fun W2 hB => put2_any x2 (by omega) W2)
   rw [← hT2] at CT2
   have HT2 := Lib.hid hT2
   clear hT2
   have L0 := fun d' os' => cell_regrown a0 d' os'
   have L1 := fun d' os' => cell_regrown a1 d' os'
   have L2 := fun d' os' => cell_regrown a2 d' os'
   have Y := fun d' os' => cell_regrown y2 d' os'
   go_upto_region 8 with fail
   clear a0 a1 a2 y2
   refine wp_region_quiet_below (by kernel_rfl) (by kernel_rfl) ?_
   repeat (any_goals (first | go_big_quiet_step ((with_reducible (first | exact CT0 _ _ | exact CT1 _ _ | exact CT2 _ _))) | quiet_step ((with_reducible (first | exact CT0 _ _ | exact CT1 _ _ | exact CT2 _ _)))))
   refine wpQuiet_nil ?_
   rintro _ ⟨⟨dq, osq⟩, rfl⟩
   have hbq := below_regrown wr dq osq
   have HBn := Lib.hid (HB.out.trans (hbq.mono HB.out.size))
   clear hbq L0 L1 L2 Y CT0 CT1 CT2
   generalize grow (redrawn wr dq) osq = wn at *
   have HS2 : Hid (S ++ T0 ++ T1 ++ T2 = bB (H0 ++ (ps.take (k + 1)).flatMap (fun x => CodPlain.partL (tP x)))) := by
    show _ = _
    rw [HSN.out, HS.out, HT0.out, HT1.out, HT2.out]
    unfold pB
    rw [bB_cat, bB_cat, bB_cat]
    congr 1
    simp only [CodPlain.partL, tP, CodPlain.row_cons, CodPlain.row_nil, List.append_nil, List.append_assoc, Int.natAbs_natCast]
   clear HS HSN
   go_wp2_with fail
   go_roundw
   case rel => exact ⟨k + 1, _, by omega, rfl, by go_num, HS2, HBn⟩
   case measure => simp [intOf]; omega
  ·obtain rfl : k = ps.length := by omega
   have hS2 := HS.out
   rw [List.take_length] at hS2
   have hln : (H0 ++ ps.flatMap (fun x => CodPlain.partL (tP x))).length ≤ 129 := by
    have := HLE6.out ps.length
    rw [List.take_length] at this
    rw [List.length_append]; omega
   obtain ⟨H1, hHm⟩ : ∃ x, x = H0 ++ ps.flatMap (fun x => CodPlain.partL (tP x)) := ⟨_, rfl⟩
   rw [← hHm] at hS2 hln
   have HHH1 := Lib.hid hHm
   clear HS hHm hk hlt
   have HS := Lib.hid hS2
   clear hS2
   go_wp2_with fail
   clear y2
   rename World => wH1
   have HLE7 : Hid (∀ k, ((es.take k).flatMap (fun x => CodPlain.edgeL (tE x))).length ≤ 96) := fun k => pfx_take (n := 2) (fun x _ => Nat.le_of_eq (CodPlain.edge_len _)) (by omega) k
   go_loopw [5, 7] (fun s i wr => ∃ (k : Nat) (S : ByteArray), k ≤ es.length ∧ s = .string S ∧ i = .int .i64 k ∧ Hid (S = bB (H1 ++ (es.take k).flatMap (fun x => CodPlain.edgeL (tE x)))) ∧ Hid (Below w1.heap.size w1 wr)) (fun _ i _ => es.length - (intOf i).toNat)
   case atStart => exact ⟨0, _, Nat.zero_le _, rfl, rfl, by show _ = bB _; rw [List.take_zero, List.flatMap_nil, List.append_nil]; exact HS.out, HB⟩
   case round =>
    clear HS HB
    obtain ⟨k, S, hk, rfl, rfl, HS, HB⟩ := hrel
    have hsz : S.size ≤ 500 := by
     rw [HS.out, bB_size, List.length_append]
     have := HLE7.out k
     omega
    have y3 : wr.cell? ⟨w.heap.size, 3, none⟩ = some (.slice E es.length ce) := (blk_cell (blk_below HX1.out HB.out) 3).trans rfl
    by_cases hlt : k < es.length
    ·have hltI : (k : Int) < (es.length : Int) := by omega
     have hc := HR.out.ec
     have hbw : Below w.heap.size w wr := HB1.out.trans (HB.out.mono HB1.out.size)
     obtain ⟨ad, hA, a0, a1⟩ := PCod.at_T63 ((HR.out.below hbw).e) (k : Int) (by omega) (by omega)
     subst hA
     have hrd : PCod.rd_T63 es (k : Int) = es.getD k PCod.z63 := by unfold PCod.rd_T63; rw [Int.toNat_natCast]
     have hmem := CodPlain.getD_in (d := PCod.z63) hlt
     have hsn := CodPlain.flat_snoc (d := PCod.z63) (fun x => CodPlain.edgeL (tE x)) hlt
     rw [Int.toNat_natCast, hrd] at a0 a1
     obtain ⟨y, hy⟩ : ∃ y, y = es.getD k PCod.z63 := ⟨_, rfl⟩
     rw [← hy] at a0 a1 hmem hsn
     have hrng := HER.out y hmem
     clear hrd hy hmem hbw
     obtain ⟨x0, x1⟩ := y
     dsimp only at a0 a1 hrng
     have HSN := Lib.hid hsn
     clear hsn
     obtain ⟨T0, hT0⟩ : ∃ x, x = pB x0 1 := ⟨_, rfl⟩
     have sT0 : T0.size = 1 := by rw [hT0]; exact pB1 _
     have CT0 : ∀ d' os', Calls Tryz.prog 23 #[.int .i64 x0, .int .i64 1] (grow (redrawn wr d') os') _ := regrown_calls (w := wr) (fun W2 hB => put1_any x0 (by omega) W2)
     rw [← hT0] at CT0
     have HT0 := Lib.hid hT0
     clear hT0
     obtain ⟨T1, hT1⟩ : ∃ x, x = pB x1 1 := ⟨_, rfl⟩
     have sT1 : T1.size = 1 := by rw [hT1]; exact pB1 _
     have CT1 : ∀ d' os', Calls Tryz.prog 23 #[.int .i64 x1, .int .i64 1] (grow (redrawn wr d') os') _ := regrown_calls (w := wr) (fun W2 hB => put1_any x1 (by omega) W2)
     rw [← hT1] at CT1
     have HT1 := Lib.hid hT1
     clear hT1
     have L0 := fun d' os' => cell_regrown a0 d' os'
     have L1 := fun d' os' => cell_regrown a1 d' os'
     have Y := fun d' os' => cell_regrown y3 d' os'
     go_upto_region 12 with fail
     clear a0 a1 y3
     refine wp_region_quiet_below (by kernel_rfl) (by kernel_rfl) ?_
     repeat (any_goals (first | go_big_quiet_step ((with_reducible (first | exact CT0 _ _ | exact CT1 _ _))) | quiet_step ((with_reducible (first | exact CT0 _ _ | exact CT1 _ _)))))
     refine wpQuiet_nil ?_
     rintro _ ⟨⟨dq, osq⟩, rfl⟩
     have hbq := below_regrown wr dq osq
     have HBn := Lib.hid (HB.out.trans (hbq.mono HB.out.size))
     clear hbq L0 L1 Y CT0 CT1
     generalize grow (redrawn wr dq) osq = wn at *
     have HS2 : Hid (S ++ T0 ++ T1 = bB (H1 ++ (es.take (k + 1)).flatMap (fun x => CodPlain.edgeL (tE x)))) := by
      show _ = _
      rw [HSN.out, HS.out, HT0.out, HT1.out]
      unfold pB
      rw [bB_cat, bB_cat]
      congr 1
      simp only [CodPlain.edgeL, tE, CodPlain.row_cons, CodPlain.row_nil, List.append_nil, List.append_assoc, Int.natAbs_natCast]
     clear HS HSN
     go_wp2_with fail
     go_roundw
     case rel => exact ⟨k + 1, _, by omega, rfl, by go_num, HS2, HBn⟩
     case measure => simp [intOf]; omega
    ·obtain rfl : k = es.length := by omega
     have hS2 := HS.out
     rw [List.take_length] at hS2
     have hln : (H1 ++ es.flatMap (fun x => CodPlain.edgeL (tE x))).length ≤ 225 := by
      have := HLE7.out es.length
      rw [List.take_length] at this
      rw [List.length_append]; omega
     obtain ⟨H2, hHm⟩ : ∃ x, x = H1 ++ es.flatMap (fun x => CodPlain.edgeL (tE x)) := ⟨_, rfl⟩
     rw [← hHm] at hS2 hln
     have HHH2 := Lib.hid hHm
     clear HS hHm hk hlt
     have HS := Lib.hid hS2
     clear hS2
     go_wp2_with fail
     clear y3
     rename World => wH2
     have HLE8 : Hid (∀ k, ((fs.take k).flatMap (fun x => CodPlain.futL (tF x))).length ≤ 64) := fun k => pfx_take (n := 4) (fun x _ => Nat.le_of_eq (CodPlain.fut_len _)) (by omega) k
     go_loopw [5, 8] (fun s i wr => ∃ (k : Nat) (S : ByteArray), k ≤ fs.length ∧ s = .string S ∧ i = .int .i64 k ∧ Hid (S = bB (H2 ++ (fs.take k).flatMap (fun x => CodPlain.futL (tF x)))) ∧ Hid (Below w1.heap.size w1 wr)) (fun _ i _ => fs.length - (intOf i).toNat)
     case atStart => exact ⟨0, _, Nat.zero_le _, rfl, rfl, by show _ = bB _; rw [List.take_zero, List.flatMap_nil, List.append_nil]; exact HS.out, HB⟩
     case round =>
      clear HS HB
      obtain ⟨k, S, hk, rfl, rfl, HS, HB⟩ := hrel
      have hsz : S.size ≤ 500 := by
       rw [HS.out, bB_size, List.length_append]
       have := HLE8.out k
       omega
      have y4 : wr.cell? ⟨w.heap.size, 4, none⟩ = some (.slice F fs.length cf) := (blk_cell (blk_below HX1.out HB.out) 4).trans rfl
      by_cases hlt : k < fs.length
      ·have hltI : (k : Int) < (fs.length : Int) := by omega
       have hc := HR.out.fc
       have hbw : Below w.heap.size w wr := HB1.out.trans (HB.out.mono HB1.out.size)
       obtain ⟨ad, hA, a0, a1, a2⟩ := PCod.at_T65 ((HR.out.below hbw).f) (k : Int) (by omega) (by omega)
       subst hA
       have hrd : PCod.rd_T65 fs (k : Int) = fs.getD k PCod.z65 := by unfold PCod.rd_T65; rw [Int.toNat_natCast]
       have hmem := CodPlain.getD_in (d := PCod.z65) hlt
       have hsn := CodPlain.flat_snoc (d := PCod.z65) (fun x => CodPlain.futL (tF x)) hlt
       rw [Int.toNat_natCast, hrd] at a0 a1 a2
       obtain ⟨y, hy⟩ : ∃ y, y = fs.getD k PCod.z65 := ⟨_, rfl⟩
       rw [← hy] at a0 a1 a2 hmem hsn
       have hrng := HFR.out y hmem
       clear hrd hy hmem hbw
       obtain ⟨x0, x1, x2⟩ := y
       dsimp only at a0 a1 a2 hrng
       have HSN := Lib.hid hsn
       clear hsn
       have HBw := Lib.hid (below_alloc' wr (.cells #[.int .i64 x0, .int .i64 x1, .int .i64 x2] 65))
       have HXw := Lib.hid (blk_new wr (.cells #[.int .i64 x0, .int .i64 x1, .int .i64 x2] 65))
       go_upto_region 17 with fail
       rename World => wz
       generalize wz.alloc (.cells #[.int .i64 x0, .int .i64 x1, .int .i64 x2] 65) = W at *
       obtain ⟨ge, hge⟩ : ∃ x, x = wz.heap.size := ⟨_, rfl⟩
       rw [← hge] at HXw ⊢
       have HBu := Lib.hid (HB.out.trans (HBw.out.mono HB.out.size))
       have e0 : W.cell? ⟨ge, 0, none⟩ = some (.int .i64 x0) := (blk_cell HXw.out 0).trans rfl
       have e1 : W.cell? ⟨ge, 1, none⟩ = some (.int .i64 x1) := (blk_cell HXw.out 1).trans rfl
       have e2 : W.cell? ⟨ge, 2, none⟩ = some (.int .i64 x2) := (blk_cell HXw.out 2).trans rfl
       clear hge HBw HB a0 a1 a2 y4
       obtain ⟨T0, hT0⟩ : ∃ x, x = pB x0 1 := ⟨_, rfl⟩
       have sT0 : T0.size = 1 := by rw [hT0]; exact pB1 _
       have CT0 : ∀ d' os', Calls Tryz.prog 23 #[.int .i64 x0, .int .i64 1] (grow (redrawn W d') os') _ := regrown_calls (w := W) (fun W2 hB => put1_any x0 (by omega) W2)
       rw [← hT0] at CT0
       have HT0 := Lib.hid hT0
       clear hT0
       obtain ⟨T1, hT1⟩ : ∃ x, x = pB x1 1 := ⟨_, rfl⟩
       have sT1 : T1.size = 1 := by rw [hT1]; exact pB1 _
       have CT1 : ∀ d' os', Calls Tryz.prog 23 #[.int .i64 x1, .int .i64 1] (grow (redrawn W d') os') _ := regrown_calls (w := W) (fun W2 hB => put1_any x1 (by omega) W2)
       rw [← hT1] at CT1
       have HT1 := Lib.hid hT1
       clear hT1
       obtain ⟨T2, hT2⟩ : ∃ x, x = pB x2 2 := ⟨_, rfl⟩
       have sT2 : T2.size = 2 := by rw [hT2]; exact pB2 _
       have CT2 : ∀ d' os', Calls Tryz.prog 23 #[.int .i64 x2, .int .i64 2] (grow (redrawn W d') os') _ := regrown_calls (w := W) (fun W2 hB => put2_any x2 (by omega) W2)
       rw [← hT2] at CT2
       have HT2 := Lib.hid hT2
       clear hT2
       have E0 := fun d' os' => cell_regrown e0 d' os'
       have E1 := fun d' os' => cell_regrown e1 d' os'
       have E2 := fun d' os' => cell_regrown e2 d' os'
       clear e0 e1 e2
       refine wp_region_quiet_below (by kernel_rfl) (by kernel_rfl) ?_
       repeat (any_goals (first | go_big_quiet_step ((with_reducible (first | exact CT0 _ _ | exact CT1 _ _ | exact CT2 _ _))) | quiet_step ((with_reducible (first | exact CT0 _ _ | exact CT1 _ _ | exact CT2 _ _)))))
       refine wpQuiet_nil ?_
       rintro _ ⟨⟨dq, osq⟩, rfl⟩
       have hbq := below_regrown W dq osq
       have HBn := Lib.hid (HBu.out.trans (hbq.mono HBu.out.size))
       clear hbq E0 E1 E2 CT0 CT1 CT2
       generalize grow (redrawn W dq) osq = wn at *
       have HS2 : Hid (S ++ T0 ++ T1 ++ T2 = bB (H2 ++ (fs.take (k + 1)).flatMap (fun x => CodPlain.futL (tF x)))) := by
        show _ = _
        rw [HSN.out, HS.out, HT0.out, HT1.out, HT2.out]
        unfold pB
        rw [bB_cat, bB_cat, bB_cat]
        congr 1
        simp only [CodPlain.futL, tF, CodPlain.row_cons, CodPlain.row_nil, List.append_nil, List.append_assoc, Int.natAbs_natCast]
       clear HS HSN
       go_wp2_with fail
       go_roundw
       case rel => exact ⟨k + 1, _, by omega, rfl, by go_num, HS2, HBn⟩
       case measure => simp [intOf]; omega
      ·obtain rfl : k = fs.length := by omega
       have hS2 := HS.out
       rw [List.take_length] at hS2
       have hln : (H2 ++ fs.flatMap (fun x => CodPlain.futL (tF x))).length ≤ 289 := by
        have := HLE8.out fs.length
        rw [List.take_length] at this
        rw [List.length_append]; omega
       obtain ⟨H3, hHm⟩ : ∃ x, x = H2 ++ fs.flatMap (fun x => CodPlain.futL (tF x)) := ⟨_, rfl⟩
       rw [← hHm] at hS2 hln
       have HHH3 := Lib.hid hHm
       clear HS hHm hk hlt
       have HS := Lib.hid hS2
       clear hS2
       go_wp2_with fail
       clear y4
       rename World => wH3
       have HLE9 : Hid (∀ k, ((bs.take k).flatMap (fun x => CodPlain.barL (tB x))).length ≤ 136) := by
        show ∀ k, _
        intro k
        refine pfx_take (n := 34) (fun x hx => ?_) (by omega) k
        have := HBR.out x hx
        have h2 := CodPlain.bar_len (tB x)
        rw [h2]
        show 2 + x.f0.length + x.f1.length ≤ 34
        omega
       go_loopw [5, 10] (fun s i wr => ∃ (k : Nat) (S : ByteArray), k ≤ bs.length ∧ s = .string S ∧ i = .int .i64 k ∧ Hid (S = bB (H3 ++ (bs.take k).flatMap (fun x => CodPlain.barL (tB x)))) ∧ Hid (Below w1.heap.size w1 wr)) (fun _ i _ => bs.length - (intOf i).toNat)
       case atStart => exact ⟨0, _, Nat.zero_le _, rfl, rfl, by show _ = bB _; rw [List.take_zero, List.flatMap_nil, List.append_nil]; exact HS.out, HB⟩
       case round =>
        clear HS HB
        obtain ⟨k, S, hk, rfl, rfl, HS, HB⟩ := hrel
        have hlk : (H3 ++ (bs.take k).flatMap (fun x => CodPlain.barL (tB x))).length ≤ 425 := by
         rw [List.length_append]
         have := HLE9.out k
         omega
        have hsz : S.size ≤ 500 := by rw [HS.out, bB_size]; omega
        have y5 : wr.cell? ⟨w.heap.size, 5, none⟩ = some (.slice B bs.length cb) := (blk_cell (blk_below HX1.out HB.out) 5).trans rfl
        by_cases hlt : k < bs.length
        ·have hltI : (k : Int) < (bs.length : Int) := by omega
         have hc := HR.out.bc
         have hbw : Below w.heap.size w wr := HB1.out.trans (HB.out.mono HB1.out.size)
         obtain ⟨ad, A0, c0, A1, c1, hA, a0, a1, la0, ca0, la1, ca1⟩ := PCod.at_T50 ((HR.out.below hbw).b) (k : Int) (by omega) (by omega)
         subst hA
         have hrd : PCod.rd_T50 bs (k : Int) = bs.getD k PCod.z50 := by unfold PCod.rd_T50; rw [Int.toNat_natCast]
         have hmem := CodPlain.getD_in (d := PCod.z50) hlt
         have hsn := CodPlain.flat_snoc (d := PCod.z50) (fun x => CodPlain.barL (tB x)) hlt
         rw [Int.toNat_natCast, hrd] at a0 a1
         rw [hrd] at la0 ca0 la1 ca1
         obtain ⟨y, hy⟩ : ∃ y, y = bs.getD k PCod.z50 := ⟨_, rfl⟩
         rw [← hy] at a0 a1 la0 ca0 la1 ca1 hmem hsn
         have hrng := HBR.out y hmem
         clear hrd hy hmem hbw
         obtain ⟨l0, l1⟩ := y
         dsimp only at a0 a1 la0 ca0 la1 ca1 hrng
         obtain ⟨hr0, hr1, hq0, hq1⟩ := hrng
         have HR0 := Lib.hid hr0
         have HR1 := Lib.hid hr1
         have HSN := Lib.hid hsn
         have HC0 := Lib.hid ca0
         have HC1 := Lib.hid ca1
         clear hsn hr0 hr1 ca0 ca1
         have HBw := Lib.hid (below_alloc' wr (.cells #[.slice A0 l0.length c0, .slice A1 l1.length c1] 50))
         have HXw := Lib.hid (blk_new wr (.cells #[.slice A0 l0.length c0, .slice A1 l1.length c1] 50))
         go_upto_region 22 with fail
         rename World => wz
         generalize wz.alloc (.cells #[.slice A0 l0.length c0, .slice A1 l1.length c1] 50) = W at *
         obtain ⟨ge, hge⟩ : ∃ x, x = wz.heap.size := ⟨_, rfl⟩
         rw [← hge] at HXw ⊢
         have HBu := Lib.hid (HB.out.trans (HBw.out.mono HB.out.size))
         have HD0 := Lib.hid (Kd.C_below HC0.out HBw.out)
         have HD1 := Lib.hid (Kd.C_below HC1.out HBw.out)
         have e0 : W.cell? ⟨ge, 0, none⟩ = some (.slice A0 l0.length c0) := (blk_cell HXw.out 0).trans rfl
         have e1 : W.cell? ⟨ge, 1, none⟩ = some (.slice A1 l1.length c1) := (blk_cell HXw.out 1).trans rfl
         clear hge HBw HB a0 a1 y5 HC0 HC1
         obtain ⟨T0, hT0⟩ : ∃ x, x = pB (l0.length : Int) 1 := ⟨_, rfl⟩
         have sT0 : T0.size = 1 := by rw [hT0]; exact pB1 _
         have CT0 : ∀ d' os', Calls Tryz.prog 23 #[.int .i64 (l0.length : Int), .int .i64 1] (grow (redrawn W d') os') _ := regrown_calls (w := W) (fun W2 hB => put1_any (l0.length : Int) (by omega) W2)
         rw [← hT0] at CT0
         have HT0 := Lib.hid hT0
         clear hT0
         obtain ⟨T1, hT1⟩ : ∃ x, x = pB (l1.length : Int) 1 := ⟨_, rfl⟩
         have sT1 : T1.size = 1 := by rw [hT1]; exact pB1 _
         have CT1 : ∀ d' os', Calls Tryz.prog 23 #[.int .i64 (l1.length : Int), .int .i64 1] (grow (redrawn W d') os') _ := regrown_calls (w := W) (fun W2 hB => put1_any (l1.length : Int) (by omega) W2)
         rw [← hT1] at CT1
         have HT1 := Lib.hid hT1
         clear hT1
         have E0 := fun d' os' => cell_regrown e0 d' os'
         have E1 := fun d' os' => cell_regrown e1 d' os'
         clear e0 e1
         refine wp_region_quiet_below (by kernel_rfl) (by kernel_rfl) ?_
         repeat (any_goals (first | go_big_quiet_step ((with_reducible (first | exact CT0 _ _ | exact CT1 _ _))) | quiet_step ((with_reducible (first | exact CT0 _ _ | exact CT1 _ _)))))
         refine wpQuiet_nil ?_
         rintro _ ⟨⟨dq, osq⟩, rfl⟩
         have hbq := below_regrown W dq osq
         have HBn := Lib.hid (HBu.out.trans (hbq.mono HBu.out.size))
         have HXw2 := Lib.hid (blk_below HXw.out hbq)
         have HF0 := Lib.hid (Kd.C_below HD0.out hbq)
         have HF1 := Lib.hid (Kd.C_below HD1.out hbq)
         clear HXw HD0 HD1
         have HXw := HXw2
         clear HXw2
         clear hbq E0 E1 CT0 CT1
         generalize grow (redrawn W dq) osq = wn at *
         have hS2 : S ++ T0 ++ T1 = bB ((H3 ++ (bs.take k).flatMap (fun x => CodPlain.barL (tB x))) ++ CodPlain.row [(l0.length : Int), (l1.length : Int)] 1) := by
          rw [HS.out, HT0.out, HT1.out]
          unfold pB
          rw [bB_cat, bB_cat, CodPlain.row_two]
          simp only [List.append_assoc]
         obtain ⟨Q0, hQ0⟩ : ∃ x, x = (H3 ++ (bs.take k).flatMap (fun x => CodPlain.barL (tB x))) ++ CodPlain.row [(l0.length : Int), (l1.length : Int)] 1 := ⟨_, rfl⟩
         have hlq0 : Q0.length ≤ 450 := by
          rw [hQ0, List.length_append, CodPlain.row_len]
          have h1 : (1 : Int).toNat = 1 := rfl
          rw [h1]
          simp only [List.length_cons, List.length_nil]
          omega
         rw [← hQ0] at hS2
         have HQ0 := Lib.hid hQ0
         clear HS hQ0 HT0 HT1
         have HS := Lib.hid hS2
         clear hS2
         go_wp2_with fail
         go_loopw [5, 12] (fun s i wr => ∃ (j : Nat) (S : ByteArray), j ≤ l0.length ∧ s = .string S ∧ i = .int .i64 j ∧ Hid (S = bB (Q0 ++ CodPlain.row (l0.take j) 1)) ∧ Hid (Below wn.heap.size wn wr)) (fun _ i _ => l0.length - (intOf i).toNat)
         case atStart => exact ⟨0, _, Nat.zero_le _, rfl, rfl, by show _ = bB _; rw [List.take_zero, CodPlain.row_nil, List.append_nil]; exact HS.out, Below.refl _ _⟩
         case round =>
          clear HS
          obtain ⟨j, S, hj, rfl, rfl, HS, HBQ⟩ := hrel
          have hsz : S.size ≤ 600 := by
           rw [HS.out, bB_size, List.length_append, CodPlain.row_len, List.length_take]
           have h1 : (1 : Int).toNat = 1 := rfl
           rw [h1]
           omega
          have e0 : wr.cell? ⟨ge, 0, none⟩ = some (.slice A0 l0.length c0) := (blk_cell (blk_below HXw.out HBQ.out) 0).trans rfl
          by_cases hjk : j < l0.length
          ·have hjkI : (j : Int) < (l0.length : Int) := by omega
           obtain ⟨bd, rfl, hcs⟩ := ((Kd.reads_of_C (d := (0 : Int)) (h1 := fun _ => rfl) HF0.out).below HBQ.out).2.2 (by omega)
           have hc0 := hcs j hjk
           have hrx := HR0.out _ (CodPlain.getD_in (d := (0 : Int)) hjk)
           have hsn := CodPlain.take_snoc (d := (0 : Int)) hjk
           obtain ⟨x, hx⟩ : ∃ x, x = l0.getD j 0 := ⟨_, rfl⟩
           rw [← hx] at hc0 hrx hsn
           have HSN := Lib.hid hsn
           clear hcs hx hsn
           have CPx := Lib.hid (fun w1 => put1_any x (by omega) w1)
           obtain ⟨T, hT⟩ : ∃ T, T = pB x 1 := ⟨_, rfl⟩
           have sT : T.size = 1 := by rw [hT]; exact pB1 _
           rw [← hT] at CPx
           have HTX := Lib.hid hT
           clear hT
           go_wp2_with fail
           refine (CPx.out _).mono ?_
           rintro e wv ⟨rfl, hb⟩
           have HBQ2 := Lib.hid (HBQ.out.trans (hb.mono HBQ.out.size))
           have HS2 : Hid (S ++ T = bB (Q0 ++ CodPlain.row (l0.take (j + 1)) 1)) := by
            show _ = _
            rw [HSN.out, HS.out, HTX.out]
            unfold pB
            rw [bB_cat]
            congr 1
            rw [row_app2, List.append_assoc]
           clear hb HS HSN HTX hc0 e0
           go_wp2_with fail
           go_roundw
           case rel => exact ⟨j + 1, _, by omega, rfl, by go_num, HS2, HBQ2⟩
           case measure => simp [intOf]; omega
          ·obtain rfl : j = l0.length := by omega
           have hS2 := HS.out
           rw [List.take_length] at hS2
           have hlq : (Q0 ++ CodPlain.row l0 1).length ≤ 466 := by
            rw [List.length_append, CodPlain.row_len]
            have h1 : (1 : Int).toNat = 1 := rfl
            rw [h1]
            omega
           obtain ⟨Q1, hHm⟩ : ∃ x, x = Q0 ++ CodPlain.row l0 1 := ⟨_, rfl⟩
           rw [← hHm] at hS2 hlq
           have HHQ1 := Lib.hid hHm
           clear HS hHm hj hjk
           have HS := Lib.hid hS2
           clear hS2
           go_wp2_with fail
           clear e0
           have HXw2 := Lib.hid (blk_below HXw.out HBQ.out)
           have HF1b := Lib.hid (Kd.C_below HF1.out HBQ.out)
           have HBn2 := Lib.hid (HBn.out.trans (HBQ.out.mono HBn.out.size))
           clear HXw HBQ HF1 HF0 HBn
           have HXw := HXw2
           rename World => wq
           go_loopw [5, 13] (fun s i wr => ∃ (j : Nat) (S : ByteArray), j ≤ l1.length ∧ s = .string S ∧ i = .int .i64 j ∧ Hid (S = bB (Q1 ++ CodPlain.row (l1.take j) 1)) ∧ Hid (Below wq.heap.size wq wr)) (fun _ i _ => l1.length - (intOf i).toNat)
           case atStart => exact ⟨0, _, Nat.zero_le _, rfl, rfl, by show _ = bB _; rw [List.take_zero, CodPlain.row_nil, List.append_nil]; exact HS.out, Below.refl _ _⟩
           case round =>
            clear HS
            obtain ⟨j, S, hj, rfl, rfl, HS, HBQ⟩ := hrel
            have hsz : S.size ≤ 600 := by
             rw [HS.out, bB_size, List.length_append, CodPlain.row_len, List.length_take]
             have h1 : (1 : Int).toNat = 1 := rfl
             rw [h1]
             omega
            have e1 : wr.cell? ⟨ge, 1, none⟩ = some (.slice A1 l1.length c1) := (blk_cell (blk_below HXw.out HBQ.out) 1).trans rfl
            by_cases hjk : j < l1.length
            ·have hjkI : (j : Int) < (l1.length : Int) := by omega
             obtain ⟨bd, rfl, hcs⟩ := ((Kd.reads_of_C (d := (0 : Int)) (h1 := fun _ => rfl) HF1b.out).below HBQ.out).2.2 (by omega)
             have hc0 := hcs j hjk
             have hrx := HR1.out _ (CodPlain.getD_in (d := (0 : Int)) hjk)
             have hsn := CodPlain.take_snoc (d := (0 : Int)) hjk
             obtain ⟨x, hx⟩ : ∃ x, x = l1.getD j 0 := ⟨_, rfl⟩
             rw [← hx] at hc0 hrx hsn
             have HSN := Lib.hid hsn
             clear hcs hx hsn
             have CPx := Lib.hid (fun w1 => put1_any x (by omega) w1)
             obtain ⟨T, hT⟩ : ∃ T, T = pB x 1 := ⟨_, rfl⟩
             have sT : T.size = 1 := by rw [hT]; exact pB1 _
             rw [← hT] at CPx
             have HTX := Lib.hid hT
             clear hT
             go_wp2_with fail
             refine (CPx.out _).mono ?_
             rintro e wv ⟨rfl, hb⟩
             have HBQ2 := Lib.hid (HBQ.out.trans (hb.mono HBQ.out.size))
             have HS2 : Hid (S ++ T = bB (Q1 ++ CodPlain.row (l1.take (j + 1)) 1)) := by
              show _ = _
              rw [HSN.out, HS.out, HTX.out]
              unfold pB
              rw [bB_cat]
              congr 1
              rw [row_app2, List.append_assoc]
             clear hb HS HSN HTX hc0 e1
             go_wp2_with fail
             go_roundw
             case rel => exact ⟨j + 1, _, by omega, rfl, by go_num, HS2, HBQ2⟩
             case measure => simp [intOf]; omega
            ·obtain rfl : j = l1.length := by omega
             have hS2 := HS.out
             rw [List.take_length] at hS2
             have hlq : (Q1 ++ CodPlain.row l1 1).length ≤ 482 := by
              rw [List.length_append, CodPlain.row_len]
              have h1 : (1 : Int).toNat = 1 := rfl
              rw [h1]
              omega
             obtain ⟨Q2, hHm⟩ : ∃ x, x = Q1 ++ CodPlain.row l1 1 := ⟨_, rfl⟩
             rw [← hHm] at hS2 hlq
             have HHQ2 := Lib.hid hHm
             clear HS hHm hj hjk
             have HS := Lib.hid hS2
             clear hS2
             have HS2 : Hid (Q2 = H3 ++ (bs.take (k + 1)).flatMap (fun x => CodPlain.barL (tB x))) := by
              show _ = _
              rw [HSN.out, HHQ2.out, HHQ1.out, HQ0.out]
              show _ = H3 ++ ((bs.take k).flatMap (fun x => CodPlain.barL (tB x)) ++ CodPlain.barL (l0, l1))
              unfold CodPlain.barL
              simp only [List.append_assoc]
             have HS3 : Hid (S = bB (H3 ++ (bs.take (k + 1)).flatMap (fun x => CodPlain.barL (tB x)))) := by
              show _ = _
              rw [HS.out, HS2.out]
             have HBz := Lib.hid (HBn2.out.trans (HBQ.out.mono HBn2.out.size))
             clear HS HS2 HSN HHQ2 HHQ1 HQ0
             go_wp2_with fail
             go_roundw
             case rel => exact ⟨k + 1, _, by omega, rfl, by go_num, HS3, HBz⟩
             case measure => simp [intOf]; omega
        ·obtain rfl : k = bs.length := by omega
         have hS2 := HS.out
         rw [List.take_length] at hS2
         have hln : (H3 ++ bs.flatMap (fun x => CodPlain.barL (tB x))).length ≤ 425 := by
          have := HLE9.out bs.length
          rw [List.take_length] at this
          rw [List.length_append]; omega
         have HBL : Hid (BL = H3 ++ bs.flatMap (fun x => CodPlain.barL (tB x))) := by
          show _ = _
          rw [HBODY.out, HHH3.out, HHH2.out, HHH1.out]
         rw [← HBL.out] at hS2 hln
         clear HS HBL HHH1 HHH2 HHH3 hk hlt
         subst hS2
         have hsz2 : (bB BL).size ≤ 425 := by rw [bB_size]; exact hln
         have hsl := CrcPlain.sum_lt (bB BL).data.toList
         have HTC := Lib.hid (tail_cat BL)
         obtain ⟨SS, hSS⟩ : ∃ x, x = bB BL := ⟨_, rfl⟩
         rw [← hSS] at hsz2 hsl HTC ⊢
         have CS1 := Lib.hid (fun w1 => refsum_any SS w1 (by omega))
         have CS2 := Lib.hid (fun w1 => tail_any (sumB SS) hsl w1)
         have hts : (tailB (sumB SS)).size = 4 := rfl
         have HTCs : Hid (SS ++ tailB (sumB SS) = R) := HTC.out.trans HRR.out.symm
         clear HRR HTC hSS hsl hsz
         generalize tailB (sumB SS) = TT at *
         generalize (sumB SS : Nat) = SU at *
         go_wp2_with fail
         refine (CS1.out _).mono ?_
         rintro e we ⟨rfl, rfl⟩
         go_wp2_with fail
         refine (CS2.out _).mono ?_
         rintro e we ⟨rfl, hb⟩
         have HBz := Lib.hid (HB.out.trans (hb.mono HB.out.size))
         clear hb
         go_wp2_with fail
         go_ret2
         exact ⟨by rw [← HTCs.out]; rfl, HB1.out.trans (HBz.out.mono HB1.out.size)⟩
set_option maxRecDepth 100000 in
set_option maxHeartbeats 4000000 in
theorem refencode_any (per dl : Int) (P : Option Addr) (cp : Nat) (ps : List PCod.S47) (E : Option Addr) (ce : Nat) (es : List PCod.S63) (F : Option Addr) (cf : Nat) (fs : List PCod.S65) (B : Option Addr) (cb : Nat) (bs : List PCod.S50) (w : World) (hs : ShortD ps es fs bs) (hr : DR w P cp ps E ce es F cf fs B cb bs) :
  Calls Tryz.prog 11 #[.agg #[.int .i64 per, .int .i64 dl, .slice P ps.length cp, .slice E es.length ce, .slice F fs.length cf, .slice B bs.length cb]] w fun e w' => e = .returned (.tuple #[.string ⟨(CodPlain.encL (dOf per dl ps es fs bs)).toArray⟩, .int .i64 (CodPlain.checkD (dOf per dl ps es fs bs))]) ∧ Below w.heap.size w w' := by
 by_cases hc : CodPlain.checkD (dOf per dl ps es fs bs) = 0
 ·have h := refencode_yes per dl P cp ps E ce es F cf fs B cb bs w hs hr hc
  have he : (⟨(CodPlain.encL (dOf per dl ps es fs bs)).toArray⟩ : ByteArray) = bB (CodPlain.sealedB (CodPlain.bodyL (dOf per dl ps es fs bs))) := by unfold CodPlain.encL; rw [if_pos hc]; rfl
  rw [he, hc]
  exact h
 ·have he : (⟨(CodPlain.encL (dOf per dl ps es fs bs)).toArray⟩ : ByteArray) = ⟨#[]⟩ := by unfold CodPlain.encL; rw [if_neg hc]
  rw [he]
  have C := Lib.hid (fun w1 h => refcheck_any per dl P cp ps E ce es F cf fs B cb bs w1 hs h)
  have HR := Lib.hid hr
  have HB0 := Lib.hid (below_alloc' w (.cells #[.int .i64 per, .int .i64 dl, .slice P ps.length cp, .slice E es.length ce, .slice F fs.length cf, .slice B bs.length cb] 27))
  have HX0 := Lib.hid (blk_new w (.cells #[.int .i64 per, .int .i64 dl, .slice P ps.length cp, .slice E es.length ce, .slice F fs.length cf, .slice B bs.length cb] 27))
  clear hr hs he
  generalize CodPlain.checkD (dOf per dl ps es fs bs) = er at *
  go_enter Tryz.func11, Tryz.ntmps11
  go_upto_region 1 with fail
  generalize w.alloc (.cells #[.int .i64 per, .int .i64 dl, .slice P ps.length cp, .slice E es.length ce, .slice F fs.length cf, .slice B bs.length cb] 27) = w0 at *
  have y0 : w0.cell? ⟨w.heap.size, 0, none⟩ = some (.int .i64 per) := (blk_cell HX0.out 0).trans rfl
  have y1 : w0.cell? ⟨w.heap.size, 1, none⟩ = some (.int .i64 dl) := (blk_cell HX0.out 1).trans rfl
  have y2 : w0.cell? ⟨w.heap.size, 2, none⟩ = some (.slice P ps.length cp) := (blk_cell HX0.out 2).trans rfl
  have y3 : w0.cell? ⟨w.heap.size, 3, none⟩ = some (.slice E es.length ce) := (blk_cell HX0.out 3).trans rfl
  have y4 : w0.cell? ⟨w.heap.size, 4, none⟩ = some (.slice F fs.length cf) := (blk_cell HX0.out 4).trans rfl
  have y5 : w0.cell? ⟨w.heap.size, 5, none⟩ = some (.slice B bs.length cb) := (blk_cell HX0.out 5).trans rfl
  go_wp2_with fail
  refine (C.out w0 (HR.out.below HB0.out)).mono ?_
  rintro e w1 ⟨rfl, hb⟩
  have HB1 := Lib.hid (HB0.out.trans (hb.mono HB0.out.size))
  clear hb HB0 HX0 y0 y1 y2 y3 y4 y5 C
  go_wp2_with fail
  go_ret2
  exact ⟨rfl, HB1.out⟩
end Go.Proofs.YtokhibhmlninnaaGreatDoor
