/- Texts of this work, put into one. -/
import Derived.Test.YtokhibhmlninnaaGreatDoorGMLaw
import Derived.Lib.QuietBelow
import Derived.Deep.QuietTactic
import Derived.BigQuiet
import Derived.Test.YtokhibhmlninnaaGreatDoorGMCkA
set_option linter.unusedVariables false
set_option linter.unusedSimpArgs false
namespace Go.Proofs.YtokhibhmlninnaaGreatDoor
open Go.RowKit Go.Sort Go.Proofs.YtokhibhmlninnaaGreatDoorW.PrintWords
attribute [local go_sem high] PCod.eqA47 PCod.eqA63 PCod.eqA65
set_option maxHeartbeats 1000000 in
theorem ints_same (A B : Option Addr) (c d : Nat) (l : List Int) (w : World) (hl : Kd.C (Kd.int .i64) w A l.length l) (hm : Kd.C (Kd.int .i64) w B l.length l) (hn : l.length ≤ 1000) :
  Calls Tryz.prog 39 #[.slice A l.length c, .slice B l.length d] w fun e w' => e = .returned (.bool true) ∧ Below w.heap.size w w' := by
 have HL := Lib.hid (Kd.reads_of_C (d := (0 : Int)) (h1 := fun _ => rfl) hl)
 have HM := Lib.hid (Kd.reads_of_C (d := (0 : Int)) (h1 := fun _ => rfl) hm)
 clear hl hm
 go_enter Tryz.func39, Tryz.ntmps39
 go_wp2_with fail
 go_loopw [5] (fun i wr => ∃ k : Nat, k ≤ l.length ∧ i = .int .i64 k ∧ Hid (Below w.heap.size w wr)) (fun i _ => l.length - (intOf i).toNat)
 case atStart => exact ⟨0, Nat.zero_le _, rfl, Below.refl _ _⟩
 case round =>
  obtain ⟨k, hk, rfl, HBW⟩ := hrel
  by_cases hlt : k < l.length
  ·obtain ⟨ad, rfl, hcs⟩ := (HL.out.below HBW.out).2.2 (by omega)
   obtain ⟨bd, rfl, hds⟩ := (HM.out.below HBW.out).2.2 (by omega)
   have hc := hcs k hlt
   have hd := hds k hlt
   obtain ⟨x, hx⟩ : ∃ x, x = l.getD k 0 := ⟨_, rfl⟩
   rw [← hx] at hc hd
   clear hcs hds hx
   go_wp2_with fail
   go_quiet (fail)
   go_wp2_with fail
   go_roundw
   case rel => exact ⟨k + 1, by omega, by go_num, pw_below_drewN HBW.out nq⟩
   case measure => simp [intOf]; omega
  ·obtain rfl : k = l.length := by omega
   go_wp2_with fail
   go_ret
   exact ⟨rfl, HBW.out⟩
set_option maxRecDepth 100000 in
set_option maxHeartbeats 4000000 in
theorem same4_same (E E' : Option Addr) (ce ce' : Nat) (es : List PCod.S63) (w : World) (he : Kd.C PCod.k63 w E es.length es) (he' : Kd.C PCod.k63 w E' es.length es) (h1 : es.length ≤ 1000) (hc : es.length ≤ ce) (hc' : es.length ≤ ce') :
  Calls Tryz.prog 38 #[.agg #[.slice none 0 0, .slice E es.length ce], .agg #[.slice none 0 0, .slice E' es.length ce']] w fun e w' => e = .returned (.bool true) ∧ Below w.heap.size w w' := by
 have HE := Lib.hid he
 have HE' := Lib.hid he'
 have HBa := Lib.hid (below_alloc' w (.cells #[.slice none 0 0, .slice E es.length ce] 94))
 have HBb := Lib.hid (below_alloc' (w.alloc (.cells #[.slice none 0 0, .slice E es.length ce] 94)) (.cells #[.slice none 0 0, .slice E' es.length ce'] 94))
 have HXa : Hid (((w.alloc (.cells #[.slice none 0 0, .slice E es.length ce] 94)).alloc (.cells #[.slice none 0 0, .slice E' es.length ce'] 94)).heap[w.heap.size]? = some (.cells #[.slice none 0 0, .slice E es.length ce] 94)) := blk_below (blk_new w (.cells #[.slice none 0 0, .slice E es.length ce] 94)) HBb.out
 have HXb : Hid (((w.alloc (.cells #[.slice none 0 0, .slice E es.length ce] 94)).alloc (.cells #[.slice none 0 0, .slice E' es.length ce'] 94)).heap[w.heap.size + 1]? = some (.cells #[.slice none 0 0, .slice E' es.length ce'] 94)) := by
  have := blk_new (w.alloc (.cells #[.slice none 0 0, .slice E es.length ce] 94)) (.cells #[.slice none 0 0, .slice E' es.length ce'] 94)
  rw [show (w.alloc (.cells #[.slice none 0 0, .slice E es.length ce] 94)).heap.size = w.heap.size + 1 by simp] at this
  exact this
 have HB0 : Hid (Below w.heap.size w ((w.alloc (.cells #[.slice none 0 0, .slice E es.length ce] 94)).alloc (.cells #[.slice none 0 0, .slice E' es.length ce'] 94))) := HBa.out.trans (HBb.out.mono HBa.out.size)
 clear he he' HBa HBb
 go_enter Tryz.func38, Tryz.ntmps38
 go_upto_region 1 with fail
 generalize (w.alloc (.cells #[.slice none 0 0, .slice E es.length ce] 94)).alloc (.cells #[.slice none 0 0, .slice E' es.length ce'] 94) = w0 at *
 try simp only [World.alloc_size]
 have xa0 : w0.cell? ⟨w.heap.size, 0, none⟩ = some (.slice none 0 0) := (blk_cell HXa.out 0).trans rfl
 have xa1 : w0.cell? ⟨w.heap.size, 1, none⟩ = some (.slice E es.length ce) := (blk_cell HXa.out 1).trans rfl
 have xb0 : w0.cell? ⟨w.heap.size + 1, 0, none⟩ = some (.slice none 0 0) := (blk_cell HXb.out 0).trans rfl
 have xb1 : w0.cell? ⟨w.heap.size + 1, 1, none⟩ = some (.slice E' es.length ce') := (blk_cell HXb.out 1).trans rfl
 go_wp2_with fail
 refine wp_loop_rounds 1 ?_
 rw [rounds_succ]
 go_wp2_with fail
 clear xa0 xa1 xb0 xb1
 go_loopw [6] (fun i wr => ∃ k : Nat, k ≤ es.length ∧ i = .int .i64 k ∧ Hid (Below w0.heap.size w0 wr)) (fun i _ => es.length - (intOf i).toNat)
 case atStart => exact ⟨0, Nat.zero_le _, rfl, Below.refl _ _⟩
 case round =>
  obtain ⟨k, hk, rfl, HBW⟩ := hrel
  have xa1 : wr.cell? ⟨w.heap.size, 1, none⟩ = some (.slice E es.length ce) := (blk_cell (blk_below HXa.out HBW.out) 1).trans rfl
  have xb1 : wr.cell? ⟨w.heap.size + 1, 1, none⟩ = some (.slice E' es.length ce') := (blk_cell (blk_below HXb.out HBW.out) 1).trans rfl
  by_cases hlt : k < es.length
  ·have hbw : Below w.heap.size w wr := HB0.out.trans (HBW.out.mono HB0.out.size)
   obtain ⟨ad, hA, a0, a1⟩ := PCod.at_T63 (Kd.C_below HE.out hbw) (k : Int) (by omega) (by omega)
   subst hA
   obtain ⟨bd, hB, b0, b1⟩ := PCod.at_T63 (Kd.C_below HE'.out hbw) (k : Int) (by omega) (by omega)
   subst hB
   rw [Int.toNat_natCast] at a0 a1 b0 b1
   obtain ⟨y, hy⟩ : ∃ y, y = PCod.rd_T63 es (k : Int) := ⟨_, rfl⟩
   rw [← hy] at a0 a1 b0 b1
   clear hy
   have hltI : (k : Int) < (es.length : Int) := by omega
   clear hbw
   go_upto_region 11 with fail
   go_quiet (fail)
   go_wp2_with fail
   go_roundw
   case rel => exact ⟨k + 1, by omega, by go_num, pw_below_drewN HBW.out nq⟩
   case measure => simp [intOf]; omega
  ·obtain rfl : k = es.length := by omega
   go_wp2_with fail
   go_ret
   exact ⟨rfl, HB0.out.trans (HBW.out.mono HB0.out.size)⟩
set_option maxRecDepth 100000 in
set_option maxHeartbeats 8000000 in
theorem refsame_any (per dl : Int) (P : Option Addr) (cp : Nat) (ps : List PCod.S47) (E : Option Addr) (ce : Nat) (es : List PCod.S63) (F : Option Addr) (cf : Nat) (fs : List PCod.S65) (B : Option Addr) (cb : Nat) (bs : List PCod.S50) (P' : Option Addr) (cp' : Nat) (E' : Option Addr) (ce' : Nat) (F' : Option Addr) (cf' : Nat) (B' : Option Addr) (cb' : Nat) (w : World) (hs : ShortD ps es fs bs) (hr : DR w P cp ps E ce es F cf fs B cb bs) (hr' : DR w P' cp' ps E' ce' es F' cf' fs B' cb' bs) :
  Calls Tryz.prog 16 #[.agg #[.int .i64 per, .int .i64 dl, .slice P ps.length cp, .slice E es.length ce, .slice F fs.length cf, .slice B bs.length cb], .agg #[.int .i64 per, .int .i64 dl, .slice P' ps.length cp', .slice E' es.length ce', .slice F' fs.length cf', .slice B' bs.length cb']] w fun e w' => e = .returned (.bool true) ∧ Below w.heap.size w w' := by
 obtain ⟨⟨s1, s2, s3, s4⟩, sb⟩ := hs
 have C4 := Lib.hid (fun w1 h h' => same4_same E E' ce ce' es w1 h h' s2 hr.ec hr'.ec)
 have HSB := Lib.hid sb
 have HR := Lib.hid hr
 have HR' := Lib.hid hr'
 have HBa := Lib.hid (below_alloc' w (.cells #[.int .i64 per, .int .i64 dl, .slice P ps.length cp, .slice E es.length ce, .slice F fs.length cf, .slice B bs.length cb] 27))
 have HBb := Lib.hid (below_alloc' (w.alloc (.cells #[.int .i64 per, .int .i64 dl, .slice P ps.length cp, .slice E es.length ce, .slice F fs.length cf, .slice B bs.length cb] 27)) (.cells #[.int .i64 per, .int .i64 dl, .slice P' ps.length cp', .slice E' es.length ce', .slice F' fs.length cf', .slice B' bs.length cb'] 27))
 have HXa : Hid (((w.alloc (.cells #[.int .i64 per, .int .i64 dl, .slice P ps.length cp, .slice E es.length ce, .slice F fs.length cf, .slice B bs.length cb] 27)).alloc (.cells #[.int .i64 per, .int .i64 dl, .slice P' ps.length cp', .slice E' es.length ce', .slice F' fs.length cf', .slice B' bs.length cb'] 27)).heap[w.heap.size]? = some (.cells #[.int .i64 per, .int .i64 dl, .slice P ps.length cp, .slice E es.length ce, .slice F fs.length cf, .slice B bs.length cb] 27)) := blk_below (blk_new w (.cells #[.int .i64 per, .int .i64 dl, .slice P ps.length cp, .slice E es.length ce, .slice F fs.length cf, .slice B bs.length cb] 27)) HBb.out
 have HXb : Hid (((w.alloc (.cells #[.int .i64 per, .int .i64 dl, .slice P ps.length cp, .slice E es.length ce, .slice F fs.length cf, .slice B bs.length cb] 27)).alloc (.cells #[.int .i64 per, .int .i64 dl, .slice P' ps.length cp', .slice E' es.length ce', .slice F' fs.length cf', .slice B' bs.length cb'] 27)).heap[w.heap.size + 1]? = some (.cells #[.int .i64 per, .int .i64 dl, .slice P' ps.length cp', .slice E' es.length ce', .slice F' fs.length cf', .slice B' bs.length cb'] 27)) := by
  have := blk_new (w.alloc (.cells #[.int .i64 per, .int .i64 dl, .slice P ps.length cp, .slice E es.length ce, .slice F fs.length cf, .slice B bs.length cb] 27)) (.cells #[.int .i64 per, .int .i64 dl, .slice P' ps.length cp', .slice E' es.length ce', .slice F' fs.length cf', .slice B' bs.length cb'] 27)
  rw [show (w.alloc (.cells #[.int .i64 per, .int .i64 dl, .slice P ps.length cp, .slice E es.length ce, .slice F fs.length cf, .slice B bs.length cb] 27)).heap.size = w.heap.size + 1 by simp] at this
  exact this
 have HB0 : Hid (Below w.heap.size w ((w.alloc (.cells #[.int .i64 per, .int .i64 dl, .slice P ps.length cp, .slice E es.length ce, .slice F fs.length cf, .slice B bs.length cb] 27)).alloc (.cells #[.int .i64 per, .int .i64 dl, .slice P' ps.length cp', .slice E' es.length ce', .slice F' fs.length cf', .slice B' bs.length cb'] 27))) := HBa.out.trans (HBb.out.mono HBa.out.size)
 clear hr hr' HBa HBb sb
 go_enter Tryz.func16, Tryz.ntmps16
 go_upto_region 1 with fail
 generalize (w.alloc (.cells #[.int .i64 per, .int .i64 dl, .slice P ps.length cp, .slice E es.length ce, .slice F fs.length cf, .slice B bs.length cb] 27)).alloc (.cells #[.int .i64 per, .int .i64 dl, .slice P' ps.length cp', .slice E' es.length ce', .slice F' fs.length cf', .slice B' bs.length cb'] 27) = w0 at *
 try simp only [World.alloc_size]
 have xa0 : w0.cell? ⟨w.heap.size, 0, none⟩ = some (.int .i64 per) := (blk_cell HXa.out 0).trans rfl
 have xa1 : w0.cell? ⟨w.heap.size, 1, none⟩ = some (.int .i64 dl) := (blk_cell HXa.out 1).trans rfl
 have xa2 : w0.cell? ⟨w.heap.size, 2, none⟩ = some (.slice P ps.length cp) := (blk_cell HXa.out 2).trans rfl
 have xa3 : w0.cell? ⟨w.heap.size, 3, none⟩ = some (.slice E es.length ce) := (blk_cell HXa.out 3).trans rfl
 have xa4 : w0.cell? ⟨w.heap.size, 4, none⟩ = some (.slice F fs.length cf) := (blk_cell HXa.out 4).trans rfl
 have xa5 : w0.cell? ⟨w.heap.size, 5, none⟩ = some (.slice B bs.length cb) := (blk_cell HXa.out 5).trans rfl
 have xb0 : w0.cell? ⟨w.heap.size + 1, 0, none⟩ = some (.int .i64 per) := (blk_cell HXb.out 0).trans rfl
 have xb1 : w0.cell? ⟨w.heap.size + 1, 1, none⟩ = some (.int .i64 dl) := (blk_cell HXb.out 1).trans rfl
 have xb2 : w0.cell? ⟨w.heap.size + 1, 2, none⟩ = some (.slice P' ps.length cp') := (blk_cell HXb.out 2).trans rfl
 have xb3 : w0.cell? ⟨w.heap.size + 1, 3, none⟩ = some (.slice E' es.length ce') := (blk_cell HXb.out 3).trans rfl
 have xb4 : w0.cell? ⟨w.heap.size + 1, 4, none⟩ = some (.slice F' fs.length cf') := (blk_cell HXb.out 4).trans rfl
 have xb5 : w0.cell? ⟨w.heap.size + 1, 5, none⟩ = some (.slice B' bs.length cb') := (blk_cell HXb.out 5).trans rfl
 go_wp2_with fail
 refine (C4.out _ (HR.out.below HB0.out).e (HR'.out.below HB0.out).e).mono ?_
 rintro e w1 ⟨rfl, hb⟩
 have HB1 := Lib.hid (HB0.out.trans (hb.mono HB0.out.size))
 have HXa1 := Lib.hid (blk_below HXa.out hb)
 have HXb1 := Lib.hid (blk_below HXb.out hb)
 clear hb HB0 HXa HXb xa0 xb0 xa1 xb1 xa2 xb2 xa3 xb3 xa4 xb4 xa5 xb5 C4
 go_wp2_with fail
 go_loopw [5] (fun i wr => ∃ k : Nat, k ≤ ps.length ∧ i = .int .i64 k ∧ Hid (Below w1.heap.size w1 wr)) (fun i _ => ps.length - (intOf i).toNat)
 case atStart => exact ⟨0, Nat.zero_le _, rfl, Below.refl _ _⟩
 case round =>
  obtain ⟨k, hk, rfl, HBW⟩ := hrel
  have xa2 : wr.cell? ⟨w.heap.size, 2, none⟩ = some (.slice P ps.length cp) := (blk_cell (blk_below HXa1.out HBW.out) 2).trans rfl
  have xb2 : wr.cell? ⟨w.heap.size + 1, 2, none⟩ = some (.slice P' ps.length cp') := (blk_cell (blk_below HXb1.out HBW.out) 2).trans rfl
  have hbw : Below w.heap.size w wr := HB1.out.trans (HBW.out.mono HB1.out.size)
  by_cases hlt : k < ps.length
  ·have hc := HR.out.pc
   have hc' := HR'.out.pc
   obtain ⟨ad, hA, a0, a1, a2⟩ := PCod.at_T47 ((HR.out.below hbw).p) (k : Int) (by omega) (by omega)
   subst hA
   obtain ⟨bd, hB, b0, b1, b2⟩ := PCod.at_T47 ((HR'.out.below hbw).p) (k : Int) (by omega) (by omega)
   subst hB
   rw [Int.toNat_natCast] at a0 a1 a2 b0 b1 b2
   obtain ⟨y, hy⟩ : ∃ y, y = PCod.rd_T47 ps (k : Int) := ⟨_, rfl⟩
   rw [← hy] at a0 a1 a2 b0 b1 b2
   clear hy
   have hltI : (k : Int) < (ps.length : Int) := by omega
   clear hbw
   go_upto_region 6 with fail
   go_quiet (fail)
   go_wp2_with fail
   go_roundw
   case rel => exact ⟨k + 1, by omega, by go_num, pw_below_drewN HBW.out nq⟩
   case measure => simp [intOf]; omega
  ·obtain rfl : k = ps.length := by omega
   have HB2 := Lib.hid hbw
   have HXa2 := Lib.hid (blk_below HXa1.out HBW.out)
   have HXb2 := Lib.hid (blk_below HXb1.out HBW.out)
   clear hbw HBW HXa1 HXb1 HB1
   rename World => wA
   go_wp2_with fail
   clear xa2 xb2
   go_loopw [6] (fun i wr => ∃ k : Nat, k ≤ fs.length ∧ i = .int .i64 k ∧ Hid (Below wA.heap.size wA wr)) (fun i _ => fs.length - (intOf i).toNat)
   case atStart => exact ⟨0, Nat.zero_le _, rfl, Below.refl _ _⟩
   case round =>
    obtain ⟨k, hk, rfl, HBW⟩ := hrel
    have xa4 : wr.cell? ⟨w.heap.size, 4, none⟩ = some (.slice F fs.length cf) := (blk_cell (blk_below HXa2.out HBW.out) 4).trans rfl
    have xb4 : wr.cell? ⟨w.heap.size + 1, 4, none⟩ = some (.slice F' fs.length cf') := (blk_cell (blk_below HXb2.out HBW.out) 4).trans rfl
    have hbw : Below w.heap.size w wr := HB2.out.trans (HBW.out.mono HB2.out.size)
    by_cases hlt : k < fs.length
    ·have hc := HR.out.fc
     have hc' := HR'.out.fc
     obtain ⟨ad, hA, a0, a1, a2⟩ := PCod.at_T65 ((HR.out.below hbw).f) (k : Int) (by omega) (by omega)
     subst hA
     obtain ⟨bd, hB, b0, b1, b2⟩ := PCod.at_T65 ((HR'.out.below hbw).f) (k : Int) (by omega) (by omega)
     subst hB
     rw [Int.toNat_natCast] at a0 a1 a2 b0 b1 b2
     obtain ⟨y, hy⟩ : ∃ y, y = PCod.rd_T65 fs (k : Int) := ⟨_, rfl⟩
     rw [← hy] at a0 a1 a2 b0 b1 b2
     clear hy
     have hltI : (k : Int) < (fs.length : Int) := by omega
     clear hbw
     go_upto_region 11 with fail
     go_quiet (fail)
     go_wp2_with fail
     go_roundw
     case rel => exact ⟨k + 1, by omega, by go_num, pw_below_drewN HBW.out nq⟩
     case measure => simp [intOf]; omega
    ·obtain rfl : k = fs.length := by omega
     have HB3 := Lib.hid hbw
     have HXa3 := Lib.hid (blk_below HXa2.out HBW.out)
     have HXb3 := Lib.hid (blk_below HXb2.out HBW.out)
     clear hbw HBW HXa2 HXb2 HB2
     rename World => wB
     go_wp2_with fail
     clear xa4 xb4
     go_loopw [7] (fun i wr => ∃ k : Nat, k ≤ bs.length ∧ i = .int .i64 k ∧ Hid (Below wB.heap.size wB wr)) (fun i _ => bs.length - (intOf i).toNat)
     case atStart => exact ⟨0, Nat.zero_le _, rfl, Below.refl _ _⟩
     case round =>
      obtain ⟨k, hk, rfl, HBW⟩ := hrel
      have xa5 : wr.cell? ⟨w.heap.size, 5, none⟩ = some (.slice B bs.length cb) := (blk_cell (blk_below HXa3.out HBW.out) 5).trans rfl
      have xb5 : wr.cell? ⟨w.heap.size + 1, 5, none⟩ = some (.slice B' bs.length cb') := (blk_cell (blk_below HXb3.out HBW.out) 5).trans rfl
      have hbw : Below w.heap.size w wr := HB3.out.trans (HBW.out.mono HB3.out.size)
      by_cases hlt : k < bs.length
      ·have hc := HR.out.bc
       have hc' := HR'.out.bc
       obtain ⟨ad, A0, c0, A1, c1, hA, a0, a1, la0, ca0, la1, ca1⟩ := PCod.at_T50 ((HR.out.below hbw).b) (k : Int) (by omega) (by omega)
       subst hA
       obtain ⟨bd, B0, d0, B1, d1, hB, b0, b1, lb0, cb0, lb1, cb1⟩ := PCod.at_T50 ((HR'.out.below hbw).b) (k : Int) (by omega) (by omega)
       subst hB
       have hrd : PCod.rd_T50 bs (k : Int) = bs[k] := by unfold PCod.rd_T50; rw [Int.toNat_natCast, List.getD_eq_getElem?_getD, List.getElem?_eq_getElem hlt]; rfl
       have hsb := HSB.out _ (List.getElem_mem hlt)
       rw [Int.toNat_natCast] at a0 a1 b0 b1
       rw [hrd] at a0 a1 b0 b1 la0 ca0 la1 ca1 lb0 cb0 lb1 cb1
       obtain ⟨y, hy⟩ : ∃ y, y = bs[k] := ⟨_, rfl⟩
       rw [← hy] at a0 a1 b0 b1 la0 ca0 la1 ca1 lb0 cb0 lb1 cb1 hsb
       obtain ⟨l0, l1⟩ := y
       dsimp only at a0 a1 b0 b1 la0 ca0 la1 ca1 lb0 cb0 lb1 cb1 hsb
       clear hy hrd
       have hltI : (k : Int) < (bs.length : Int) := by omega
       have CI1 : ∀ d' os', Calls Tryz.prog 39 #[.slice A0 l0.length c0, .slice B0 l0.length d0] (grow (redrawn wr d') os') _ := regrown_calls (w := wr) (fun W2 hB => ints_same A0 B0 c0 d0 l0 W2 (Kd.C_below ca0 hB) (Kd.C_below cb0 hB) hsb.1)
       have CI2 : ∀ d' os', Calls Tryz.prog 39 #[.slice A1 l1.length c1, .slice B1 l1.length d1] (grow (redrawn wr d') os') _ := regrown_calls (w := wr) (fun W2 hB => ints_same A1 B1 c1 d1 l1 W2 (Kd.C_below ca1 hB) (Kd.C_below cb1 hB) hsb.2)
       clear hbw
       go_upto_region 16 with fail
       have A0' := fun d' os' => cell_regrown a0 d' os'
       have A1' := fun d' os' => cell_regrown a1 d' os'
       have B0' := fun d' os' => cell_regrown b0 d' os'
       have B1' := fun d' os' => cell_regrown b1 d' os'
       have XA' := fun d' os' => cell_regrown xa5 d' os'
       have XB' := fun d' os' => cell_regrown xb5 d' os'
       clear a0 a1 b0 b1 xa5 xb5 ca0 cb0 ca1 cb1
       refine wp_region_quiet_below (by kernel_rfl) (by kernel_rfl) ?_
       repeat (any_goals (first | go_big_quiet_step ((with_reducible (first | exact CI1 _ _ | exact CI2 _ _))) | quiet_step ((with_reducible (first | exact CI1 _ _ | exact CI2 _ _)))))
       refine wpQuiet_nil ?_
       rintro _ ⟨⟨dq, osq⟩, rfl⟩
       have HB4 := Lib.hid (HBW.out.trans ((below_regrown wr dq osq).mono HBW.out.size))
       clear CI1 CI2 A0' A1' B0' B1' XA' XB'
       generalize grow (redrawn wr dq) osq = w4 at *
       go_wp2_with fail
       go_roundw
       case rel => exact ⟨k + 1, by omega, by go_num, HB4⟩
       case measure => simp [intOf]; omega
      ·obtain rfl : k = bs.length := by omega
       go_wp2_with fail
       go_ret
       exact ⟨rfl, hbw⟩
end Go.Proofs.YtokhibhmlninnaaGreatDoor

set_option linter.unusedVariables false
namespace Go.Proofs.YtokhibhmlninnaaGreatDoor
theorem map_inj {α β : Type} {f : α → β} (hf : ∀ x y, f x = f y → x = y) : ∀ {l m : List α}, l.map f = m.map f → l = m
 | [], [], _ => rfl
 | [], b :: m, h => by cases h
 | a :: l, [], h => by cases h
 | a :: l, b :: m, h => by
  rw [List.map_cons, List.map_cons] at h
  injection h with h1 h2
  rw [hf _ _ h1, map_inj hf h2]
theorem dOf_inj {per dl per' dl' : Int} {ps ps' : List PCod.S47} {es es' : List PCod.S63} {fs fs' : List PCod.S65} {bs bs' : List PCod.S50} (h : dOf per dl ps es fs bs = dOf per' dl' ps' es' fs' bs') : per = per' ∧ dl = dl' ∧ ps = ps' ∧ es = es' ∧ fs = fs' ∧ bs = bs' := by
 unfold dOf at h
 injection h with h1 h2 h3 h4 h5 h6
 refine ⟨h1, h2, map_inj ?_ h3, map_inj ?_ h4, map_inj ?_ h5, map_inj ?_ h6⟩
 ·rintro ⟨a, b, c⟩ ⟨a', b', c'⟩ e
  injection e with e1 e2; injection e2 with e2 e3
  dsimp only at e1 e2 e3
  rw [e1, e2, e3]
 ·rintro ⟨a, b⟩ ⟨a', b'⟩ e
  injection e with e1 e2
  dsimp only at e1 e2
  rw [e1, e2]
 ·rintro ⟨a, b, c⟩ ⟨a', b', c'⟩ e
  injection e with e1 e2; injection e2 with e2 e3
  dsimp only at e1 e2 e3
  rw [e1, e2, e3]
 ·rintro ⟨a, b⟩ ⟨a', b'⟩ e
  injection e with e1 e2
  dsimp only at e1 e2
  rw [e1, e2]
end Go.Proofs.YtokhibhmlninnaaGreatDoor
