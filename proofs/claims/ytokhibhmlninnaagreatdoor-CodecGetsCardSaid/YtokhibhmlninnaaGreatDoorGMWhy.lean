/- Texts of this work, put into one. -/
import Derived.Test.YtokhibhmlninnaaGreatDoorGMDec
import Derived.Test.YtokhibhmlninnaaGreatDoorGMEc
set_option linter.unusedVariables false
set_option linter.unusedSimpArgs false
namespace Go.Proofs.YtokhibhmlninnaaGreatDoor
open Go.RowKit Go.Proofs.YtokhibhmlninnaaGreatDoorW.PrintWords
def ErAt (w : World) : Prop := w.cell? ⟨0, 0, none⟩ = some (.iface 153 (.agg #[.pointer (some ⟨4, 59, none⟩)]))
theorem ErAt.below {w w' : World} (h : ErAt w) (hb : Below w.heap.size w w') : ErAt w' := by
 unfold ErAt at h ⊢
 rw [hb.cell (block_lt_of_cell h)]; exact h
theorem as_keeps {w : World} {g : Nat} {t : TypeId} {old v : Value} {a1 a2 a3 a4 : Obj} (hg : w.heap[g]? = some (.cells #[old] t (0, 0))) :
  KeepR g w (((((w.alloc a1).alloc a2).alloc a3).alloc a4).setCell ⟨g, 0, none⟩ v) ∧ (((((w.alloc a1).alloc a2).alloc a3).alloc a4).setCell ⟨g, 0, none⟩ v).heap[g]? = some (.cells #[v] t (0, 0)) := by
 have hb : Below w.heap.size w ((((w.alloc a1).alloc a2).alloc a3).alloc a4) := ((((Below.refl _ _).alloc (Nat.le_refl _) _).alloc (by simp) _).alloc (by simp; omega) _).alloc (by simp; omega) _
 exact ⟨(KeepR.of hb).trans (KeepR.set _ 0 v), blk_set (blk_below hg hb) 0 v⟩
theorem DM.below {w w' : World} {base R : Nat} {P : Option Addr} {cp : Nat} {ps : List PCod.S47} {E : Option Addr} {ce : Nat} {es : List PCod.S63} {F : Option Addr} {cf : Nat} {fs : List PCod.S65} {B : Option Addr} {cb : Nat} {bs : List PCod.S50} (h : DM w base R P cp ps E ce es F cf fs B cb bs) (hb : Below w.heap.size w w') : DM w' base R P cp ps E ce es F cf fs B cb bs := h.keep (KeepR.of hb)
theorem R_keepN {α : Type} {d : Kd α} {e R base g : Nat} {w w' : World} {v : Value} {xs : List α} (h : Kd.R d e w base (fun k => k ≠ R) v xs) (hk : KeepR g w w') {t : TypeId} {cs : Array Value} (hg : w.heap[g]? = some (.cells cs t (0, 0))) (ht : ∀ q, q ∈ e :: d.E → q ≠ t) : Kd.R d e w' base (fun k => k ≠ R) v xs :=
 Kd.R_mono (Kd.R_step (Kd.R_types h hg ht) (fun k ho hlt => hk.block k hlt ho.2)) (fun k hk => hk.1)
theorem DM.keepN {w w' : World} {base R g : Nat} {P : Option Addr} {cp : Nat} {ps : List PCod.S47} {E : Option Addr} {ce : Nat} {es : List PCod.S63} {F : Option Addr} {cf : Nat} {fs : List PCod.S65} {B : Option Addr} {cb : Nat} {bs : List PCod.S50} (h : DM w base R P cp ps E ce es F cf fs B cb bs) (hk : KeepR g w w') {t : TypeId} {cs : Array Value} (hg : w.heap[g]? = some (.cells cs t (0, 0)))
  (h1 : ∀ q, q ∈ 47 :: PCod.k47.E → q ≠ t) (h2 : ∀ q, q ∈ 63 :: PCod.k63.E → q ≠ t) (h3 : ∀ q, q ∈ 65 :: PCod.k65.E → q ≠ t) (h4 : ∀ q, q ∈ 50 :: PCod.k50.E → q ≠ t) : DM w' base R P cp ps E ce es F cf fs B cb bs :=
 ⟨R_keepN h.p hk hg h1, R_keepN h.e hk hg h2, R_keepN h.f hk hg h3, R_keepN h.b hk hg h4⟩
theorem DM.drew {w : World} {base R : Nat} {P : Option Addr} {cp : Nat} {ps : List PCod.S47} {E : Option Addr} {ce : Nat} {es : List PCod.S63} {F : Option Addr} {cf : Nat} {fs : List PCod.S65} {B : Option Addr} {cb : Nat} {bs : List PCod.S50} (h : DM w base R P cp ps E ce es F cf fs B cb bs) : DM w.drew base R P cp ps E ce es F cf fs B cb bs := h.below ⟨rfl, rfl, rfl, Nat.le_refl _, fun _ _ => rfl⟩
def DecodePost (s : ByteArray) (w : World) (e : Ending) (w' : World) : Prop := ∃ (per dl : Int) (P : Option Addr) (cp : Nat) (ps : List PCod.S47) (E : Option Addr) (ce : Nat) (es : List PCod.S63) (F : Option Addr) (cf : Nat) (fs : List PCod.S65) (B : Option Addr) (cb : Nat) (bs : List PCod.S50), e = .returned (.tuple #[.agg #[.int .i64 per, .int .i64 dl, .slice P ps.length cp, .slice E es.length ce, .slice F fs.length cf, .slice B bs.length cb], .int .i64 (decOf s).2.2.2]) ∧ dOf per dl ps es fs bs = (decOf s).1 ∧ (∃ R, DM w' w.heap.size R P cp ps E ce es F cf fs B cb bs) ∧ Below w.heap.size w w'
set_option maxRecDepth 100000 in
set_option maxHeartbeats 8000000 in
theorem Decode_any (s : ByteArray) (w : World) (hs : s.size ≤ 1000) (hd : DbAt w) (ht : TabAt w) (he : ErAt w) : Calls Tryz.prog 12 #[.string s] w (DecodePost s w) := by
 have C := Lib.hid (fun w1 h1 h2 => decode_any s w1 hs h1 h2)
 have HD := Lib.hid hd
 have HT := Lib.hid ht
 have HE := Lib.hid he
 clear hd ht he
 go_enter Tryz.func12, Tryz.ntmps12
 go_wp2_with fail
 refine (C.out _ (HD.out.below (below_alloc' _ _)) (HT.out.below (below_alloc' _ _))).mono ?_
 rintro e w1 ⟨per, dl, P, cp, ps, E, ce, es, F, cf, fs, B, cb, bs, ev, rfl, hdof, ⟨R, hdm⟩, hwr, hb1⟩
 have HDOF := Lib.hid hdof
 have hsz : w.heap.size < (w.alloc (.cells #[.int .i64 0, .int .i64 0, .slice none 0 0, .slice none 0 0, .slice none 0 0, .slice none 0 0] 27)).heap.size := by simp
 obtain ⟨base, hbase⟩ : ∃ x, x = (w.alloc (.cells #[.int .i64 0, .int .i64 0, .slice none 0 0, .slice none 0 0, .slice none 0 0, .slice none 0 0] 27)).heap.size := ⟨_, rfl⟩
 rw [← hbase] at hdm hsz
 have HBS := Lib.hid hsz
 have HZ1 := Lib.hid (blk_below (blk_new w (.cells #[.int .i64 0, .int .i64 0, .slice none 0 0, .slice none 0 0, .slice none 0 0, .slice none 0 0] 27)) hb1)
 have HB1 := Lib.hid ((below_alloc' w (.cells #[.int .i64 0, .int .i64 0, .slice none 0 0, .slice none 0 0, .slice none 0 0, .slice none 0 0] 27)).trans (hb1.mono (by simp)))
 have HDM1 := Lib.hid hdm
 have HWR1 := Lib.hid hwr
 clear hdof hdm hwr hb1 hbase hsz
 obtain ⟨q, hq⟩ : ∃ q, decOf s = q := ⟨_, rfl⟩
 rw [hq] at HDOF HWR1
 obtain ⟨d, qa, qb, qe⟩ := q
 have HQ := Lib.hid hq
 clear hq
 have HL1 : Hid (w.heap.size < w1.heap.size) := blk_lt HZ1.out
 have HB3 : Hid (Below w1.heap.size w1 ((w1.alloc (.cells #[.int .i64 per, .int .i64 dl, .slice P ps.length cp, .slice E es.length ce, .slice F fs.length cf, .slice B bs.length cb] 27)).alloc (.cells #[.int .i64 0] 30))) := ((Below.refl _ _).alloc (Nat.le_refl _) _).alloc (by simp) _
 have HX3 : Hid (((w1.alloc (.cells #[.int .i64 per, .int .i64 dl, .slice P ps.length cp, .slice E es.length ce, .slice F fs.length cf, .slice B bs.length cb] 27)).alloc (.cells #[.int .i64 0] 30)).heap[w1.heap.size]? = some (.cells #[.int .i64 per, .int .i64 dl, .slice P ps.length cp, .slice E es.length ce, .slice F fs.length cf, .slice B bs.length cb] 27)) := blk_alloc (blk_new _ _) _
 have HE3 : Hid (((w1.alloc (.cells #[.int .i64 per, .int .i64 dl, .slice P ps.length cp, .slice E es.length ce, .slice F fs.length cf, .slice B bs.length cb] 27)).alloc (.cells #[.int .i64 0] 30)).heap[w1.heap.size + 1]? = some (.cells #[.int .i64 0] 30 (0, 0))) := by have := blk_new (w1.alloc (.cells #[.int .i64 per, .int .i64 dl, .slice P ps.length cp, .slice E es.length ce, .slice F fs.length cf, .slice B bs.length cb] 27)) (.cells #[.int .i64 0] 30); rwa [World.size_alloc] at this
 go_upto_region 3 with fail
 generalize (w1.alloc (.cells #[.int .i64 per, .int .i64 dl, .slice P ps.length cp, .slice E es.length ce, .slice F fs.length cf, .slice B bs.length cb] 27)).alloc (.cells #[.int .i64 0] 30) = w3 at *
 have HZ3 := Lib.hid (blk_below HZ1.out HB3.out)
 have HDM3 := Lib.hid (HDM1.out.below HB3.out)
 have HWR3 := Lib.hid (HWR1.out.below HB3.out)
 have HBW3 := Lib.hid (HB1.out.trans (HB3.out.mono HB1.out.size))
 obtain ⟨ge, hge⟩ : ∃ x, x = w1.heap.size + 1 := ⟨_, rfl⟩
 rw [← hge] at HE3
 have HGE : Hid (w.heap.size < ge ∧ w1.heap.size < ge) := ⟨by have := HL1.out; omega, by omega⟩
 try rw [← hge]
 clear hge HZ1 HDM1 HWR1 HB1 HB3
 by_cases hq : qe = 0
 ·have hev : ev = .nilIface := by have := HWR3.out; unfold WrongAt at this; rw [if_pos hq] at this; exact this
  subst hev hq
  go_wp2_with fail
  refine (CodAs.as_nil _ _).mono ?_
  rintro e w4 ⟨rfl, hw4⟩
  rw [hw4]
  clear hw4
  have y0 : w3.cell? ⟨w1.heap.size, 0, none⟩ = some (.int .i64 per) := (blk_cell HX3.out 0).trans rfl
  have y1 : w3.cell? ⟨w1.heap.size, 1, none⟩ = some (.int .i64 dl) := (blk_cell HX3.out 1).trans rfl
  have y2 : w3.cell? ⟨w1.heap.size, 2, none⟩ = some (.slice P ps.length cp) := (blk_cell HX3.out 2).trans rfl
  have y3 : w3.cell? ⟨w1.heap.size, 3, none⟩ = some (.slice E es.length ce) := (blk_cell HX3.out 3).trans rfl
  have y4 : w3.cell? ⟨w1.heap.size, 4, none⟩ = some (.slice F fs.length cf) := (blk_cell HX3.out 4).trans rfl
  have y5 : w3.cell? ⟨w1.heap.size, 5, none⟩ = some (.slice B bs.length cb) := (blk_cell HX3.out 5).trans rfl
  have z0 : w3.cell? ⟨w.heap.size, 0, none⟩ = some (.int .i64 0) := (blk_cell HZ3.out 0).trans rfl
  have z1 : w3.cell? ⟨w.heap.size, 1, none⟩ = some (.int .i64 0) := (blk_cell HZ3.out 1).trans rfl
  have z2 : w3.cell? ⟨w.heap.size, 2, none⟩ = some (.slice none 0 0) := (blk_cell HZ3.out 2).trans rfl
  have z3 : w3.cell? ⟨w.heap.size, 3, none⟩ = some (.slice none 0 0) := (blk_cell HZ3.out 3).trans rfl
  have z4 : w3.cell? ⟨w.heap.size, 4, none⟩ = some (.slice none 0 0) := (blk_cell HZ3.out 4).trans rfl
  have z5 : w3.cell? ⟨w.heap.size, 5, none⟩ = some (.slice none 0 0) := (blk_cell HZ3.out 5).trans rfl
  have e0 : w3.cell? ⟨ge, 0, none⟩ = some (.int .i64 0) := (blk_cell HE3.out 0).trans rfl
  have fr : ∀ i, w3.frozen? ⟨w.heap.size, i, none⟩ = false := fun i => blk_frozen HZ3.out i
  have hn1 : w1.heap.size ≠ w.heap.size := by have := HL1.out; omega
  have hn2 : w.heap.size ≠ w1.heap.size := by have := HL1.out; omega
  have hn3 : ge ≠ w.heap.size := by have := HGE.out.1; omega
  have hn4 : w.heap.size ≠ ge := by have := HGE.out.1; omega
  go_wp2_with fail
  go_region
  all_goals (go_wp2_with fail)
  all_goals (
   have z0' := HZ3.out
   have m0 := HDM3.out
   have z1' := blk_set z0' 0 (.int .i64 per)
   have m1 := m0.old (g := w.heap.size) HBS.out 0 (.int .i64 per)
   have z2' := blk_set z1' 1 (.int .i64 dl)
   have m2 := m1.old (g := w.heap.size) HBS.out 1 (.int .i64 dl)
   have z3' := blk_set z2' 2 (.slice P ps.length cp)
   have m3 := m2.old (g := w.heap.size) HBS.out 2 (.slice P ps.length cp)
   have z4' := blk_set z3' 3 (.slice E es.length ce)
   have m4 := m3.old (g := w.heap.size) HBS.out 3 (.slice E es.length ce)
   have z5' := blk_set z4' 4 (.slice F fs.length cf)
   have m5 := m4.old (g := w.heap.size) HBS.out 4 (.slice F fs.length cf)
   have z6' := blk_set z5' 5 (.slice B bs.length cb)
   have m6 := m5.old (g := w.heap.size) HBS.out 5 (.slice B bs.length cb)
   have z6d := drew_blk z6'
   have m6d := m6.drew
   refine bodyPost_ret (results_ct rfl _ _ w.heap.size 27 #[.int .i64 per, .int .i64 dl, .slice P ps.length cp, .slice E es.length ce, .slice F fs.length cf, .slice B bs.length cb] (0, 0) _ rfl z6d Tryz.underlying27 rfl (by kernel_rfl)) rfl ?_
   exact ⟨per, dl, P, cp, ps, E, ce, es, F, cf, fs, B, cb, bs, by rw [HQ.out]; rfl, by rw [HQ.out]; exact HDOF.out, ⟨R, m6d.lower (Nat.le_of_lt HBS.out)⟩, ((((((HBW3.out.setCell (p := ⟨w.heap.size, 0, none⟩) (Nat.le_refl _) (.int .i64 per)).setCell (p := ⟨w.heap.size, 1, none⟩) (Nat.le_refl _) (.int .i64 dl)).setCell (p := ⟨w.heap.size, 2, none⟩) (Nat.le_refl _) (.slice P ps.length cp)).setCell (p := ⟨w.heap.size, 3, none⟩) (Nat.le_refl _) (.slice E es.length ce)).setCell (p := ⟨w.heap.size, 4, none⟩) (Nat.le_refl _) (.slice F fs.length cf)).setCell (p := ⟨w.heap.size, 5, none⟩) (Nat.le_refl _) (.slice B bs.length cb)).drew⟩)
 ·obtain ⟨k, rfl, hk⟩ : ∃ k, ev = .iface 81 (.pointer (some ⟨k, 0, none⟩)) ∧ w3.heap[k]? = some (.cells #[.int .i64 qa, .int .i64 qb, .iface 30 (.int .i64 qe)] 85 (0, 0)) := by have := HWR3.out; unfold WrongAt at this; rw [if_neg hq] at this; exact this
  have HK := Lib.hid hk
  clear hk hq
  go_wp2_with fail
  refine (CodAs.as_errno k ⟨ge, 0, none⟩ qe (.int .i64 0) w3 (HE.out.below HBW3.out) ((blk_cell HK.out 2).trans rfl) ((blk_cell HE3.out 0).trans rfl) (blk_frozen HE3.out 0)).mono ?_
  rintro e w4 ⟨rfl, hw4⟩
  have hkk := as_keeps (v := .int .i64 qe) HE3.out (a1 := .cells #[.pointer (some ⟨ge, 0, none⟩)] 75) (a2 := .cells #[.pointer (some ⟨4, 75, none⟩), .pointer (some ⟨w3.heap.size, 0, none⟩), .int .u64 150] 121) (a3 := .cells #[.pointer (some ⟨4, 75, none⟩), .pointer (some ⟨w3.heap.size, 0, none⟩), .int .u64 150] 121) (a4 := .cells #[.int .i64 qe] 30)
  rw [← hw4] at hkk
  clear hw4
  have HKE := Lib.hid hkk.1
  have HE4 := Lib.hid hkk.2
  have HZ4 := Lib.hid (HKE.out.blk HZ3.out (by have := HGE.out.1; omega))
  have HX4 := Lib.hid (HKE.out.blk HX3.out (by have := HGE.out.2; omega))
  have HDM4 := Lib.hid (HDM3.out.keepN HKE.out HE3.out (by decide) (by decide) (by decide) (by decide))
  have HBW4 := Lib.hid (HBW3.out.trans (HKE.out.below (B := w.heap.size) (by have := HGE.out.1; omega) HBW3.out.size))
  clear hkk HKE HE3 HZ3 HX3 HDM3 HBW3 HWR3 HK
  have y0 : w4.cell? ⟨w1.heap.size, 0, none⟩ = some (.int .i64 per) := (blk_cell HX4.out 0).trans rfl
  have y1 : w4.cell? ⟨w1.heap.size, 1, none⟩ = some (.int .i64 dl) := (blk_cell HX4.out 1).trans rfl
  have y2 : w4.cell? ⟨w1.heap.size, 2, none⟩ = some (.slice P ps.length cp) := (blk_cell HX4.out 2).trans rfl
  have y3 : w4.cell? ⟨w1.heap.size, 3, none⟩ = some (.slice E es.length ce) := (blk_cell HX4.out 3).trans rfl
  have y4 : w4.cell? ⟨w1.heap.size, 4, none⟩ = some (.slice F fs.length cf) := (blk_cell HX4.out 4).trans rfl
  have y5 : w4.cell? ⟨w1.heap.size, 5, none⟩ = some (.slice B bs.length cb) := (blk_cell HX4.out 5).trans rfl
  have z0 : w4.cell? ⟨w.heap.size, 0, none⟩ = some (.int .i64 0) := (blk_cell HZ4.out 0).trans rfl
  have z1 : w4.cell? ⟨w.heap.size, 1, none⟩ = some (.int .i64 0) := (blk_cell HZ4.out 1).trans rfl
  have z2 : w4.cell? ⟨w.heap.size, 2, none⟩ = some (.slice none 0 0) := (blk_cell HZ4.out 2).trans rfl
  have z3 : w4.cell? ⟨w.heap.size, 3, none⟩ = some (.slice none 0 0) := (blk_cell HZ4.out 3).trans rfl
  have z4 : w4.cell? ⟨w.heap.size, 4, none⟩ = some (.slice none 0 0) := (blk_cell HZ4.out 4).trans rfl
  have z5 : w4.cell? ⟨w.heap.size, 5, none⟩ = some (.slice none 0 0) := (blk_cell HZ4.out 5).trans rfl
  have e0 : w4.cell? ⟨ge, 0, none⟩ = some (.int .i64 qe) := (blk_cell HE4.out 0).trans rfl
  have fr : ∀ i, w4.frozen? ⟨w.heap.size, i, none⟩ = false := fun i => blk_frozen HZ4.out i
  have hn1 : w1.heap.size ≠ w.heap.size := by have := HL1.out; omega
  have hn2 : w.heap.size ≠ w1.heap.size := by have := HL1.out; omega
  have hn3 : ge ≠ w.heap.size := by have := HGE.out.1; omega
  have hn4 : w.heap.size ≠ ge := by have := HGE.out.1; omega
  go_wp2_with fail
  go_region
  all_goals (go_wp2_with fail)
  all_goals (
   have z0' := HZ4.out
   have m0 := HDM4.out
   have z1' := blk_set z0' 0 (.int .i64 per)
   have m1 := m0.old (g := w.heap.size) HBS.out 0 (.int .i64 per)
   have z2' := blk_set z1' 1 (.int .i64 dl)
   have m2 := m1.old (g := w.heap.size) HBS.out 1 (.int .i64 dl)
   have z3' := blk_set z2' 2 (.slice P ps.length cp)
   have m3 := m2.old (g := w.heap.size) HBS.out 2 (.slice P ps.length cp)
   have z4' := blk_set z3' 3 (.slice E es.length ce)
   have m4 := m3.old (g := w.heap.size) HBS.out 3 (.slice E es.length ce)
   have z5' := blk_set z4' 4 (.slice F fs.length cf)
   have m5 := m4.old (g := w.heap.size) HBS.out 4 (.slice F fs.length cf)
   have z6' := blk_set z5' 5 (.slice B bs.length cb)
   have m6 := m5.old (g := w.heap.size) HBS.out 5 (.slice B bs.length cb)
   have z6d := drew_blk z6'
   have m6d := m6.drew
   refine bodyPost_ret (results_ct rfl _ _ w.heap.size 27 #[.int .i64 per, .int .i64 dl, .slice P ps.length cp, .slice E es.length ce, .slice F fs.length cf, .slice B bs.length cb] (0, 0) _ rfl z6d Tryz.underlying27 rfl (by kernel_rfl)) rfl ?_
   exact ⟨per, dl, P, cp, ps, E, ce, es, F, cf, fs, B, cb, bs, by rw [HQ.out]; rfl, by rw [HQ.out]; exact HDOF.out, ⟨R, m6d.lower (Nat.le_of_lt HBS.out)⟩, ((((((HBW4.out.setCell (p := ⟨w.heap.size, 0, none⟩) (Nat.le_refl _) (.int .i64 per)).setCell (p := ⟨w.heap.size, 1, none⟩) (Nat.le_refl _) (.int .i64 dl)).setCell (p := ⟨w.heap.size, 2, none⟩) (Nat.le_refl _) (.slice P ps.length cp)).setCell (p := ⟨w.heap.size, 3, none⟩) (Nat.le_refl _) (.slice E es.length ce)).setCell (p := ⟨w.heap.size, 4, none⟩) (Nat.le_refl _) (.slice F fs.length cf)).setCell (p := ⟨w.heap.size, 5, none⟩) (Nat.le_refl _) (.slice B bs.length cb)).drew⟩)
end Go.Proofs.YtokhibhmlninnaaGreatDoor
namespace CodPlain
theorem check_few (d : D) : checkD d = 0 ∨ (50 ≤ checkD d ∧ checkD d ≤ 55) := by
 unfold checkD
 split
 ·right; constructor <;> decide
 ·split
  ·right; constructor <;> decide
  ·split
   ·right; constructor <;> decide
   ·split
    ·right; constructor <;> decide
    ·split
     ·right; constructor <;> decide
     ·split
      ·right; constructor <;> decide
      ·exact .inl rfl
theorem decR_none {s b : ByteArray} {ok : Bool} (h : (decR s b ok).2.2.2 = 0) : (decR s b ok).2.1 = 0 ∧ (decR s b ok).2.2.1 = 0 := by
 revert h
 unfold decR
 dsimp only
 split
 ·intro h; cases h
 ·split
  ·intro h; cases h
  ·split
   ·intro h; cases h
   ·split
    ·intro h; cases h
    ·split
     ·intro h; cases h
     ·split
      ·intro h; cases h
      ·split
       ·rename_i h7; intro h; exact absurd h h7
       ·intro _; exact ⟨rfl, rfl⟩
theorem decR_short {s b : ByteArray} {ok : Bool} (h : (decR s b ok).2.2.2 = 60) : (decR s b ok).2.1 = 0 ∧ (decR s b ok).2.2.1 = s.size := by
 revert h
 unfold decR
 dsimp only
 split
 ·intro _; exact ⟨rfl, rfl⟩
 ·split
  ·intro h; cases h
  ·split
   ·intro h; cases h
   ·split
    ·intro h; cases h
    ·split
     ·intro h; cases h
     ·split
      ·intro h; cases h
      ·split
       ·intro h
        have := check_few (bodyS b (5, false)).1
        dsimp only at h
        omega
       ·intro h; cases h
end CodPlain
namespace Go.Proofs.YtokhibhmlninnaaGreatDoor
open Go.RowKit Go.Proofs.YtokhibhmlninnaaGreatDoorW.PrintWords
def WhyPost (s : ByteArray) (w : World) (e : Ending) (w' : World) : Prop := e = .returned (.tuple #[.agg #[.int .i64 (decOf s).2.1, .int .i64 (decOf s).2.2.1], .int .i64 (decOf s).2.2.2, .bool (decide ((decOf s).2.2.2 ≠ 0))]) ∧ Below w.heap.size w w'
set_option maxRecDepth 100000 in
set_option maxHeartbeats 8000000 in
theorem Why_any (s : ByteArray) (w : World) (hs : s.size ≤ 1000) (hd : DbAt w) (ht : TabAt w) (he : ErAt w) : Calls Tryz.prog 14 #[.string s] w (WhyPost s w) := by
 have C := Lib.hid (fun w1 h1 h2 => decode_any s w1 hs h1 h2)
 have HD := Lib.hid hd
 have HT := Lib.hid ht
 have HE := Lib.hid he
 clear hd ht he
 go_enter Tryz.func14, Tryz.ntmps14
 go_wp2_with fail
 refine (C.out _ (HD.out.below (below_alloc' _ _)) (HT.out.below (below_alloc' _ _))).mono ?_
 rintro e w1 ⟨per, dl, P, cp, ps, E, ce, es, F, cf, fs, B, cb, bs, ev, rfl, -, -, hwr, hb1⟩
 have HZ1 := Lib.hid (blk_below (blk_new w (.cells #[.int .i64 0, .int .i64 0] 37)) hb1)
 have HB1 := Lib.hid ((below_alloc' w (.cells #[.int .i64 0, .int .i64 0] 37)).trans (hb1.mono (by simp)))
 have HWR1 := Lib.hid hwr
 clear hwr hb1
 have HN : Hid ((decOf s).2.2.2 = 0 → (decOf s).2.1 = 0 ∧ (decOf s).2.2.1 = 0) := fun h => CodPlain.decR_none h
 have HSH : Hid ((decOf s).2.2.2 = 60 → (decOf s).2.1 = 0 ∧ (decOf s).2.2.1 = s.size) := fun h => CodPlain.decR_short h
 obtain ⟨q, hq⟩ : ∃ q, decOf s = q := ⟨_, rfl⟩
 rw [hq] at HWR1 HN HSH
 obtain ⟨d, qa, qb, qe⟩ := q
 have HQ := Lib.hid hq
 clear hq
 have HL1 : Hid (w.heap.size < w1.heap.size) := blk_lt HZ1.out
 have HB3 : Hid (Below w1.heap.size w1 ((w1.alloc (.cells #[.int .i64 per, .int .i64 dl, .slice P ps.length cp, .slice E es.length ce, .slice F fs.length cf, .slice B bs.length cb] 27)).alloc (.cells #[.pointer none] 81))) := ((Below.refl _ _).alloc (Nat.le_refl _) _).alloc (by simp) _
 have HV3 : Hid (((w1.alloc (.cells #[.int .i64 per, .int .i64 dl, .slice P ps.length cp, .slice E es.length ce, .slice F fs.length cf, .slice B bs.length cb] 27)).alloc (.cells #[.pointer none] 81)).heap[w1.heap.size + 1]? = some (.cells #[.pointer none] 81 (0, 0))) := by have := blk_new (w1.alloc (.cells #[.int .i64 per, .int .i64 dl, .slice P ps.length cp, .slice E es.length ce, .slice F fs.length cf, .slice B bs.length cb] 27)) (.cells #[.pointer none] 81); rwa [World.size_alloc] at this
 go_upto_region 3 with fail
 generalize (w1.alloc (.cells #[.int .i64 per, .int .i64 dl, .slice P ps.length cp, .slice E es.length ce, .slice F fs.length cf, .slice B bs.length cb] 27)).alloc (.cells #[.pointer none] 81) = w3 at *
 have HZ3 := Lib.hid (blk_below HZ1.out HB3.out)
 have HWR3 := Lib.hid (HWR1.out.below HB3.out)
 have HBW3 := Lib.hid (HB1.out.trans (HB3.out.mono HB1.out.size))
 obtain ⟨gw, hgw⟩ : ∃ x, x = w1.heap.size + 1 := ⟨_, rfl⟩
 rw [← hgw] at HV3
 have HGW : Hid (w.heap.size < gw) := by show _ < _; have := HL1.out; omega
 try rw [← hgw]
 clear hgw HZ1 HWR1 HB1 HB3 HL1
 by_cases hq : qe = 0
 ·have hev : ev = .nilIface := by have := HWR3.out; unfold WrongAt at this; rw [if_pos hq] at this; exact this
  have HD : Hid (decOf s = (d, 0, 0, 0)) := by show _ = _; rw [HQ.out, (HN.out hq).1, (HN.out hq).2, hq]
  subst hev hq
  clear HQ HN HSH
  go_wp2_with fail
  refine (CodAs.as_nil _ _).mono ?_
  rintro e w4 ⟨rfl, hw4⟩
  rw [hw4]
  clear hw4
  have z0 : w3.cell? ⟨w.heap.size, 0, none⟩ = some (.int .i64 0) := (blk_cell HZ3.out 0).trans rfl
  have z1 : w3.cell? ⟨w.heap.size, 1, none⟩ = some (.int .i64 0) := (blk_cell HZ3.out 1).trans rfl
  have fr : ∀ i, w3.frozen? ⟨w.heap.size, i, none⟩ = false := fun i => blk_frozen HZ3.out i
  go_wp2_with fail
  have z1' := blk_set (blk_set HZ3.out 0 (.int .i64 0)) 1 (.int .i64 0)
  refine bodyPost_ret (results_ctt rfl _ _ w.heap.size 37 #[.int .i64 0, .int .i64 0] (0, 0) _ rfl z1' Tryz.underlying37 rfl (by kernel_rfl)) rfl ?_
  exact ⟨by rw [HD.out]; rfl, (HBW3.out.setCell (p := ⟨w.heap.size, 0, none⟩) (Nat.le_refl _) _).setCell (p := ⟨w.heap.size, 1, none⟩) (Nat.le_refl _) _⟩
 ·obtain ⟨k, rfl, hk⟩ : ∃ k, ev = .iface 81 (.pointer (some ⟨k, 0, none⟩)) ∧ w3.heap[k]? = some (.cells #[.int .i64 qa, .int .i64 qb, .iface 30 (.int .i64 qe)] 85 (0, 0)) := by have := HWR3.out; unfold WrongAt at this; rw [if_neg hq] at this; exact this
  have HK := Lib.hid hk
  have hdec : decide (qe ≠ 0) = true := decide_eq_true hq
  have HDEC := Lib.hid hdec
  clear hk hq hdec
  go_wp2_with fail
  refine (CodAs.as_wrong ⟨k, 0, none⟩ ⟨gw, 0, none⟩ (.pointer none) w3 (HE.out.below HBW3.out) ((blk_cell HV3.out 0).trans rfl) (blk_frozen HV3.out 0)).mono ?_
  rintro e w4 ⟨rfl, hw4⟩
  have hkk := as_keeps (v := .pointer (some ⟨k, 0, none⟩)) HV3.out (a1 := .cells #[.pointer (some ⟨gw, 0, none⟩)] 82) (a2 := .cells #[.pointer (some ⟨4, 82, none⟩), .pointer (some ⟨w3.heap.size, 0, none⟩), .int .u64 150] 121) (a3 := .cells #[.pointer (some ⟨4, 82, none⟩), .pointer (some ⟨w3.heap.size, 0, none⟩), .int .u64 150] 121) (a4 := .cells #[.pointer (some ⟨k, 0, none⟩)] 81)
  rw [← hw4] at hkk
  clear hw4
  have HKE := Lib.hid hkk.1
  have HV4 := Lib.hid hkk.2
  have HZ4 := Lib.hid (HKE.out.blk HZ3.out (by have := HGW.out; omega))
  have HK4 := Lib.hid (HKE.out.blk HK.out (blk_ne HK.out HV3.out (by decide)))
  have HBW4 := Lib.hid (HBW3.out.trans (HKE.out.below (B := w.heap.size) (by have := HGW.out; omega) HBW3.out.size))
  clear hkk HKE HV3 HZ3 HBW3 HWR3 HK
  by_cases h60 : qe = 60
  ·have HD : Hid (decOf s = (d, 0, (s.size : Int), 60)) := by show _ = _; rw [HQ.out, (HSH.out h60).1, (HSH.out h60).2, h60]
   go_wp2_with fail
   refine (CodAs.is_yes k qe 60 w4 ((blk_cell HK4.out 2).trans rfl) h60).mono ?_
   rintro e w5 ⟨rfl, hw5⟩
   rw [hw5]
   clear hw5 h60 HSH HN
   have z0 : w4.cell? ⟨w.heap.size, 0, none⟩ = some (.int .i64 0) := (blk_cell HZ4.out 0).trans rfl
   have z1 : w4.cell? ⟨w.heap.size, 1, none⟩ = some (.int .i64 0) := (blk_cell HZ4.out 1).trans rfl
   have fr : ∀ i, w4.frozen? ⟨w.heap.size, i, none⟩ = false := fun i => blk_frozen HZ4.out i
   go_wp2_with fail
   have z1' := blk_set (blk_set HZ4.out 0 (.int .i64 0)) 1 (.int .i64 s.size)
   refine bodyPost_ret (results_ctt rfl _ _ w.heap.size 37 #[.int .i64 0, .int .i64 s.size] (0, 0) _ rfl z1' Tryz.underlying37 rfl (by kernel_rfl)) rfl ?_
   exact ⟨by rw [HD.out]; rfl, (HBW4.out.setCell (p := ⟨w.heap.size, 0, none⟩) (Nat.le_refl _) _).setCell (p := ⟨w.heap.size, 1, none⟩) (Nat.le_refl _) _⟩
  ·go_wp2_with fail
   refine (CodAs.is_no k qe 60 w4 ((blk_cell HK4.out 2).trans rfl) h60).mono ?_
   rintro e w5 ⟨rfl, hw5⟩
   rw [hw5]
   clear hw5 h60 HSH HN
   have HE5 := Lib.hid (blk_new w4 (.cells #[.int .i64 0] 30))
   have HZ5 := Lib.hid (blk_alloc HZ4.out (.cells #[.int .i64 0] 30))
   have HK5 := Lib.hid (blk_alloc HK4.out (.cells #[.int .i64 0] 30))
   have HV5 := Lib.hid (blk_alloc HV4.out (.cells #[.int .i64 0] 30))
   have HBW5 := Lib.hid (HBW4.out.trans ((below_alloc' w4 (.cells #[.int .i64 0] 30)).mono HBW4.out.size))
   have HNE : Hid (w.heap.size < w4.heap.size ∧ gw < w4.heap.size ∧ k < w4.heap.size) := ⟨blk_lt HZ4.out, blk_lt HV4.out, blk_lt HK4.out⟩
   clear HZ4 HK4 HV4 HBW4
   go_upto_region 8 with fail
   generalize w4.alloc (.cells #[.int .i64 0] 30) = w5 at *
   obtain ⟨ge, hge⟩ : ∃ x, x = w4.heap.size := ⟨_, rfl⟩
   rw [← hge] at HE5 HNE
   try rw [← hge]
   clear hge
   go_wp2_with fail
   refine (CodAs.as_errno k ⟨ge, 0, none⟩ qe (.int .i64 0) w5 (HE.out.below HBW5.out) ((blk_cell HK5.out 2).trans rfl) ((blk_cell HE5.out 0).trans rfl) (blk_frozen HE5.out 0)).mono ?_
   rintro e w6 ⟨rfl, hw6⟩
   have hkk := as_keeps (v := .int .i64 qe) HE5.out (a1 := .cells #[.pointer (some ⟨ge, 0, none⟩)] 75) (a2 := .cells #[.pointer (some ⟨4, 75, none⟩), .pointer (some ⟨w5.heap.size, 0, none⟩), .int .u64 150] 121) (a3 := .cells #[.pointer (some ⟨4, 75, none⟩), .pointer (some ⟨w5.heap.size, 0, none⟩), .int .u64 150] 121) (a4 := .cells #[.int .i64 qe] 30)
   rw [← hw6] at hkk
   clear hw6
   have HKE := Lib.hid hkk.1
   have HE6 := Lib.hid hkk.2
   have HZ6 := Lib.hid (HKE.out.blk HZ5.out (by have := HNE.out.1; omega))
   have HV6 := Lib.hid (HKE.out.blk HV5.out (by have := HNE.out.2.1; omega))
   have HK6 := Lib.hid (HKE.out.blk HK5.out (by have := HNE.out.2.2; omega))
   have HBW6 := Lib.hid (HBW5.out.trans (HKE.out.below (B := w.heap.size) (by have := HNE.out.1; omega) HBW5.out.size))
   clear hkk HKE HE5 HZ5 HV5 HK5 HBW5
   have z0 : w6.cell? ⟨w.heap.size, 0, none⟩ = some (.int .i64 0) := (blk_cell HZ6.out 0).trans rfl
   have z1 : w6.cell? ⟨w.heap.size, 1, none⟩ = some (.int .i64 0) := (blk_cell HZ6.out 1).trans rfl
   have fr : ∀ i, w6.frozen? ⟨w.heap.size, i, none⟩ = false := fun i => blk_frozen HZ6.out i
   have e0 : w6.cell? ⟨ge, 0, none⟩ = some (.int .i64 qe) := (blk_cell HE6.out 0).trans rfl
   have v0 : w6.cell? ⟨gw, 0, none⟩ = some (.pointer (some ⟨k, 0, none⟩)) := (blk_cell HV6.out 0).trans rfl
   have k0 : w6.cell? ⟨k, 0, none⟩ = some (.int .i64 qa) := (blk_cell HK6.out 0).trans rfl
   have k1 : w6.cell? ⟨k, 1, none⟩ = some (.int .i64 qb) := (blk_cell HK6.out 1).trans rfl
   have n1 : ge ≠ w.heap.size := by have := HNE.out.1; omega
   have n2 : gw ≠ w.heap.size := by have := HGW.out; omega
   have n3 : k ≠ w.heap.size := blk_ne HK6.out HZ6.out (by decide)
   have n1' := n1.symm
   have n2' := n2.symm
   have n3' := n3.symm
   go_wp2_with fail
   go_region
   all_goals (go_wp2_with fail)
   all_goals (
    have z1' := drew_blk (blk_set (blk_set HZ6.out 0 (.int .i64 qa)) 1 (.int .i64 qb))
    refine bodyPost_ret (results_ctt rfl _ _ w.heap.size 37 #[.int .i64 qa, .int .i64 qb] (0, 0) _ rfl z1' Tryz.underlying37 rfl (by kernel_rfl)) rfl ?_
    exact ⟨by rw [HQ.out]; show _ = Ending.returned (.tuple #[_, _, .bool (decide (qe ≠ 0))]); rw [HDEC.out]; rfl, ((HBW6.out.setCell (p := ⟨w.heap.size, 0, none⟩) (Nat.le_refl _) _).setCell (p := ⟨w.heap.size, 1, none⟩) (Nat.le_refl _) _).drew⟩)
end Go.Proofs.YtokhibhmlninnaaGreatDoor
