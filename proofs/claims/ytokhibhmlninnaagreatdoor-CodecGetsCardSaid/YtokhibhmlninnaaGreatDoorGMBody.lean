/- Texts of this work, put into one. -/
import Derived.Test.YtokhibhmlninnaaGreatDoorGMBarR
import Derived.Deep.RegionHeld3
set_option linter.unusedVariables false
set_option linter.unusedSimpArgs false
namespace Go.Proofs.YtokhibhmlninnaaGreatDoor
open Go.RowKit Go.Proofs.YtokhibhmlninnaaGreatDoorW.PrintWords
structure DM (w : World) (base R : Nat) (P : Option Addr) (cp : Nat) (ps : List PCod.S47) (E : Option Addr) (ce : Nat) (es : List PCod.S63) (F : Option Addr) (cf : Nat) (fs : List PCod.S65) (B : Option Addr) (cb : Nat) (bs : List PCod.S50) : Prop where
 p : Kd.R PCod.k47 47 w base (fun k => k ≠ R) (.slice P ps.length cp) ps
 e : Kd.R PCod.k63 63 w base (fun k => k ≠ R) (.slice E es.length ce) es
 f : Kd.R PCod.k65 65 w base (fun k => k ≠ R) (.slice F fs.length cf) fs
 b : Kd.R PCod.k50 50 w base (fun k => k ≠ R) (.slice B bs.length cb) bs
section
variable {w w' : World} {base R : Nat} {P : Option Addr} {cp : Nat} {ps : List PCod.S47} {E : Option Addr} {ce : Nat} {es : List PCod.S63} {F : Option Addr} {cf : Nat} {fs : List PCod.S65} {B : Option Addr} {cb : Nat} {bs : List PCod.S50}
theorem DM.keep (h : DM w base R P cp ps E ce es F cf fs B cb bs) (hk : KeepR R w w') : DM w' base R P cp ps E ce es F cf fs B cb bs := ⟨R_keepR h.p hk, R_keepR h.e hk, R_keepR h.f hk, R_keepR h.b hk⟩
theorem DM.old (h : DM w base R P cp ps E ce es F cf fs B cb bs) {g : Nat} (hg : g < base) (i : Nat) (u : Value) : DM (w.setCell ⟨g, i, none⟩ u) base R P cp ps E ce es F cf fs B cb bs := ⟨R_old h.p hg i u, R_old h.e hg i u, R_old h.f hg i u, R_old h.b hg i u⟩
theorem DM.dr (h : DM w base R P cp ps E ce es F cf fs B cb bs) : DR w P cp ps E ce es F cf fs B cb bs := by
 obtain ⟨-, p1, p2⟩ := Kd.R_reads' h.p
 obtain ⟨-, e1, e2⟩ := Kd.R_reads' h.e
 obtain ⟨-, f1, f2⟩ := Kd.R_reads' h.f
 obtain ⟨-, b1, b2⟩ := Kd.R_reads' h.b
 exact ⟨p2, p1, e2, e1, f2, f1, b2, b1⟩
end
def BodyPost (R : Nat) (s : ByteArray) (st : CodPlain.St) (w : World) (e : Ending) (w' : World) : Prop := ∃ (per dl : Int) (P : Option Addr) (cp : Nat) (ps : List PCod.S47) (E : Option Addr) (ce : Nat) (es : List PCod.S63) (F : Option Addr) (cf : Nat) (fs : List PCod.S65) (B : Option Addr) (cb : Nat) (bs : List PCod.S50), e = .returned (.agg #[.int .i64 per, .int .i64 dl, .slice P ps.length cp, .slice E es.length ce, .slice F fs.length cf, .slice B bs.length cb]) ∧ dOf per dl ps es fs bs = (CodPlain.bodyS s st).1 ∧ DM w' w.heap.size R P cp ps E ce es F cf fs B cb bs ∧ RdAt R s (CodPlain.bodyS s st).2 w' ∧ KeepR R w w'
set_option maxRecDepth 100000 in
set_option maxHeartbeats 16000000 in
theorem body_any (R : Nat) (s : ByteArray) (st : CodPlain.St) (w : World) (hs : s.size ≤ 1000) (hr : RdAt R s st w) :
  Calls Tryz.prog 63 #[.pointer (some ⟨R, 0, none⟩)] w (BodyPost R s st w) := by
 have C := Lib.hid (fun st k w1 hk h => number_any R s st k w1 hs hk h)
 have CP := Lib.hid (fun st n w1 hn h => someP_any R s st n w1 hs hn h)
 have CE := Lib.hid (fun st n w1 hn h => someE_any R s st n w1 hs hn h)
 have CF := Lib.hid (fun st n w1 hn h => someF_any R s st n w1 hs hn h)
 have CB := Lib.hid (fun st n w1 hn h hb => someB_any R s st w.heap.size n w1 hs hn h hb)
 obtain ⟨na, hna, hna2⟩ := num_nat s st
 obtain ⟨a, ha⟩ : ∃ x, x = CodPlain.numS s 1 st := ⟨_, rfl⟩
 obtain ⟨nb, hnb, hnb2⟩ := num_nat s a.2
 obtain ⟨b, hb⟩ : ∃ x, x = CodPlain.numS s 1 a.2 := ⟨_, rfl⟩
 obtain ⟨nc, hnc, hnc2⟩ := num_nat s b.2
 obtain ⟨c, hc⟩ : ∃ x, x = CodPlain.numS s 1 b.2 := ⟨_, rfl⟩
 obtain ⟨nd, hnd, hnd2⟩ := num_nat s c.2
 obtain ⟨d, hd⟩ : ∃ x, x = CodPlain.numS s 1 c.2 := ⟨_, rfl⟩
 obtain ⟨p, hp⟩ : ∃ x, x = CodPlain.numS s 4 d.2 := ⟨_, rfl⟩
 obtain ⟨q, hq⟩ : ∃ x, x = CodPlain.numS s 4 p.2 := ⟨_, rfl⟩
 obtain ⟨f, hf⟩ : ∃ x, x = CodPlain.someS (CodPlain.partS s) na q.2 := ⟨_, rfl⟩
 obtain ⟨g, hg⟩ : ∃ x, x = CodPlain.someS (CodPlain.edgeS s) nb f.2 := ⟨_, rfl⟩
 obtain ⟨h, hh⟩ : ∃ x, x = CodPlain.someS (CodPlain.futS s) nc g.2 := ⟨_, rfl⟩
 obtain ⟨i, hi⟩ : ∃ x, x = CodPlain.someS (CodPlain.barS s) nd h.2 := ⟨_, rfl⟩
 have HS : Hid (CodPlain.bodyS s st = (⟨p.1, q.1, f.1, g.1, h.1, i.1⟩, i.2)) := by
  show _ = _
  unfold CodPlain.bodyS
  dsimp only
  rw [hna, ← ha, hnb, ← hb, hnc, ← hc, hnd, ← hd, ← hp, ← hq, Int.toNat_natCast, Int.toNat_natCast, Int.toNat_natCast, Int.toNat_natCast, ← hf, ← hg, ← hh, ← hi]
 rw [← ha] at hna
 rw [← hb] at hnb
 rw [← hc] at hnc
 rw [← hd] at hnd
 have HA := Lib.hid ha
 have HB := Lib.hid hb
 have HC := Lib.hid hc
 have HD := Lib.hid hd
 have HP := Lib.hid hp
 have HQ := Lib.hid hq
 have HF := Lib.hid hf
 have HG := Lib.hid hg
 have HH := Lib.hid hh
 have HI := Lib.hid hi
 have HNA := Lib.hid hna
 have HNB := Lib.hid hnb
 have HNC := Lib.hid hnc
 have HND := Lib.hid hnd
 have hRlt := hr.lt
 have hmf : ∀ (fn : Fn) (first cap : Array Value) (w : World), (Instr.makeFunc fn first cap).run Tryz.prog w = .ok (.func fn first cap) w := fun _ _ _ _ => rfl
 obtain ⟨w0, hw0⟩ : ∃ W, W = (w.alloc (.cells #[.pointer (some ⟨R, 0, none⟩)] 114)).alloc (.cells #[.int .i64 0, .int .i64 0, .slice none 0 0, .slice none 0 0, .slice none 0 0, .slice none 0 0] 27) := ⟨_, rfl⟩
 have hbb : Below w.heap.size w w0 := by rw [hw0]; exact ((Below.refl _ _).alloc (Nat.le_refl _) _).alloc (by simp) _
 have HX0 : Hid (w0.heap[w.heap.size]? = some (.cells #[.pointer (some ⟨R, 0, none⟩)] 114 (0, 0))) := by rw [hw0]; exact blk_alloc (blk_new _ _) _
 have HZ0 : Hid (w0.heap[w.heap.size + 1]? = some (.cells #[.int .i64 0, .int .i64 0, .slice none 0 0, .slice none 0 0, .slice none 0 0, .slice none 0 0] 27 (0, 0))) := by rw [hw0]; have := blk_new (w.alloc (.cells #[.pointer (some ⟨R, 0, none⟩)] 114)) (.cells #[.int .i64 0, .int .i64 0, .slice none 0 0, .slice none 0 0, .slice none 0 0, .slice none 0 0] 27); rwa [World.size_alloc] at this
 have HR0 := Lib.hid (hr.below hbb)
 have HK0 : Hid (KeepR R w w0) := KeepR.of hbb
 have HW0 := Lib.hid hw0
 clear hr ha hb hc hd hp hq hf hg hh hi hna hnb hnc hnd hbb hw0
 go_enter Tryz.func63, Tryz.ntmps63
 go_wp2_with fail
 rw [← HW0.out]
 clear HW0
 have HX0d : Hid (w0.drew.heap[w.heap.size]? = some (.cells #[.pointer (some ⟨R, 0, none⟩)] 114 (0, 0))) := HX0.out
 have HZ0d : Hid (w0.drew.heap[w.heap.size + 1]? = some (.cells #[.int .i64 0, .int .i64 0, .slice none 0 0, .slice none 0 0, .slice none 0 0, .slice none 0 0] 27 (0, 0))) := HZ0.out
 have HR0d : Hid (RdAt R s st w0.drew) := HR0.out
 have HK0d : Hid (KeepR R w w0.drew) := HK0.out.trans (KeepR.of ⟨rfl, rfl, rfl, Nat.le_refl _, fun _ _ => rfl⟩)
 clear HX0 HZ0 HR0 HK0
 have HE0 : Hid (w0.drew.cell? ⟨w.heap.size, 0, none⟩ = some (.pointer (some ⟨R, 0, none⟩))) := (blk_cell HX0d.out 0).trans rfl
 have K1 : True := trivial
 go_region_held3 (fun w' => w'.cell? ⟨w.heap.size, 0, none⟩ = some (.pointer (some ⟨R, 0, none⟩)))
  (exact HE0.out)
  (first
   | (have _t := K1; go_at_call 88; refine (C.out st 1 _ (by decide) HR0d.out).mono ?_; rintro e v1 ⟨rfl, g1, g2⟩; rw [← HA.out] at g1 ⊢; rw [HNA.out]; have HX1 := Lib.hid (g2.blk HX0d.out (by omega)); have HZ1 := Lib.hid (g2.blk HZ0d.out (by omega)); have HR1 := Lib.hid g1; have HK1 := Lib.hid (HK0d.out.trans g2); clear g1 g2 HX0d HZ0d HR0d HK0d HE0 K1; have HE0 : Hid (v1.cell? ⟨w.heap.size, 0, none⟩ = some (.pointer (some ⟨R, 0, none⟩))) := (blk_cell HX1.out 0).trans rfl; have K2 : True := trivial)
   | (have _t := K2; go_at_call 88; refine (C.out a.2 1 _ (by decide) HR1.out).mono ?_; rintro e v2 ⟨rfl, g1, g2⟩; rw [← HB.out] at g1 ⊢; rw [HNB.out]; have HX2 := Lib.hid (g2.blk HX1.out (by omega)); have HZ2 := Lib.hid (g2.blk HZ1.out (by omega)); have HR2 := Lib.hid g1; have HK2 := Lib.hid (HK1.out.trans g2); clear g1 g2 HX1 HZ1 HR1 HK1 HE0 K2; have HE0 : Hid (v2.cell? ⟨w.heap.size, 0, none⟩ = some (.pointer (some ⟨R, 0, none⟩))) := (blk_cell HX2.out 0).trans rfl; have K3 : True := trivial)
   | (have _t := K3; go_at_call 88; refine (C.out b.2 1 _ (by decide) HR2.out).mono ?_; rintro e v3 ⟨rfl, g1, g2⟩; rw [← HC.out] at g1 ⊢; rw [HNC.out]; have HX3 := Lib.hid (g2.blk HX2.out (by omega)); have HZ3 := Lib.hid (g2.blk HZ2.out (by omega)); have HR3 := Lib.hid g1; have HK3 := Lib.hid (HK2.out.trans g2); clear g1 g2 HX2 HZ2 HR2 HK2 HE0 K3; have HE0 : Hid (v3.cell? ⟨w.heap.size, 0, none⟩ = some (.pointer (some ⟨R, 0, none⟩))) := (blk_cell HX3.out 0).trans rfl; have K4 : True := trivial)
   | (have _t := K4; go_at_call 88; refine (C.out c.2 1 _ (by decide) HR3.out).mono ?_; rintro e v4 ⟨rfl, g1, g2⟩; rw [← HD.out] at g1 ⊢; rw [HND.out]; have HX4 := Lib.hid (g2.blk HX3.out (by omega)); have HZ4 := Lib.hid (g2.blk HZ3.out (by omega)); have HR4 := Lib.hid g1; have HK4 := Lib.hid (HK3.out.trans g2); clear g1 g2 HX3 HZ3 HR3 HK3 HE0 K4; have HE0 : Hid (v4.cell? ⟨w.heap.size, 0, none⟩ = some (.pointer (some ⟨R, 0, none⟩))) := (blk_cell HX4.out 0).trans rfl; have K5 : True := trivial)
  )
 clear HE0 K5
 have x4 : v4.cell? ⟨w.heap.size, 0, none⟩ = some (.pointer (some ⟨R, 0, none⟩)) := (blk_cell HX4.out 0).trans rfl
 go_wp2_with fail
 refine (C.out d.2 4 _ (by decide) HR4.out).mono ?_
 rintro e v5 ⟨rfl, g1, g2⟩
 rw [← HP.out] at g1 ⊢
 have HX5 := Lib.hid (g2.blk HX4.out (by omega))
 have HZ5 := Lib.hid (g2.blk HZ4.out (by omega))
 have HR5 := Lib.hid g1
 have HK5 := Lib.hid (HK4.out.trans g2)
 clear x4 g1 g2 HX4 HZ4 HR4 HK4
 have hR5 := HR5.out.lt
 have hX5 := blk_lt HX5.out
 have hZ5 := blk_lt HZ5.out
 have x5 : (v5.alloc (.cells #[.int .i64 p.1, .int .i64 0, .slice none 0 0, .slice none 0 0, .slice none 0 0, .slice none 0 0] 27)).cell? ⟨w.heap.size, 0, none⟩ = some (.pointer (some ⟨R, 0, none⟩)) := (blk_cell (blk_alloc HX5.out _) 0).trans rfl
 go_wp2_with fail
 refine (C.out p.2 4 _ (by decide) (HR5.out.below (below_alloc' _ _))).mono ?_
 rintro e v6 ⟨rfl, g1, g2⟩
 rw [← HQ.out] at g1 ⊢
 have HX6 := Lib.hid (g2.blk (blk_alloc HX5.out _) (by omega))
 have HZ6 := Lib.hid (g2.blk (blk_alloc HZ5.out _) (by omega))
 have HDB6 := Lib.hid (g2.blk (blk_new v5 _) (by omega))
 have HR6 := Lib.hid g1
 have HK6 := Lib.hid (HK5.out.trans ((KeepR.of (R := R) (below_alloc' _ _)).trans g2))
 clear x5 g1 g2 HX5 HZ5 HR5 HK5
 have fz6 : ∀ i, v6.frozen? ⟨v5.heap.size, i, none⟩ = false := fun i => blk_frozen HDB6.out i
 have y6_0 : v6.cell? ⟨v5.heap.size, 0, none⟩ = some _ := (blk_cell HDB6.out 0).trans rfl
 have y6_1 : v6.cell? ⟨v5.heap.size, 1, none⟩ = some _ := (blk_cell HDB6.out 1).trans rfl
 have y6_2 : v6.cell? ⟨v5.heap.size, 2, none⟩ = some _ := (blk_cell HDB6.out 2).trans rfl
 have y6_3 : v6.cell? ⟨v5.heap.size, 3, none⟩ = some _ := (blk_cell HDB6.out 3).trans rfl
 have y6_4 : v6.cell? ⟨v5.heap.size, 4, none⟩ = some _ := (blk_cell HDB6.out 4).trans rfl
 have y6_5 : v6.cell? ⟨v5.heap.size, 5, none⟩ = some _ := (blk_cell HDB6.out 5).trans rfl
 have x6 : (v6.setCell ⟨v5.heap.size, 1, none⟩ (.int .i64 q.1)).cell? ⟨w.heap.size, 0, none⟩ = some (.pointer (some ⟨R, 0, none⟩)) := (blk_cell (blk_far (p := ⟨v5.heap.size, 1, none⟩) HX6.out (by show w.heap.size ≠ v5.heap.size; omega) _) 0).trans rfl
 have hb6 : v5.heap.size < (v6.setCell ⟨v5.heap.size, 1, none⟩ (.int .i64 q.1)).heap.size := by have := blk_lt HDB6.out; simpa [World.setCell] using this
 go_wp2_with fail
 refine (CP.out q.2 na _ (by omega) (HR6.out.far HDB6.out (by decide) (by decide) 1 _)).mono ?_
 rintro e v7 ⟨vv, ps, rfl, hx, g0, g1, g2⟩
 obtain ⟨P, cp, rfl⟩ := Kd.R_slice g0
 rw [← HF.out] at hx g1
 have HL7 := Lib.hid hx
 have HX7 := Lib.hid (g2.blk (blk_far (p := ⟨v5.heap.size, 1, none⟩) HX6.out (by show w.heap.size ≠ v5.heap.size; omega) _) (by omega))
 have HZ7 := Lib.hid (g2.blk (blk_far (p := ⟨v5.heap.size, 1, none⟩) HZ6.out (by show w.heap.size + 1 ≠ v5.heap.size; omega) _) (by omega))
 have HDB7 := Lib.hid (g2.blk (blk_set HDB6.out 1 _) (by omega))
 have HR7 := Lib.hid g1
 have HK7 := Lib.hid ((HK6.out.new (by omega) 1 (.int .i64 q.1)).trans g2)
 have HRWP7 := Lib.hid (Kd.R_lower g0 (by omega : v5.heap.size + 1 ≤ _))
 clear hx g0 g1 g2 HX6 HZ6 HDB6 HR6 HK6 fz6 x6 hb6 y6_0 y6_1 y6_2 y6_3 y6_4 y6_5
 have fz7 : ∀ i, v7.frozen? ⟨v5.heap.size, i, none⟩ = false := fun i => blk_frozen HDB7.out i
 have y7_0 : v7.cell? ⟨v5.heap.size, 0, none⟩ = some _ := (blk_cell HDB7.out 0).trans rfl
 have y7_1 : v7.cell? ⟨v5.heap.size, 1, none⟩ = some _ := (blk_cell HDB7.out 1).trans rfl
 have y7_2 : v7.cell? ⟨v5.heap.size, 2, none⟩ = some _ := (blk_cell HDB7.out 2).trans rfl
 have y7_3 : v7.cell? ⟨v5.heap.size, 3, none⟩ = some _ := (blk_cell HDB7.out 3).trans rfl
 have y7_4 : v7.cell? ⟨v5.heap.size, 4, none⟩ = some _ := (blk_cell HDB7.out 4).trans rfl
 have y7_5 : v7.cell? ⟨v5.heap.size, 5, none⟩ = some _ := (blk_cell HDB7.out 5).trans rfl
 have x7 : (v7.setCell ⟨v5.heap.size, 2, none⟩ (.slice P ps.length cp)).cell? ⟨w.heap.size, 0, none⟩ = some (.pointer (some ⟨R, 0, none⟩)) := (blk_cell (blk_far (p := ⟨v5.heap.size, 2, none⟩) HX7.out (by show w.heap.size ≠ v5.heap.size; omega) _) 0).trans rfl
 have hb7 : v5.heap.size < (v7.setCell ⟨v5.heap.size, 2, none⟩ (.slice P ps.length cp)).heap.size := by have := blk_lt HDB7.out; simpa [World.setCell] using this
 go_wp2_with fail
 refine (CE.out f.2 nb _ (by omega) (HR7.out.far HDB7.out (by decide) (by decide) 2 _)).mono ?_
 rintro e v8 ⟨vv, es, rfl, hx, g0, g1, g2⟩
 obtain ⟨E, ce, rfl⟩ := Kd.R_slice g0
 rw [← HG.out] at hx g1
 have HL8 := Lib.hid hx
 have HX8 := Lib.hid (g2.blk (blk_far (p := ⟨v5.heap.size, 2, none⟩) HX7.out (by show w.heap.size ≠ v5.heap.size; omega) _) (by omega))
 have HZ8 := Lib.hid (g2.blk (blk_far (p := ⟨v5.heap.size, 2, none⟩) HZ7.out (by show w.heap.size + 1 ≠ v5.heap.size; omega) _) (by omega))
 have HDB8 := Lib.hid (g2.blk (blk_set HDB7.out 2 _) (by omega))
 have HR8 := Lib.hid g1
 have HK8 := Lib.hid ((HK7.out.new (by omega) 2 (.slice P ps.length cp)).trans g2)
 have HRWP8 := Lib.hid (R_keepR (R_old HRWP7.out (by omega) 2 (.slice P ps.length cp)) g2)
 have HRWE8 := Lib.hid (Kd.R_lower g0 (by omega : v5.heap.size + 1 ≤ _))
 clear hx g0 g1 g2 HX7 HZ7 HDB7 HR7 HK7 fz7 x7 hb7 y7_0 y7_1 y7_2 y7_3 y7_4 y7_5 HRWP7
 have fz8 : ∀ i, v8.frozen? ⟨v5.heap.size, i, none⟩ = false := fun i => blk_frozen HDB8.out i
 have y8_0 : v8.cell? ⟨v5.heap.size, 0, none⟩ = some _ := (blk_cell HDB8.out 0).trans rfl
 have y8_1 : v8.cell? ⟨v5.heap.size, 1, none⟩ = some _ := (blk_cell HDB8.out 1).trans rfl
 have y8_2 : v8.cell? ⟨v5.heap.size, 2, none⟩ = some _ := (blk_cell HDB8.out 2).trans rfl
 have y8_3 : v8.cell? ⟨v5.heap.size, 3, none⟩ = some _ := (blk_cell HDB8.out 3).trans rfl
 have y8_4 : v8.cell? ⟨v5.heap.size, 4, none⟩ = some _ := (blk_cell HDB8.out 4).trans rfl
 have y8_5 : v8.cell? ⟨v5.heap.size, 5, none⟩ = some _ := (blk_cell HDB8.out 5).trans rfl
 have x8 : (v8.setCell ⟨v5.heap.size, 3, none⟩ (.slice E es.length ce)).cell? ⟨w.heap.size, 0, none⟩ = some (.pointer (some ⟨R, 0, none⟩)) := (blk_cell (blk_far (p := ⟨v5.heap.size, 3, none⟩) HX8.out (by show w.heap.size ≠ v5.heap.size; omega) _) 0).trans rfl
 have hb8 : v5.heap.size < (v8.setCell ⟨v5.heap.size, 3, none⟩ (.slice E es.length ce)).heap.size := by have := blk_lt HDB8.out; simpa [World.setCell] using this
 go_wp2_with fail
 refine (CF.out g.2 nc _ (by omega) (HR8.out.far HDB8.out (by decide) (by decide) 3 _)).mono ?_
 rintro e v9 ⟨vv, fs, rfl, hx, g0, g1, g2⟩
 obtain ⟨F, cf, rfl⟩ := Kd.R_slice g0
 rw [← HH.out] at hx g1
 have HL9 := Lib.hid hx
 have HX9 := Lib.hid (g2.blk (blk_far (p := ⟨v5.heap.size, 3, none⟩) HX8.out (by show w.heap.size ≠ v5.heap.size; omega) _) (by omega))
 have HZ9 := Lib.hid (g2.blk (blk_far (p := ⟨v5.heap.size, 3, none⟩) HZ8.out (by show w.heap.size + 1 ≠ v5.heap.size; omega) _) (by omega))
 have HDB9 := Lib.hid (g2.blk (blk_set HDB8.out 3 _) (by omega))
 have HR9 := Lib.hid g1
 have HK9 := Lib.hid ((HK8.out.new (by omega) 3 (.slice E es.length ce)).trans g2)
 have HRWP9 := Lib.hid (R_keepR (R_old HRWP8.out (by omega) 3 (.slice E es.length ce)) g2)
 have HRWE9 := Lib.hid (R_keepR (R_old HRWE8.out (by omega) 3 (.slice E es.length ce)) g2)
 have HRWF9 := Lib.hid (Kd.R_lower g0 (by omega : v5.heap.size + 1 ≤ _))
 clear hx g0 g1 g2 HX8 HZ8 HDB8 HR8 HK8 fz8 x8 hb8 y8_0 y8_1 y8_2 y8_3 y8_4 y8_5 HRWP8 HRWE8
 have fz9 : ∀ i, v9.frozen? ⟨v5.heap.size, i, none⟩ = false := fun i => blk_frozen HDB9.out i
 have y9_0 : v9.cell? ⟨v5.heap.size, 0, none⟩ = some _ := (blk_cell HDB9.out 0).trans rfl
 have y9_1 : v9.cell? ⟨v5.heap.size, 1, none⟩ = some _ := (blk_cell HDB9.out 1).trans rfl
 have y9_2 : v9.cell? ⟨v5.heap.size, 2, none⟩ = some _ := (blk_cell HDB9.out 2).trans rfl
 have y9_3 : v9.cell? ⟨v5.heap.size, 3, none⟩ = some _ := (blk_cell HDB9.out 3).trans rfl
 have y9_4 : v9.cell? ⟨v5.heap.size, 4, none⟩ = some _ := (blk_cell HDB9.out 4).trans rfl
 have y9_5 : v9.cell? ⟨v5.heap.size, 5, none⟩ = some _ := (blk_cell HDB9.out 5).trans rfl
 have x9 : (v9.setCell ⟨v5.heap.size, 4, none⟩ (.slice F fs.length cf)).cell? ⟨w.heap.size, 0, none⟩ = some (.pointer (some ⟨R, 0, none⟩)) := (blk_cell (blk_far (p := ⟨v5.heap.size, 4, none⟩) HX9.out (by show w.heap.size ≠ v5.heap.size; omega) _) 0).trans rfl
 have hb9 : v5.heap.size < (v9.setCell ⟨v5.heap.size, 4, none⟩ (.slice F fs.length cf)).heap.size := by have := blk_lt HDB9.out; simpa [World.setCell] using this
 go_wp2_with fail
 refine (CB.out h.2 nd _ (by omega) (HR9.out.far HDB9.out (by decide) (by decide) 4 _) (blk_far (p := ⟨v5.heap.size, 4, none⟩) HX9.out (by show w.heap.size ≠ v5.heap.size; omega) _)).mono ?_
 rintro e v10 ⟨vv, bs, rfl, hx, g0, g1, g2⟩
 obtain ⟨B, cb, rfl⟩ := Kd.R_slice g0
 rw [← HI.out] at hx g1
 have HL10 := Lib.hid hx
 have HX10 := Lib.hid (g2.blk (blk_far (p := ⟨v5.heap.size, 4, none⟩) HX9.out (by show w.heap.size ≠ v5.heap.size; omega) _) (by omega))
 have HZ10 := Lib.hid (g2.blk (blk_far (p := ⟨v5.heap.size, 4, none⟩) HZ9.out (by show w.heap.size + 1 ≠ v5.heap.size; omega) _) (by omega))
 have HDB10 := Lib.hid (g2.blk (blk_set HDB9.out 4 _) (by omega))
 have HR10 := Lib.hid g1
 have HK10 := Lib.hid ((HK9.out.new (by omega) 4 (.slice F fs.length cf)).trans g2)
 have HRWP10 := Lib.hid (R_keepR (R_old HRWP9.out (by omega) 4 (.slice F fs.length cf)) g2)
 have HRWE10 := Lib.hid (R_keepR (R_old HRWE9.out (by omega) 4 (.slice F fs.length cf)) g2)
 have HRWF10 := Lib.hid (R_keepR (R_old HRWF9.out (by omega) 4 (.slice F fs.length cf)) g2)
 have HRWB10 := Lib.hid (Kd.R_lower g0 (by omega : v5.heap.size + 1 ≤ _))
 clear hx g0 g1 g2 HX9 HZ9 HDB9 HR9 HK9 fz9 x9 hb9 y9_0 y9_1 y9_2 y9_3 y9_4 y9_5 HRWP9 HRWE9 HRWF9
 have fz : ∀ i, v10.frozen? ⟨v5.heap.size, i, none⟩ = false := fun i => blk_frozen HDB10.out i
 have fr : ∀ i, v10.frozen? ⟨w.heap.size + 1, i, none⟩ = false := fun i => blk_frozen HZ10.out i
 have y0 : v10.cell? ⟨v5.heap.size, 0, none⟩ = some _ := (blk_cell HDB10.out 0).trans rfl
 have y1 : v10.cell? ⟨v5.heap.size, 1, none⟩ = some _ := (blk_cell HDB10.out 1).trans rfl
 have y2 : v10.cell? ⟨v5.heap.size, 2, none⟩ = some _ := (blk_cell HDB10.out 2).trans rfl
 have y3 : v10.cell? ⟨v5.heap.size, 3, none⟩ = some _ := (blk_cell HDB10.out 3).trans rfl
 have y4 : v10.cell? ⟨v5.heap.size, 4, none⟩ = some _ := (blk_cell HDB10.out 4).trans rfl
 have y5 : v10.cell? ⟨v5.heap.size, 5, none⟩ = some _ := (blk_cell HDB10.out 5).trans rfl
 have z0 : v10.cell? ⟨w.heap.size + 1, 0, none⟩ = some _ := (blk_cell HZ10.out 0).trans rfl
 have z1 : v10.cell? ⟨w.heap.size + 1, 1, none⟩ = some _ := (blk_cell HZ10.out 1).trans rfl
 have z2 : v10.cell? ⟨w.heap.size + 1, 2, none⟩ = some _ := (blk_cell HZ10.out 2).trans rfl
 have z3 : v10.cell? ⟨w.heap.size + 1, 3, none⟩ = some _ := (blk_cell HZ10.out 3).trans rfl
 have z4 : v10.cell? ⟨w.heap.size + 1, 4, none⟩ = some _ := (blk_cell HZ10.out 4).trans rfl
 have z5 : v10.cell? ⟨w.heap.size + 1, 5, none⟩ = some _ := (blk_cell HZ10.out 5).trans rfl
 go_wp2_with fail
 have q0 := HR10.out.far HDB10.out (by decide) (by decide) 5 (.slice B bs.length cb)
 have z0' := blk_far (p := ⟨v5.heap.size, 5, none⟩) HZ10.out (by show w.heap.size + 1 ≠ v5.heap.size; omega) (.slice B bs.length cb)
 have m0 : DM (v10.setCell ⟨v5.heap.size, 5, none⟩ (.slice B bs.length cb)) (v5.heap.size + 1) R P cp ps E ce es F cf fs B cb bs := ⟨R_old HRWP10.out (by omega) 5 _, R_old HRWE10.out (by omega) 5 _, R_old HRWF10.out (by omega) 5 _, R_old HRWB10.out (by omega) 5 _⟩
 have q1 := q0.far z0' (by decide) (by decide) 0 (.int .i64 p.1)
 have z1' := blk_set z0' 0 (.int .i64 p.1)
 have m1 := m0.old (g := w.heap.size + 1) (by omega) 0 (.int .i64 p.1)
 have q2 := q1.far z1' (by decide) (by decide) 1 (.int .i64 q.1)
 have z2' := blk_set z1' 1 (.int .i64 q.1)
 have m2 := m1.old (g := w.heap.size + 1) (by omega) 1 (.int .i64 q.1)
 have q3 := q2.far z2' (by decide) (by decide) 2 (.slice P ps.length cp)
 have z3' := blk_set z2' 2 (.slice P ps.length cp)
 have m3 := m2.old (g := w.heap.size + 1) (by omega) 2 (.slice P ps.length cp)
 have q4 := q3.far z3' (by decide) (by decide) 3 (.slice E es.length ce)
 have z4' := blk_set z3' 3 (.slice E es.length ce)
 have m4 := m3.old (g := w.heap.size + 1) (by omega) 3 (.slice E es.length ce)
 have q5 := q4.far z4' (by decide) (by decide) 4 (.slice F fs.length cf)
 have z5' := blk_set z4' 4 (.slice F fs.length cf)
 have m5 := m4.old (g := w.heap.size + 1) (by omega) 4 (.slice F fs.length cf)
 have q6 := q5.far z5' (by decide) (by decide) 5 (.slice B bs.length cb)
 have z6' := blk_set z5' 5 (.slice B bs.length cb)
 have m6 := m5.old (g := w.heap.size + 1) (by omega) 5 (.slice B bs.length cb)
 refine bodyPost_ret (results_cell_row rfl _ _ (w.heap.size + 1) 27 #[.int .i64 p.1, .int .i64 q.1, .slice P ps.length cp, .slice E es.length ce, .slice F fs.length cf, .slice B bs.length cb] (0, 0) _ rfl z6' Tryz.underlying27 rfl (by kernel_rfl)) rfl ?_
 refine ⟨p.1, q.1, P, cp, ps, E, ce, es, F, cf, fs, B, cb, bs, rfl, ?_, ⟨Kd.R_lower m6.p (by omega), Kd.R_lower m6.e (by omega), Kd.R_lower m6.f (by omega), Kd.R_lower m6.b (by omega)⟩, by rw [HS.out]; exact q6, (((((((HK10.out.new (by omega) 5 _).new (by omega) 0 _).new (by omega) 1 _).new (by omega) 2 _).new (by omega) 3 _).new (by omega) 4 _).new (by omega) 5 _)⟩
 rw [HS.out]
 unfold dOf
 rw [HL7.out, HL8.out, HL9.out, HL10.out]
end Go.Proofs.YtokhibhmlninnaaGreatDoor
