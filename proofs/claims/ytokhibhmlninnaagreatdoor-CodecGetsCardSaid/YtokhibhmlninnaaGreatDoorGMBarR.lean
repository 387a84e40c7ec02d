/- Texts of this work, put into one. -/
import Derived.Test.YtokhibhmlninnaaGreatDoorGMSome
import Derived.Test.YtokhibhmlninnaaGreatDoorGMPl
set_option linter.unusedVariables false
set_option linter.unusedSimpArgs false
namespace Go.Proofs.YtokhibhmlninnaaGreatDoor
open Go.RowKit Go.Proofs.YtokhibhmlninnaaGreatDoorW.PrintWords
theorem R_keepR {α : Type} {d : Kd α} {e R base : Nat} {w w' : World} {v : Value} {xs : List α} (h : Kd.R d e w base (fun k => k ≠ R) v xs) (hk : KeepR R w w') : Kd.R d e w' base (fun k => k ≠ R) v xs := Kd.R_step h (fun k ho hlt => hk.block k hlt ho)
theorem R_old {α : Type} {d : Kd α} {e base g : Nat} {ok : Nat → Prop} {w : World} {v : Value} {xs : List α} (h : Kd.R d e w base ok v xs) (hg : g < base) (i : Nat) (u : Value) : Kd.R d e (w.setCell ⟨g, i, none⟩ u) base ok v xs :=
 Kd.R_mono (Kd.R_far (p := ⟨g, i, none⟩) (Kd.R_mono (Kd.R_bound h) (fun k hk => (⟨hk.1, hk.2.1⟩ : ok k ∧ base ≤ k))) (fun k hk => by have := hk.2; show k ≠ g; omega) u) (fun k hk => hk.1)
set_option maxHeartbeats 1000000 in
theorem rowR_any (R : Nat) (s : ByteArray) (st : CodPlain.St) (n : Nat) (w : World) (hs : s.size ≤ 1000) (hn : n ≤ 1000) (hr : RdAt R s st w) :
  Calls Tryz.prog 105 #[.pointer (some ⟨R, 0, none⟩), .int .i64 n] w fun e w' => ∃ (A : Option Addr) (c : Nat) (xs : List Int), e = .returned (.slice A xs.length c) ∧ xs = (CodPlain.someS (CodPlain.numS s 1) n st).1 ∧ Kd.R (Kd.int .i64) 3 w' w.heap.size (fun k => k ≠ R) (.slice A xs.length c) xs ∧ RdAt R s (CodPlain.someS (CodPlain.numS s 1) n st).2 w' ∧ KeepR R w w' := by
 have C := Lib.hid (someI_any R s st n w hs hn hr)
 clear hr
 go_enter Tryz.func105, Tryz.ntmps105
 go_wp2_with fail
 refine C.out.mono ?_
 rintro e w1 ⟨v, xs, rfl, hx, g0, g1, g2⟩
 obtain ⟨A, c, rfl⟩ := Kd.R_slice g0
 have HX := Lib.hid hx
 have H0 := Lib.hid g0
 have H1 := Lib.hid g1
 have H2 := Lib.hid g2
 clear hx g0 g1 g2 C
 go_wp2_with fail
 go_ret
 exact ⟨A, c, xs, rfl, by have := HX.out; rwa [List.map_id'] at this, H0.out, H1.out, H2.out⟩
theorem num_nat (s : ByteArray) (st : CodPlain.St) : ∃ n : Nat, (CodPlain.numS s 1 st).1 = n ∧ n ≤ 255 := ⟨(CodPlain.numS s 1 st).1.toNat, by have := CodPlain.num1_le s st; omega, by have := CodPlain.num1_le s st; omega⟩
def BarPost (R : Nat) (s : ByteArray) (st : CodPlain.St) (w : World) (e : Ending) (w' : World) : Prop := ∃ (A0 : Option Addr) (c0 : Nat) (l0 : List Int) (A1 : Option Addr) (c1 : Nat) (l1 : List Int), e = .returned (.agg #[.slice A0 l0.length c0, .slice A1 l1.length c1]) ∧ (l0, l1) = (CodPlain.barS s st).1 ∧
 Kd.R (Kd.int .i64) 3 w' w.heap.size (fun k => k ≠ R) (.slice A0 l0.length c0) l0 ∧ Kd.R (Kd.int .i64) 3 w' w.heap.size (fun k => k ≠ R) (.slice A1 l1.length c1) l1 ∧ RdAt R s (CodPlain.barS s st).2 w' ∧ KeepR R w w'
set_option maxRecDepth 100000 in
set_option maxHeartbeats 4000000 in
theorem barrier_any (R : Nat) (s : ByteArray) (st : CodPlain.St) (w : World) (hs : s.size ≤ 1000) (hr : RdAt R s st w) :
  Calls Tryz.prog 97 #[.pointer (some ⟨R, 0, none⟩)] w (BarPost R s st w) := by
 have C := Lib.hid (fun st w1 h => number_any R s st 1 w1 hs (by decide) h)
 have CR := Lib.hid (fun st n w1 hn h => rowR_any R s st n w1 hs hn h)
 obtain ⟨n, hn, hn2⟩ := num_nat s st
 obtain ⟨a, ha⟩ : ∃ x, x = CodPlain.numS s 1 st := ⟨_, rfl⟩
 obtain ⟨m, hm, hm2⟩ := num_nat s a.2
 obtain ⟨b, hb⟩ : ∃ x, x = CodPlain.numS s 1 a.2 := ⟨_, rfl⟩
 obtain ⟨c, hc⟩ : ∃ x, x = CodPlain.someS (CodPlain.numS s 1) n b.2 := ⟨_, rfl⟩
 obtain ⟨d, hd⟩ : ∃ x, x = CodPlain.someS (CodPlain.numS s 1) m c.2 := ⟨_, rfl⟩
 have HS : Hid (CodPlain.barS s st = ((c.1, d.1), d.2)) := by
  show _ = _
  unfold CodPlain.barS
  dsimp only
  rw [hn, ← ha, hm, ← hb, Int.toNat_natCast, Int.toNat_natCast, ← hc, ← hd]
 rw [← ha] at hn
 rw [← hb] at hm
 have HA := Lib.hid ha
 have HB := Lib.hid hb
 have HC := Lib.hid hc
 have HD := Lib.hid hd
 have HN := Lib.hid hn
 have HM := Lib.hid hm
 have HR := Lib.hid hr
 have hRlt := hr.lt
 clear hr ha hb hc hd hn hm
 go_enter Tryz.func97, Tryz.ntmps97
 go_wp2_with fail
 refine (C.out st _ (HR.out.below (below_alloc' _ _))).mono ?_
 rintro e w1 ⟨rfl, g1, g2⟩
 rw [← HA.out] at g1 ⊢
 rw [HN.out]
 have HZ1 := Lib.hid (g2.blk (blk_new w _) (by omega))
 have HR1 := Lib.hid g1
 have HK1 := Lib.hid ((KeepR.of (R := R) (below_alloc' _ _)).trans g2)
 clear g1 g2 HR
 go_wp2_with fail
 refine (C.out a.2 _ HR1.out).mono ?_
 rintro e w2 ⟨rfl, g1, g2⟩
 rw [← HB.out] at g1 ⊢
 rw [HM.out]
 have HZ2 := Lib.hid (g2.blk HZ1.out (by omega))
 have HR2 := Lib.hid g1
 have HK2 := Lib.hid (HK1.out.trans g2)
 clear g1 g2 HR1 HK1 HZ1
 go_wp2_with fail
 refine (CR.out b.2 n _ (by omega) HR2.out).mono ?_
 rintro e w3 ⟨A0, c0, l0, rfl, hl0, g0, g1, g2⟩
 rw [← HC.out] at hl0 g1
 have HL0 := Lib.hid hl0
 have HX3 := Lib.hid g0
 have HZ3 := Lib.hid (g2.blk HZ2.out (by omega))
 have HR3 := Lib.hid g1
 have HK3 := Lib.hid (HK2.out.trans g2)
 have hz2 : w.heap.size < w2.heap.size := blk_lt HZ2.out
 clear g0 g1 g2 HR2 HK2 HZ2 hl0
 go_wp2_with fail
 refine (CR.out c.2 m _ (by omega) HR3.out).mono ?_
 rintro e w4 ⟨A1, c1, l1, rfl, hl1, g0, g1, g2⟩
 rw [← HD.out] at hl1 g1
 have HL1 := Lib.hid hl1
 have HX4 := Lib.hid (R_keepR HX3.out g2)
 have HY4 := Lib.hid g0
 have HZ4 := Lib.hid (g2.blk HZ3.out (by omega))
 have HR4 := Lib.hid g1
 have HK4 := Lib.hid (HK3.out.trans g2)
 have hz3 : w.heap.size < w3.heap.size := blk_lt HZ3.out
 clear g0 g1 g2 HR3 HK3 HZ3 HX3 hl1
 have fz : ∀ i, w4.frozen? ⟨w.heap.size, i, none⟩ = false := fun i => blk_frozen HZ4.out i
 have z0 : w4.cell? ⟨w.heap.size, 0, none⟩ = some _ := (blk_cell HZ4.out 0).trans rfl
 have z1 : w4.cell? ⟨w.heap.size, 1, none⟩ = some _ := (blk_cell HZ4.out 1).trans rfl
 go_wp2_with fail
 have z1' := blk_set HZ4.out 0 (.slice A0 l0.length c0)
 have q1 := HR4.out.far HZ4.out (by decide) (by decide) 0 (.slice A0 l0.length c0)
 have z2' := blk_set z1' 1 (.slice A1 l1.length c1)
 have q2 := q1.far z1' (by decide) (by decide) 1 (.slice A1 l1.length c1)
 refine bodyPost_ret (results_cell_row rfl _ _ w.heap.size 50 #[.slice A0 l0.length c0, .slice A1 l1.length c1] (0, 0) _ rfl z2' Tryz.underlying50 rfl (by kernel_rfl)) rfl ?_
 refine ⟨A0, c0, l0, A1, c1, l1, rfl, by rw [HS.out, HL0.out, HL1.out], Kd.R_lower (R_old (R_old HX4.out hz2 0 _) hz2 1 _) (Nat.le_of_lt hz2), Kd.R_lower (R_old (R_old HY4.out hz3 0 _) hz3 1 _) (Nat.le_of_lt hz3), by rw [HS.out]; exact q2, (HK4.out.new (Nat.le_refl _) 0 _).new (Nat.le_refl _) 1 _⟩
set_option maxRecDepth 100000 in
set_option maxHeartbeats 4000000 in
theorem rdB_any (R : Nat) (s : ByteArray) (st : CodPlain.St) (rb : Nat) (f : Value) (w : World) (hs : s.size ≤ 1000) (hr : RdAt R s st w) (hb : w.heap[rb]? = some (.cells #[.pointer (some ⟨R, 0, none⟩)] 114 (0, 0))) :
  Calls Tryz.prog 96 #[f, .pointer (some ⟨rb, 0, none⟩)] w (BarPost R s st w) := by
 have C := Lib.hid (fun st w1 h => barrier_any R s st w1 hs h)
 have HR := Lib.hid hr
 have hRlt := hr.lt
 have c0 : (w.alloc (.cells #[.slice none 0 0, .slice none 0 0] 50)).cell? ⟨rb, 0, none⟩ = some (.pointer (some ⟨R, 0, none⟩)) := (blk_cell (blk_alloc hb _) 0).trans rfl
 have hlt := blk_lt hb
 clear hr hb
 go_enter Tryz.func96, Tryz.ntmps96
 go_wp2_with fail
 refine (C.out st _ (HR.out.below (below_alloc' _ _))).mono ?_
 rintro e w4 ⟨A0, c0', l0, A1, c1, l1, rfl, hl, g0, g1, g2, g3⟩
 have HL := Lib.hid hl
 have HX4 := Lib.hid g0
 have HY4 := Lib.hid g1
 have HZ4 := Lib.hid (g3.blk (blk_new w _) (by omega))
 have HR4 := Lib.hid g2
 have HK4 := Lib.hid ((KeepR.of (R := R) (below_alloc' _ _)).trans g3)
 clear hl g0 g1 g2 g3 c0 HR
 have hz : w.heap.size < (w.alloc (.cells #[.slice none 0 0, .slice none 0 0] 50)).heap.size := by simp
 have fz : ∀ i, w4.frozen? ⟨w.heap.size, i, none⟩ = false := fun i => blk_frozen HZ4.out i
 have z0 : w4.cell? ⟨w.heap.size, 0, none⟩ = some _ := (blk_cell HZ4.out 0).trans rfl
 have z1 : w4.cell? ⟨w.heap.size, 1, none⟩ = some _ := (blk_cell HZ4.out 1).trans rfl
 go_wp2_with fail
 have z1' := blk_set HZ4.out 0 (.slice A0 l0.length c0')
 have q1 := HR4.out.far HZ4.out (by decide) (by decide) 0 (.slice A0 l0.length c0')
 have z2' := blk_set z1' 1 (.slice A1 l1.length c1)
 have q2 := q1.far z1' (by decide) (by decide) 1 (.slice A1 l1.length c1)
 refine bodyPost_ret (results_cell_row rfl _ _ w.heap.size 50 #[.slice A0 l0.length c0', .slice A1 l1.length c1] (0, 0) _ rfl z2' Tryz.underlying50 rfl (by kernel_rfl)) rfl ?_
 exact ⟨A0, c0', l0, A1, c1, l1, rfl, HL.out, Kd.R_lower (R_old (R_old HX4.out hz 0 _) hz 1 _) (Nat.le_of_lt hz), Kd.R_lower (R_old (R_old HY4.out hz 0 _) hz 1 _) (Nat.le_of_lt hz), q2, (HK4.out.new (Nat.le_refl _) 0 _).new (Nat.le_refl _) 1 _⟩
theorem infoSB : (Tryz.prog.info? 50).map (fun i => (i.zero, i.size, i.bytes)) = some (some (.agg #[.slice none 0 0, .slice none 0 0]), 2, 48) := by kernel_rfl
set_option maxRecDepth 100000 in
set_option maxHeartbeats 4000000 in
theorem someB_any (R : Nat) (s : ByteArray) (st : CodPlain.St) (rb : Nat) (n : Nat) (w : World) (hs : s.size ≤ 1000) (hn : n ≤ 1000) (hr : RdAt R s st w) (hb : w.heap[rb]? = some (.cells #[.pointer (some ⟨R, 0, none⟩)] 114 (0, 0))) :
  Calls Tryz.prog 95 #[.pointer (some ⟨R, 0, none⟩), .int .i64 n, .func (Fn.func 96) #[] #[.pointer (some ⟨rb, 0, none⟩)]] w fun e w' => ∃ (v : Value) (xs : List PCod.S50), e = .returned v ∧ xs.map tB = (CodPlain.someS (CodPlain.barS s) n st).1 ∧ Kd.R PCod.k50 50 w' w.heap.size (fun k => k ≠ R) v xs ∧ RdAt R s (CodPlain.someS (CodPlain.barS s) n st).2 w' ∧ KeepR R w w' := by
 have C := Lib.hid (fun st f w1 h h2 => rdB_any R s st rb f w1 hs h h2)
 have HB0 := Lib.hid hb
 have hrbR : rb ≠ R := by rintro rfl; obtain ⟨ev, h1, _⟩ := hr; exact blk_ne hb h1 (by decide) rfl
 have hrbw := blk_lt hb
 have HR0 := Lib.hid hr
 have hRw := hr.lt
 have hmf : ∀ (fn : Fn) (first cap : Array Value) (w : World), (Instr.makeFunc fn first cap).run Tryz.prog w = .ok (.func fn first cap) w := fun _ _ _ _ => rfl
 clear hr hb
 go_enter Tryz.func95, Tryz.ntmps95
 go_wp2_with fail
 go_loopw [8, 7] (fun i v wr => ∃ (j : Nat) (v0 : Value) (xs : List PCod.S50) (st' : CodPlain.St), j ≤ n ∧ i = .int .i64 j ∧ v0 = v ∧ xs.length = j ∧ Hid (CodPlain.someS (CodPlain.barS s) n st = (xs.map tB ++ (CodPlain.someS (CodPlain.barS s) (n - j) st').1, (CodPlain.someS (CodPlain.barS s) (n - j) st').2)) ∧ Hid (Kd.R PCod.k50 50 wr w.heap.size (fun k => k ≠ R) v0 xs) ∧ Hid (RdAt R s st' wr) ∧ Hid (KeepR R w wr)) (fun i _ _ => n - (intOf i).toNat)
 case atStart => exact ⟨0, _, [], st, Nat.zero_le _, rfl, rfl, rfl, rfl, Kd.R_nil _ _ _ _ _, HR0, KeepR.refl _ _⟩
 case round =>
  obtain ⟨j, v0, xs, st', hj, rfl, rfl, hxl, HS, HX, HR, HK⟩ := hrel
  have hRlt := HR.out.lt
  by_cases hlt : j < n
  ·cases hst : st'.2 with
   | true =>
    obtain ⟨ev, hev, herr⟩ := HR.out
    unfold ErrAt at herr
    rw [if_pos hst] at herr
    obtain ⟨b, rfl, -, -⟩ := herr
    have c2 : wr.cell? ⟨R, 2, none⟩ = some _ := (blk_cell hev 2).trans rfl
    have HS2 : Hid (CodPlain.someS (CodPlain.barS s) n st = (xs.map tB, st')) := by show _ = _; rw [HS.out, some_stop _ _ hst, List.append_nil]
    clear hev HS hst
    go_wp2_with fail
    go_ret
    rw [HS2.out]
    exact ⟨_, xs, rfl, rfl, HX.out, HR.out, HK.out⟩
   | false =>
    obtain ⟨ev, hev, herr⟩ := HR.out
    unfold ErrAt at herr
    rw [if_neg (by rw [hst]; simp)] at herr
    subst herr
    have c2 : wr.cell? ⟨R, 2, none⟩ = some _ := (blk_cell hev 2).trans rfl
    have HST := Lib.hid hst
    clear hev hst
    go_wp2_with fail
    refine (C.out st' _ wr HR.out (HK.out.blk HB0.out hrbR)).mono ?_
    rintro e w1 ⟨A0, c0, l0, A1, c1, l1, rfl, hl, hx0, hx1, g1, g2⟩
    obtain ⟨q, hq⟩ : ∃ q, q = CodPlain.barS s st' := ⟨_, rfl⟩
    have HS3 : Hid (CodPlain.someS (CodPlain.barS s) n st = ((xs ++ [(⟨l0, l1⟩ : PCod.S50)]).map tB ++ (CodPlain.someS (CodPlain.barS s) (n - (j + 1)) q.2).1, (CodPlain.someS (CodPlain.barS s) (n - (j + 1)) q.2).2)) := by
     show _ = _
     have hm : n - j = n - (j + 1) + 1 := by omega
     rw [HS.out, hm, some_go _ _ HST.out, ← hq, List.map_append, List.append_assoc, show q.1 = (l0, l1) by rw [hq]; exact hl.symm]; rfl
    rw [← hq] at g1
    have HX1 := Lib.hid (Kd.R_step HX.out (fun k hk hlt => g2.block k hlt hk))
    have HR1 := Lib.hid g1
    have HK1 := Lib.hid (HK.out.trans g2)
    have hR1 := g1.lt
    have hw1 : w.heap.size ≤ w1.heap.size := HK1.out.size
    have hxl2 := hxl
    have hvl : ∀ k, v0.ownBlock = some k → k < wr.heap.size := fun k hk => by obtain ⟨inner, ho⟩ := Kd.R_own HX.out; exact own_lt ho k hk
    have hww : w.heap.size ≤ wr.heap.size := HK.out.size
    have GX0 : ∀ {v : Value} {l : List Int}, Kd.R (Kd.int .i64) 3 w1 wr.heap.size (fun k => k ≠ R) v l → Kd.R (Kd.int .i64) 3 w1 w.heap.size (fun k => k ≠ R ∧ some k ≠ v0.ownBlock) v l := fun h => Kd.R_lower (Kd.R_mono (Kd.R_bound h) (fun k hk => ⟨hk.1, fun e => by have := hvl k e.symm; have := hk.2.1; omega⟩)) hww
    have HX0w := hx0
    have HX1w := hx1
    have hcl := hl
    have HGX := Lib.hid (show Kd.R (Kd.int .i64) 3 w1 w.heap.size (fun k => k ≠ R ∧ some k ≠ v0.ownBlock) _ l0 from GX0 hx0)
    have HGY := Lib.hid (show Kd.R (Kd.int .i64) 3 w1 w.heap.size (fun k => k ≠ R ∧ some k ≠ v0.ownBlock) _ l1 from GX0 hx1)
    clear g1 g2 hq HS HX HR HK HST c2 hl hx0 hx1 GX0 HX0w HX1w hvl hcl
    go_wp2_with (at_builtin; refine Kd.R_append PCod.k50 (w0 := w1) w.heap.size rfl (.tmp 21) (.tmp 26) 25 50 (.agg #[.slice none 0 0, .slice none 0 0]) 48 rfl Tryz.underlying25 infoSB rfl (by decide) (by decide) v0 xs ⟨l0, l1⟩ _ (fun k => k ≠ R) (fun k => k ≠ R ∧ some k ≠ v0.ownBlock) rfl rfl (PCod.k50_mkM w1 w.heap.size _ ⟨l0, l1⟩ HGX.out HGY.out) (fun k h => h) (fun k h => by omega) HX1.out ?aB ?aS ?aL ?_)
    case aB => exact Below.refl _ _
    case aS => exact hw1
    case aL => omega
    intro v1 w2 hX2 hb2 hg2 hat
    have HX2 := Lib.hid hX2
    have HR2 := Lib.hid (HR1.out.grown hg2 (T := 50) (fun k hk => by obtain ⟨inner, ho⟩ := Kd.R_own HX1.out; exact own_typed ho k hk) (by decide) (by decide))
    have HK2 : Hid (KeepR R w w2) := ⟨hb2.os.trans HK1.out.os, hb2.tape.trans HK1.out.tape, hb2.output.trans HK1.out.output, Nat.le_trans HK1.out.size hb2.size, fun k hk hr => (hb2.block k hk).trans (HK1.out.block k hk hr)⟩
    clear hX2 hb2 hg2 hat HX1 HR1 HK1
    go_wp2_with fail
    go_roundw
    case rel => exact ⟨j + 1, v1, xs ++ [⟨l0, l1⟩], q.2, by omega, by go_num, rfl, by rw [List.length_append, hxl2]; rfl, HS3, HX2, HR2, HK2⟩
    case measure => simp [intOf]; omega
  ·obtain rfl : j = n := by omega
   have HS2 : Hid (CodPlain.someS (CodPlain.barS s) j st = (xs.map tB, st')) := by show _ = _; rw [HS.out, Nat.sub_self]; show (_ ++ [], _) = _; rw [List.append_nil]; rfl
   clear HS
   go_wp2_with fail
   go_ret
   rw [HS2.out]
   exact ⟨_, xs, rfl, rfl, HX.out, HR.out, HK.out⟩
end Go.Proofs.YtokhibhmlninnaaGreatDoor
