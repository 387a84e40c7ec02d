/- Texts of this work, put into one. -/
import Derived.Test.YtokhibhmlninnaaGreatDoorGMCkA
import Derived.Lib.QuietBelow
import Derived.Deep.QuietTactic
import Derived.BigQuiet
set_option linter.unusedVariables false
set_option linter.unusedSimpArgs false
namespace Go.Proofs.YtokhibhmlninnaaGreatDoor
open Go.RowKit Go.Sort Go.Proofs.YtokhibhmlninnaaGreatDoorW.PrintWords
theorem regrown_calls {P : Program} {f : FuncId} {args : Array Value} {w : World} {v : Value} (h : ∀ W, Below w.heap.size w W → Calls P f args W fun e w' => e = .returned v ∧ Below W.heap.size W w') (d : Nat) (os : Array Obj) :
  Calls P f args (grow (redrawn w d) os) fun e w'' => e = .returned v ∧ ∃ p : Regrown, w'' = grow (redrawn w p.d) p.os := Calls.regrown_of (h _ (below_regrown w d os))
theorem tE_getD (es : List PCod.S63) (k : Nat) : (es.map tE).getD k (0, 0) = tE (es.getD k PCod.z63) := by
 rw [List.getD_eq_getElem?_getD, List.getElem?_map, List.getD_eq_getElem?_getD]
 cases es[k]? <;> rfl
theorem edge_odd {per dl : Int} {ps : List PCod.S47} {es : List PCod.S63} {fs : List PCod.S65} {bs : List PCod.S50} {k : Nat} {x : PCod.S63} (hx : x = es.getD k PCod.z63) :
  CodPlain.edgeOdd (dOf per dl ps es fs bs) k = (!CodPlain.twoB ps.length x.f0 x.f1 || ((es.take k).map tE).contains (x.f0, x.f1)) := by
 unfold CodPlain.edgeOdd dOf
 dsimp only
 rw [tE_getD, ← hx, List.length_map, List.map_take]; rfl
set_option maxRecDepth 100000 in
set_option maxHeartbeats 8000000 in
theorem check_edge (per dl : Int) (P : Option Addr) (cp : Nat) (ps : List PCod.S47) (E : Option Addr) (ce : Nat) (es : List PCod.S63) (F : Option Addr) (cf : Nat) (fs : List PCod.S65) (B : Option Addr) (cb : Nat) (bs : List PCod.S50) (w : World)
  (hs : ps.length ≤ 1000 ∧ es.length ≤ 1000 ∧ fs.length ≤ 1000 ∧ bs.length ≤ 1000) (hd : DbAt w) (hr : DR w P cp ps E ce es F cf fs B cb bs) (h : CodPlain.manyB (dOf per dl ps es fs bs) = false) (ht : CodPlain.timeB (dOf per dl ps es fs bs) = true) (hp : ps.any (fun x => CodPlain.partOdd (tP x)) = false)
  (hodd : ∃ k, k < es.length ∧ CodPlain.edgeOdd (dOf per dl ps es fs bs) k = true) :
  Calls Tryz.prog 17 #[.agg #[.int .i64 per, .int .i64 dl, .slice P ps.length cp, .slice E es.length ce, .slice F fs.length cf, .slice B bs.length cb]] w fun e w' => e = .returned (.int .i64 53) ∧ Below w.heap.size w w' := by
 obtain ⟨m1, m2, m3, m4⟩ := few_cases h
 obtain ⟨⟨t1, t2⟩, t3, t4⟩ := time_cases ht
 clear h ht
 obtain ⟨s1, s2, s3, s4⟩ := hs
 have C := Lib.hid (fun w1 => in_any ps.length 1 16 true w1 m1)
 have C2 := Lib.hid (fun w1 h => two_any per w1 h)
 have C3 := Lib.hid (fun w1 => in_any dl 1 per true w1 t4)
 have C4 := Lib.hid (fun w1 h => contP_any P cp ps w1 h s1)
 rw [hp] at C4
 have HD := Lib.hid hd
 have HR := Lib.hid hr
 have HB := Lib.hid t3
 have HP := Lib.hid t2
 have HODD := Lib.hid hodd
 clear m1 hd hr t3 t4 hp hodd
 go_enter Tryz.func17, Tryz.ntmps17
 go_wp2_with fail
 refine (C.out _).mono ?_
 rintro e w' ⟨rfl, ⟨k, rfl⟩⟩
 go_wp2_with fail
 refine (C2.out _ (HD.out.box _ k)).mono ?_
 rintro e w' ⟨v, b, rfl, hv, k2, rfl⟩
 obtain rfl : b = true := (hv HP.out).trans HB.out
 clear hv
 go_wp2_with fail
 refine (C3.out _).mono ?_
 rintro e w' ⟨rfl, ⟨k3, rfl⟩⟩
 go_wp2_with fail
 refine (C4.out _ (HR.out.below (pw_below_drewN ((Below.refl _ _).alloc (Nat.le_refl _) _) _)).p).mono ?_
 rintro e w0 ⟨rfl, hb⟩
 have HB0 := Lib.hid ((pw_below_drewN ((Below.refl _ _).alloc (Nat.le_refl _) _) _ : Below w.heap.size w _).trans (hb.mono (by simp)))
 have x0 : w0.cell? ⟨w.heap.size, 0, none⟩ = some (.int .i64 per) := by rw [hb.cell (by simp)]; simp
 have x1 : w0.cell? ⟨w.heap.size, 1, none⟩ = some (.int .i64 dl) := by rw [hb.cell (by simp)]; simp
 have x2 : w0.cell? ⟨w.heap.size, 2, none⟩ = some (.slice P ps.length cp) := by rw [hb.cell (by simp)]; simp
 have x3 : w0.cell? ⟨w.heap.size, 3, none⟩ = some (.slice E es.length ce) := by rw [hb.cell (by simp)]; simp
 have x4 : w0.cell? ⟨w.heap.size, 4, none⟩ = some (.slice F fs.length cf) := by rw [hb.cell (by simp)]; simp
 have x5 : w0.cell? ⟨w.heap.size, 5, none⟩ = some (.slice B bs.length cb) := by rw [hb.cell (by simp)]; simp
 have HX : Hid (∀ W, Below w0.heap.size w0 W → W.cell? ⟨w.heap.size, 0, none⟩ = some (.int .i64 per) ∧ W.cell? ⟨w.heap.size, 1, none⟩ = some (.int .i64 dl) ∧ W.cell? ⟨w.heap.size, 2, none⟩ = some (.slice P ps.length cp) ∧ W.cell? ⟨w.heap.size, 3, none⟩ = some (.slice E es.length ce) ∧ W.cell? ⟨w.heap.size, 4, none⟩ = some (.slice F fs.length cf) ∧ W.cell? ⟨w.heap.size, 5, none⟩ = some (.slice B bs.length cb)) := by
  show ∀ W, _ → _
  intro W hW
  exact ⟨by rw [hW.cell (block_lt_of_cell x0)]; exact x0, by rw [hW.cell (block_lt_of_cell x1)]; exact x1, by rw [hW.cell (block_lt_of_cell x2)]; exact x2, by rw [hW.cell (block_lt_of_cell x3)]; exact x3, by rw [hW.cell (block_lt_of_cell x4)]; exact x4, by rw [hW.cell (block_lt_of_cell x5)]; exact x5⟩
 clear hb
 go_wp2_with fail
 go_loopw [63] (fun i wr => ∃ k : Nat, k ≤ es.length ∧ i = .int .i64 k ∧ Hid (∀ j, j < k → CodPlain.edgeOdd (dOf per dl ps es fs bs) j = false) ∧ Hid (Below w0.heap.size w0 wr)) (fun i _ => es.length - (intOf i).toNat)
 case atStart => exact ⟨0, Nat.zero_le _, rfl, by show ∀ j, j < 0 → _; omega, Below.refl _ _⟩
 case round =>
  clear x0 x1 x2 x3 x4 x5
  obtain ⟨k, hk, rfl, HN, HBW⟩ := hrel
  by_cases hlt : k < es.length
  ·have hbw : Below w.heap.size w wr := HB0.out.trans (HBW.out.mono HB0.out.size)
   obtain ⟨ad, hE, hr1, hr2⟩ := PCod.at_T63 (Kd.C_below HR.out.e hbw) (k : Int) (by omega) (by omega)
   subst hE
   have hrd : PCod.rd_T63 es (k : Int) = es.getD k PCod.z63 := by unfold PCod.rd_T63; rw [Int.toNat_natCast]
   rw [Int.toNat_natCast, hrd] at hr1 hr2
   obtain ⟨y, hy⟩ : ∃ y, y = es.getD k PCod.z63 := ⟨_, rfl⟩
   rw [← hy] at hr1 hr2
   have HEO := Lib.hid (edge_odd (per := per) (dl := dl) (ps := ps) (fs := fs) (bs := bs) hy)
   have HDR := Lib.hid (HR.out.below hbw)
   obtain ⟨y0, y1, y2, y3, y4, y5⟩ := HX.out _ HBW.out
   have HBW2 := Lib.hid hbw
   have hltI : (k : Int) < (es.length : Int) := by omega
   have hkd : (k : Int) ≤ (ce : Int) := by have := HR.out.ec; omega
   have hkd' : k ≤ ce := by omega
   clear hrd hy hbw
   go_wp2_with fail
   obtain ⟨W, hW⟩ : ∃ W, W = wr.alloc (Obj.cells #[.int .i64 y.f0, .int .i64 y.f1] 63) := ⟨_, rfl⟩
   have hbW : Below wr.heap.size wr W := by rw [hW]; exact (Below.refl _ _).alloc (Nat.le_refl _) _
   have hf0 : W.cell? ⟨wr.heap.size, 0, none⟩ = some (.int .i64 y.f0) := by rw [hW]; simp
   have ht0 : W.cell? ⟨wr.heap.size, 1, none⟩ = some (.int .i64 y.f1) := by rw [hW]; simp
   rw [← hW]
   clear hW
   have hbW0 : Below w0.heap.size w0 W := HBW.out.trans (hbW.mono HBW.out.size)
   obtain ⟨z0, z1, z2, z3, z4, z5⟩ := HX.out _ hbW0
   have HDW := Lib.hid (HDR.out.below hbW)
   have CT : ∀ d' os', Calls Tryz.prog 44 #[.agg #[.int .i64 per, .int .i64 dl, .slice P ps.length cp, .slice (some ad) es.length ce, .slice F fs.length cf, .slice B bs.length cb], .int .i64 y.f0, .int .i64 y.f1] (grow (redrawn W d') os') _ := regrown_calls (w := W) (fun W2 hB =>
    PCod.desc_two.calls per dl P cp ps (some ad) ce es F cf fs B cb bs y.f0 y.f1 (CodPlain.twoB ps.length y.f0 y.f1) W2 (HDW.out.below hB).p HDW.out.pc (HDW.out.below hB).e HDW.out.ec (HDW.out.below hB).f HDW.out.fc (HDW.out.below hB).b HDW.out.bc (two_f per dl ps es fs bs y.f0 y.f1 s1))
   obtain ⟨kE, hkE⟩ := edge_ev (es.take k) y.f0 y.f1 (by rw [List.length_take]; omega)
   have CE : ∀ d' os', Calls Tryz.prog 45 #[.slice (some ad) k ce, .agg #[.int .i64 y.f0, .int .i64 y.f1]] (grow (redrawn W d') os') _ := regrown_calls (w := W) (fun W2 hB => by
    have := PCod.api_Edge_45.calls kE (some ad) ce (es.take k) y.f0 y.f1 _ W2 (Kd.C_take (HDW.out.below hB).e hk) (by rw [List.length_take]; have := HDW.out.ec; omega) hkE
    rw [List.length_take, Nat.min_eq_left hk] at this
    exact this)
   have HF0 := fun d' os' => cell_regrown hf0 d' os'
   have HT0 := fun d' os' => cell_regrown ht0 d' os'
   have y0 := fun d' os' => cell_regrown z0 d' os'
   have y1 := fun d' os' => cell_regrown z1 d' os'
   have y2 := fun d' os' => cell_regrown z2 d' os'
   have y3 := fun d' os' => cell_regrown z3 d' os'
   have y4 := fun d' os' => cell_regrown z4 d' os'
   have y5 := fun d' os' => cell_regrown z5 d' os'
   have HBW3 := Lib.hid hbW0
   clear hbW hf0 ht0 hr1 hr2 hbW0 z0 z1 z2 z3 z4 z5 hkE
   cases hb1 : CodPlain.twoB ps.length y.f0 y.f1 with
   | false =>
       rw [hb1] at CT
       clear hb1
       refine wp_region_quiet_below (by kernel_rfl) (by kernel_rfl) ?_
       repeat (any_goals (first | go_big_quiet_step ((with_reducible (first | exact CT _ _ | exact CE _ _))) | quiet_step ((with_reducible (first | exact CT _ _ | exact CE _ _)))))
       refine wpQuiet_nil ?_
       rintro _ ⟨⟨dq, osq⟩, rfl⟩
       have HB3 := Lib.hid (HBW3.out.trans ((below_regrown W dq osq).mono HBW3.out.size))
       clear CT CE HF0 HT0 y0 y1 y2 y3 y4 y5
       generalize grow (redrawn W dq) osq = w4 at *
       go_wp2_with fail
       go_ret
       exact ⟨rfl, HB0.out.trans (HB3.out.mono HB0.out.size)⟩
   | true =>
       rw [hb1] at CT
       cases hc : ((es.take k).map tE).contains (y.f0, y.f1) with
       | true =>
        rw [hc] at CE
        clear hb1 hc
        refine wp_region_quiet_below (by kernel_rfl) (by kernel_rfl) ?_
        repeat (any_goals (first | go_big_quiet_step ((with_reducible (first | exact CT _ _ | exact CE _ _))) | quiet_step ((with_reducible (first | exact CT _ _ | exact CE _ _)))))
        refine wpQuiet_nil ?_
        rintro _ ⟨⟨dq, osq⟩, rfl⟩
        have HB3 := Lib.hid (HBW3.out.trans ((below_regrown W dq osq).mono HBW3.out.size))
        clear CT CE HF0 HT0 y0 y1 y2 y3 y4 y5
        generalize grow (redrawn W dq) osq = w4 at *
        go_wp2_with fail
        go_ret
        exact ⟨rfl, HB0.out.trans (HB3.out.mono HB0.out.size)⟩
       | false =>
        rw [hc] at CE
        have HN2 : Hid (∀ j, j < k + 1 → CodPlain.edgeOdd (dOf per dl ps es fs bs) j = false) := CodPlain.snoc_no HN.out (by rw [HEO.out, hb1, hc]; rfl)
        clear hb1 hc
        refine wp_region_quiet_below (by kernel_rfl) (by kernel_rfl) ?_
        repeat (any_goals (first | go_big_quiet_step ((with_reducible (first | exact CT _ _ | exact CE _ _))) | quiet_step ((with_reducible (first | exact CT _ _ | exact CE _ _)))))
        refine wpQuiet_nil ?_
        rintro _ ⟨⟨dq, osq⟩, rfl⟩
        have HB3 := Lib.hid (HBW3.out.trans ((below_regrown W dq osq).mono HBW3.out.size))
        clear CT CE HF0 HT0 y0 y1 y2 y3 y4 y5
        generalize grow (redrawn W dq) osq = w4 at *
        go_wp2_with fail
        go_roundw
        case rel => exact ⟨k + 1, by omega, by go_num, HN2, HB3⟩
        case measure => simp [intOf]; omega
  ·exfalso
   obtain ⟨j, hj, hj2⟩ := HODD.out
   have := HN.out j (by omega)
   rw [this] at hj2; cases hj2
end Go.Proofs.YtokhibhmlninnaaGreatDoor

set_option linter.unusedVariables false
set_option linter.unusedSimpArgs false
namespace Go.Proofs.YtokhibhmlninnaaGreatDoor
open Go.RowKit Go.Sort Go.Proofs.YtokhibhmlninnaaGreatDoorW.PrintWords
theorem tF_getD (fs : List PCod.S65) (k : Nat) : (fs.map tF).getD k (0, 0, 0) = tF (fs.getD k PCod.z65) := by
 rw [List.getD_eq_getElem?_getD, List.getElem?_map, List.getD_eq_getElem?_getD]
 cases fs[k]? <;> rfl
theorem tP_getD (ps : List PCod.S47) (k : Nat) : (ps.map tP).getD k (0, 0, 0) = tP (ps.getD k PCod.z47) := by
 rw [List.getD_eq_getElem?_getD, List.getElem?_map, List.getD_eq_getElem?_getD]
 cases ps[k]? <;> rfl
theorem tB_getD (bs : List PCod.S50) (k : Nat) : (bs.map tB).getD k ([], []) = tB (bs.getD k PCod.z50) := by
 rw [List.getD_eq_getElem?_getD, List.getElem?_map, List.getD_eq_getElem?_getD]
 cases bs[k]? <;> rfl
theorem fut_odd {per dl : Int} {ps : List PCod.S47} {es : List PCod.S63} {fs : List PCod.S65} {bs : List PCod.S50} {k : Nat} {x : PCod.S65} (hx : x = fs.getD k PCod.z65) :
  CodPlain.futOdd (dOf per dl ps es fs bs) k = (!CodPlain.twoB ps.length x.f0 x.f1 || !CodPlain.inB x.f2 1 ((ps.getD x.f1.toNat PCod.z47).f2 - 1) || (fs.take k).any (agB x.f1 x.f2)) := by
 unfold CodPlain.futOdd CodPlain.futAgain dOf
 dsimp only
 rw [tF_getD, ← hx, tP_getD, List.length_map, ← List.map_take, List.any_map]; rfl
theorem bar_odd {per dl : Int} {ps : List PCod.S47} {es : List PCod.S63} {fs : List PCod.S65} {bs : List PCod.S50} {k : Nat} {x : PCod.S50} (hx : x = bs.getD k PCod.z50) :
  CodPlain.barOdd (dOf per dl ps es fs bs) ((dOf per dl ps es fs bs).bars.getD k ([], [])) = (!CodPlain.rowB ps.length x.f0 || !CodPlain.rowB ps.length x.f1 || x.f0.any (outB x.f1)) := by
 unfold CodPlain.barOdd dOf
 dsimp only
 rw [tB_getD, ← hx, List.length_map]; rfl
theorem part_work {ps : List PCod.S47} (h : ps.any (fun x => CodPlain.partOdd (tP x)) = false) {k : Nat} (hk : k < ps.length) : 1 ≤ (ps.getD k PCod.z47).f2 ∧ (ps.getD k PCod.z47).f2 ≤ 100 := by
 have := List.any_eq_false.1 h _ (CodPlain.getD_in (d := PCod.z47) hk)
 have h2 := CodPlain.part_in (p := tP (ps.getD k PCod.z47)) (by simpa using this)
 exact h2.2.2
set_option maxRecDepth 100000 in
set_option maxHeartbeats 8000000 in
theorem check_rest (per dl : Int) (P : Option Addr) (cp : Nat) (ps : List PCod.S47) (E : Option Addr) (ce : Nat) (es : List PCod.S63) (F : Option Addr) (cf : Nat) (fs : List PCod.S65) (B : Option Addr) (cb : Nat) (bs : List PCod.S50) (w : World)
  (hs : ps.length ≤ 1000 ∧ es.length ≤ 1000 ∧ fs.length ≤ 1000 ∧ bs.length ≤ 1000) (hd : DbAt w) (hr : DR w P cp ps E ce es F cf fs B cb bs) (h : CodPlain.manyB (dOf per dl ps es fs bs) = false) (ht : CodPlain.timeB (dOf per dl ps es fs bs) = true) (hp : ps.any (fun x => CodPlain.partOdd (tP x)) = false)
  (hodd : ∀ j, j < es.length → CodPlain.edgeOdd (dOf per dl ps es fs bs) j = false) (hbl : ∀ b ∈ bs, b.f0.length ≤ 1000 ∧ b.f1.length ≤ 1000) :
  Calls Tryz.prog 17 #[.agg #[.int .i64 per, .int .i64 dl, .slice P ps.length cp, .slice E es.length ce, .slice F fs.length cf, .slice B bs.length cb]] w fun e w' => e = .returned (.int .i64 (CodPlain.checkD (dOf per dl ps es fs bs))) ∧ Below w.heap.size w w' := by
 have HP4 : Hid (CodPlain.Pre4 (dOf per dl ps es fs bs)) := ⟨⟨⟨⟨h⟩, ht⟩, (part_any_map ps).trans hp⟩, CodPlain.range_no (fun j hj => hodd j (by unfold dOf at hj; rwa [List.length_map] at hj))⟩
 have HPW := Lib.hid (fun k hk => part_work (k := k) hp hk)
 have HBL := Lib.hid hbl
 clear hbl
 obtain ⟨m1, m2, m3, m4⟩ := few_cases h
 obtain ⟨⟨t1, t2⟩, t3, t4⟩ := time_cases ht
 clear h ht
 obtain ⟨s1, s2, s3, s4⟩ := hs
 have C := Lib.hid (fun w1 => in_any ps.length 1 16 true w1 m1)
 have C2 := Lib.hid (fun w1 h => two_any per w1 h)
 have C3 := Lib.hid (fun w1 => in_any dl 1 per true w1 t4)
 have C4 := Lib.hid (fun w1 h => contP_any P cp ps w1 h s1)
 rw [hp] at C4
 have HD := Lib.hid hd
 have HR := Lib.hid hr
 have HB := Lib.hid t3
 have HP := Lib.hid t2
 have HODD := Lib.hid hodd
 clear m1 hd hr t3 t4 hp hodd
 go_enter Tryz.func17, Tryz.ntmps17
 go_wp2_with fail
 refine (C.out _).mono ?_
 rintro e w' ⟨rfl, ⟨k, rfl⟩⟩
 go_wp2_with fail
 refine (C2.out _ (HD.out.box _ k)).mono ?_
 rintro e w' ⟨v, b, rfl, hv, k2, rfl⟩
 obtain rfl : b = true := (hv HP.out).trans HB.out
 clear hv
 go_wp2_with fail
 refine (C3.out _).mono ?_
 rintro e w' ⟨rfl, ⟨k3, rfl⟩⟩
 go_wp2_with fail
 refine (C4.out _ (HR.out.below (pw_below_drewN ((Below.refl _ _).alloc (Nat.le_refl _) _) _)).p).mono ?_
 rintro e w0 ⟨rfl, hb⟩
 have HB0 := Lib.hid ((pw_below_drewN ((Below.refl _ _).alloc (Nat.le_refl _) _) _ : Below w.heap.size w _).trans (hb.mono (by simp)))
 have x0 : w0.cell? ⟨w.heap.size, 0, none⟩ = some (.int .i64 per) := by rw [hb.cell (by simp)]; simp
 have x1 : w0.cell? ⟨w.heap.size, 1, none⟩ = some (.int .i64 dl) := by rw [hb.cell (by simp)]; simp
 have x2 : w0.cell? ⟨w.heap.size, 2, none⟩ = some (.slice P ps.length cp) := by rw [hb.cell (by simp)]; simp
 have x3 : w0.cell? ⟨w.heap.size, 3, none⟩ = some (.slice E es.length ce) := by rw [hb.cell (by simp)]; simp
 have x4 : w0.cell? ⟨w.heap.size, 4, none⟩ = some (.slice F fs.length cf) := by rw [hb.cell (by simp)]; simp
 have x5 : w0.cell? ⟨w.heap.size, 5, none⟩ = some (.slice B bs.length cb) := by rw [hb.cell (by simp)]; simp
 have HX : Hid (∀ W, Below w0.heap.size w0 W → W.cell? ⟨w.heap.size, 0, none⟩ = some (.int .i64 per) ∧ W.cell? ⟨w.heap.size, 1, none⟩ = some (.int .i64 dl) ∧ W.cell? ⟨w.heap.size, 2, none⟩ = some (.slice P ps.length cp) ∧ W.cell? ⟨w.heap.size, 3, none⟩ = some (.slice E es.length ce) ∧ W.cell? ⟨w.heap.size, 4, none⟩ = some (.slice F fs.length cf) ∧ W.cell? ⟨w.heap.size, 5, none⟩ = some (.slice B bs.length cb)) := by
  show ∀ W, _ → _
  intro W hW
  exact ⟨by rw [hW.cell (block_lt_of_cell x0)]; exact x0, by rw [hW.cell (block_lt_of_cell x1)]; exact x1, by rw [hW.cell (block_lt_of_cell x2)]; exact x2, by rw [hW.cell (block_lt_of_cell x3)]; exact x3, by rw [hW.cell (block_lt_of_cell x4)]; exact x4, by rw [hW.cell (block_lt_of_cell x5)]; exact x5⟩
 clear hb
 go_wp2_with fail
 go_loopw [63] (fun i wr => ∃ k : Nat, k ≤ es.length ∧ i = .int .i64 k ∧ Hid (Below w0.heap.size w0 wr)) (fun i _ => es.length - (intOf i).toNat)
 case atStart => exact ⟨0, Nat.zero_le _, rfl, Below.refl _ _⟩
 case round =>
  clear x0 x1 x2 x3 x4 x5
  obtain ⟨k, hk, rfl, HBW⟩ := hrel
  by_cases hlt : k < es.length
  ·have hbw : Below w.heap.size w wr := HB0.out.trans (HBW.out.mono HB0.out.size)
   obtain ⟨ad, hE, hr1, hr2⟩ := PCod.at_T63 (Kd.C_below HR.out.e hbw) (k : Int) (by omega) (by omega)
   subst hE
   have hrd : PCod.rd_T63 es (k : Int) = es.getD k PCod.z63 := by unfold PCod.rd_T63; rw [Int.toNat_natCast]
   rw [Int.toNat_natCast, hrd] at hr1 hr2
   obtain ⟨y, hy⟩ : ∃ y, y = es.getD k PCod.z63 := ⟨_, rfl⟩
   rw [← hy] at hr1 hr2
   have HEO := Lib.hid (edge_odd (per := per) (dl := dl) (ps := ps) (fs := fs) (bs := bs) hy)
   have HDR := Lib.hid (HR.out.below hbw)
   obtain ⟨y0, y1, y2, y3, y4, y5⟩ := HX.out _ HBW.out
   have HBW2 := Lib.hid hbw
   have hltI : (k : Int) < (es.length : Int) := by omega
   have hkd : (k : Int) ≤ (ce : Int) := by have := HR.out.ec; omega
   have hkd' : k ≤ ce := by omega
   clear hrd hy hbw
   go_wp2_with fail
   obtain ⟨W, hW⟩ : ∃ W, W = wr.alloc (Obj.cells #[.int .i64 y.f0, .int .i64 y.f1] 63) := ⟨_, rfl⟩
   have hbW : Below wr.heap.size wr W := by rw [hW]; exact (Below.refl _ _).alloc (Nat.le_refl _) _
   have hf0 : W.cell? ⟨wr.heap.size, 0, none⟩ = some (.int .i64 y.f0) := by rw [hW]; simp
   have ht0 : W.cell? ⟨wr.heap.size, 1, none⟩ = some (.int .i64 y.f1) := by rw [hW]; simp
   rw [← hW]
   clear hW
   have hbW0 : Below w0.heap.size w0 W := HBW.out.trans (hbW.mono HBW.out.size)
   obtain ⟨z0, z1, z2, z3, z4, z5⟩ := HX.out _ hbW0
   have HDW := Lib.hid (HDR.out.below hbW)
   have CT : ∀ d' os', Calls Tryz.prog 44 #[.agg #[.int .i64 per, .int .i64 dl, .slice P ps.length cp, .slice (some ad) es.length ce, .slice F fs.length cf, .slice B bs.length cb], .int .i64 y.f0, .int .i64 y.f1] (grow (redrawn W d') os') _ := regrown_calls (w := W) (fun W2 hB =>
    PCod.desc_two.calls per dl P cp ps (some ad) ce es F cf fs B cb bs y.f0 y.f1 (CodPlain.twoB ps.length y.f0 y.f1) W2 (HDW.out.below hB).p HDW.out.pc (HDW.out.below hB).e HDW.out.ec (HDW.out.below hB).f HDW.out.fc (HDW.out.below hB).b HDW.out.bc (two_f per dl ps es fs bs y.f0 y.f1 s1))
   obtain ⟨kE, hkE⟩ := edge_ev (es.take k) y.f0 y.f1 (by rw [List.length_take]; omega)
   have CE : ∀ d' os', Calls Tryz.prog 45 #[.slice (some ad) k ce, .agg #[.int .i64 y.f0, .int .i64 y.f1]] (grow (redrawn W d') os') _ := regrown_calls (w := W) (fun W2 hB => by
    have := PCod.api_Edge_45.calls kE (some ad) ce (es.take k) y.f0 y.f1 _ W2 (Kd.C_take (HDW.out.below hB).e hk) (by rw [List.length_take]; have := HDW.out.ec; omega) hkE
    rw [List.length_take, Nat.min_eq_left hk] at this
    exact this)
   have HF0 := fun d' os' => cell_regrown hf0 d' os'
   have HT0 := fun d' os' => cell_regrown ht0 d' os'
   have y0 := fun d' os' => cell_regrown z0 d' os'
   have y1 := fun d' os' => cell_regrown z1 d' os'
   have y2 := fun d' os' => cell_regrown z2 d' os'
   have y3 := fun d' os' => cell_regrown z3 d' os'
   have y4 := fun d' os' => cell_regrown z4 d' os'
   have y5 := fun d' os' => cell_regrown z5 d' os'
   have HBW3 := Lib.hid hbW0
   clear hbW hf0 ht0 hr1 hr2 hbW0 z0 z1 z2 z3 z4 z5 hkE
   have hnot := HODD.out k hlt
   rw [HEO.out] at hnot
   obtain ⟨hb1, hc⟩ : CodPlain.twoB ps.length y.f0 y.f1 = true ∧ ((es.take k).map tE).contains (y.f0, y.f1) = false := by
    rw [Bool.or_eq_false_iff, Bool.not_eq_false'] at hnot
    exact hnot
   rw [hb1] at CT
   rw [hc] at CE
   clear hb1 hc hnot
   refine wp_region_quiet_below (by kernel_rfl) (by kernel_rfl) ?_
   repeat (any_goals (first | go_big_quiet_step ((with_reducible (first | exact CT _ _ | exact CE _ _))) | quiet_step ((with_reducible (first | exact CT _ _ | exact CE _ _)))))
   refine wpQuiet_nil ?_
   rintro _ ⟨⟨dq, osq⟩, rfl⟩
   have HB3 := Lib.hid (HBW3.out.trans ((below_regrown W dq osq).mono HBW3.out.size))
   clear CT CE HF0 HT0 y0 y1 y2 y3 y4 y5
   generalize grow (redrawn W dq) osq = w4 at *
   go_wp2_with fail
   go_roundw
   case rel => exact ⟨k + 1, by omega, by go_num, HB3⟩
   case measure => simp [intOf]; omega
  ·obtain rfl : k = es.length := by omega
   obtain ⟨y0, y1, y2, y3, y4, y5⟩ := HX.out _ HBW.out
   have HE := Lib.hid HBW.out
   go_wp2_with fail
   clear y0 y1 y2 y3 y4 y5 HBW
   go_loopw [87] (fun i wr => ∃ k : Nat, k ≤ fs.length ∧ i = .int .i64 k ∧ Hid (∀ j, j < k → CodPlain.futOdd (dOf per dl ps es fs bs) j = false) ∧ Hid (Below w0.heap.size w0 wr)) (fun i _ => fs.length - (intOf i).toNat)
   case atStart => exact ⟨0, Nat.zero_le _, rfl, by show ∀ j, j < 0 → _; omega, HE⟩
   case round =>
    clear HE
    obtain ⟨k, hk, rfl, HN, HBW⟩ := hrel
    by_cases hlt : k < fs.length
    ·have hbw : Below w.heap.size w wr := HB0.out.trans (HBW.out.mono HB0.out.size)
     obtain ⟨ad, hF, hr0, hr1, hr2⟩ := PCod.at_T65 (Kd.C_below HR.out.f hbw) (k : Int) (by omega) (by omega)
     subst hF
     have hrd : PCod.rd_T65 fs (k : Int) = fs.getD k PCod.z65 := by unfold PCod.rd_T65; rw [Int.toNat_natCast]
     rw [Int.toNat_natCast, hrd] at hr0 hr1 hr2
     obtain ⟨y, hy⟩ : ∃ y, y = fs.getD k PCod.z65 := ⟨_, rfl⟩
     rw [← hy] at hr0 hr1 hr2
     have HFO := Lib.hid (fut_odd (per := per) (dl := dl) (ps := ps) (es := es) (bs := bs) hy)
     have HDR := Lib.hid (HR.out.below hbw)
     obtain ⟨y0, y1, y2, y3, y4, y5⟩ := HX.out _ HBW.out
     have HBW2 := Lib.hid hbw
     have hltI : (k : Int) < (fs.length : Int) := by omega
     have hkd : (k : Int) ≤ (cf : Int) := by have := HR.out.fc; omega
     have hkd' : k ≤ cf := by have := HR.out.fc; omega
     have HKD := Lib.hid hkd'
     clear hrd hy hbw
     obtain ⟨q0, q1, q2⟩ := y
     dsimp only at hr0 hr1 hr2
     cases hb1 : CodPlain.twoB ps.length q0 q1 with
     | false =>
      have HE54 : Hid (CodPlain.checkD (dOf per dl ps es fs bs) = 54) := CodPlain.check54 HP4.out (k := k) (by unfold dOf; rw [List.length_map]; exact hlt) (by rw [HFO.out]; dsimp only; rw [hb1]; rfl)
      go_wp2_with fail
      obtain ⟨W, hW⟩ : ∃ W, W = wr.alloc (Obj.cells #[.int .i64 q0, .int .i64 q1, .int .i64 q2] 65) := ⟨_, rfl⟩
      have hbW : Below wr.heap.size wr W := by rw [hW]; exact (Below.refl _ _).alloc (Nat.le_refl _) _
      have hx0 : W.cell? ⟨wr.heap.size, 0, none⟩ = some (.int .i64 q0) := by rw [hW]; simp
      have hx1 : W.cell? ⟨wr.heap.size, 1, none⟩ = some (.int .i64 q1) := by rw [hW]; simp
      have hx2 : W.cell? ⟨wr.heap.size, 2, none⟩ = some (.int .i64 q2) := by rw [hW]; simp
      have hblk : W.heap[wr.heap.size]? = some (.cells #[.int .i64 q0, .int .i64 q1, .int .i64 q2] 65 (0, 0)) := by rw [hW]; show (wr.heap.push _)[wr.heap.size]? = _; simp
      rw [← hW]
      clear hW
      have hbW0 : Below w0.heap.size w0 W := HBW.out.trans (hbW.mono HBW.out.size)
      obtain ⟨z0, z1, z2, z3, z4, z5⟩ := HX.out _ hbW0
      have HDW := Lib.hid (HDR.out.below hbW)
      have CT : ∀ d' os', Calls Tryz.prog 44 #[.agg #[.int .i64 per, .int .i64 dl, .slice P ps.length cp, .slice E es.length ce, .slice (some ad) fs.length cf, .slice B bs.length cb], .int .i64 q0, .int .i64 q1] (grow (redrawn W d') os') _ := regrown_calls (w := W) (fun W2 hB =>
       PCod.desc_two.calls per dl P cp ps E ce es (some ad) cf fs B cb bs q0 q1 (CodPlain.twoB ps.length q0 q1) W2 (HDW.out.below hB).p HDW.out.pc (HDW.out.below hB).e HDW.out.ec (HDW.out.below hB).f HDW.out.fc (HDW.out.below hB).b HDW.out.bc (two_f per dl ps es fs bs q0 q1 s1))
      have HX0 := fun d' os' => cell_regrown hx0 d' os'
      have HX1 := fun d' os' => cell_regrown hx1 d' os'
      have HX2 := fun d' os' => cell_regrown hx2 d' os'
      have y0 := fun d' os' => cell_regrown z0 d' os'
      have y1 := fun d' os' => cell_regrown z1 d' os'
      have y2 := fun d' os' => cell_regrown z2 d' os'
      have y3 := fun d' os' => cell_regrown z3 d' os'
      have y4 := fun d' os' => cell_regrown z4 d' os'
      have y5 := fun d' os' => cell_regrown z5 d' os'
      have HBW3 := Lib.hid hbW0
      have HBLK := Lib.hid hblk
      clear hbW hx0 hx1 hx2 hr0 hr1 hr2 hbW0 z0 z1 z2 z3 z4 z5 hblk
      rw [hb1] at CT
      clear hb1
      refine wp_region_quiet_below (by kernel_rfl) (by kernel_rfl) ?_
      repeat (any_goals (first | go_big_quiet_step ((with_reducible (first | exact CT _ _))) | quiet_step ((with_reducible (first | exact CT _ _)))))
      refine wpQuiet_nil ?_
      rintro _ ⟨⟨dq, osq⟩, rfl⟩
      have HB3 := Lib.hid (HBW3.out.trans ((below_regrown W dq osq).mono HBW3.out.size))
      clear CT HX0 HX1 HX2 y0 y1 y2 y3 y4 y5
      generalize grow (redrawn W dq) osq = w4 at *
      go_wp2_with fail
      go_ret
      exact ⟨by rw [HE54.out]; rfl, HB0.out.trans (HB3.out.mono HB0.out.size)⟩
     | true =>
      have hu := CodPlain.two_in hb1
      obtain ⟨u, rfl⟩ : ∃ u : Nat, q1 = (u : Int) := ⟨q1.toNat, by omega⟩
      have hu1 : (u : Int) < (ps.length : Int) := by omega
      have hu0 : u < ps.length := by omega
      obtain ⟨pd, hPd, hp0, hp1, hp2⟩ := PCod.at_T47 (Kd.C_below HR.out.p HBW2.out) (u : Int) (by omega) (by omega)
      subst hPd
      have hrdp : PCod.rd_T47 ps (u : Int) = ps.getD u PCod.z47 := by unfold PCod.rd_T47; rw [Int.toNat_natCast]
      rw [Int.toNat_natCast, hrdp] at hp2
      have hwk := HPW.out u hu0
      have HFO2 := HFO.out
      rw [show ((⟨q0, (u : Int), q2⟩ : PCod.S65).f1).toNat = u from Int.toNat_natCast u] at HFO2
      dsimp only at HFO2
      obtain ⟨wk, hwkE⟩ : ∃ x, x = (ps.getD u PCod.z47).f2 := ⟨_, rfl⟩
      rw [← hwkE] at hp2 hwk HFO2
      have HFO3 := Lib.hid HFO2
      have hwr : wrap64 (wk - 1) = wk - 1 := wrap_in (by omega)
      clear hwkE hrdp hp0 hp1 HFO2 hu
      cases hb2 : CodPlain.inB q2 1 (wk - 1) with
      | false =>
       have HE54 : Hid (CodPlain.checkD (dOf per dl ps es fs bs) = 54) := CodPlain.check54 HP4.out (k := k) (by unfold dOf; rw [List.length_map]; exact hlt) (by rw [HFO3.out, hb1, hb2]; rfl)
       go_wp2_with fail
       obtain ⟨W, hW⟩ : ∃ W, W = wr.alloc (Obj.cells #[.int .i64 q0, .int .i64 (u : Int), .int .i64 q2] 65) := ⟨_, rfl⟩
       have hbW : Below wr.heap.size wr W := by rw [hW]; exact (Below.refl _ _).alloc (Nat.le_refl _) _
       have hx0 : W.cell? ⟨wr.heap.size, 0, none⟩ = some (.int .i64 q0) := by rw [hW]; simp
       have hx1 : W.cell? ⟨wr.heap.size, 1, none⟩ = some (.int .i64 (u : Int)) := by rw [hW]; simp
       have hx2 : W.cell? ⟨wr.heap.size, 2, none⟩ = some (.int .i64 q2) := by rw [hW]; simp
       have hblk : W.heap[wr.heap.size]? = some (.cells #[.int .i64 q0, .int .i64 (u : Int), .int .i64 q2] 65 (0, 0)) := by rw [hW]; show (wr.heap.push _)[wr.heap.size]? = _; simp
       rw [← hW]
       clear hW
       have hbW0 : Below w0.heap.size w0 W := HBW.out.trans (hbW.mono HBW.out.size)
       obtain ⟨z0, z1, z2, z3, z4, z5⟩ := HX.out _ hbW0
       have HDW := Lib.hid (HDR.out.below hbW)
       have CT : ∀ d' os', Calls Tryz.prog 44 #[.agg #[.int .i64 per, .int .i64 dl, .slice (some pd) ps.length cp, .slice E es.length ce, .slice (some ad) fs.length cf, .slice B bs.length cb], .int .i64 q0, .int .i64 (u : Int)] (grow (redrawn W d') os') _ := regrown_calls (w := W) (fun W2 hB =>
        PCod.desc_two.calls per dl (some pd) cp ps E ce es (some ad) cf fs B cb bs q0 (u : Int) (CodPlain.twoB ps.length q0 (u : Int)) W2 (HDW.out.below hB).p HDW.out.pc (HDW.out.below hB).e HDW.out.ec (HDW.out.below hB).f HDW.out.fc (HDW.out.below hB).b HDW.out.bc (two_f per dl ps es fs bs q0 (u : Int) s1))
       have HX0 := fun d' os' => cell_regrown hx0 d' os'
       have HX1 := fun d' os' => cell_regrown hx1 d' os'
       have HX2 := fun d' os' => cell_regrown hx2 d' os'
       have y0 := fun d' os' => cell_regrown z0 d' os'
       have y1 := fun d' os' => cell_regrown z1 d' os'
       have y2 := fun d' os' => cell_regrown z2 d' os'
       have y3 := fun d' os' => cell_regrown z3 d' os'
       have y4 := fun d' os' => cell_regrown z4 d' os'
       have y5 := fun d' os' => cell_regrown z5 d' os'
       have HBW3 := Lib.hid hbW0
       have HBLK := Lib.hid hblk
       have HKW := hbW
       clear hbW hx0 hx1 hx2 hr0 hr1 hr2 hbW0 z0 z1 z2 z3 z4 z5 hblk
       rw [hb1] at CT
       have hp2W : W.cell? _ = _ := (HKW.cell (block_lt_of_cell hp2)).trans hp2
       have HP2 := fun d' os' => cell_regrown hp2W d' os'
       have CW : ∀ d' os', Calls Tryz.prog 40 #[.int .i64 q2, .int .i64 1, .int .i64 (wk - 1)] (grow (redrawn W d') os') _ := regrown_calls (w := W) (fun W2 hB => (in_any q2 1 (wk - 1) (CodPlain.inB q2 1 (wk - 1)) W2 rfl).mono (fun e w' h => ⟨h.1, by obtain ⟨kk, hkk⟩ := h.2; rw [hkk]; exact pw_below_drewN (Below.refl _ _) kk⟩))
       have CF : ∀ d' os', Calls Tryz.prog 47 #[.slice (some ad) k cf, .func (Fn.func 46) #[] #[.pointer (some ⟨wr.heap.size, 0, none⟩)]] (grow (redrawn W d') os') _ := regrown_calls (w := W) (fun W2 hB => by
        have := contF_any wr.heap.size q0 (u : Int) q2 (some ad) cf (fs.take k) W2 (Kd.C_take (HDW.out.below hB).f hk) (by rw [List.length_take]; omega) (blk_below HBLK.out hB)
        rw [List.length_take, Nat.min_eq_left hk] at this
        exact this)
       clear hp2 hp2W
       rw [hb2] at CW
       clear hb1 hb2 HKW
       refine wp_region_quiet_below (by kernel_rfl) (by kernel_rfl) ?_
       repeat (any_goals (first | go_big_quiet_step ((with_reducible (first | exact CT _ _ | exact CW _ _ | exact CF _ _))) | quiet_step ((with_reducible (first | exact CT _ _ | exact CW _ _ | exact CF _ _)))))
       refine wpQuiet_nil ?_
       rintro _ ⟨⟨dq, osq⟩, rfl⟩
       have HB3 := Lib.hid (HBW3.out.trans ((below_regrown W dq osq).mono HBW3.out.size))
       clear CT HX0 HX1 HX2 y0 y1 y2 y3 y4 y5
       clear CW CF HP2
       generalize grow (redrawn W dq) osq = w4 at *
       go_wp2_with fail
       go_ret
       exact ⟨by rw [HE54.out]; rfl, HB0.out.trans (HB3.out.mono HB0.out.size)⟩
      | true =>
       cases hb3 : (fs.take k).any (agB (u : Int) q2) with
       | true =>
        have HE54 : Hid (CodPlain.checkD (dOf per dl ps es fs bs) = 54) := CodPlain.check54 HP4.out (k := k) (by unfold dOf; rw [List.length_map]; exact hlt) (by rw [HFO3.out, hb1, hb2, hb3]; rfl)
        go_wp2_with fail
        obtain ⟨W, hW⟩ : ∃ W, W = wr.alloc (Obj.cells #[.int .i64 q0, .int .i64 (u : Int), .int .i64 q2] 65) := ⟨_, rfl⟩
        have hbW : Below wr.heap.size wr W := by rw [hW]; exact (Below.refl _ _).alloc (Nat.le_refl _) _
        have hx0 : W.cell? ⟨wr.heap.size, 0, none⟩ = some (.int .i64 q0) := by rw [hW]; simp
        have hx1 : W.cell? ⟨wr.heap.size, 1, none⟩ = some (.int .i64 (u : Int)) := by rw [hW]; simp
        have hx2 : W.cell? ⟨wr.heap.size, 2, none⟩ = some (.int .i64 q2) := by rw [hW]; simp
        have hblk : W.heap[wr.heap.size]? = some (.cells #[.int .i64 q0, .int .i64 (u : Int), .int .i64 q2] 65 (0, 0)) := by rw [hW]; show (wr.heap.push _)[wr.heap.size]? = _; simp
        rw [← hW]
        clear hW
        have hbW0 : Below w0.heap.size w0 W := HBW.out.trans (hbW.mono HBW.out.size)
        obtain ⟨z0, z1, z2, z3, z4, z5⟩ := HX.out _ hbW0
        have HDW := Lib.hid (HDR.out.below hbW)
        have CT : ∀ d' os', Calls Tryz.prog 44 #[.agg #[.int .i64 per, .int .i64 dl, .slice (some pd) ps.length cp, .slice E es.length ce, .slice (some ad) fs.length cf, .slice B bs.length cb], .int .i64 q0, .int .i64 (u : Int)] (grow (redrawn W d') os') _ := regrown_calls (w := W) (fun W2 hB =>
         PCod.desc_two.calls per dl (some pd) cp ps E ce es (some ad) cf fs B cb bs q0 (u : Int) (CodPlain.twoB ps.length q0 (u : Int)) W2 (HDW.out.below hB).p HDW.out.pc (HDW.out.below hB).e HDW.out.ec (HDW.out.below hB).f HDW.out.fc (HDW.out.below hB).b HDW.out.bc (two_f per dl ps es fs bs q0 (u : Int) s1))
        have HX0 := fun d' os' => cell_regrown hx0 d' os'
        have HX1 := fun d' os' => cell_regrown hx1 d' os'
        have HX2 := fun d' os' => cell_regrown hx2 d' os'
        have y0 := fun d' os' => cell_regrown z0 d' os'
        have y1 := fun d' os' => cell_regrown z1 d' os'
        have y2 := fun d' os' => cell_regrown z2 d' os'
        have y3 := fun d' os' => cell_regrown z3 d' os'
        have y4 := fun d' os' => cell_regrown z4 d' os'
        have y5 := fun d' os' => cell_regrown z5 d' os'
        have HBW3 := Lib.hid hbW0
        have HBLK := Lib.hid hblk
        have HKW := hbW
        clear hbW hx0 hx1 hx2 hr0 hr1 hr2 hbW0 z0 z1 z2 z3 z4 z5 hblk
        rw [hb1] at CT
        have hp2W : W.cell? _ = _ := (HKW.cell (block_lt_of_cell hp2)).trans hp2
        have HP2 := fun d' os' => cell_regrown hp2W d' os'
        have CW : ∀ d' os', Calls Tryz.prog 40 #[.int .i64 q2, .int .i64 1, .int .i64 (wk - 1)] (grow (redrawn W d') os') _ := regrown_calls (w := W) (fun W2 hB => (in_any q2 1 (wk - 1) (CodPlain.inB q2 1 (wk - 1)) W2 rfl).mono (fun e w' h => ⟨h.1, by obtain ⟨kk, hkk⟩ := h.2; rw [hkk]; exact pw_below_drewN (Below.refl _ _) kk⟩))
        have CF : ∀ d' os', Calls Tryz.prog 47 #[.slice (some ad) k cf, .func (Fn.func 46) #[] #[.pointer (some ⟨wr.heap.size, 0, none⟩)]] (grow (redrawn W d') os') _ := regrown_calls (w := W) (fun W2 hB => by
         have := contF_any wr.heap.size q0 (u : Int) q2 (some ad) cf (fs.take k) W2 (Kd.C_take (HDW.out.below hB).f hk) (by rw [List.length_take]; omega) (blk_below HBLK.out hB)
         rw [List.length_take, Nat.min_eq_left hk] at this
         exact this)
        clear hp2 hp2W
        rw [hb2] at CW
        rw [hb3] at CF
        clear hb1 hb2 hb3 HKW
        refine wp_region_quiet_below (by kernel_rfl) (by kernel_rfl) ?_
        repeat (any_goals (first | go_big_quiet_step ((with_reducible (first | exact CT _ _ | exact CW _ _ | exact CF _ _))) | quiet_step ((with_reducible (first | exact CT _ _ | exact CW _ _ | exact CF _ _)))))
        refine wpQuiet_nil ?_
        rintro _ ⟨⟨dq, osq⟩, rfl⟩
        have HB3 := Lib.hid (HBW3.out.trans ((below_regrown W dq osq).mono HBW3.out.size))
        clear CT HX0 HX1 HX2 y0 y1 y2 y3 y4 y5
        clear CW CF HP2
        generalize grow (redrawn W dq) osq = w4 at *
        go_wp2_with fail
        go_ret
        exact ⟨by rw [HE54.out]; rfl, HB0.out.trans (HB3.out.mono HB0.out.size)⟩
       | false =>
        have HN2 : Hid (∀ j, j < k + 1 → CodPlain.futOdd (dOf per dl ps es fs bs) j = false) := CodPlain.snoc_no HN.out (by rw [HFO3.out, hb1, hb2, hb3]; rfl)
        go_wp2_with fail
        obtain ⟨W, hW⟩ : ∃ W, W = wr.alloc (Obj.cells #[.int .i64 q0, .int .i64 (u : Int), .int .i64 q2] 65) := ⟨_, rfl⟩
        have hbW : Below wr.heap.size wr W := by rw [hW]; exact (Below.refl _ _).alloc (Nat.le_refl _) _
        have hx0 : W.cell? ⟨wr.heap.size, 0, none⟩ = some (.int .i64 q0) := by rw [hW]; simp
        have hx1 : W.cell? ⟨wr.heap.size, 1, none⟩ = some (.int .i64 (u : Int)) := by rw [hW]; simp
        have hx2 : W.cell? ⟨wr.heap.size, 2, none⟩ = some (.int .i64 q2) := by rw [hW]; simp
        have hblk : W.heap[wr.heap.size]? = some (.cells #[.int .i64 q0, .int .i64 (u : Int), .int .i64 q2] 65 (0, 0)) := by rw [hW]; show (wr.heap.push _)[wr.heap.size]? = _; simp
        rw [← hW]
        clear hW
        have hbW0 : Below w0.heap.size w0 W := HBW.out.trans (hbW.mono HBW.out.size)
        obtain ⟨z0, z1, z2, z3, z4, z5⟩ := HX.out _ hbW0
        have HDW := Lib.hid (HDR.out.below hbW)
        have CT : ∀ d' os', Calls Tryz.prog 44 #[.agg #[.int .i64 per, .int .i64 dl, .slice (some pd) ps.length cp, .slice E es.length ce, .slice (some ad) fs.length cf, .slice B bs.length cb], .int .i64 q0, .int .i64 (u : Int)] (grow (redrawn W d') os') _ := regrown_calls (w := W) (fun W2 hB =>
         PCod.desc_two.calls per dl (some pd) cp ps E ce es (some ad) cf fs B cb bs q0 (u : Int) (CodPlain.twoB ps.length q0 (u : Int)) W2 (HDW.out.below hB).p HDW.out.pc (HDW.out.below hB).e HDW.out.ec (HDW.out.below hB).f HDW.out.fc (HDW.out.below hB).b HDW.out.bc (two_f per dl ps es fs bs q0 (u : Int) s1))
        have HX0 := fun d' os' => cell_regrown hx0 d' os'
        have HX1 := fun d' os' => cell_regrown hx1 d' os'
        have HX2 := fun d' os' => cell_regrown hx2 d' os'
        have y0 := fun d' os' => cell_regrown z0 d' os'
        have y1 := fun d' os' => cell_regrown z1 d' os'
        have y2 := fun d' os' => cell_regrown z2 d' os'
        have y3 := fun d' os' => cell_regrown z3 d' os'
        have y4 := fun d' os' => cell_regrown z4 d' os'
        have y5 := fun d' os' => cell_regrown z5 d' os'
        have HBW3 := Lib.hid hbW0
        have HBLK := Lib.hid hblk
        have HKW := hbW
        clear hbW hx0 hx1 hx2 hr0 hr1 hr2 hbW0 z0 z1 z2 z3 z4 z5 hblk
        rw [hb1] at CT
        have hp2W : W.cell? _ = _ := (HKW.cell (block_lt_of_cell hp2)).trans hp2
        have HP2 := fun d' os' => cell_regrown hp2W d' os'
        have CW : ∀ d' os', Calls Tryz.prog 40 #[.int .i64 q2, .int .i64 1, .int .i64 (wk - 1)] (grow (redrawn W d') os') _ := regrown_calls (w := W) (fun W2 hB => (in_any q2 1 (wk - 1) (CodPlain.inB q2 1 (wk - 1)) W2 rfl).mono (fun e w' h => ⟨h.1, by obtain ⟨kk, hkk⟩ := h.2; rw [hkk]; exact pw_below_drewN (Below.refl _ _) kk⟩))
        have CF : ∀ d' os', Calls Tryz.prog 47 #[.slice (some ad) k cf, .func (Fn.func 46) #[] #[.pointer (some ⟨wr.heap.size, 0, none⟩)]] (grow (redrawn W d') os') _ := regrown_calls (w := W) (fun W2 hB => by
         have := contF_any wr.heap.size q0 (u : Int) q2 (some ad) cf (fs.take k) W2 (Kd.C_take (HDW.out.below hB).f hk) (by rw [List.length_take]; omega) (blk_below HBLK.out hB)
         rw [List.length_take, Nat.min_eq_left hk] at this
         exact this)
        clear hp2 hp2W
        rw [hb2] at CW
        rw [hb3] at CF
        clear hb1 hb2 hb3 HKW
        refine wp_region_quiet_below (by kernel_rfl) (by kernel_rfl) ?_
        repeat (any_goals (first | go_big_quiet_step ((with_reducible (first | exact CT _ _ | exact CW _ _ | exact CF _ _))) | quiet_step ((with_reducible (first | exact CT _ _ | exact CW _ _ | exact CF _ _)))))
        refine wpQuiet_nil ?_
        rintro _ ⟨⟨dq, osq⟩, rfl⟩
        have HB3 := Lib.hid (HBW3.out.trans ((below_regrown W dq osq).mono HBW3.out.size))
        clear CT HX0 HX1 HX2 y0 y1 y2 y3 y4 y5
        clear CW CF HP2
        generalize grow (redrawn W dq) osq = w4 at *
        go_wp2_with fail
        go_roundw
        case rel => exact ⟨k + 1, by omega, by go_num, HN2, HB3⟩
        case measure => simp [intOf]; omega
    ·obtain rfl : k = fs.length := by omega
     obtain ⟨y0, y1, y2, y3, y4, y5⟩ := HX.out _ HBW.out
     have HE := Lib.hid HBW.out
     have HP5 : Hid (CodPlain.Pre5 (dOf per dl ps es fs bs)) := ⟨HP4.out, CodPlain.range_no (fun j hj => HN.out j (by unfold dOf at hj; rwa [List.length_map] at hj))⟩
     go_wp2_with fail
     clear y0 y1 y2 y3 y4 y5 HBW HN
     go_loopw [126] (fun i wr => ∃ k : Nat, k ≤ bs.length ∧ i = .int .i64 k ∧ Hid (∀ j, j < k → CodPlain.barOdd (dOf per dl ps es fs bs) ((dOf per dl ps es fs bs).bars.getD j ([], [])) = false) ∧ Hid (Below w0.heap.size w0 wr)) (fun i _ => bs.length - (intOf i).toNat)
     case atStart => exact ⟨0, Nat.zero_le _, rfl, by show ∀ j, j < 0 → _; omega, HE⟩
     case round =>
      clear HE
      obtain ⟨k, hk, rfl, HN, HBW⟩ := hrel
      by_cases hlt : k < bs.length
      ·have hbw : Below w.heap.size w wr := HB0.out.trans (HBW.out.mono HB0.out.size)
       obtain ⟨ad, A0, c0, A1, c1, hF, hr0, hr1, hl0, hc0, hl1, hc1⟩ := PCod.at_T50 (Kd.C_below HR.out.b hbw) (k : Int) (by omega) (by omega)
       subst hF
       have hrd : PCod.rd_T50 bs (k : Int) = bs.getD k PCod.z50 := by unfold PCod.rd_T50; rw [Int.toNat_natCast]
       rw [Int.toNat_natCast, hrd] at hr0 hr1
       rw [hrd] at hl0 hc0 hl1 hc1
       have hbl := HBL.out _ (CodPlain.getD_in (d := PCod.z50) hlt)
       obtain ⟨y, hy⟩ : ∃ y, y = bs.getD k PCod.z50 := ⟨_, rfl⟩
       rw [← hy] at hr0 hr1 hl0 hc0 hl1 hc1 hbl
       have HBO := Lib.hid (bar_odd (per := per) (dl := dl) (ps := ps) (es := es) (fs := fs) hy)
       obtain ⟨y0, y1, y2, y3, y4, y5⟩ := HX.out _ HBW.out
       have HBW2 := Lib.hid hbw
       have HC0 := Lib.hid hc0
       have HC1 := Lib.hid hc1
       have hltI : (k : Int) < (bs.length : Int) := by omega
       clear hrd hy hbw hc0 hc1
       obtain ⟨li, lo⟩ := y
       dsimp only at hr0 hr1 hl0 hl1 hbl HC0 HC1
       obtain ⟨hb0, hb1⟩ := hbl
       obtain ⟨rI, hRI⟩ : ∃ r, r = CodPlain.rowB ps.length li := ⟨_, rfl⟩
       obtain ⟨rO, hRO⟩ : ∃ r, r = CodPlain.rowB ps.length lo := ⟨_, rfl⟩
       obtain ⟨rA, hRA⟩ : ∃ r, r = li.any (outB lo) := ⟨_, rfl⟩
       have HBO2 : Hid (CodPlain.barOdd (dOf per dl ps es fs bs) ((dOf per dl ps es fs bs).bars.getD k ([], [])) = (!rI || !rO || rA)) := by rw [hRI, hRO, hRA]; exact HBO.out
       clear HBO
       have CR : Hid (∀ (A : Option Addr) (c : Nat) (l : List Int) (W : World), Below w.heap.size w W → l.length ≤ 1000 → l.length ≤ c → Kd.C (Kd.int .i64) W A l.length l → Calls Tryz.prog 50 #[.agg #[.int .i64 per, .int .i64 dl, .slice P ps.length cp, .slice E es.length ce, .slice F fs.length cf, .slice (some ad) bs.length cb], .slice A l.length c] W fun e w' => e = .returned (.bool (CodPlain.rowB ps.length l)) ∧ Below W.heap.size W w') := by
        show ∀ _ _ _ _, _
        intro A c l W hW hl hlc hC
        obtain ⟨kk, hkk⟩ := row_ev per dl ps es fs bs l s1 hl
        have hd := HR.out.below hW
        exact PCod.desc_row.calls kk per dl P cp ps E ce es F cf fs (some ad) cb bs A c l _ W hd.p hd.pc hd.e hd.ec hd.f hd.fc hd.b hd.bc hC hlc hkk
       have hmf : ∀ (fn : Fn) (first cap : Array Value) (w : World), (Instr.makeFunc fn first cap).run Tryz.prog w = .ok (.func fn first cap) w := fun _ _ _ _ => rfl
       have hAl : Below w0.heap.size w0 (wr.alloc (Obj.cells #[.slice A0 li.length c0, .slice A1 lo.length c1] 50)) := HBW.out.alloc HBW.out.size _
       have hAr : Below wr.heap.size wr (wr.alloc (Obj.cells #[.slice A0 li.length c0, .slice A1 lo.length c1] 50)) := (Below.refl _ _).alloc (Nat.le_refl _) _
       have hblk : (wr.alloc (Obj.cells #[.slice A0 li.length c0, .slice A1 lo.length c1] 50)).heap[wr.heap.size]? = some (.cells #[.slice A0 li.length c0, .slice A1 lo.length c1] 50 (0, 0)) := by show (wr.heap.push _)[wr.heap.size]? = _; simp
       obtain ⟨z0, z1, z2, z3, z4, z5⟩ := HX.out _ hAl
       have HAl := Lib.hid hAl
       have HBLK := Lib.hid hblk
       have HCA0 := Lib.hid (Kd.C_below HC0.out hAr)
       have HCA1 := Lib.hid (Kd.C_below HC1.out hAr)
       have HRI := Lib.hid hRI
       have HRO := Lib.hid hRO
       have HRA := Lib.hid hRA
       clear y0 y1 y2 y3 y4 y5 hAl hAr hblk HC0 HC1 hRI hRO hRA
       have hsz : w.heap.size < wr.heap.size := by have := HBW.out.size; have := block_lt_of_cell (HX.out _ (Below.refl _ _)).1; dsimp only at this; omega
       go_wp2_with fail
       generalize wr.alloc (Obj.cells #[Value.slice A0 li.length c0, Value.slice A1 lo.length c1] 50) = W at *
       clear z0 z1 z2 z3 z4 z5 hr0 hr1
       refine (CR.out A0 c0 li W (HB0.out.trans (HAl.out.mono HB0.out.size)) hb0 hl0 HCA0.out).mono ?_
       rintro e w1 ⟨rfl, hb⟩
       rw [← HRI.out]
       have HAl1 := Lib.hid (HAl.out.trans (hb.mono HAl.out.size))
       have HBLK1 := Lib.hid (blk_below HBLK.out hb)
       have HC10 := Lib.hid (Kd.C_below HCA0.out hb)
       have HC11 := Lib.hid (Kd.C_below HCA1.out hb)
       clear HAl HBLK HCA0 HCA1 hb HRI
       cases rI with
       | false =>
        have HE55 : Hid (CodPlain.checkD (dOf per dl ps es fs bs) = 55) := CodPlain.check55 HP5.out (k := k) (by unfold dOf; rw [List.length_map]; exact hlt) (by rw [HBO2.out]; rfl)
        go_wp2_with fail
        go_ret
        exact ⟨by rw [HE55.out]; rfl, HB0.out.trans (HAl1.out.mono HB0.out.size)⟩
       | true =>
        obtain ⟨y0, y1, y2, y3, y4, y5⟩ := HX.out _ HAl1.out
        have hb1c : w1.cell? ⟨wr.heap.size, 1, none⟩ = some (.slice A1 lo.length c1) := (blk_cell HBLK1.out 1).trans rfl
        go_wp2_with fail
        refine (CR.out A1 c1 lo w1 (HB0.out.trans (HAl1.out.mono HB0.out.size)) hb1 hl1 HC11.out).mono ?_
        rintro e w2 ⟨rfl, hb⟩
        rw [← HRO.out]
        have HAl2 := Lib.hid (HAl1.out.trans (hb.mono HAl1.out.size))
        have HBLK2 := Lib.hid (blk_below HBLK1.out hb)
        have HC20 := Lib.hid (Kd.C_below HC10.out hb)
        have HC21 := Lib.hid (Kd.C_below HC11.out hb)
        clear HAl1 HBLK1 HC10 HC11 hb HRO y0 y1 y2 y3 y4 y5 hb1c
        cases rO with
        | false =>
         have HE55 : Hid (CodPlain.checkD (dOf per dl ps es fs bs) = 55) := CodPlain.check55 HP5.out (k := k) (by unfold dOf; rw [List.length_map]; exact hlt) (by rw [HBO2.out]; rfl)
         go_wp2_with fail
         go_ret
         exact ⟨by rw [HE55.out]; rfl, HB0.out.trans (HAl2.out.mono HB0.out.size)⟩
        | true =>
         have hb0c : w2.cell? ⟨wr.heap.size, 0, none⟩ = some (.slice A0 li.length c0) := (blk_cell HBLK2.out 0).trans rfl
         go_wp2_with fail
         refine (contO_any wr.heap.size _ A1 c1 lo A0 c0 li w2 (Kd.reads_of_C (d := (0 : Int)) (h1 := fun _ => rfl) HC20.out) hb0 HBLK2.out (Kd.reads_of_C (d := (0 : Int)) (h1 := fun _ => rfl) HC21.out) hb1).mono ?_
         rintro e w3 ⟨rfl, hb⟩
         rw [← HRA.out]
         have HAl3 := Lib.hid (HAl2.out.trans (hb.mono HAl2.out.size))
         clear HAl2 HBLK2 HC20 HC21 hb HRA hb0c
         cases rA with
         | true =>
          have HE55 : Hid (CodPlain.checkD (dOf per dl ps es fs bs) = 55) := CodPlain.check55 HP5.out (k := k) (by unfold dOf; rw [List.length_map]; exact hlt) (by rw [HBO2.out]; rfl)
          go_wp2_with fail
          go_ret
          exact ⟨by rw [HE55.out]; rfl, HB0.out.trans (HAl3.out.mono HB0.out.size)⟩
         | false =>
          have HN2 : Hid (∀ j, j < k + 1 → CodPlain.barOdd (dOf per dl ps es fs bs) ((dOf per dl ps es fs bs).bars.getD j ([], [])) = false) := CodPlain.snoc_no HN.out (by rw [HBO2.out]; rfl)
          go_wp2_with fail
          go_roundw
          case rel => exact ⟨k + 1, by omega, by go_num, HN2, HAl3⟩
          case measure => simp [intOf]; omega
      ·obtain rfl : k = bs.length := by omega
       have HE0 : Hid (CodPlain.checkD (dOf per dl ps es fs bs) = 0) := CodPlain.check0 HP5.out (fun j hj => HN.out j (by unfold dOf at hj; rwa [List.length_map] at hj))
       go_wp2_with fail
       go_ret
       exact ⟨by rw [HE0.out]; rfl, HB0.out.trans (HBW.out.mono HB0.out.size)⟩
end Go.Proofs.YtokhibhmlninnaaGreatDoor

set_option linter.unusedVariables false
set_option linter.unusedSimpArgs false
namespace Go.Proofs.YtokhibhmlninnaaGreatDoor
open Go.RowKit Go.Proofs.YtokhibhmlninnaaGreatDoorW.PrintWords
theorem check_any (per dl : Int) (P : Option Addr) (cp : Nat) (ps : List PCod.S47) (E : Option Addr) (ce : Nat) (es : List PCod.S63) (F : Option Addr) (cf : Nat) (fs : List PCod.S65) (B : Option Addr) (cb : Nat) (bs : List PCod.S50) (w : World)
  (hs : ps.length ≤ 1000 ∧ es.length ≤ 1000 ∧ fs.length ≤ 1000 ∧ bs.length ≤ 1000) (hbl : ∀ b ∈ bs, b.f0.length ≤ 1000 ∧ b.f1.length ≤ 1000) (hd : DbAt w) (hr : DR w P cp ps E ce es F cf fs B cb bs) :
  Calls Tryz.prog 17 #[.agg #[.int .i64 per, .int .i64 dl, .slice P ps.length cp, .slice E es.length ce, .slice F fs.length cf, .slice B bs.length cb]] w fun e w' => e = .returned (.int .i64 (CodPlain.checkD (dOf per dl ps es fs bs))) ∧ Below w.heap.size w w' := by
 cases h : CodPlain.manyB (dOf per dl ps es fs bs) with
 | true => rw [CodPlain.check50 h]; exact check_many per dl P cp ps E ce es F cf fs B cb bs w hs h
 | false =>
  cases ht : CodPlain.timeB (dOf per dl ps es fs bs) with
  | false => rw [CodPlain.check51 ⟨h⟩ ht]; exact check_time per dl P cp ps E ce es F cf fs B cb bs w hs hd h ht
  | true =>
   cases hp : ps.any (fun x => CodPlain.partOdd (tP x)) with
   | true => rw [CodPlain.check52 ⟨⟨h⟩, ht⟩ ((part_any_map ps).trans hp)]; exact check_part per dl P cp ps E ce es F cf fs B cb bs w hs hd hr h ht hp
   | false =>
    by_cases ho : ∃ k, k < es.length ∧ CodPlain.edgeOdd (dOf per dl ps es fs bs) k = true
    ·obtain ⟨k, hk, hk2⟩ := ho
     rw [CodPlain.check53 ⟨⟨⟨h⟩, ht⟩, (part_any_map ps).trans hp⟩ (k := k) (by unfold dOf; rw [List.length_map]; exact hk) hk2]
     exact check_edge per dl P cp ps E ce es F cf fs B cb bs w hs hd hr h ht hp ⟨k, hk, hk2⟩
    ·refine check_rest per dl P cp ps E ce es F cf fs B cb bs w hs hd hr h ht hp (fun j hj => ?_) hbl
     cases hj2 : CodPlain.edgeOdd (dOf per dl ps es fs bs) j with
     | false => rfl
     | true => exact absurd ⟨j, hj, hj2⟩ ho
end Go.Proofs.YtokhibhmlninnaaGreatDoor
