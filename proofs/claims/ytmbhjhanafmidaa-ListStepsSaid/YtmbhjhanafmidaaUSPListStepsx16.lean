/- Written by a program of this work: each theorem says that a call of the Go function comes to what the Lean function beside it tells, under the conditions that it names; Lean checks it. -/
import Derived.Test.YtmbhjhanafmidaaUSPListStepsx0
import Derived.Test.YtmbhjhanafmidaaUSPListStepsx12
import Derived.Test.YtmbhjhanafmidaaUSPListStepsx14
import Derived.Test.YtmbhjhanafmidaaUSPListStepsx15
import Derived.Test.YtmbhjhanafmidaaUSZr
import Derived.Test.YtmbhjhanafmidaaUSZq
namespace Go.Proofs.Ytmbhjhanafmidaa.PListSteps
open Go.Proofs.Ytmbhjhanafmidaa.PAw Go.Proofs.Ytmbhjhanafmidaa.Zr Go.RowKit Go.Proofs.YtmbhjhanafmidaaW.PrintWords Go.Proofs.YtmbhjhanafmidaaW.PrintLast Go.Proofs.YtmbhjhanafmidaaW.PrintMore
attribute [local go_sem] max2_int min2_int max_two min_two max_three min_three max_four min_four   -- for this text's walks alone
set_option linter.unusedVariables false
set_option linter.unusedSimpArgs false
theorem has_cut (k : Nat) (A0 : Option Addr) (c0 : Nat) (l : List Int) (i : Int) (h0 : 0 ≤ i) (h1 : i ≤ (l.length : Int)) (a1 : Int) (r : Bool) (w : World) (hr0 : Kd.C (Kd.int .i64) w A0 (l.take i.toNat).length (l.take i.toNat)) (hc0 : (l.take i.toNat).length ≤ c0) (h : trefoilref04_Has.f k (l.take i.toNat) a1 = some r) :
 Calls Try.prog 31 #[.slice A0 i.toNat c0, .int .i64 a1] w fun e w' => e = .returned (.bool r) ∧ Drawn0 w w' := by
 have := trefoilref04_Has.calls k A0 c0 (l.take i.toNat) a1 r w hr0 hc0 h
 rw [show (l.take i.toNat).length = i.toNat by rw [List.length_take]; omega] at this
 exact this
mutual
def trefoilref11_Check.j0 : Nat → Bool → List Int → List (S85) → List Int → List Int → Option (Int)
 | 0, _, _, _, _, _ => none
 | k + 1, x33, x346000, x346001, x347000, x347001 => if x33 = true then (some 110) else (trefoilref11_Check.l0 k 0 x346000 x346001 x347000 x347001)
def trefoilref11_Check.l0 : Nat → Int → List Int → List (S85) → List Int → List Int → Option (Int)
 | 0, _, _, _, _, _ => none
 | k + 1, x6, x346000, x346001, x347000, x347001 => if x6 < (x347001.length : Int) then (if 0 ≤ x6 then (if (rd x347001 x6) < 0 then (some 110) else (if (rd x347001 x6) > 1000 then (some 110) else (trefoilref11_Check.l0 k (wrap64 (x6 + 1)) x346000 x346001 x347000 x347001))) else (none)) else (trefoilref11_Check.l1 k 0 x346000 x346001 x347000 x347001)
def trefoilref11_Check.l1 : Nat → Int → List Int → List (S85) → List Int → List Int → Option (Int)
 | 0, _, _, _, _, _ => none
 | k + 1, x7, x346000, x346001, x347000, x347001 => if x7 < (x347001.length : Int) then (if 0 ≤ x7 then (if (rd x347001 x7) = 0 then ((trefoilref11_Over.f k x346000 x346001 x347000 x347001 x7).bind fun t351 => (if t351 = true then (trefoilref11_Check.l1 k (wrap64 (x7 + 1)) x346000 x346001 x347000 x347001) else (some 110))) else (trefoilref11_Check.l1 k (wrap64 (x7 + 1)) x346000 x346001 x347000 x347001)) else (none)) else (trefoilref11_Check.l2 k 0 x346000 x346001 x347000 x347001)
def trefoilref11_Check.l2 : Nat → Int → List Int → List (S85) → List Int → List Int → Option (Int)
 | 0, _, _, _, _, _ => none
 | k + 1, x8, x346000, x346001, x347000, x347001 => if x8 < (x347000.length : Int) then (if 0 ≤ x8 then (if (rd x347000 x8) < (-1) then (some 110) else (if (rd x347000 x8) ≥ (x347001.length : Int) then (some 110) else (if (rd x347000 x8) ≥ 0 then (if 0 ≤ (rd x347000 x8) then (if (rd x347000 x8) < (x347001.length : Int) then (if (rd x347001 (rd x347000 x8)) = 0 then (some 110) else ((trefoilref11_Over.f k x346000 x346001 x347000 x347001 (rd x347000 x8)).bind fun t354 => (if t354 = true then (if x8 ≤ (x347000.length : Int) then ((trefoilref04_Has.f k (x347000.take (x8 : Int).toNat) (rd x347000 x8)).bind fun t356 => (if t356 = true then (some 110) else (trefoilref11_Check.l2 k (wrap64 (x8 + 1)) x346000 x346001 x347000 x347001))) else (none)) else (some 110)))) else (none)) else (none)) else (trefoilref11_Check.l2 k (wrap64 (x8 + 1)) x346000 x346001 x347000 x347001)))) else (none)) else (some 0)
end
def trefoilref11_Check.f (k : Nat) (l0_0 : List Int) (l0_1 : List (S85)) (l1_0 : List Int) (l1_1 : List Int) : Option (Int) := (trefoilref04_Check.f k l0_0 l0_1).bind fun t347 => (if t347 = 0 then (if (l1_0.length : Int) < 1 then (trefoilref11_Check.j0 k true l0_0 l0_1 l1_0 l1_1) else (if (l1_0.length : Int) > 8 then (trefoilref11_Check.j0 k true l0_0 l0_1 l1_0 l1_1) else (trefoilref11_Check.j0 k ((l1_1.length : Int) != (l0_0.length : Int)) l0_0 l0_1 l1_0 l1_1))) else (some t347))
set_option maxHeartbeats 8000000 in
set_option maxRecDepth 100000 in
theorem trefoilref11_Check.calls (k : Nat) (A0_0 : Option Addr) (c0_0 : Nat) (l0_0 : List Int) (A0_1 : Option Addr) (c0_1 : Nat) (l0_1 : List (S85)) (A1_0 : Option Addr) (c1_0 : Nat) (l1_0 : List Int) (A1_1 : Option Addr) (c1_1 : Nat) (l1_1 : List Int) (r : Int) (w : World) (hr0_0 : Kd.C (Kd.int .i64) w A0_0 l0_0.length l0_0) (hc0_0 : l0_0.length ≤ c0_0) (hr0_1 : Kd.C k85 w A0_1 l0_1.length l0_1) (hc0_1 : l0_1.length ≤ c0_1) (hr1_0 : Kd.C (Kd.int .i64) w A1_0 l1_0.length l1_0) (hc1_0 : l1_0.length ≤ c1_0) (hr1_1 : Kd.C (Kd.int .i64) w A1_1 l1_1.length l1_1) (hc1_1 : l1_1.length ≤ c1_1) (h : trefoilref11_Check.f k l0_0 l0_1 l1_0 l1_1 = some r) :
  Calls Try.prog 16 #[.agg #[.slice A0_0 l0_0.length c0_0, .slice A0_1 l0_1.length c0_1], .agg #[.slice A1_0 l1_0.length c1_0, .slice A1_1 l1_1.length c1_1]] w fun e w' => e = .returned (.int .i64 r) ∧ Below w.heap.size w w' := by
 have hu25 := Try.underlying25
 have hu27 := Try.underlying27
 have HR0_0 := Z0 hr0_0
 have HC0_0 := Z0 hc0_0
 clear hr0_0 hc0_0
 have HR0_1 := Z0 hr0_1
 have HC0_1 := Z0 hc0_1
 clear hr0_1 hc0_1
 have HR1_0 := Z0 hr1_0
 have HC1_0 := Z0 hc1_0
 clear hr1_0 hc1_0
 have HR1_1 := Z0 hr1_1
 have HC1_1 := Z0 hc1_1
 clear hr1_1 hc1_1
 have HB := Z0 (Below.refl w.heap.size w)
 have H : ((trefoilref04_Check.f k l0_0 l0_1).bind fun t347 => (if t347 = 0 then (if (l1_0.length : Int) < 1 then (trefoilref11_Check.j0 k true l0_0 l0_1 l1_0 l1_1) else (if (l1_0.length : Int) > 8 then (trefoilref11_Check.j0 k true l0_0 l0_1 l1_0 l1_1) else (trefoilref11_Check.j0 k ((l1_1.length : Int) != (l0_0.length : Int)) l0_0 l0_1 l1_0 l1_1))) else (some t347))) = some r := h
 clear h
 replace H := Option.bind_eq_some_iff.mp H
 obtain ⟨t347, A30, H⟩ := H
 have A3 := Z0 A30
 clear A30
 by_cases c4 : t347 = 0
 rotate_left
 ·rw [if_neg c4] at H
  have c4b0 : (t347 == 0) = false := beq_eq_false_iff_ne.mpr c4
  have c4b1 : (t347 != 0) = true := bne_iff_ne.mpr c4
  obtain rfl := Option.some.inj H
  go_enter Try.func16, Try.ntmps16
  go_wp2_with (first | ((with_reducible refine gate_dst (N := 2) rfl ?_); (try (refine gate_guard (by rfl) ?_; dsimp only)); refine zx (N := 2) #[.slice A0_0 l0_0.length c0_0, .slice A0_1 l0_1.length c0_1] 25 ?_; intro gb345 hg w90 hbox hb; have BK345 := Z0 (hbox); have GW345 := Z0 (zh w hg HB); have GE345 := Z0 (zh w hg HB); replace HB := Z0 (below_step (zb HB) hb); clear hb hbox hg) | ((with_reducible refine gate_dst (N := 3) rfl ?_); (try (refine gate_guard (by rfl) ?_; dsimp only)); refine zx (N := 3) #[.slice A1_0 l1_0.length c1_0, .slice A1_1 l1_1.length c1_1] 27 ?_; intro gb346 hg w91 hbox hb; have BK346 := Z0 (hbox); have GW346 := Z0 (zh w hg HB); have GE346 := Z0 (zh w hg HB); replace HB := Z0 (below_step (zb HB) hb); have NB345_346 := Z0 (zl hg BK345); have NB346_345 := Z0 (zu hg BK345); replace BK345 := Z0 (zkb BK345 hb); clear hb hbox hg; have hnb92 := NB345_346.out; have hnc92 := NB346_345.out; have hcz93_0 := kz0 BK345; have hcz93_1 := kz1 BK345; have hfz93_0 := blk_frozen BK345.out 0; have hfz93_1 := blk_frozen BK345.out 1) | ((with_reducible refine gate_callee (f := 41) rfl ?_); refine goesL_ (some 11) rfl rfl Try.func41 (by kernel_rfl) rfl #[.agg #[.slice A0_0 l0_0.length c0_0, .slice A0_1 l0_1.length c0_1]] rfl (by (try simp only [List.map_toArray, List.map_cons, List.map_nil]); first | done | rfl | (simp only [List.length_drop, List.length_take]; rfl)) ?_; (with_reducible refine (trefoilref04_Check.calls k _ _ l0_0 _ _ l0_1 t347 _ ?side1 ?side2 ?side3 ?side4 A3.out).mono ?_); (case side1 => exact zc (Kd.C_below HR0_0.out HB.out)); (case side2 => exact HC0_0.out); (case side3 => exact zc (Kd.C_below HR0_1.out HB.out)); (case side4 => exact HC0_1.out); rintro e w94 ⟨rfl, hb⟩; refine ⟨_, rfl, ?_⟩; replace BK345 := Z0 (zkb BK345 hb); replace BK346 := Z0 (zkb BK346 hb); replace HB := Z0 (below_step (zb HB) hb); (try clear hb); (try clear hb2); (try clear hk); (try clear hi)))
  go_ret
  exact ⟨ze, zb HB⟩
 rw [if_pos c4] at H
 have c4b0 : (t347 == 0) = true := beq_iff_eq.mpr c4
 have c4b1 : (t347 != 0) = false := bne_eq_false_iff_eq.mpr c4
 clear c4
 have HC5 := Z0 H
 clear H
 go_enter Try.func16, Try.ntmps16
 go_upto_region 4 with (first | ((with_reducible refine gate_dst (N := 2) rfl ?_); (try (refine gate_guard (by rfl) ?_; dsimp only)); refine zx (N := 2) #[.slice A0_0 l0_0.length c0_0, .slice A0_1 l0_1.length c0_1] 25 ?_; intro gb345 hg w6 hbox hb; have BK345 := Z0 (hbox); have GW345 := Z0 (zh w hg HB); have GE345 := Z0 (zh w hg HB); replace HB := Z0 (below_step (zb HB) hb); clear hb hbox hg) | ((with_reducible refine gate_dst (N := 3) rfl ?_); (try (refine gate_guard (by rfl) ?_; dsimp only)); refine zx (N := 3) #[.slice A1_0 l1_0.length c1_0, .slice A1_1 l1_1.length c1_1] 27 ?_; intro gb346 hg w7 hbox hb; have BK346 := Z0 (hbox); have GW346 := Z0 (zh w hg HB); have GE346 := Z0 (zh w hg HB); replace HB := Z0 (below_step (zb HB) hb); have NB345_346 := Z0 (zl hg BK345); have NB346_345 := Z0 (zu hg BK345); replace BK345 := Z0 (zkb BK345 hb); clear hb hbox hg; have hnb8 := NB345_346.out; have hnc8 := NB346_345.out; have hcz9_0 := kz0 BK345; have hcz9_1 := kz1 BK345; have hfz9_0 := blk_frozen BK345.out 0; have hfz9_1 := blk_frozen BK345.out 1) | ((with_reducible refine gate_callee (f := 41) rfl ?_); refine goesL_ (some 11) rfl rfl Try.func41 (by kernel_rfl) rfl #[.agg #[.slice A0_0 l0_0.length c0_0, .slice A0_1 l0_1.length c0_1]] rfl (by (try simp only [List.map_toArray, List.map_cons, List.map_nil]); first | done | rfl | (simp only [List.length_drop, List.length_take]; rfl)) ?_; (with_reducible refine (trefoilref04_Check.calls k _ _ l0_0 _ _ l0_1 t347 _ ?side1 ?side2 ?side3 ?side4 A3.out).mono ?_); (case side1 => exact zc (Kd.C_below HR0_0.out HB.out)); (case side2 => exact HC0_0.out); (case side3 => exact zc (Kd.C_below HR0_1.out HB.out)); (case side4 => exact HC0_1.out); rintro e w10 ⟨rfl, hb⟩; refine ⟨_, rfl, ?_⟩; replace BK345 := Z0 (zkb BK345 hb); replace BK346 := Z0 (zkb BK346 hb); replace HB := Z0 (below_step (zb HB) hb); (try clear hb); (try clear hb2); (try clear hk); (try clear hi)))
 (try simp only [Act.put, y0, y1, y2])
 go_cut [33] (fun v33 wc => ∃ (kq : Nat) (x33_4 : Bool), v33 = .bool x33_4 ∧ Aside0 (trefoilref11_Check.j0 kq x33_4 l0_0 l0_1 l1_0 l1_1 = some r) ∧ Aside0 (kq ≤ k) ∧ Aside0 (wc.heap[gb345]? = some (.cells #[(.slice A0_0 l0_0.length c0_0), (.slice A0_1 l0_1.length c0_1)] 25 (0, 0))) ∧ Aside0 (wc.heap[gb346]? = some (.cells #[(.slice A1_0 l1_0.length c1_0), (.slice A1_1 l1_1.length c1_1)] 27 (0, 0))) ∧ Aside0 (Below w.heap.size w wc))
 case first =>
  have H := HC5.out
  clear HC5
  by_cases c11 : (l1_0.length : Int) < 1
  ·rw [if_pos c11] at H
   have c11b0 : decide ((l1_0.length : Int) < 1) = true := decide_eq_true c11
   have c11b1 : decide (l1_0.length < 1) = true := decide_eq_true (by omega)
   clear c11
   (first | rw [c11b0] | (simp only [i64_w, i32_w]; rw [c11b0]) | skip)
   have H' := Z0 H
   clear H
   have hnb12 := NB346_345.out
   have hnc12 := NB345_346.out
   have hcz13_0 := kz0 BK346
   have hcz13_1 := kz1 BK346
   have hfz13_0 := blk_frozen BK346.out 0
   have hfz13_1 := blk_frozen BK346.out 1
   go_wp2
   go_meet
   case rel => exact ⟨_, (true), zs, H', ⟨by first | omega | exact Nat.le_refl _⟩, ⟨zk BK345⟩, ⟨zk BK346⟩, ⟨zb HB⟩⟩
  ·rw [if_neg c11] at H
   have c11b0 : decide ((l1_0.length : Int) < 1) = false := decide_eq_false c11
   have c11b1 : decide (l1_0.length < 1) = false := decide_eq_false (by omega)
   clear c11
   (first | rw [c11b0] | (simp only [i64_w, i32_w]; rw [c11b0]) | skip)
   by_cases c14 : (l1_0.length : Int) > 8
   ·rw [if_pos c14] at H
    have c14b0 : decide (8 < (l1_0.length : Int)) = true := decide_eq_true c14
    have c14b1 : decide (8 < l1_0.length) = true := decide_eq_true (by omega)
    clear c14
    have H' := Z0 H
    clear H
    have hnb15 := NB346_345.out
    have hnc15 := NB345_346.out
    have hcz16_0 := kz0 BK346
    have hcz16_1 := kz1 BK346
    have hfz16_0 := blk_frozen BK346.out 0
    have hfz16_1 := blk_frozen BK346.out 1
    go_wp2
    go_meet
    case rel => exact ⟨_, (true), zs, H', ⟨by first | omega | exact Nat.le_refl _⟩, ⟨zk BK345⟩, ⟨zk BK346⟩, ⟨zb HB⟩⟩
   ·rw [if_neg c14] at H
    have c14b0 : decide (8 < (l1_0.length : Int)) = false := decide_eq_false c14
    have c14b1 : decide (8 < l1_0.length) = false := decide_eq_false (by omega)
    clear c14
    have H' := Z0 H
    clear H
    have hnb17 := NB346_345.out
    have hnc17 := NB345_346.out
    have hcz18_0 := kz0 BK346
    have hcz18_1 := kz1 BK346
    have hfz18_0 := blk_frozen BK346.out 0
    have hfz18_1 := blk_frozen BK346.out 1
    have hcz19_0 := kz0 BK345
    have hcz19_1 := kz1 BK345
    have hfz19_0 := blk_frozen BK345.out 0
    have hfz19_1 := blk_frozen BK345.out 1
    go_wp2
    go_meet
    case rel => exact ⟨_, (((l1_1.length : Int) != (l0_0.length : Int))), zs, H', ⟨by first | omega | exact Nat.le_refl _⟩, ⟨zk BK345⟩, ⟨zk BK346⟩, ⟨zb HB⟩⟩
 case rest =>
  clear HC5
  try clear c1
  try clear p2
  try clear c4
  try clear c4b0
  try clear c4b1
  try clear c8
  try clear c11
  try clear c11b0
  try clear c11b1
  try clear c12
  try clear c14
  try clear c14b0
  try clear c14b1
  try clear c15
  try clear c16
  try clear c17
  try clear hcz13_0
  try clear hcz13_1
  try clear hcz16_0
  try clear hcz16_1
  try clear hcz18_0
  try clear hcz18_1
  try clear hcz19_0
  try clear hcz19_1
  try clear hcz9_0
  try clear hcz9_1
  try clear hfz13_0
  try clear hfz13_1
  try clear hfz16_0
  try clear hfz16_1
  try clear hfz18_0
  try clear hfz18_1
  try clear hfz19_0
  try clear hfz19_1
  try clear hfz9_0
  try clear hfz9_1
  obtain ⟨kq, x33_4, rfl, HA, HJ4, BK345, BK346, HB⟩ := hcut
  cases kq with
  | zero => exact absurd HA.out (by simp [trefoilref11_Check.j0])
  | succ kj4 =>
   have H := HA.out
   clear HA
   simp only [trefoilref11_Check.j0] at H
   by_cases c20 : x33_4 = true
   ·subst c20
    rw [if_pos rfl] at H
    obtain rfl := Option.some.inj H
    go_wp2
    go_ret
    exact ⟨ze, zb HB⟩
   ·replace c20 := Bool.eq_false_iff.mpr c20
    subst c20
    rw [if_neg nft] at H
    have H' := Z0 H
    clear H
    go_wp2
    go_loopg [6] kj4 (fun kq v6 w' => ∃ (x6_2 : Int), v6 = .int .i64 x6_2 ∧ Aside0 (trefoilref11_Check.l0 kq x6_2 l0_0 l0_1 l1_0 l1_1 = some r) ∧ Aside0 (kq ≤ kj4) ∧ Aside0 (w'.heap[gb345]? = some (.cells #[(.slice A0_0 l0_0.length c0_0), (.slice A0_1 l0_1.length c0_1)] 25 (0, 0))) ∧ Aside0 (w'.heap[gb346]? = some (.cells #[(.slice A1_0 l1_0.length c1_0), (.slice A1_1 l1_1.length c1_1)] 27 (0, 0))) ∧ Aside0 (Below w.heap.size w w'))
    case atStart => exact ⟨(0), zs, H', ⟨Nat.le_refl _⟩, ⟨zk BK345⟩, ⟨zk BK346⟩, ⟨zb HB⟩⟩
    case round =>
     clear H'
     try clear c1
     try clear c2
     try clear p2
     try clear c4
     try clear c4b0
     try clear c4b1
     try clear c8
     try clear c11
     try clear c11b0
     try clear c11b1
     try clear c12
     try clear c14
     try clear c14b0
     try clear c14b1
     try clear c15
     try clear c16
     try clear c17
     try clear c20
     try clear hcz13_0
     try clear hcz13_1
     try clear hcz16_0
     try clear hcz16_1
     try clear hcz18_0
     try clear hcz18_1
     try clear hcz19_0
     try clear hcz19_1
     try clear hcz9_0
     try clear hcz9_1
     try clear hfz13_0
     try clear hfz13_1
     try clear hfz16_0
     try clear hfz16_1
     try clear hfz18_0
     try clear hfz18_1
     try clear hfz19_0
     try clear hfz19_1
     try clear hfz9_0
     try clear hfz9_1
     try clear p2
     obtain ⟨x6_2, rfl, HA, HK2, BK345, BK346, HB⟩ := hrel
     cases gk with
     | zero => exact absurd HA.out (by simp [trefoilref11_Check.l0])
     | succ k2 =>
      have H := HA.out
      clear HA
      simp only [trefoilref11_Check.l0] at H
      by_cases c21 : x6_2 < (l1_1.length : Int)
      ·rw [if_pos c21] at H
       have c21b0 : decide (x6_2 < (l1_1.length : Int)) = true := decide_eq_true c21
       clear c21
       by_cases c22 : 0 ≤ x6_2
       rotate_left
       ·rw [if_neg c22] at H
        exact absurd H (by simp)
       rw [if_pos c22] at H
       have c22b0 : decide (0 ≤ x6_2) = true := decide_eq_true c22
       clear c22
       by_cases c23 : (rd l1_1 x6_2) < 0
       ·rw [if_pos c23] at H
        have c23b0 : decide ((rd l1_1 x6_2) < 0) = true := decide_eq_true c23
        clear c23
        obtain rfl := Option.some.inj H
        have hnb24 := NB346_345.out
        have hnc24 := NB345_346.out
        have hcz25_0 := kz0 BK346
        have hcz25_1 := kz1 BK346
        have hfz25_0 := blk_frozen BK346.out 0
        have hfz25_1 := blk_frozen BK346.out 1
        have p348 : 0 ≤ (x6_2 : Int) := od
        have q348 : x6_2 < (l1_1.length : Int) := od
        obtain ⟨ad348, e348, hx348_0⟩ := Kd.at_int HR1_1.out x6_2 p348 q348
        cases e348
        replace hx348_0 := (HB.out.cell (bl w _ hx348_0)).trans hx348_0
        replace p348 := eq_true p348
        replace q348 := eq_true q348
        go_wp2
        go_ret
        exact ⟨ze, zb HB⟩
       ·rw [if_neg c23] at H
        have c23b0 : decide ((rd l1_1 x6_2) < 0) = false := decide_eq_false c23
        clear c23
        by_cases c26 : (rd l1_1 x6_2) > 1000
        ·rw [if_pos c26] at H
         have c26b0 : decide (1000 < (rd l1_1 x6_2)) = true := decide_eq_true c26
         clear c26
         obtain rfl := Option.some.inj H
         have hnb27 := NB346_345.out
         have hnc27 := NB345_346.out
         have hcz28_0 := kz0 BK346
         have hcz28_1 := kz1 BK346
         have hfz28_0 := blk_frozen BK346.out 0
         have hfz28_1 := blk_frozen BK346.out 1
         have p348 : 0 ≤ (x6_2 : Int) := od
         have q348 : x6_2 < (l1_1.length : Int) := od
         obtain ⟨ad348, e348, hx348_0⟩ := Kd.at_int HR1_1.out x6_2 p348 q348
         cases e348
         replace hx348_0 := (HB.out.cell (bl w _ hx348_0)).trans hx348_0
         replace p348 := eq_true p348
         replace q348 := eq_true q348
         have p349 : 0 ≤ (x6_2 : Int) := od
         have q349 : x6_2 < (l1_1.length : Int) := od
         obtain ⟨ad349, e349, hx349_0⟩ := Kd.at_int HR1_1.out x6_2 p349 q349
         obtain rfl : ad348 = ad349 := (by injection e349)
         replace hx349_0 := (HB.out.cell (bl w _ hx349_0)).trans hx349_0
         replace p349 := eq_true p349
         replace q349 := eq_true q349
         go_wp2
         go_ret
         exact ⟨ze, zb HB⟩
        ·rw [if_neg c26] at H
         have c26b0 : decide (1000 < (rd l1_1 x6_2)) = false := decide_eq_false c26
         clear c26
         have H' := Z0 H
         clear H
         have hnb29 := NB346_345.out
         have hnc29 := NB345_346.out
         have hcz30_0 := kz0 BK346
         have hcz30_1 := kz1 BK346
         have hfz30_0 := blk_frozen BK346.out 0
         have hfz30_1 := blk_frozen BK346.out 1
         have p348 : 0 ≤ (x6_2 : Int) := od
         have q348 : x6_2 < (l1_1.length : Int) := od
         obtain ⟨ad348, e348, hx348_0⟩ := Kd.at_int HR1_1.out x6_2 p348 q348
         cases e348
         replace hx348_0 := (HB.out.cell (bl w _ hx348_0)).trans hx348_0
         replace p348 := eq_true p348
         replace q348 := eq_true q348
         have p349 : 0 ≤ (x6_2 : Int) := od
         have q349 : x6_2 < (l1_1.length : Int) := od
         obtain ⟨ad349, e349, hx349_0⟩ := Kd.at_int HR1_1.out x6_2 p349 q349
         obtain rfl : ad348 = ad349 := (by injection e349)
         replace hx349_0 := (HB.out.cell (bl w _ hx349_0)).trans hx349_0
         replace p349 := eq_true p349
         replace q349 := eq_true q349
         go_wp2
         go_roundg k2
         case measure => have := HJ4.out; have := HK2.out; omega
         case rel => exact ⟨(wrap64 (x6_2 + 1)), zs, H', ⟨by have := HJ4.out; have := HK2.out; omega⟩, ⟨zk BK345⟩, ⟨zk BK346⟩, ⟨zb HB⟩⟩
      ·rw [if_neg c21] at H
       have c21b0 : decide (x6_2 < (l1_1.length : Int)) = false := decide_eq_false c21
       clear c21
       have H' := Z0 H
       clear H
       have hnb31 := NB346_345.out
       have hnc31 := NB345_346.out
       have hcz32_0 := kz0 BK346
       have hcz32_1 := kz1 BK346
       have hfz32_0 := blk_frozen BK346.out 0
       have hfz32_1 := blk_frozen BK346.out 1
       go_wp2
       go_loopg [7] k2 (fun kq v7 w' => ∃ (x7_3 : Int), v7 = .int .i64 x7_3 ∧ Aside0 (trefoilref11_Check.l1 kq x7_3 l0_0 l0_1 l1_0 l1_1 = some r) ∧ Aside0 (kq ≤ k2) ∧ Aside0 (w'.heap[gb345]? = some (.cells #[(.slice A0_0 l0_0.length c0_0), (.slice A0_1 l0_1.length c0_1)] 25 (0, 0))) ∧ Aside0 (w'.heap[gb346]? = some (.cells #[(.slice A1_0 l1_0.length c1_0), (.slice A1_1 l1_1.length c1_1)] 27 (0, 0))) ∧ Aside0 (Below w.heap.size w w'))
       case atStart => exact ⟨(0), zs, H', ⟨Nat.le_refl _⟩, ⟨zk BK345⟩, ⟨zk BK346⟩, ⟨zb HB⟩⟩
       case round =>
        clear H'
        try clear c1
        try clear c2
        try clear p2
        try clear c3
        try clear p3
        try clear q3
        try clear hx3
        try clear c4
        try clear c4b0
        try clear c4b1
        try clear p6
        try clear c8
        try clear c11
        try clear c11b0
        try clear c11b1
        try clear c12
        try clear c14
        try clear c14b0
        try clear c14b1
        try clear c15
        try clear c16
        try clear c17
        try clear c20
        try clear c21
        try clear c21b0
        try clear c22
        try clear c22b0
        try clear c23
        try clear c23b0
        try clear c24
        try clear c26
        try clear c26b0
        try clear c27
        try clear c29
        try clear c31
        try clear hcz13_0
        try clear hcz13_1
        try clear hcz16_0
        try clear hcz16_1
        try clear hcz18_0
        try clear hcz18_1
        try clear hcz19_0
        try clear hcz19_1
        try clear hcz25_0
        try clear hcz25_1
        try clear hcz28_0
        try clear hcz28_1
        try clear hcz30_0
        try clear hcz30_1
        try clear hcz32_0
        try clear hcz32_1
        try clear hcz9_0
        try clear hcz9_1
        try clear hfz13_0
        try clear hfz13_1
        try clear hfz16_0
        try clear hfz16_1
        try clear hfz18_0
        try clear hfz18_1
        try clear hfz19_0
        try clear hfz19_1
        try clear hfz25_0
        try clear hfz25_1
        try clear hfz28_0
        try clear hfz28_1
        try clear hfz30_0
        try clear hfz30_1
        try clear hfz32_0
        try clear hfz32_1
        try clear hfz9_0
        try clear hfz9_1
        try clear hx348_0
        try clear hx349_0
        try clear p2
        try clear p348
        try clear p349
        try clear q348
        try clear q349
        obtain ⟨x7_3, rfl, HA, HK3, BK345, BK346, HB⟩ := hrel
        cases gk with
        | zero => exact absurd HA.out (by simp [trefoilref11_Check.l1])
        | succ k3 =>
         have H := HA.out
         clear HA
         simp only [trefoilref11_Check.l1] at H
         by_cases c33 : x7_3 < (l1_1.length : Int)
         ·rw [if_pos c33] at H
          have c33b0 : decide (x7_3 < (l1_1.length : Int)) = true := decide_eq_true c33
          clear c33
          by_cases c34 : 0 ≤ x7_3
          rotate_left
          ·rw [if_neg c34] at H
           exact absurd H (by simp)
          rw [if_pos c34] at H
          have c34b0 : decide (0 ≤ x7_3) = true := decide_eq_true c34
          clear c34
          by_cases c35 : (rd l1_1 x7_3) = 0
          rotate_left
          ·rw [if_neg c35] at H
           have c35b0 : ((rd l1_1 x7_3) == 0) = false := beq_eq_false_iff_ne.mpr c35
           have c35b1 : ((rd l1_1 x7_3) != 0) = true := bne_iff_ne.mpr c35
           have H' := Z0 H
           clear H
           have hnb46 := NB346_345.out
           have hnc46 := NB345_346.out
           have hcz47_0 := kz0 BK346
           have hcz47_1 := kz1 BK346
           have hfz47_0 := blk_frozen BK346.out 0
           have hfz47_1 := blk_frozen BK346.out 1
           have p350 : 0 ≤ (x7_3 : Int) := od
           have q350 : x7_3 < (l1_1.length : Int) := od
           obtain ⟨ad350, e350, hx350_0⟩ := Kd.at_int HR1_1.out x7_3 p350 q350
           cases e350
           replace hx350_0 := (HB.out.cell (bl w _ hx350_0)).trans hx350_0
           replace p350 := eq_true p350
           replace q350 := eq_true q350
           go_wp2
           go_roundg k3
           case measure => have := HJ4.out; have := HK2.out; have := HK3.out; omega
           case rel => exact ⟨(wrap64 (x7_3 + 1)), zs, H', ⟨by have := HJ4.out; have := HK2.out; have := HK3.out; omega⟩, ⟨zk BK345⟩, ⟨zk BK346⟩, ⟨zb HB⟩⟩
          rw [if_pos c35] at H
          have c35b0 : ((rd l1_1 x7_3) == 0) = true := beq_iff_eq.mpr c35
          have c35b1 : ((rd l1_1 x7_3) != 0) = false := bne_eq_false_iff_eq.mpr c35
          clear c35
          replace H := Option.bind_eq_some_iff.mp H
          obtain ⟨t351, A360, H⟩ := H
          have A36 := Z0 A360
          clear A360
          by_cases c37 : t351 = true
          rotate_left
          ·replace c37 := Bool.eq_false_iff.mpr c37
           subst c37
           rw [if_neg nft] at H
           obtain rfl := Option.some.inj H
           have hnb42 := NB346_345.out
           have hnc42 := NB345_346.out
           have hcz43_0 := kz0 BK346
           have hcz43_1 := kz1 BK346
           have hfz43_0 := blk_frozen BK346.out 0
           have hfz43_1 := blk_frozen BK346.out 1
           have p350 : 0 ≤ (x7_3 : Int) := od
           have q350 : x7_3 < (l1_1.length : Int) := od
           obtain ⟨ad350, e350, hx350_0⟩ := Kd.at_int HR1_1.out x7_3 p350 q350
           cases e350
           replace hx350_0 := (HB.out.cell (bl w _ hx350_0)).trans hx350_0
           replace p350 := eq_true p350
           replace q350 := eq_true q350
           have hcz44_0 := kz0 BK345
           have hcz44_1 := kz1 BK345
           have hfz44_0 := blk_frozen BK345.out 0
           have hfz44_1 := blk_frozen BK345.out 1
           go_wp2_with (first | (go_at_call 42; (with_reducible refine (trefoilref11_Over.calls k3 _ _ l0_0 _ _ l0_1 _ _ l1_0 _ _ l1_1 x7_3 false _ ?side1 ?side2 ?side3 ?side4 ?side5 ?side6 ?side7 ?side8 A36.out).mono ?_); (case side1 => exact zc (Kd.C_below HR0_0.out HB.out)); (case side2 => exact HC0_0.out); (case side3 => exact zc (Kd.C_below HR0_1.out HB.out)); (case side4 => exact HC0_1.out); (case side5 => exact zc (Kd.C_below HR1_0.out HB.out)); (case side6 => exact HC1_0.out); (case side7 => exact zc (Kd.C_below HR1_1.out HB.out)); (case side8 => exact HC1_1.out); rintro e w45 ⟨rfl, hb⟩; replace BK345 := Z0 (zkb BK345 hb); replace BK346 := Z0 (zkb BK346 hb); replace HB := Z0 (below_step (zb HB) hb); (try clear hb); (try clear hb2); (try clear hk); (try clear hi)))
           go_ret
           exact ⟨ze, zb HB⟩
          subst c37
          rw [if_pos rfl] at H
          have H' := Z0 H
          clear H
          have hnb38 := NB346_345.out
          have hnc38 := NB345_346.out
          have hcz39_0 := kz0 BK346
          have hcz39_1 := kz1 BK346
          have hfz39_0 := blk_frozen BK346.out 0
          have hfz39_1 := blk_frozen BK346.out 1
          have p350 : 0 ≤ (x7_3 : Int) := od
          have q350 : x7_3 < (l1_1.length : Int) := od
          obtain ⟨ad350, e350, hx350_0⟩ := Kd.at_int HR1_1.out x7_3 p350 q350
          cases e350
          replace hx350_0 := (HB.out.cell (bl w _ hx350_0)).trans hx350_0
          replace p350 := eq_true p350
          replace q350 := eq_true q350
          have hcz40_0 := kz0 BK345
          have hcz40_1 := kz1 BK345
          have hfz40_0 := blk_frozen BK345.out 0
          have hfz40_1 := blk_frozen BK345.out 1
          go_wp2_with (first | (go_at_call 42; (with_reducible refine (trefoilref11_Over.calls k3 _ _ l0_0 _ _ l0_1 _ _ l1_0 _ _ l1_1 x7_3 true _ ?side1 ?side2 ?side3 ?side4 ?side5 ?side6 ?side7 ?side8 A36.out).mono ?_); (case side1 => exact zc (Kd.C_below HR0_0.out HB.out)); (case side2 => exact HC0_0.out); (case side3 => exact zc (Kd.C_below HR0_1.out HB.out)); (case side4 => exact HC0_1.out); (case side5 => exact zc (Kd.C_below HR1_0.out HB.out)); (case side6 => exact HC1_0.out); (case side7 => exact zc (Kd.C_below HR1_1.out HB.out)); (case side8 => exact HC1_1.out); rintro e w41 ⟨rfl, hb⟩; replace BK345 := Z0 (zkb BK345 hb); replace BK346 := Z0 (zkb BK346 hb); replace HB := Z0 (below_step (zb HB) hb); (try clear hb); (try clear hb2); (try clear hk); (try clear hi)))
          go_roundg k3
          case measure => have := HJ4.out; have := HK2.out; have := HK3.out; omega
          case rel => exact ⟨(wrap64 (x7_3 + 1)), zs, H', ⟨by have := HJ4.out; have := HK2.out; have := HK3.out; omega⟩, ⟨zk BK345⟩, ⟨zk BK346⟩, ⟨zb HB⟩⟩
         ·rw [if_neg c33] at H
          have c33b0 : decide (x7_3 < (l1_1.length : Int)) = false := decide_eq_false c33
          clear c33
          have H' := Z0 H
          clear H
          have hnb48 := NB346_345.out
          have hnc48 := NB345_346.out
          have hcz49_0 := kz0 BK346
          have hcz49_1 := kz1 BK346
          have hfz49_0 := blk_frozen BK346.out 0
          have hfz49_1 := blk_frozen BK346.out 1
          go_wp2
          go_loopg [8] k3 (fun kq v8 w' => ∃ (x8_4 : Int), v8 = .int .i64 x8_4 ∧ Aside0 (trefoilref11_Check.l2 kq x8_4 l0_0 l0_1 l1_0 l1_1 = some r) ∧ Aside0 (kq ≤ k3) ∧ Aside0 (w'.heap[gb345]? = some (.cells #[(.slice A0_0 l0_0.length c0_0), (.slice A0_1 l0_1.length c0_1)] 25 (0, 0))) ∧ Aside0 (w'.heap[gb346]? = some (.cells #[(.slice A1_0 l1_0.length c1_0), (.slice A1_1 l1_1.length c1_1)] 27 (0, 0))) ∧ Aside0 (Below w.heap.size w w'))
          case atStart => exact ⟨(0), zs, H', ⟨Nat.le_refl _⟩, ⟨zk BK345⟩, ⟨zk BK346⟩, ⟨zb HB⟩⟩
          case round =>
           clear H'
           try clear c1
           try clear c2
           try clear p2
           try clear c3
           try clear p3
           try clear q3
           try clear hx3
           try clear c4
           try clear c4b0
           try clear c4b1
           try clear p6
           try clear c8
           try clear c11
           try clear c11b0
           try clear c11b1
           try clear c12
           try clear c14
           try clear c14b0
           try clear c14b1
           try clear c15
           try clear c16
           try clear c17
           try clear c20
           try clear c21
           try clear c21b0
           try clear c22
           try clear c22b0
           try clear c23
           try clear c23b0
           try clear c24
           try clear c26
           try clear c26b0
           try clear c27
           try clear c29
           try clear c31
           try clear c33
           try clear c33b0
           try clear c34
           try clear c34b0
           try clear p34
           try clear q34
           try clear hx34
           try clear c35
           try clear c35b0
           try clear c35b1
           try clear p35
           try clear q35
           try clear hx35
           try clear c37
           try clear c38
           try clear c41
           try clear c42
           try clear c46
           try clear c48
           try clear hcz13_0
           try clear hcz13_1
           try clear hcz16_0
           try clear hcz16_1
           try clear hcz18_0
           try clear hcz18_1
           try clear hcz19_0
           try clear hcz19_1
           try clear hcz25_0
           try clear hcz25_1
           try clear hcz28_0
           try clear hcz28_1
           try clear hcz30_0
           try clear hcz30_1
           try clear hcz32_0
           try clear hcz32_1
           try clear hcz39_0
           try clear hcz39_1
           try clear hcz40_0
           try clear hcz40_1
           try clear hcz43_0
           try clear hcz43_1
           try clear hcz44_0
           try clear hcz44_1
           try clear hcz47_0
           try clear hcz47_1
           try clear hcz49_0
           try clear hcz49_1
           try clear hcz9_0
           try clear hcz9_1
           try clear hfz13_0
           try clear hfz13_1
           try clear hfz16_0
           try clear hfz16_1
           try clear hfz18_0
           try clear hfz18_1
           try clear hfz19_0
           try clear hfz19_1
           try clear hfz25_0
           try clear hfz25_1
           try clear hfz28_0
           try clear hfz28_1
           try clear hfz30_0
           try clear hfz30_1
           try clear hfz32_0
           try clear hfz32_1
           try clear hfz39_0
           try clear hfz39_1
           try clear hfz40_0
           try clear hfz40_1
           try clear hfz43_0
           try clear hfz43_1
           try clear hfz44_0
           try clear hfz44_1
           try clear hfz47_0
           try clear hfz47_1
           try clear hfz49_0
           try clear hfz49_1
           try clear hfz9_0
           try clear hfz9_1
           try clear hx348_0
           try clear hx349_0
           try clear hx350_0
           try clear p2
           try clear p3
           try clear p348
           try clear p349
           try clear p350
           try clear p6
           try clear q3
           try clear q348
           try clear q349
           try clear q350
           obtain ⟨x8_4, rfl, HA, HK4, BK345, BK346, HB⟩ := hrel
           cases gk with
           | zero => exact absurd HA.out (by simp [trefoilref11_Check.l2])
           | succ k4 =>
            have H := HA.out
            clear HA
            simp only [trefoilref11_Check.l2] at H
            by_cases c50 : x8_4 < (l1_0.length : Int)
            rotate_left
            ·rw [if_neg c50] at H
             have c50b0 : decide (x8_4 < (l1_0.length : Int)) = false := decide_eq_false c50
             clear c50
             obtain rfl := Option.some.inj H
             have hnb88 := NB346_345.out
             have hnc88 := NB345_346.out
             have hcz89_0 := kz0 BK346
             have hcz89_1 := kz1 BK346
             have hfz89_0 := blk_frozen BK346.out 0
             have hfz89_1 := blk_frozen BK346.out 1
             go_wp2
             go_ret
             exact ⟨ze, zb HB⟩
            rw [if_pos c50] at H
            have c50b0 : decide (x8_4 < (l1_0.length : Int)) = true := decide_eq_true c50
            clear c50
            by_cases c51 : 0 ≤ x8_4
            rotate_left
            ·rw [if_neg c51] at H
             exact absurd H (by simp)
            rw [if_pos c51] at H
            have c51b0 : decide (0 ≤ x8_4) = true := decide_eq_true c51
            clear c51
            by_cases c52 : (rd l1_0 x8_4) < (-1)
            ·rw [if_pos c52] at H
             have c52b0 : decide ((rd l1_0 x8_4) < (-1)) = true := decide_eq_true c52
             clear c52
             obtain rfl := Option.some.inj H
             have hnb53 := NB346_345.out
             have hnc53 := NB345_346.out
             have hcz54_0 := kz0 BK346
             have hcz54_1 := kz1 BK346
             have hfz54_0 := blk_frozen BK346.out 0
             have hfz54_1 := blk_frozen BK346.out 1
             have p352 : 0 ≤ (x8_4 : Int) := od
             have q352 : x8_4 < (l1_0.length : Int) := od
             obtain ⟨ad352, e352, hx352_0⟩ := Kd.at_int HR1_0.out x8_4 p352 q352
             cases e352
             replace hx352_0 := (HB.out.cell (bl w _ hx352_0)).trans hx352_0
             replace p352 := eq_true p352
             replace q352 := eq_true q352
             go_wp2
             go_ret
             exact ⟨ze, zb HB⟩
            ·rw [if_neg c52] at H
             have c52b0 : decide ((rd l1_0 x8_4) < (-1)) = false := decide_eq_false c52
             clear c52
             by_cases c55 : (rd l1_0 x8_4) ≥ (l1_1.length : Int)
             ·rw [if_pos c55] at H
              have c55b0 : decide ((l1_1.length : Int) ≤ (rd l1_0 x8_4)) = true := decide_eq_true c55
              clear c55
              obtain rfl := Option.some.inj H
              have hnb56 := NB346_345.out
              have hnc56 := NB345_346.out
              have hcz57_0 := kz0 BK346
              have hcz57_1 := kz1 BK346
              have hfz57_0 := blk_frozen BK346.out 0
              have hfz57_1 := blk_frozen BK346.out 1
              have p352 : 0 ≤ (x8_4 : Int) := od
              have q352 : x8_4 < (l1_0.length : Int) := od
              obtain ⟨ad352, e352, hx352_0⟩ := Kd.at_int HR1_0.out x8_4 p352 q352
              cases e352
              replace hx352_0 := (HB.out.cell (bl w _ hx352_0)).trans hx352_0
              replace p352 := eq_true p352
              replace q352 := eq_true q352
              go_wp2
              go_ret
              exact ⟨ze, zb HB⟩
             ·rw [if_neg c55] at H
              have c55b0 : decide ((l1_1.length : Int) ≤ (rd l1_0 x8_4)) = false := decide_eq_false c55
              clear c55
              by_cases c58 : (rd l1_0 x8_4) ≥ 0
              rotate_left
              ·rw [if_neg c58] at H
               have c58b0 : decide (0 ≤ (rd l1_0 x8_4)) = false := decide_eq_false c58
               clear c58
               have H' := Z0 H
               clear H
               have hnb86 := NB346_345.out
               have hnc86 := NB345_346.out
               have hcz87_0 := kz0 BK346
               have hcz87_1 := kz1 BK346
               have hfz87_0 := blk_frozen BK346.out 0
               have hfz87_1 := blk_frozen BK346.out 1
               have p352 : 0 ≤ (x8_4 : Int) := od
               have q352 : x8_4 < (l1_0.length : Int) := od
               obtain ⟨ad352, e352, hx352_0⟩ := Kd.at_int HR1_0.out x8_4 p352 q352
               cases e352
               replace hx352_0 := (HB.out.cell (bl w _ hx352_0)).trans hx352_0
               replace p352 := eq_true p352
               replace q352 := eq_true q352
               go_wp2
               go_roundg k4
               case measure => have := HJ4.out; have := HK2.out; have := HK3.out; have := HK4.out; omega
               case rel => exact ⟨(wrap64 (x8_4 + 1)), zs, H', ⟨by have := HJ4.out; have := HK2.out; have := HK3.out; have := HK4.out; omega⟩, ⟨zk BK345⟩, ⟨zk BK346⟩, ⟨zb HB⟩⟩
              rw [if_pos c58] at H
              have c58b0 : decide (0 ≤ (rd l1_0 x8_4)) = true := decide_eq_true c58
              clear c58
              by_cases c59 : 0 ≤ (rd l1_0 x8_4)
              rotate_left
              ·rw [if_neg c59] at H
               exact absurd H (by simp)
              rw [if_pos c59] at H
              have c59b0 : decide (0 ≤ (rd l1_0 x8_4)) = true := decide_eq_true c59
              clear c59
              by_cases c60 : (rd l1_0 x8_4) < (l1_1.length : Int)
              rotate_left
              ·rw [if_neg c60] at H
               exact absurd H (by simp)
              rw [if_pos c60] at H
              have c60b0 : decide ((rd l1_0 x8_4) < (l1_1.length : Int)) = true := decide_eq_true c60
              clear c60
              by_cases c61 : (rd l1_1 (rd l1_0 x8_4)) = 0
              ·rw [if_pos c61] at H
               have c61b0 : ((rd l1_1 (rd l1_0 x8_4)) == 0) = true := beq_iff_eq.mpr c61
               have c61b1 : ((rd l1_1 (rd l1_0 x8_4)) != 0) = false := bne_eq_false_iff_eq.mpr c61
               clear c61
               obtain rfl := Option.some.inj H
               have hnb62 := NB346_345.out
               have hnc62 := NB345_346.out
               have hcz63_0 := kz0 BK346
               have hcz63_1 := kz1 BK346
               have hfz63_0 := blk_frozen BK346.out 0
               have hfz63_1 := blk_frozen BK346.out 1
               have p352 : 0 ≤ (x8_4 : Int) := od
               have q352 : x8_4 < (l1_0.length : Int) := od
               obtain ⟨ad352, e352, hx352_0⟩ := Kd.at_int HR1_0.out x8_4 p352 q352
               cases e352
               replace hx352_0 := (HB.out.cell (bl w _ hx352_0)).trans hx352_0
               replace p352 := eq_true p352
               replace q352 := eq_true q352
               have p353 : 0 ≤ ((rd l1_0 x8_4) : Int) := od
               have q353 : (rd l1_0 x8_4) < (l1_1.length : Int) := od
               obtain ⟨ad353, e353, hx353_0⟩ := Kd.at_int HR1_1.out (rd l1_0 x8_4) p353 q353
               cases e353
               replace hx353_0 := (HB.out.cell (bl w _ hx353_0)).trans hx353_0
               replace p353 := eq_true p353
               replace q353 := eq_true q353
               go_wp2
               go_ret
               exact ⟨ze, zb HB⟩
              ·rw [if_neg c61] at H
               have c61b0 : ((rd l1_1 (rd l1_0 x8_4)) == 0) = false := beq_eq_false_iff_ne.mpr c61
               have c61b1 : ((rd l1_1 (rd l1_0 x8_4)) != 0) = true := bne_iff_ne.mpr c61
               replace H := Option.bind_eq_some_iff.mp H
               obtain ⟨t354, A640, H⟩ := H
               have A64 := Z0 A640
               clear A640
               by_cases c65 : t354 = true
               rotate_left
               ·replace c65 := Bool.eq_false_iff.mpr c65
                subst c65
                rw [if_neg nft] at H
                obtain rfl := Option.some.inj H
                have hnb82 := NB346_345.out
                have hnc82 := NB345_346.out
                have hcz83_0 := kz0 BK346
                have hcz83_1 := kz1 BK346
                have hfz83_0 := blk_frozen BK346.out 0
                have hfz83_1 := blk_frozen BK346.out 1
                have p352 : 0 ≤ (x8_4 : Int) := od
                have q352 : x8_4 < (l1_0.length : Int) := od
                obtain ⟨ad352, e352, hx352_0⟩ := Kd.at_int HR1_0.out x8_4 p352 q352
                cases e352
                replace hx352_0 := (HB.out.cell (bl w _ hx352_0)).trans hx352_0
                replace p352 := eq_true p352
                replace q352 := eq_true q352
                have p353 : 0 ≤ ((rd l1_0 x8_4) : Int) := od
                have q353 : (rd l1_0 x8_4) < (l1_1.length : Int) := od
                obtain ⟨ad353, e353, hx353_0⟩ := Kd.at_int HR1_1.out (rd l1_0 x8_4) p353 q353
                cases e353
                replace hx353_0 := (HB.out.cell (bl w _ hx353_0)).trans hx353_0
                replace p353 := eq_true p353
                replace q353 := eq_true q353
                have hcz84_0 := kz0 BK345
                have hcz84_1 := kz1 BK345
                have hfz84_0 := blk_frozen BK345.out 0
                have hfz84_1 := blk_frozen BK345.out 1
                go_wp2_with (first | (go_at_call 42; (with_reducible refine (trefoilref11_Over.calls k4 _ _ l0_0 _ _ l0_1 _ _ l1_0 _ _ l1_1 (rd l1_0 x8_4) false _ ?side1 ?side2 ?side3 ?side4 ?side5 ?side6 ?side7 ?side8 A64.out).mono ?_); (case side1 => exact zc (Kd.C_below HR0_0.out HB.out)); (case side2 => exact HC0_0.out); (case side3 => exact zc (Kd.C_below HR0_1.out HB.out)); (case side4 => exact HC0_1.out); (case side5 => exact zc (Kd.C_below HR1_0.out HB.out)); (case side6 => exact HC1_0.out); (case side7 => exact zc (Kd.C_below HR1_1.out HB.out)); (case side8 => exact HC1_1.out); rintro e w85 ⟨rfl, hb⟩; replace BK345 := Z0 (zkb BK345 hb); replace BK346 := Z0 (zkb BK346 hb); replace HB := Z0 (below_step (zb HB) hb); (try clear hb); (try clear hb2); (try clear hk); (try clear hi)))
                go_ret
                exact ⟨ze, zb HB⟩
               subst c65
               rw [if_pos rfl] at H
               have c66b0 := eq_true (of_decide_eq_true (by first | (with_reducible assumption) | assumption) : 0 ≤ x8_4)
               by_cases c67 : x8_4 ≤ (l1_0.length : Int)
               rotate_left
               ·rw [if_neg c67] at H
                exact absurd H (by simp)
               rw [if_pos c67] at H
               have c67b0 := eq_true c67
               have c67b1 : decide (x8_4 ≤ (l1_0.length : Int)) = true := decide_eq_true c67
               clear c67
               replace H := Option.bind_eq_some_iff.mp H
               obtain ⟨t356, A680, H⟩ := H
               have A68 := Z0 A680
               clear A680
               by_cases c69 : t356 = true
               ·subst c69
                rw [if_pos rfl] at H
                obtain rfl := Option.some.inj H
                have hnb70 := NB346_345.out
                have hnc70 := NB345_346.out
                have hcz71_0 := kz0 BK346
                have hcz71_1 := kz1 BK346
                have hfz71_0 := blk_frozen BK346.out 0
                have hfz71_1 := blk_frozen BK346.out 1
                have p352 : 0 ≤ (x8_4 : Int) := od
                have q352 : x8_4 < (l1_0.length : Int) := od
                obtain ⟨ad352, e352, hx352_0⟩ := Kd.at_int HR1_0.out x8_4 p352 q352
                cases e352
                replace hx352_0 := (HB.out.cell (bl w _ hx352_0)).trans hx352_0
                replace p352 := eq_true p352
                replace q352 := eq_true q352
                have p353 : 0 ≤ ((rd l1_0 x8_4) : Int) := od
                have q353 : (rd l1_0 x8_4) < (l1_1.length : Int) := od
                obtain ⟨ad353, e353, hx353_0⟩ := Kd.at_int HR1_1.out (rd l1_0 x8_4) p353 q353
                cases e353
                replace hx353_0 := (HB.out.cell (bl w _ hx353_0)).trans hx353_0
                replace p353 := eq_true p353
                replace q353 := eq_true q353
                have hcz72_0 := kz0 BK345
                have hcz72_1 := kz1 BK345
                have hfz72_0 := blk_frozen BK345.out 0
                have hfz72_1 := blk_frozen BK345.out 1
                go_wp2_with (first | (go_at_call 42; (with_reducible refine (trefoilref11_Over.calls k4 _ _ l0_0 _ _ l0_1 _ _ l1_0 _ _ l1_1 (rd l1_0 x8_4) true _ ?side1 ?side2 ?side3 ?side4 ?side5 ?side6 ?side7 ?side8 A64.out).mono ?_); (case side1 => exact zc (Kd.C_below HR0_0.out HB.out)); (case side2 => exact HC0_0.out); (case side3 => exact zc (Kd.C_below HR0_1.out HB.out)); (case side4 => exact HC0_1.out); (case side5 => exact zc (Kd.C_below HR1_0.out HB.out)); (case side6 => exact HC1_0.out); (case side7 => exact zc (Kd.C_below HR1_1.out HB.out)); (case side8 => exact HC1_1.out); rintro e w73 ⟨rfl, hb⟩; replace BK345 := Z0 (zkb BK345 hb); replace BK346 := Z0 (zkb BK346 hb); replace HB := Z0 (below_step (zb HB) hb); (try clear hb); (try clear hb2); (try clear hk); (try clear hi); have hcz74_0 := kz0 BK346; have hcz74_1 := kz1 BK346; have hfz74_0 := blk_frozen BK346.out 0; have hfz74_1 := blk_frozen BK346.out 1; obtain ⟨i075, hi075, _, hsz75, _⟩ := info_parts info3; obtain ⟨hcut75, hA75, hC75⟩ := print_take_of (P := Try.prog) (Value.int .i64) 0 22 3 .i64 Try.underlying22 hi075 hsz75 (some ad352) c1_0 l1_0 x8_4 (of_decide_eq_true (by first | (with_reducible assumption) | assumption)) (of_decide_eq_true (by first | (with_reducible assumption) | assumption)) HC1_0.out; have HR355 := Z0 (Kd.C_of_reads (h1 := fun _ => rfl) (hA75 _ (Kd.reads_of_C HR1_0.out))); have HC355 := Z0 hC75; clear hA75 hC75 hi075 hsz75) | (go_at_call 31; (with_reducible refine (has_cut k4 _ _ l1_0 x8_4 od od (rd l1_0 x8_4) true _ ?side1 ?side2 A68.out).mono ?_); (case side1 => exact zc (Kd.C_below HR355.out HB.out)); (case side2 => exact HC355.out); rintro e w' ⟨rfl, ⟨nd, rfl⟩⟩))
                go_ret
                exact ⟨ze, zb HB⟩
               ·replace c69 := Bool.eq_false_iff.mpr c69
                subst c69
                rw [if_neg nft] at H
                have H' := Z0 H
                clear H
                have hnb76 := NB346_345.out
                have hnc76 := NB345_346.out
                have hcz77_0 := kz0 BK346
                have hcz77_1 := kz1 BK346
                have hfz77_0 := blk_frozen BK346.out 0
                have hfz77_1 := blk_frozen BK346.out 1
                have p352 : 0 ≤ (x8_4 : Int) := od
                have q352 : x8_4 < (l1_0.length : Int) := od
                obtain ⟨ad352, e352, hx352_0⟩ := Kd.at_int HR1_0.out x8_4 p352 q352
                cases e352
                replace hx352_0 := (HB.out.cell (bl w _ hx352_0)).trans hx352_0
                replace p352 := eq_true p352
                replace q352 := eq_true q352
                have p353 : 0 ≤ ((rd l1_0 x8_4) : Int) := od
                have q353 : (rd l1_0 x8_4) < (l1_1.length : Int) := od
                obtain ⟨ad353, e353, hx353_0⟩ := Kd.at_int HR1_1.out (rd l1_0 x8_4) p353 q353
                cases e353
                replace hx353_0 := (HB.out.cell (bl w _ hx353_0)).trans hx353_0
                replace p353 := eq_true p353
                replace q353 := eq_true q353
                have hcz78_0 := kz0 BK345
                have hcz78_1 := kz1 BK345
                have hfz78_0 := blk_frozen BK345.out 0
                have hfz78_1 := blk_frozen BK345.out 1
                go_wp2_with (first | (go_at_call 42; (with_reducible refine (trefoilref11_Over.calls k4 _ _ l0_0 _ _ l0_1 _ _ l1_0 _ _ l1_1 (rd l1_0 x8_4) true _ ?side1 ?side2 ?side3 ?side4 ?side5 ?side6 ?side7 ?side8 A64.out).mono ?_); (case side1 => exact zc (Kd.C_below HR0_0.out HB.out)); (case side2 => exact HC0_0.out); (case side3 => exact zc (Kd.C_below HR0_1.out HB.out)); (case side4 => exact HC0_1.out); (case side5 => exact zc (Kd.C_below HR1_0.out HB.out)); (case side6 => exact HC1_0.out); (case side7 => exact zc (Kd.C_below HR1_1.out HB.out)); (case side8 => exact HC1_1.out); rintro e w79 ⟨rfl, hb⟩; replace BK345 := Z0 (zkb BK345 hb); replace BK346 := Z0 (zkb BK346 hb); replace HB := Z0 (below_step (zb HB) hb); (try clear hb); (try clear hb2); (try clear hk); (try clear hi); have hcz80_0 := kz0 BK346; have hcz80_1 := kz1 BK346; have hfz80_0 := blk_frozen BK346.out 0; have hfz80_1 := blk_frozen BK346.out 1; obtain ⟨i081, hi081, _, hsz81, _⟩ := info_parts info3; obtain ⟨hcut81, hA81, hC81⟩ := print_take_of (P := Try.prog) (Value.int .i64) 0 22 3 .i64 Try.underlying22 hi081 hsz81 (some ad352) c1_0 l1_0 x8_4 (of_decide_eq_true (by first | (with_reducible assumption) | assumption)) (of_decide_eq_true (by first | (with_reducible assumption) | assumption)) HC1_0.out; have HR355 := Z0 (Kd.C_of_reads (h1 := fun _ => rfl) (hA81 _ (Kd.reads_of_C HR1_0.out))); have HC355 := Z0 hC81; clear hA81 hC81 hi081 hsz81) | (go_at_call 31; (with_reducible refine (has_cut k4 _ _ l1_0 x8_4 od od (rd l1_0 x8_4) false _ ?side1 ?side2 A68.out).mono ?_); (case side1 => exact zc (Kd.C_below HR355.out HB.out)); (case side2 => exact HC355.out); rintro e w' ⟨rfl, ⟨nd, rfl⟩⟩))
                go_roundg k4
                case measure => have := HJ4.out; have := HK2.out; have := HK3.out; have := HK4.out; omega
                case rel => exact ⟨(wrap64 (x8_4 + 1)), zs, H', ⟨by have := HJ4.out; have := HK2.out; have := HK3.out; have := HK4.out; omega⟩, ⟨zk BK345⟩, ⟨zk BK346⟩, ⟨zb HB⟩⟩
end Go.Proofs.Ytmbhjhanafmidaa.PListSteps
