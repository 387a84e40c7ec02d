/- Written by a program of this work: each theorem says that a call of the Go function comes to what the Lean function beside it tells, under the conditions that it names; Lean checks it. -/
import Derived.Test.YtmbhjhanafmidaaULPListRunsx0
import Derived.Test.YtmbhjhanafmidaaULPListRunsx10
import Derived.Test.YtmbhjhanafmidaaULPListRunsx11
import Derived.Test.YtmbhjhanafmidaaULPListRunsx12
import Derived.Test.YtmbhjhanafmidaaULPListRunsx14
import Derived.Test.YtmbhjhanafmidaaULPListRunsx17
import Derived.Test.YtmbhjhanafmidaaULZr
namespace Go.Proofs.Ytmbhjhanafmidaa.PListRuns
open Go.Proofs.Ytmbhjhanafmidaa.Zr Go.RowKit Go.Proofs.YtmbhjhanafmidaaW.PrintWords Go.Proofs.YtmbhjhanafmidaaW.PrintLast Go.Proofs.YtmbhjhanafmidaaW.PrintMore
attribute [local go_sem] max2_int min2_int max_two min_two max_three min_three max_four min_four   -- for this text's walks alone
set_option linter.unusedVariables false
set_option linter.unusedSimpArgs false
mutual
def trefoilref11_Run.l0 : Nat → List Int → List (List Int) → Int → Int → List Int → List (S85) → List Int → List Int → Option ((List (List Int)) × Int)
 | 0, _, _, _, _, _, _, _, _ => none
 | k + 1, x1, x10, x11, x12, x414000, x414001, x422000, x422001 => if x12 < (x1.length : Int) then (if 0 ≤ x12 then (trefoilref11_Run.l0 k x1 x10 (wrap64 (x11 + (rd x1 x12))) (wrap64 (x12 + 1)) x414000 x414001 x422000 x422001) else (none)) else (if x11 > 4096 then (some (([] : List (List Int)), 100)) else (trefoilref11_Run.l1 k x10 x11 x414000 x414001 x422000 x422001))
def trefoilref11_Run.l1 : Nat → List (List Int) → Int → List Int → List (S85) → List Int → List Int → Option ((List (List Int)) × Int)
 | 0, _, _, _, _, _, _ => none
 | k + 1, x10, x11, x414000, x414001, x422000, x422001 => if x11 > 0 then ((trefoilref11_Fill.f k x414000 x414001 x422000 x422001).bind fun bt426 => ((some (([] : List Int) : List Int)).bind fun y432 => (if y432.length + bt426.1.length < 17592186044416 then (if x10.length < 5864062014805 then ((trefoilref11_Tick.f k bt426.1 bt426.2).bind fun bt441 => (trefoilref11_Run.l2 k (x10 ++ [(y432 ++ bt426.1)]) 0 0 x414000 x414001 bt441.1 bt441.2.1)) else (none)) else (none)))) else (some (x10, 0))
def trefoilref11_Run.l2 : Nat → List (List Int) → Int → Int → List Int → List (S85) → List Int → List Int → Option ((List (List Int)) × Int)
 | 0, _, _, _, _, _, _, _ => none
 | k + 1, x10, x11, x13, x414000, x414001, x422000, x422001 => if x13 < (x422001.length : Int) then (if 0 ≤ x13 then (trefoilref11_Run.l2 k x10 (wrap64 (x11 + (rd x422001 x13))) (wrap64 (x13 + 1)) x414000 x414001 x422000 x422001) else (none)) else (trefoilref11_Run.l1 k x10 x11 x414000 x414001 x422000 x422001)
end
def trefoilref11_Run.f (k : Nat) (l0_0 : List Int) (l0_1 : List (S85)) (l1 : List Int) (a2 : Int) : Option ((List (List Int)) × Int) := (trefoilref11_New.f k l0_0 l0_1 l1 a2).bind fun bt414 => (if bt414.2.2 = 0 then (trefoilref11_Run.l0 k l1 (([] : List (List Int))) 0 0 l0_0 l0_1 bt414.1 bt414.2.1) else (some (([] : List (List Int)), bt414.2.2)))
set_option maxHeartbeats 8000000 in
set_option maxRecDepth 100000 in
theorem trefoilref11_Run.calls (k : Nat) (A0_0 : Option Addr) (c0_0 : Nat) (l0_0 : List Int) (A0_1 : Option Addr) (c0_1 : Nat) (l0_1 : List (S85)) (A1 : Option Addr) (c1 : Nat) (l1 : List Int) (a2 : Int) (r1 : List (List Int)) (r2 : Int) (w : World) (hr0_0 : Kd.C (Kd.int .i64) w A0_0 l0_0.length l0_0) (hc0_0 : l0_0.length ≤ c0_0) (hr0_1 : Kd.C k85 w A0_1 l0_1.length l0_1) (hc0_1 : l0_1.length ≤ c0_1) (hr1 : Kd.C (Kd.int .i64) w A1 l1.length l1) (hc1 : l1.length ≤ c1) (h : trefoilref11_Run.f k l0_0 l0_1 l1 a2 = some (r1, r2)) :
  Calls Try.prog 27 #[.agg #[.slice A0_0 l0_0.length c0_0, .slice A0_1 l0_1.length c0_1], .slice A1 l1.length c1, .int .i64 a2] w fun e w' => ∃ v0_ : Value, e = .returned (.tuple #[v0_, .int .i64 r2]) ∧ Kd.S (Kd.slice 3 (Kd.int .i64)) 22 w' w.heap.size (fun _ => True) v0_ r1 ∧ Below w.heap.size w w' := by
 have hu25 := Try.underlying25
 have hu27 := Try.underlying27
 have HR0_0 := Z0 hr0_0
 have HC0_0 := Z0 hc0_0
 clear hr0_0 hc0_0
 have HR0_1 := Z0 hr0_1
 have HC0_1 := Z0 hc0_1
 clear hr0_1 hc0_1
 have HR1 := Z0 hr1
 have HC1 := Z0 hc1
 clear hr1 hc1
 have HB := Z0 (Below.refl w.heap.size w)
 have H : ((trefoilref11_New.f k l0_0 l0_1 l1 a2).bind fun bt414 => (if bt414.2.2 = 0 then (trefoilref11_Run.l0 k l1 (([] : List (List Int))) 0 0 l0_0 l0_1 bt414.1 bt414.2.1) else (some (([] : List (List Int)), bt414.2.2)))) = some (r1, r2) := h
 clear h
 replace H := Option.bind_eq_some_iff.mp H
 obtain ⟨⟨t414, t417, t420⟩, A40, H⟩ := H
 dsimp only at H
 have A4 := Z0 A40
 clear A40
 by_cases c5 : t420 = 0
 ·rw [if_pos c5] at H
  have c5b0 : (t420 == 0) = true := beq_iff_eq.mpr c5
  have c5b1 : (t420 != 0) = false := bne_eq_false_iff_eq.mpr c5
  clear c5
  obtain ⟨y422, hy422⟩ : ∃ y_ : List (List Int), y_ = (([] : List (List Int))) := ⟨_, rfl⟩
  replace H : (trefoilref11_Run.l0 k l1 y422 0 0 l0_0 l0_1 t414 t417) = some (r1, r2) := by first | (rw [hy422]; with_reducible exact H) | (have H2_ := (Option.bind_some _ _).symm.trans H; rw [hy422]; with_reducible exact H2_) | (have H2_ := (Option.bind_some _ _).symm.trans H; with_reducible exact H2_) | with_reducible exact H | (rw [hy422]; exact H) | exact H
  have Ny422 := Z0 hy422
  clear hy422
  have H' := Z0 H
  clear H
  go_enter Try.func27, Try.ntmps27
  go_wp2_with (first | ((with_reducible refine gate_dst (N := 3) rfl ?_); refine zx (N := 3) #[.slice A0_0 l0_0.length c0_0, .slice A0_1 l0_1.length c0_1] 25 ?_; intro gb413 hg w6 hbox hb; have BK413 := Z0 (hbox); have GW413 := Z0 (zh w hg HB); have GE413 := Z0 (zh w hg HB); replace HB := Z0 (below_step (zb HB) hb); clear hb hbox hg; have hcz7_0 := kz0 BK413; have hcz7_1 := kz1 BK413; have hfz7_0 := blk_frozen BK413.out 0; have hfz7_1 := blk_frozen BK413.out 1) | ((with_reducible refine gate_callee (f := 29) rfl ?_); refine goesL_ (some 18) rfl rfl Try.func29 (by kernel_rfl) rfl #[.agg #[.slice A0_0 l0_0.length c0_0, .slice A0_1 l0_1.length c0_1], .slice A1 l1.length c1, .int .i64 a2] rfl (by (try simp only [List.map_toArray, List.map_cons, List.map_nil]); first | done | rfl | (simp only [List.length_drop, List.length_take]; rfl)) ?_; (with_reducible refine (trefoilref11_New.calls k _ _ l0_0 _ _ l0_1 _ _ l1 a2 t414 t417 t420 _ ?side1 ?side2 ?side3 ?side4 ?side5 ?side6 A4.out).mono ?_); (case side1 => exact zc (Kd.C_below HR0_0.out HB.out)); (case side2 => exact HC0_0.out); (case side3 => exact zc (Kd.C_below HR0_1.out HB.out)); (case side4 => exact HC0_1.out); (case side5 => exact zc (Kd.C_below HR1.out HB.out)); (case side6 => exact HC1.out); rintro e w8 ⟨v415, v418, rfl, ho0, ho1, hb⟩; refine ⟨_, rfl, ?_⟩; have HO416 := Z0 (rl ho0 (below_size (zb HB))); have HO419 := Z0 (rl ho1 (below_size (zb HB))); replace BK413 := Z0 (zkb BK413 hb); replace HB := Z0 (below_step (zb HB) hb); (try clear hb); (try clear hb2); (try clear hk); (try clear hi); (try clear ho0); (try clear ho1)) | ((with_reducible refine gate_dst (N := 8) rfl ?_); refine zx (N := 8) #[.slice none 0 0, .slice none 0 0] 27 ?_; intro gb421 hg w9 hbox hb; replace HO416 := Z0 (rbe (zr HO416) hb); replace HO419 := Z0 (rbe (zr HO419) hb); have BK421 := Z0 (hbox); have GW421 := Z0 (zh w hg HB); have GE421 := Z0 (zh w hg HB); replace HB := Z0 (below_step (zb HB) hb); have NB413_421 := Z0 (zl hg BK413); have NB421_413 := Z0 (zu hg BK413); replace BK413 := Z0 (zkb BK413 hb); clear hb hbox hg; obtain ⟨Ao10, co10, eo10⟩ := Kd.R_slice HO416.out; subst eo10; have hnb11 := NB421_413.out; have hnc11 := NB413_421.out; have hcz12_0 := kz0 BK421; have hcz12_1 := kz1 BK421; have hfz12_0 := blk_frozen BK421.out 0; have hfz12_1 := blk_frozen BK421.out 1; obtain ⟨Ao13, co13, eo13⟩ := Kd.R_slice HO419.out; subst eo13) | ((with_reducible refine gate_dst (N := 24) rfl ?_); refine Kd.S_lit (Kd.slice 3 (Kd.int .i64)) _ 22 ?hg (N := 24) ?hd (xs := ([] : List (List Int))) (inner := []) (ok := fun _ => True) (okp := fun _ => True) ?hr ?hp (fun _ hk => hk) trivial (Below.refl _ _) (Nat.le_refl _) (by simp) ?_; (case hd => rfl); (case hg => rfl); (case hr => first | (go_simp; done) | (go_simp; rfl)); (case hp => exact (Reps.none _ _)); intro v423 w14 ho15 hb hg_ hnew_; clear hg_ hnew_; (first | rw [← Ny422.out] at ho15 | (simp only [Int.reduceToNat] at ho15; rw [← Ny422.out] at ho15)); have HO424 := Z0 (Kd.S_lower (Kd.S_new' (Kd.S_new' ho15 (rlt (zy HO416 BK421))) (rlt (zy HO419 BK421))) (below_size (zb HB))); replace HO416 := Z0 (rbe (zy HO416 BK421) hb); replace HO419 := Z0 (rbe (zy HO419 BK421) hb); replace BK413 := Z0 (kb (g := gb413) (o := .cells #[.slice A0_0 l0_0.length c0_0, .slice A0_1 l0_1.length c0_1] 25 (0, 0)) (by (with_reducible repeat (first | refine kn ?_ _ | refine kd_ ?_ | refine ka ?_ _)); refine blk_far ?_ NB413_421.out _; (with_reducible repeat (first | refine kn ?_ _ | refine kd_ ?_ | refine ka ?_ _)); refine blk_far ?_ NB413_421.out _; (with_reducible repeat (first | refine kn ?_ _ | refine kd_ ?_ | refine ka ?_ _)); exact BK413.out) hb); replace BK421 := Z0 (kb (g := gb421) (o := .cells #[.slice Ao10 t414.length co10, .slice Ao13 t417.length co13] 27 (0, 0)) (by (with_reducible repeat (first | refine kn ?_ _ | refine kd_ ?_ | refine ka ?_ _)); refine blk_put (cs := #[.slice Ao10 t414.length co10, .slice none 0 0]) ?_ 1 _ rfl; (with_reducible repeat (first | refine kn ?_ _ | refine kd_ ?_ | refine ka ?_ _)); refine blk_put (cs := #[.slice none 0 0, .slice none 0 0]) ?_ 0 _ rfl; (with_reducible repeat (first | refine kn ?_ _ | refine kd_ ?_ | refine ka ?_ _)); exact BK421.out) hb); replace HB := Z0 (below_step (zb HB) hb); clear hb ho15))
  go_loopg [11, 12] k (fun kq v11 v12 w' => ∃ (x11_1 : Int) (x12_1 : Int), v11 = .int .i64 x11_1 ∧ v12 = .int .i64 x12_1 ∧ Aside0 (trefoilref11_Run.l0 kq l1 y422 x11_1 x12_1 l0_0 l0_1 t414 t417 = some (r1, r2)) ∧ Aside0 (kq ≤ k) ∧ Aside0 (Kd.S (Kd.slice 3 (Kd.int .i64)) 22 w' w.heap.size (fun k_ => some k_ ≠ ((.slice Ao10 t414.length co10) : Value).ownBlock ∧ some k_ ≠ ((.slice Ao13 t417.length co13) : Value).ownBlock) v423 y422) ∧ Aside0 (Kd.R (Kd.int .i64) 3 w' w.heap.size (fun k_ => some k_ ≠ ((.slice Ao13 t417.length co13) : Value).ownBlock) (.slice Ao10 t414.length co10) t414) ∧ Aside0 (Kd.R (Kd.int .i64) 3 w' w.heap.size (fun k_ => some k_ ≠ ((.slice Ao10 t414.length co10) : Value).ownBlock) (.slice Ao13 t417.length co13) t417) ∧ Aside0 (w'.heap[gb413]? = some (.cells #[(.slice A0_0 l0_0.length c0_0), (.slice A0_1 l0_1.length c0_1)] 25 (0, 0))) ∧ Aside0 (w'.heap[gb421]? = some (.cells #[(.slice Ao10 t414.length co10), (.slice Ao13 t417.length co13)] 27 (0, 0))) ∧ Aside0 (Below w.heap.size w w'))
  case atStart => exact ⟨(0), (0), zs, zs, H', ⟨Nat.le_refl _⟩, ⟨by (with_reducible repeat (first | apply Kd.S_alloc | apply Kd.S_drewN | apply Kd.S_drew)); exact Kd.S_mono HO424.out (fun _ hk => ⟨hk.1.2, hk.2⟩)⟩, ⟨by (with_reducible repeat (first | apply ra | apply rn | apply rd_)); exact HO416.out⟩, ⟨by (with_reducible repeat (first | apply ra | apply rn | apply rd_)); exact HO419.out⟩, ⟨zk BK413⟩, ⟨zk BK421⟩, ⟨zb HB⟩⟩
  case round =>
   as_aux_lemma =>
   clear H'
   try clear c1
   try clear c2
   try clear p2
   try clear c5
   try clear c5b0
   try clear c5b1
   try clear c11
   try clear hcz12_0
   try clear hcz12_1
   try clear hcz7_0
   try clear hcz7_1
   try clear hfz12_0
   try clear hfz12_1
   try clear hfz7_0
   try clear hfz7_1
   obtain ⟨x11_1, x12_1, rfl, rfl, HA, HK1, HO_10, HO_422000, HO_422001, BK413, BK421, HB⟩ := hrel
   cases gk with
   | zero => exact absurd HA.out (by simp [trefoilref11_Run.l0])
   | succ k1 =>
    have H := HA.out
    clear HA
    simp only [trefoilref11_Run.l0] at H
    by_cases c16 : x12_1 < (l1.length : Int)
    ·rw [if_pos c16] at H
     have c16b0 : decide (x12_1 < (l1.length : Int)) = true := decide_eq_true c16
     clear c16
     by_cases c17 : 0 ≤ x12_1
     ·rw [if_pos c17] at H
      have c17b0 : decide (0 ≤ x12_1) = true := decide_eq_true c17
      clear c17
      have H' := Z0 H
      clear H
      have p425 : 0 ≤ (x12_1 : Int) := od
      have q425 : x12_1 < (l1.length : Int) := od
      obtain ⟨ad425, e425, hx425_0⟩ := Kd.at_int HR1.out x12_1 p425 q425
      cases e425
      replace hx425_0 := (HB.out.cell (bl w _ hx425_0)).trans hx425_0
      replace p425 := eq_true p425
      replace q425 := eq_true q425
      go_wp2
      go_roundg k1
      case measure => have := HK1.out; omega
      case rel => exact ⟨(wrap64 (x11_1 + (rd l1 x12_1))), (wrap64 (x12_1 + 1)), zs, zs, H', ⟨by have := HK1.out; omega⟩, ⟨by (with_reducible repeat (first | apply Kd.S_alloc | apply Kd.S_drewN | apply Kd.S_drew)); exact HO_10.out⟩, ⟨by (with_reducible repeat (first | apply ra | apply rn | apply rd_)); first | exact HO_422000.out | exact rm HO_422000.out (fun _ h_ => ⟨h_.2, h_.1⟩)⟩, ⟨by (with_reducible repeat (first | apply ra | apply rn | apply rd_)); first | exact HO_422001.out | exact rm HO_422001.out (fun _ h_ => ⟨h_.2, h_.1⟩)⟩, ⟨zk BK413⟩, ⟨zk BK421⟩, ⟨zb HB⟩⟩
     ·rw [if_neg c17] at H
      exact absurd H (by simp)
    ·rw [if_neg c16] at H
     have c16b0 : decide (x12_1 < (l1.length : Int)) = false := decide_eq_false c16
     clear c16
     by_cases c18 : x11_1 > 4096
     ·rw [if_pos c18] at H
      have c18b0 : decide (4096 < x11_1) = true := decide_eq_true c18
      clear c18
      simp only [Option.some.injEq, Prod.mk.injEq] at H
      obtain ⟨rfl, rfl⟩ := H
      go_wp2
      go_ret2
      exact ⟨_, ze, by first | exact Kd.S_nil _ _ _ _ _ | exact Kd.N_nil _ _ _ _ _ | exact Kd.V_nil _ _ _ _ _ | exact Kd.Q_nil _ _ _ _ _ | exact Kd.R_nil _ _ _ _ _, zb HB⟩
     ·rw [if_neg c18] at H
      have c18b0 : decide (4096 < x11_1) = false := decide_eq_false c18
      clear c18
      have H' := Z0 H
      clear H
      go_wp2
      go_loopg [10, 11] k1 (fun kq v10 v11 w' => ∃ (x10_2 : List (List Int)) (x11_2 : Int) (x422000_2 : List Int) (x422001_2 : List Int) (u422000 : Value) (u422001 : Value), v11 = .int .i64 x11_2 ∧ Aside0 (trefoilref11_Run.l1 kq x10_2 x11_2 l0_0 l0_1 x422000_2 x422001_2 = some (r1, r2)) ∧ Aside0 (kq ≤ k1) ∧ Aside0 (Kd.S (Kd.slice 3 (Kd.int .i64)) 22 w' w.heap.size (fun k_ => some k_ ≠ (u422000 : Value).ownBlock ∧ some k_ ≠ (u422001 : Value).ownBlock) v10 x10_2) ∧ Aside0 (Kd.R (Kd.int .i64) 3 w' w.heap.size (fun k_ => some k_ ≠ (u422001 : Value).ownBlock) u422000 x422000_2) ∧ Aside0 (Kd.R (Kd.int .i64) 3 w' w.heap.size (fun k_ => some k_ ≠ (u422000 : Value).ownBlock) u422001 x422001_2) ∧ Aside0 (w'.heap[gb413]? = some (.cells #[(.slice A0_0 l0_0.length c0_0), (.slice A0_1 l0_1.length c0_1)] 25 (0, 0))) ∧ Aside0 (w'.heap[gb421]? = some (.cells #[u422000, u422001] 27 (0, 0))) ∧ Aside0 (Below w.heap.size w w'))
      case atStart => exact ⟨(y422), (x11_1), (t414), (t417), (.slice Ao10 t414.length co10), (.slice Ao13 t417.length co13), zs, H', ⟨Nat.le_refl _⟩, ⟨by (with_reducible repeat (first | apply Kd.S_alloc | apply Kd.S_drewN | apply Kd.S_drew)); exact HO_10.out⟩, ⟨by (with_reducible repeat (first | apply ra | apply rn | apply rd_)); exact HO_422000.out⟩, ⟨by (with_reducible repeat (first | apply ra | apply rn | apply rd_)); exact HO_422001.out⟩, ⟨zk BK413⟩, ⟨zk BK421⟩, ⟨zb HB⟩⟩
      case round =>
       as_aux_lemma =>
       clear H'
       try clear c1
       try clear c2
       try clear p2
       try clear p4
       try clear q4
       try clear hx4
       try clear c5
       try clear c5b0
       try clear c5b1
       try clear p6
       try clear c11
       try clear c16
       try clear c16b0
       try clear c17
       try clear c17b0
       try clear c18
       try clear c18b0
       try clear hcz12_0
       try clear hcz12_1
       try clear hcz7_0
       try clear hcz7_1
       try clear hfz12_0
       try clear hfz12_1
       try clear hfz7_0
       try clear hfz7_1
       try clear hx425_0
       try clear p2
       try clear p425
       try clear q425
       obtain ⟨x10_2, x11_2, x422000_2, x422001_2, u422000, u422001, rfl, HA, HK2, HO_10, HO_422000, HO_422001, BK413, BK421, HB⟩ := hrel
       cases gk with
       | zero => exact absurd HA.out (by simp [trefoilref11_Run.l1])
       | succ k2 =>
        have H := HA.out
        clear HA
        simp only [trefoilref11_Run.l1] at H
        by_cases c19 : x11_2 > 0
        ·rw [if_pos c19] at H
         have c19b0 : decide (0 < x11_2) = true := decide_eq_true c19
         clear c19
         replace H := Option.bind_eq_some_iff.mp H
         obtain ⟨⟨t426, t429⟩, A200, H⟩ := H
         dsimp only at H
         have A20 := Z0 A200
         clear A200
         obtain ⟨y432, hy432⟩ : ∃ y_ : List Int, y_ = (([] : List Int)) := ⟨_, rfl⟩
         replace H : (if y432.length + t426.length < 17592186044416 then (if x10_2.length < 5864062014805 then ((trefoilref11_Tick.f k2 t426 t429).bind fun bt441 => (trefoilref11_Run.l2 k2 (x10_2 ++ [(y432 ++ t426)]) 0 0 l0_0 l0_1 bt441.1 bt441.2.1)) else (none)) else (none)) = some (r1, r2) := by first | (rw [hy432]; with_reducible exact H) | (have H2_ := (Option.bind_some _ _).symm.trans H; rw [hy432]; with_reducible exact H2_) | (have H2_ := (Option.bind_some _ _).symm.trans H; with_reducible exact H2_) | with_reducible exact H | (rw [hy432]; exact H) | exact H
         have Ny432 := Z0 hy432
         clear hy432
         by_cases c21 : y432.length + t426.length < 17592186044416
         ·rw [if_pos c21] at H
          have LMc21 := Z0 c21
          clear c21
          obtain ⟨y435, hy435⟩ : ∃ y_ : List Int, y_ = (y432 ++ t426) := ⟨_, rfl⟩
          replace H : (if x10_2.length < 5864062014805 then ((trefoilref11_Tick.f k2 t426 t429).bind fun bt441 => (trefoilref11_Run.l2 k2 (x10_2 ++ [y435]) 0 0 l0_0 l0_1 bt441.1 bt441.2.1)) else (none)) = some (r1, r2) := by first | (rw [hy435]; with_reducible exact H) | (have H2_ := (Option.bind_some _ _).symm.trans H; rw [hy435]; with_reducible exact H2_) | (have H2_ := (Option.bind_some _ _).symm.trans H; with_reducible exact H2_) | with_reducible exact H | (rw [hy435]; exact H) | exact H
          have Ny435 := Z0 hy435
          clear hy435
          by_cases c22 : x10_2.length < 5864062014805
          ·rw [if_pos c22] at H
           have LMc22 := Z0 c22
           clear c22
           obtain ⟨y438, hy438⟩ : ∃ y_ : List (List Int), y_ = (x10_2 ++ [y435]) := ⟨_, rfl⟩
           replace H : ((trefoilref11_Tick.f k2 t426 t429).bind fun bt441 => (trefoilref11_Run.l2 k2 y438 0 0 l0_0 l0_1 bt441.1 bt441.2.1)) = some (r1, r2) := by first | (rw [hy438]; with_reducible exact H) | (have H2_ := (Option.bind_some _ _).symm.trans H; rw [hy438]; with_reducible exact H2_) | (have H2_ := (Option.bind_some _ _).symm.trans H; with_reducible exact H2_) | with_reducible exact H | (rw [hy438]; exact H) | exact H
           have Ny438 := Z0 hy438
           clear hy438
           replace H := Option.bind_eq_some_iff.mp H
           obtain ⟨⟨t441, t444, t447⟩, A230, H⟩ := H
           dsimp only at H
           have A23 := Z0 A230
           clear A230
           have H' := Z0 H
           clear H
           have hnb24 := NB413_421.out
           have hnc24 := NB421_413.out
           have hcz25_0 := kz0 BK413
           have hcz25_1 := kz1 BK413
           have hfz25_0 := blk_frozen BK413.out 0
           have hfz25_1 := blk_frozen BK413.out 1
           have hcz26_0 := kz0 BK421
           have hcz26_1 := kz1 BK421
           have hfz26_0 := blk_frozen BK421.out 0
           have hfz26_1 := blk_frozen BK421.out 1
           obtain ⟨Ao27, co27, eo27⟩ := Kd.R_slice HO_422000.out
           subst eo27
           obtain ⟨Ao28, co28, eo28⟩ := Kd.R_slice HO_422001.out
           subst eo28
           go_wp2_with (first | ((with_reducible refine gate_callee (f := 21) rfl ?_); refine goesL_ (some 43) rfl rfl Try.func21 (by kernel_rfl) rfl #[.agg #[.slice A0_0 l0_0.length c0_0, .slice A0_1 l0_1.length c0_1], .agg #[.slice Ao27 x422000_2.length co27, .slice Ao28 x422001_2.length co28]] rfl (by (try simp only [List.map_toArray, List.map_cons, List.map_nil]); first | done | rfl | (simp only [List.length_drop, List.length_take]; rfl)) ?_; (with_reducible refine (trefoilref11_Fill.calls k2 _ _ l0_0 _ _ l0_1 _ _ x422000_2 _ _ x422001_2 t426 t429 _ ?side1 ?side2 ?side3 ?side4 ?side5 ?side6 ?side7 ?side8 A20.out).mono ?_); (case side1 => exact zc (Kd.C_below HR0_0.out HB.out)); (case side2 => exact HC0_0.out); (case side3 => exact zc (Kd.C_below HR0_1.out HB.out)); (case side4 => exact HC0_1.out); (case side5 => exact zc (rr HO_422000.out).2.2); (case side6 => exact (rr HO_422000.out).2.1); (case side7 => exact zc (rr HO_422001.out).2.2); (case side8 => exact (rr HO_422001.out).2.1); rintro e w29 ⟨v427, v430, rfl, ho0, ho1, hb⟩; refine ⟨_, rfl, ?_⟩; have n0_ := Z0 (Kd.S_mono (Kd.S_told (Kd.S_told (Kd.S_old (by (with_reducible repeat (first | apply Kd.S_alloc | apply Kd.S_drewN | apply Kd.S_drew)); exact HO_10.out) hb) (rb ho0)) (rb ho1)) (fun _ h_ => h_.1)); have n1_ := Z0 (rm (rt (rt (ro (zr HO_422000) hb) (rb ho0)) (rb ho1)) (fun _ h_ => h_.1)); have n2_ := Z0 (rm (rt (rt (ro (zr HO_422001) hb) (rb ho0)) (rb ho1)) (fun _ h_ => h_.1)); have n3_ := Z0 (rl (rw_ (rw_ ho0 (rlt (zr HO_422000))) (rlt (zr HO_422001))) (below_size (zb HB))); have n4_ := Z0 (rl (rw_ (rw_ ho1 (rlt (zr HO_422000))) (rlt (zr HO_422001))) (below_size (zb HB))); have n5_ := Z0 (zkb BK413 hb); have n6_ := Z0 (zkb BK421 hb); have n7_ := Z0 (below_step (zb HB) hb); clear HO_10; clear HO_422000; clear HO_422001; clear BK413; clear BK421; clear HB; have HO_10 := n0_; have HO_422000 := n1_; have HO_422001 := n2_; have HO428 := n3_; have HO431 := n4_; have BK413 := n5_; have BK421 := n6_; have HB := n7_; clear n0_ n1_ n2_ n3_ n4_ n5_ n6_ n7_; (try clear hb); (try clear hb2); (try clear hk); (try clear hi); (try clear ho0); (try clear ho1); obtain ⟨Ao30, co30, eo30⟩ := Kd.R_slice HO428.out; subst eo30; have hcz31_0 := kz0 BK421; have hcz31_1 := kz1 BK421; have hfz31_0 := blk_frozen BK421.out 0; have hfz31_1 := blk_frozen BK421.out 1; obtain ⟨Ao32, co32, eo32⟩ := Kd.R_slice HO431.out; subst eo32) | ((with_reducible refine gate_dst (N := 45) rfl ?_); refine zz (N := 45) 3 [] Ny432 (Reps.none _ _) ?_; intro v433 w33 ho34 hb; have n0_ := Z0 (Kd.S_elder' (by (with_reducible repeat (first | apply Kd.S_alloc | apply Kd.S_drewN | apply Kd.S_drew)); exact (Kd.S_mono (Kd.S_far (p := ⟨gb421, 1, none⟩) (Kd.S_far (p := ⟨gb421, 0, none⟩) (Kd.S_types HO_10.out BK421.out (by decide)) (fun _ hk => hk.2) (.slice Ao30 t426.length co30)) (fun _ hk => hk.2) (.slice Ao32 t429.length co32)) (fun _ h_ => h_.1))) (rb ho34) hb); have n1_ := Z0 (Kd.R_elder' (by (with_reducible repeat (first | apply ra | apply rn | apply rd_)); exact (rm (Kd.R_far (p := ⟨gb421, 1, none⟩) (Kd.R_far (p := ⟨gb421, 0, none⟩) (Kd.R_types HO_422000.out BK421.out (by decide)) (fun _ hk => hk.2) (.slice Ao30 t426.length co30)) (fun _ hk => hk.2) (.slice Ao32 t429.length co32)) (fun _ h_ => h_.1))) (rb ho34) hb); have n2_ := Z0 (Kd.R_elder' (by (with_reducible repeat (first | apply ra | apply rn | apply rd_)); exact (rm (Kd.R_far (p := ⟨gb421, 1, none⟩) (Kd.R_far (p := ⟨gb421, 0, none⟩) (Kd.R_types HO_422001.out BK421.out (by decide)) (fun _ hk => hk.2) (.slice Ao30 t426.length co30)) (fun _ hk => hk.2) (.slice Ao32 t429.length co32)) (fun _ h_ => h_.1))) (rb ho34) hb); have n3_ := Z0 (Kd.R_elder' (zy HO428 BK421) (rb ho34) hb); have n4_ := Z0 (Kd.R_elder' (zy HO431 BK421) (rb ho34) hb); have n5_ := Z0 (rl (rw_ (rw_ (rw_ (rw_ ho34 (rlt (by (with_reducible repeat (first | apply ra | apply rn | apply rd_)); exact (rm (Kd.R_far (p := ⟨gb421, 1, none⟩) (Kd.R_far (p := ⟨gb421, 0, none⟩) (Kd.R_types HO_422000.out BK421.out (by decide)) (fun _ hk => hk.2) (.slice Ao30 t426.length co30)) (fun _ hk => hk.2) (.slice Ao32 t429.length co32)) (fun _ h_ => h_.1))))) (rlt (by (with_reducible repeat (first | apply ra | apply rn | apply rd_)); exact (rm (Kd.R_far (p := ⟨gb421, 1, none⟩) (Kd.R_far (p := ⟨gb421, 0, none⟩) (Kd.R_types HO_422001.out BK421.out (by decide)) (fun _ hk => hk.2) (.slice Ao30 t426.length co30)) (fun _ hk => hk.2) (.slice Ao32 t429.length co32)) (fun _ h_ => h_.1))))) (rlt (zy HO428 BK421))) (rlt (zy HO431 BK421))) (below_size (zb HB))); have n6_ := Z0 (kb (g := gb413) (o := .cells #[.slice A0_0 l0_0.length c0_0, .slice A0_1 l0_1.length c0_1] 25 (0, 0)) (by (with_reducible repeat (first | refine kn ?_ _ | refine kd_ ?_ | refine ka ?_ _)); refine blk_far ?_ NB413_421.out _; (with_reducible repeat (first | refine kn ?_ _ | refine kd_ ?_ | refine ka ?_ _)); refine blk_far ?_ NB413_421.out _; (with_reducible repeat (first | refine kn ?_ _ | refine kd_ ?_ | refine ka ?_ _)); exact BK413.out) hb); have n7_ := Z0 (kb (g := gb421) (o := .cells #[.slice Ao30 t426.length co30, .slice Ao32 t429.length co32] 27 (0, 0)) (by (with_reducible repeat (first | refine kn ?_ _ | refine kd_ ?_ | refine ka ?_ _)); refine blk_put (cs := #[.slice Ao30 t426.length co30, .slice Ao28 x422001_2.length co28]) ?_ 1 _ rfl; (with_reducible repeat (first | refine kn ?_ _ | refine kd_ ?_ | refine ka ?_ _)); refine blk_put (cs := #[.slice Ao27 x422000_2.length co27, .slice Ao28 x422001_2.length co28]) ?_ 0 _ rfl; (with_reducible repeat (first | refine kn ?_ _ | refine kd_ ?_ | refine ka ?_ _)); exact BK421.out) hb); have n8_ := Z0 (below_step (zb HB) hb); clear HO_10; clear HO_422000; clear HO_422001; clear HO428; clear HO431; clear BK413; clear BK421; clear HB; have HO_10 := n0_; have HO_422000 := n1_; have HO_422001 := n2_; have HO428 := n3_; have HO431 := n4_; have HO434 := n5_; have BK413 := n6_; have BK421 := n7_; have HB := n8_; clear n0_ n1_ n2_ n3_ n4_ n5_ n6_ n7_ n8_; clear hb ho34; have hcz35_0 := kz0 BK421; have hcz35_1 := kz1 BK421; have hfz35_0 := blk_frozen BK421.out 0; have hfz35_1 := blk_frozen BK421.out 1) | ((with_reducible refine gate_builtin (b := .append) (xs := #[.tmp 45, .tmp 47]) rfl ?_); at_builtin; refine Kd.R_append_rows (Kd.int .i64) (w0 := w) w.heap.size rfl (.tmp 45) (.tmp 47) 22 3 (.int .i64 0) 8 rfl Try.underlying22 info3 rfl (by decide) (by omega) v433 y432 t426 _ _ _ (fun k_ => some k_ ≠ (.slice Ao27 x422000_2.length co27 : Value).ownBlock ∧ some k_ ≠ (.slice Ao28 x422001_2.length co28 : Value).ownBlock ∧ some k_ ≠ (.slice Ao30 t426.length co30 : Value).ownBlock ∧ some k_ ≠ (.slice Ao32 t429.length co32 : Value).ownBlock) (fun _ => False) rfl rfl ?aO ?aR (fun _ _ h => h) (fun _ h => h.elim) ?aF ?aB ?aS ?aL ?_; (case aR => repeat (first | exact (rr HO428.out).2.2 | (with_reducible refine Kd.C_alloc ?_ _) | (with_reducible refine Kd.C_drewN ?_ _) | (with_reducible refine Kd.C_drew ?_))); (case aB => exact (zb HB)); (case aF => exact (fun k_ hk => ⟨Kd.fresh' (rlt (zr HO_422000)) k_ hk, Kd.fresh' (rlt (zr HO_422001)) k_ hk, Kd.fresh' (rlt (zr HO428)) k_ hk, Kd.fresh' (rlt (zr HO431)) k_ hk⟩)); (case aO => exact (by (with_reducible repeat (first | apply ra | apply rn | apply rd_)); exact rm HO434.out (fun _ hk => ⟨hk.1.1.1.2, ⟨hk.1.1.2, ⟨hk.1.2, hk.2⟩⟩⟩))); (case aS => exact (below_size (zb HB))); (case aL => have := LMc21.out; omega); intro v436 w36 ho hb hg hat; rw [← Ny435.out] at ho; have n0_ := Z0 (Kd.S_after (ok := (fun k_ => some k_ ≠ (.slice Ao27 x422000_2.length co27 : Value).ownBlock ∧ some k_ ≠ (.slice Ao28 x422001_2.length co28 : Value).ownBlock ∧ some k_ ≠ (.slice Ao30 t426.length co30 : Value).ownBlock ∧ some k_ ≠ (.slice Ao32 t429.length co32 : Value).ownBlock)) (by (with_reducible repeat (first | apply Kd.S_alloc | apply Kd.S_drewN | apply Kd.S_drew)); exact Kd.S_mono HO_10.out (fun _ hk => ⟨⟨hk.1.1.1.1, ⟨hk.1.1.1.2, ⟨hk.1.1.2, hk.1.2⟩⟩⟩, hk.2⟩)) hg hat); have n1_ := Z0 (Kd.R_after (ok := (fun k_ => some k_ ≠ (.slice Ao28 x422001_2.length co28 : Value).ownBlock ∧ some k_ ≠ (.slice Ao30 t426.length co30 : Value).ownBlock ∧ some k_ ≠ (.slice Ao32 t429.length co32 : Value).ownBlock)) (by (with_reducible repeat (first | apply ra | apply rn | apply rd_)); exact rm HO_422000.out (fun _ hk => ⟨⟨hk.1.1.1, ⟨hk.1.1.2, hk.1.2⟩⟩, hk.2⟩)) hg hat); have n2_ := Z0 (Kd.R_after (ok := (fun k_ => some k_ ≠ (.slice Ao27 x422000_2.length co27 : Value).ownBlock ∧ some k_ ≠ (.slice Ao30 t426.length co30 : Value).ownBlock ∧ some k_ ≠ (.slice Ao32 t429.length co32 : Value).ownBlock)) (by (with_reducible repeat (first | apply ra | apply rn | apply rd_)); exact rm HO_422001.out (fun _ hk => ⟨⟨hk.1.1.1, ⟨hk.1.1.2, hk.1.2⟩⟩, hk.2⟩)) hg hat); have n3_ := Z0 (blk_grown (g := gb413) (o := .cells #[.slice A0_0 l0_0.length c0_0, .slice A0_1 l0_1.length c0_1] 25 (0, 0)) (zk BK413) hg (Kd.R_ne HO434.out BK413.out (by decide))); have n4_ := Z0 (blk_grown (g := gb421) (o := .cells #[.slice Ao30 t426.length co30, .slice Ao32 t429.length co32] 27 (0, 0)) (zk BK421) hg (Kd.R_ne HO434.out BK421.out (by decide))); have n5_ := Z0 (Kd.R_after (ok := (fun k_ => some k_ ≠ (.slice Ao27 x422000_2.length co27 : Value).ownBlock ∧ some k_ ≠ (.slice Ao28 x422001_2.length co28 : Value).ownBlock ∧ some k_ ≠ (.slice Ao32 t429.length co32 : Value).ownBlock)) (by (with_reducible repeat (first | apply ra | apply rn | apply rd_)); exact rm HO428.out (fun _ hk => ⟨⟨hk.1.1.2, ⟨hk.1.2, hk.1.1.1⟩⟩, hk.2⟩)) hg hat); have n6_ := Z0 (Kd.R_after (ok := (fun k_ => some k_ ≠ (.slice Ao27 x422000_2.length co27 : Value).ownBlock ∧ some k_ ≠ (.slice Ao28 x422001_2.length co28 : Value).ownBlock ∧ some k_ ≠ (.slice Ao30 t426.length co30 : Value).ownBlock)) (by (with_reducible repeat (first | apply ra | apply rn | apply rd_)); exact rm HO431.out (fun _ hk => ⟨⟨hk.1.1.2, ⟨hk.1.2, hk.1.1.1⟩⟩, hk.2⟩)) hg hat); have n7_ := Z0 (hb); have n8_ := Z0 (ho); clear HO_10; clear HO_422000; clear HO_422001; clear BK413; clear BK421; clear HO428; clear HO431; clear HB; clear HO434; have HO_10 := n0_; have HO_422000 := n1_; have HO_422001 := n2_; have BK413 := n3_; have BK421 := n4_; have HO428 := n5_; have HO431 := n6_; have HB := n7_; have HO437 := n8_; clear n0_ n1_ n2_ n3_ n4_ n5_ n6_ n7_ n8_; clear ho hb hg hat; obtain ⟨Ao38, co38, eo38⟩ := Kd.R_slice HO437.out; subst eo38) | ((with_reducible refine gate_builtin (b := .append) (xs := #[.tmp 44, .tmp 49]) rfl ?_); at_builtin; refine Kd.S_append (Kd.slice 3 (Kd.int .i64)) (w0 := w) w.heap.size rfl (.tmp 44) (.tmp 49) 48 22 (.slice none 0 0) 24 rfl Try.underlying48 info22 rfl (by decide) (by omega) u10 x10_2 y435 [.slice Ao38 y435.length co38] (fun k_ => some k_ ≠ (.slice Ao27 x422000_2.length co27 : Value).ownBlock ∧ some k_ ≠ (.slice Ao28 x422001_2.length co28 : Value).ownBlock ∧ some k_ ≠ (.slice Ao30 t426.length co30 : Value).ownBlock ∧ some k_ ≠ (.slice Ao32 t429.length co32 : Value).ownBlock) (fun k_ => some k_ = (.slice Ao38 y435.length co38 : Value).ownBlock) rfl rfl ?aP (fun k_ hk_ => ((rm (ok' := fun k_ => ((fun k_ => some k_ ≠ (.slice Ao27 x422000_2.length co27 : Value).ownBlock ∧ some k_ ≠ (.slice Ao28 x422001_2.length co28 : Value).ownBlock ∧ some k_ ≠ (.slice Ao30 t426.length co30 : Value).ownBlock ∧ some k_ ≠ (.slice Ao32 t429.length co32 : Value).ownBlock)) k_ ∧ some k_ ≠ (u10 : Value).ownBlock) (Kd.R_apart' (HO437.out) (Kd.S_typed HO_10.out) (by decide)) (fun k_ hk => ⟨⟨hk.1.1, ⟨hk.1.2.1, ⟨hk.1.2.2.1, hk.1.2.2.2⟩⟩⟩, hk.2⟩))).1 k_ hk_.symm) ?aF ?aO ?aB ?aS ?aL ?_; (case aP => exact Kd.M_row (rm (Kd.R_tight rfl (rm (ok' := fun k_ => ((fun k_ => some k_ ≠ (.slice Ao27 x422000_2.length co27 : Value).ownBlock ∧ some k_ ≠ (.slice Ao28 x422001_2.length co28 : Value).ownBlock ∧ some k_ ≠ (.slice Ao30 t426.length co30 : Value).ownBlock ∧ some k_ ≠ (.slice Ao32 t429.length co32 : Value).ownBlock)) k_ ∧ some k_ ≠ (u10 : Value).ownBlock) (Kd.R_apart' (HO437.out) (Kd.S_typed HO_10.out) (by decide)) (fun k_ hk => ⟨⟨hk.1.1, ⟨hk.1.2.1, ⟨hk.1.2.2.1, hk.1.2.2.2⟩⟩⟩, hk.2⟩))) (fun _ h_ => h_))); (case aB => exact (zb HB)); (case aF => exact (fun k_ hk => ⟨Kd.fresh' (rlt (zr HO_422000)) k_ hk, Kd.fresh' (rlt (zr HO_422001)) k_ hk, Kd.fresh' (rlt (zr HO428)) k_ hk, Kd.fresh' (rlt (zr HO431)) k_ hk⟩)); (case aO => exact (by (with_reducible repeat (first | apply Kd.S_alloc | apply Kd.S_drewN | apply Kd.S_drew)); exact Kd.S_mono HO_10.out (fun k_ hk => ⟨⟨hk.1.1, ⟨hk.1.2.1, ⟨hk.1.2.2.1, hk.1.2.2.2⟩⟩⟩, fun e_ => hk.2 e_⟩))); (case aS => exact (below_size (zb HB))); (case aL => have := LMc22.out; omega); intro v439 w37 ho hb hg hat; rw [← Ny438.out] at ho; have n0_ := Z0 (Kd.R_over' (zr HO_422000) (Kd.S_typed (by (with_reducible repeat (first | apply Kd.S_alloc | apply Kd.S_drewN | apply Kd.S_drew)); exact HO_10.out)) (by decide) hg); have n1_ := Z0 (Kd.R_over' (zr HO_422001) (Kd.S_typed (by (with_reducible repeat (first | apply Kd.S_alloc | apply Kd.S_drewN | apply Kd.S_drew)); exact HO_10.out)) (by decide) hg); have n2_ := Z0 (blk_grown (g := gb413) (o := .cells #[.slice A0_0 l0_0.length c0_0, .slice A0_1 l0_1.length c0_1] 25 (0, 0)) (zk BK413) hg (Kd.S_ne HO_10.out BK413.out (by decide))); have n3_ := Z0 (blk_grown (g := gb421) (o := .cells #[.slice Ao30 t426.length co30, .slice Ao32 t429.length co32] 27 (0, 0)) (zk BK421) hg (Kd.S_ne HO_10.out BK421.out (by decide))); have n4_ := Z0 (Kd.R_over' (zr HO428) (Kd.S_typed (by (with_reducible repeat (first | apply Kd.S_alloc | apply Kd.S_drewN | apply Kd.S_drew)); exact HO_10.out)) (by decide) hg); have n5_ := Z0 (Kd.R_over' (zr HO431) (Kd.S_typed (by (with_reducible repeat (first | apply Kd.S_alloc | apply Kd.S_drewN | apply Kd.S_drew)); exact HO_10.out)) (by decide) hg); have n6_ := Z0 (hb); have n7_ := Z0 (ho); clear HO_422000; clear HO_422001; clear BK413; clear BK421; clear HO428; clear HO431; clear HB; clear HO_10; clear HO437; have HO_422000 := n0_; have HO_422001 := n1_; have BK413 := n2_; have BK421 := n3_; have HO428 := n4_; have HO431 := n5_; have HB := n6_; have HO440 := n7_; clear n0_ n1_ n2_ n3_ n4_ n5_ n6_ n7_; clear ho hb hg hat; have hcz39_0 := kz0 BK421; have hcz39_1 := kz1 BK421; have hfz39_0 := blk_frozen BK421.out 0; have hfz39_1 := blk_frozen BK421.out 1) | ((with_reducible refine gate_callee (f := 20) rfl ?_); refine goesL_ (some 53) rfl rfl Try.func20 (by kernel_rfl) rfl #[.agg #[.slice Ao30 t426.length co30, .slice Ao32 t429.length co32]] rfl (by (try simp only [List.map_toArray, List.map_cons, List.map_nil]); first | done | rfl | (simp only [List.length_drop, List.length_take]; rfl)) ?_; (with_reducible refine (trefoilref11_Tick.calls k2 _ _ t426 _ _ t429 t441 t444 t447 _ ?side1 ?side2 ?side3 ?side4 A23.out).mono ?_); (case side1 => exact zc (rr HO428.out).2.2); (case side2 => exact (rr HO428.out).2.1); (case side3 => exact zc (rr HO431.out).2.2); (case side4 => exact (rr HO431.out).2.1); rintro e w40 ⟨v442, v445, v448, rfl, ho0, ho1, ho2, hb⟩; refine ⟨_, rfl, ?_⟩; have n0_ := Z0 (rm (rt (rt (rt (ro (zr HO_422000) hb) (rb ho0)) (rb ho1)) (rb ho2)) (fun _ h_ => h_.1)); have n1_ := Z0 (rm (rt (rt (rt (ro (zr HO_422001) hb) (rb ho0)) (rb ho1)) (rb ho2)) (fun _ h_ => h_.1)); have n2_ := Z0 (rm (rt (rt (rt (ro (zr HO428) hb) (rb ho0)) (rb ho1)) (rb ho2)) (fun _ h_ => h_.1)); have n3_ := Z0 (rm (rt (rt (rt (ro (zr HO431) hb) (rb ho0)) (rb ho1)) (rb ho2)) (fun _ h_ => h_.1)); have n4_ := Z0 (Kd.S_mono (Kd.S_told (Kd.S_told (Kd.S_told (Kd.S_old (by (with_reducible repeat (first | apply Kd.S_alloc | apply Kd.S_drewN | apply Kd.S_drew)); exact HO440.out) hb) (rb ho0)) (rb ho1)) (rb ho2)) (fun _ h_ => h_.1)); have n5_ := Z0 (rl (rw_ (rw_ (rw_ (rw_ ho0 (rlt (zr HO_422000))) (rlt (zr HO_422001))) (rlt (zr HO428))) (rlt (zr HO431))) (below_size (zb HB))); have n6_ := Z0 (rl (rw_ (rw_ (rw_ (rw_ ho1 (rlt (zr HO_422000))) (rlt (zr HO_422001))) (rlt (zr HO428))) (rlt (zr HO431))) (below_size (zb HB))); have n7_ := Z0 (rl (rw_ (rw_ (rw_ (rw_ ho2 (rlt (zr HO_422000))) (rlt (zr HO_422001))) (rlt (zr HO428))) (rlt (zr HO431))) (below_size (zb HB))); have n8_ := Z0 (zkb BK413 hb); have n9_ := Z0 (zkb BK421 hb); have n10_ := Z0 (below_step (zb HB) hb); clear HO_422000; clear HO_422001; clear HO428; clear HO431; clear HO440; clear BK413; clear BK421; clear HB; have HO_422000 := n0_; have HO_422001 := n1_; have HO428 := n2_; have HO431 := n3_; have HO440 := n4_; have HO443 := n5_; have HO446 := n6_; have HO449 := n7_; have BK413 := n8_; have BK421 := n9_; have HB := n10_; clear n0_ n1_ n2_ n3_ n4_ n5_ n6_ n7_ n8_ n9_ n10_; (try clear hb); (try clear hb2); (try clear hk); (try clear hi); (try clear ho0); (try clear ho1); (try clear ho2); obtain ⟨Ao41, co41, eo41⟩ := Kd.R_slice HO443.out; subst eo41; have hcz42_0 := kz0 BK421; have hcz42_1 := kz1 BK421; have hfz42_0 := blk_frozen BK421.out 0; have hfz42_1 := blk_frozen BK421.out 1; obtain ⟨Ao43, co43, eo43⟩ := Kd.R_slice HO446.out; subst eo43))
           go_loopg [11, 13] k2 (fun kq v11 v13 w' => ∃ (x11_3 : Int) (x13_3 : Int), v11 = .int .i64 x11_3 ∧ v13 = .int .i64 x13_3 ∧ Aside0 (trefoilref11_Run.l2 kq y438 x11_3 x13_3 l0_0 l0_1 t441 t444 = some (r1, r2)) ∧ Aside0 (kq ≤ k2) ∧ Aside0 (Kd.S (Kd.slice 3 (Kd.int .i64)) 22 w' w.heap.size (fun k_ => some k_ ≠ ((.slice Ao41 t441.length co41) : Value).ownBlock ∧ some k_ ≠ ((.slice Ao43 t444.length co43) : Value).ownBlock) v439 y438) ∧ Aside0 (Kd.R (Kd.int .i64) 3 w' w.heap.size (fun k_ => some k_ ≠ ((.slice Ao43 t444.length co43) : Value).ownBlock) (.slice Ao41 t441.length co41) t441) ∧ Aside0 (Kd.R (Kd.int .i64) 3 w' w.heap.size (fun k_ => some k_ ≠ ((.slice Ao41 t441.length co41) : Value).ownBlock) (.slice Ao43 t444.length co43) t444) ∧ Aside0 (w'.heap[gb413]? = some (.cells #[(.slice A0_0 l0_0.length c0_0), (.slice A0_1 l0_1.length c0_1)] 25 (0, 0))) ∧ Aside0 (w'.heap[gb421]? = some (.cells #[(.slice Ao41 t441.length co41), (.slice Ao43 t444.length co43)] 27 (0, 0))) ∧ Aside0 (Below w.heap.size w w'))
           case atStart => exact ⟨(0), (0), zs, zs, H', ⟨Nat.le_refl _⟩, ⟨by (with_reducible repeat (first | apply Kd.S_alloc | apply Kd.S_drewN | apply Kd.S_drew)); exact Kd.S_mono (Kd.S_far (p := ⟨gb421, 1, none⟩) (Kd.S_far (p := ⟨gb421, 0, none⟩) (Kd.S_types HO440.out BK421.out (by decide)) (fun _ hk => hk.2) (.slice Ao41 t441.length co41)) (fun _ hk => hk.2) (.slice Ao43 t444.length co43)) (fun _ hk => ⟨hk.1.1.1.2, hk.1.1.2⟩)⟩, ⟨by (with_reducible repeat (first | apply ra | apply rn | apply rd_)); exact rm (Kd.R_far (p := ⟨gb421, 1, none⟩) (Kd.R_far (p := ⟨gb421, 0, none⟩) (Kd.R_types HO443.out BK421.out (by decide)) (fun _ hk => hk.2) (.slice Ao41 t441.length co41)) (fun _ hk => hk.2) (.slice Ao43 t444.length co43)) (fun _ hk => hk.1.1.1.1.1.1)⟩, ⟨by (with_reducible repeat (first | apply ra | apply rn | apply rd_)); exact rm (Kd.R_far (p := ⟨gb421, 1, none⟩) (Kd.R_far (p := ⟨gb421, 0, none⟩) (Kd.R_types HO446.out BK421.out (by decide)) (fun _ hk => hk.2) (.slice Ao41 t441.length co41)) (fun _ hk => hk.2) (.slice Ao43 t444.length co43)) (fun _ hk => hk.1.1.1.1.1.1)⟩, ⟨by (with_reducible repeat (first | refine kn ?_ _ | refine kd_ ?_ | refine ka ?_ _)); refine blk_far ?_ NB413_421.out _; (with_reducible repeat (first | refine kn ?_ _ | refine kd_ ?_ | refine ka ?_ _)); refine blk_far ?_ NB413_421.out _; (with_reducible repeat (first | refine kn ?_ _ | refine kd_ ?_ | refine ka ?_ _)); exact BK413.out⟩, ⟨by (with_reducible repeat (first | refine kn ?_ _ | refine kd_ ?_ | refine ka ?_ _)); refine blk_put (cs := #[.slice Ao41 t441.length co41, .slice Ao32 t429.length co32]) ?_ 1 _ rfl; (with_reducible repeat (first | refine kn ?_ _ | refine kd_ ?_ | refine ka ?_ _)); refine blk_put (cs := #[.slice Ao30 t426.length co30, .slice Ao32 t429.length co32]) ?_ 0 _ rfl; (with_reducible repeat (first | refine kn ?_ _ | refine kd_ ?_ | refine ka ?_ _)); exact BK421.out⟩, ⟨zb HB⟩⟩
           case round =>
            as_aux_lemma =>
            clear H'
            try clear c1
            try clear c2
            try clear p2
            try clear p4
            try clear q4
            try clear hx4
            try clear c5
            try clear c5b0
            try clear c5b1
            try clear p6
            try clear c11
            try clear c16
            try clear c16b0
            try clear c17
            try clear c17b0
            try clear c18
            try clear c18b0
            try clear c19
            try clear c19b0
            try clear c20
            try clear c21
            try clear c22
            try clear c24
            try clear c27
            try clear c29
            try clear p42
            try clear q42
            try clear hx42
            try clear hcz12_0
            try clear hcz12_1
            try clear hcz25_0
            try clear hcz25_1
            try clear hcz26_0
            try clear hcz26_1
            try clear hcz31_0
            try clear hcz31_1
            try clear hcz35_0
            try clear hcz35_1
            try clear hcz39_0
            try clear hcz39_1
            try clear hcz42_0
            try clear hcz42_1
            try clear hcz7_0
            try clear hcz7_1
            try clear hfz12_0
            try clear hfz12_1
            try clear hfz25_0
            try clear hfz25_1
            try clear hfz26_0
            try clear hfz26_1
            try clear hfz31_0
            try clear hfz31_1
            try clear hfz35_0
            try clear hfz35_1
            try clear hfz39_0
            try clear hfz39_1
            try clear hfz42_0
            try clear hfz42_1
            try clear hfz7_0
            try clear hfz7_1
            try clear hx425_0
            try clear p2
            try clear p4
            try clear p425
            try clear p6
            try clear q4
            try clear q425
            obtain ⟨x11_3, x13_3, rfl, rfl, HA, HK3, HO_10, HO_422000, HO_422001, BK413, BK421, HB⟩ := hrel
            cases gk with
            | zero => exact absurd HA.out (by simp [trefoilref11_Run.l2])
            | succ k3 =>
             have H := HA.out
             clear HA
             simp only [trefoilref11_Run.l2] at H
             by_cases c44 : x13_3 < (t444.length : Int)
             ·rw [if_pos c44] at H
              have c44b0 : decide (x13_3 < (t444.length : Int)) = true := decide_eq_true c44
              clear c44
              by_cases c45 : 0 ≤ x13_3
              ·rw [if_pos c45] at H
               have c45b0 : decide (0 ≤ x13_3) = true := decide_eq_true c45
               clear c45
               have H' := Z0 H
               clear H
               have hnb46 := NB421_413.out
               have hnc46 := NB413_421.out
               have hcz47_0 := kz0 BK421
               have hcz47_1 := kz1 BK421
               have hfz47_0 := blk_frozen BK421.out 0
               have hfz47_1 := blk_frozen BK421.out 1
               have p450 : 0 ≤ (x13_3 : Int) := od
               have q450 : x13_3 < (t444.length : Int) := od
               obtain ⟨ad450, e450, hx450_0⟩ := Kd.at_int (rr HO_422001.out).2.2 x13_3 p450 q450
               cases e450
               replace p450 := eq_true p450
               replace q450 := eq_true q450
               go_wp2
               go_roundg k3
               case measure => have := HK1.out; have := HK2.out; have := HK3.out; omega
               case rel => exact ⟨(wrap64 (x11_3 + (rd t444 x13_3))), (wrap64 (x13_3 + 1)), zs, zs, H', ⟨by have := HK1.out; have := HK2.out; have := HK3.out; omega⟩, ⟨by (with_reducible repeat (first | apply Kd.S_alloc | apply Kd.S_drewN | apply Kd.S_drew)); exact HO_10.out⟩, ⟨by (with_reducible repeat (first | apply ra | apply rn | apply rd_)); first | exact HO_422000.out | exact rm HO_422000.out (fun _ h_ => ⟨h_.2, h_.1⟩)⟩, ⟨by (with_reducible repeat (first | apply ra | apply rn | apply rd_)); first | exact HO_422001.out | exact rm HO_422001.out (fun _ h_ => ⟨h_.2, h_.1⟩)⟩, ⟨zk BK413⟩, ⟨zk BK421⟩, ⟨zb HB⟩⟩
              ·rw [if_neg c45] at H
               exact absurd H (by simp)
             ·rw [if_neg c44] at H
              have c44b0 : decide (x13_3 < (t444.length : Int)) = false := decide_eq_false c44
              clear c44
              have H' := Z0 H
              clear H
              have hnb48 := NB421_413.out
              have hnc48 := NB413_421.out
              have hcz49_0 := kz0 BK421
              have hcz49_1 := kz1 BK421
              have hfz49_0 := blk_frozen BK421.out 0
              have hfz49_1 := blk_frozen BK421.out 1
              go_wp2
              go_roundg k3
              case measure => have := HK1.out; have := HK2.out; have := HK3.out; omega
              case rel => exact ⟨(y438), (x11_3), (t441), (t444), (.slice Ao41 t441.length co41), (.slice Ao43 t444.length co43), zs, H', ⟨by have := HK1.out; have := HK2.out; have := HK3.out; omega⟩, ⟨by (with_reducible repeat (first | apply Kd.S_alloc | apply Kd.S_drewN | apply Kd.S_drew)); exact HO_10.out⟩, ⟨by (with_reducible repeat (first | apply ra | apply rn | apply rd_)); first | exact HO_422000.out | exact rm HO_422000.out (fun _ h_ => ⟨h_.2, h_.1⟩)⟩, ⟨by (with_reducible repeat (first | apply ra | apply rn | apply rd_)); first | exact HO_422001.out | exact rm HO_422001.out (fun _ h_ => ⟨h_.2, h_.1⟩)⟩, ⟨zk BK413⟩, ⟨zk BK421⟩, ⟨zb HB⟩⟩
          ·rw [if_neg c22] at H
           exact absurd H (by simp)
         ·rw [if_neg c21] at H
          exact absurd H (by simp)
        ·rw [if_neg c19] at H
         have c19b0 : decide (0 < x11_2) = false := decide_eq_false c19
         clear c19
         simp only [Option.some.injEq, Prod.mk.injEq] at H
         obtain ⟨rfl, rfl⟩ := H
         go_wp2
         go_ret2
         exact ⟨_, ze, by (with_reducible repeat (first | apply Kd.S_alloc | apply Kd.S_drewN | apply Kd.S_drew)); exact Kd.S_mono HO_10.out (fun _ hk => trivial), zb HB⟩
 ·rw [if_neg c5] at H
  have c5b0 : (t420 == 0) = false := beq_eq_false_iff_ne.mpr c5
  have c5b1 : (t420 != 0) = true := bne_iff_ne.mpr c5
  simp only [Option.some.injEq, Prod.mk.injEq] at H
  obtain ⟨rfl, rfl⟩ := H
  go_enter Try.func27, Try.ntmps27
  go_wp2_with (first | ((with_reducible refine gate_dst (N := 3) rfl ?_); refine zx (N := 3) #[.slice A0_0 l0_0.length c0_0, .slice A0_1 l0_1.length c0_1] 25 ?_; intro gb413 hg w50 hbox hb; have BK413 := Z0 (hbox); have GW413 := Z0 (zh w hg HB); have GE413 := Z0 (zh w hg HB); replace HB := Z0 (below_step (zb HB) hb); clear hb hbox hg; have hcz51_0 := kz0 BK413; have hcz51_1 := kz1 BK413; have hfz51_0 := blk_frozen BK413.out 0; have hfz51_1 := blk_frozen BK413.out 1) | ((with_reducible refine gate_callee (f := 29) rfl ?_); refine goesL_ (some 18) rfl rfl Try.func29 (by kernel_rfl) rfl #[.agg #[.slice A0_0 l0_0.length c0_0, .slice A0_1 l0_1.length c0_1], .slice A1 l1.length c1, .int .i64 a2] rfl (by (try simp only [List.map_toArray, List.map_cons, List.map_nil]); first | done | rfl | (simp only [List.length_drop, List.length_take]; rfl)) ?_; (with_reducible refine (trefoilref11_New.calls k _ _ l0_0 _ _ l0_1 _ _ l1 a2 t414 t417 t420 _ ?side1 ?side2 ?side3 ?side4 ?side5 ?side6 A4.out).mono ?_); (case side1 => exact zc (Kd.C_below HR0_0.out HB.out)); (case side2 => exact HC0_0.out); (case side3 => exact zc (Kd.C_below HR0_1.out HB.out)); (case side4 => exact HC0_1.out); (case side5 => exact zc (Kd.C_below HR1.out HB.out)); (case side6 => exact HC1.out); rintro e w52 ⟨v415, v418, rfl, ho0, ho1, hb⟩; refine ⟨_, rfl, ?_⟩; have HO416 := Z0 (rl ho0 (below_size (zb HB))); have HO419 := Z0 (rl ho1 (below_size (zb HB))); replace BK413 := Z0 (zkb BK413 hb); replace HB := Z0 (below_step (zb HB) hb); (try clear hb); (try clear hb2); (try clear hk); (try clear hi); (try clear ho0); (try clear ho1)) | ((with_reducible refine gate_dst (N := 8) rfl ?_); refine zx (N := 8) #[.slice none 0 0, .slice none 0 0] 27 ?_; intro gb421 hg w53 hbox hb; replace HO416 := Z0 (rbe (zr HO416) hb); replace HO419 := Z0 (rbe (zr HO419) hb); have BK421 := Z0 (hbox); have GW421 := Z0 (zh w hg HB); have GE421 := Z0 (zh w hg HB); replace HB := Z0 (below_step (zb HB) hb); have NB413_421 := Z0 (zl hg BK413); have NB421_413 := Z0 (zu hg BK413); replace BK413 := Z0 (zkb BK413 hb); clear hb hbox hg; obtain ⟨Ao54, co54, eo54⟩ := Kd.R_slice HO416.out; subst eo54; have hnb55 := NB421_413.out; have hnc55 := NB413_421.out; have hcz56_0 := kz0 BK421; have hcz56_1 := kz1 BK421; have hfz56_0 := blk_frozen BK421.out 0; have hfz56_1 := blk_frozen BK421.out 1; obtain ⟨Ao57, co57, eo57⟩ := Kd.R_slice HO419.out; subst eo57))
  go_ret2
  exact ⟨_, ze, by first | exact Kd.S_nil _ _ _ _ _ | exact Kd.N_nil _ _ _ _ _ | exact Kd.V_nil _ _ _ _ _ | exact Kd.Q_nil _ _ _ _ _ | exact Kd.R_nil _ _ _ _ _, zb HB⟩
def trefoillaw11_ListRuns.j0 : Nat → List Int → Int → Bool → List Int → List (S85) → Option (Bool)
 | 0, _, _, _, _, _ => none
 | k + 1, x1, x2, x31, x452000, x452001 => if x31 = true then ((trefoillaw11_awake.f).bind fun t455 => (some t455)) else ((trefoillaw04_Own.f x452000 x452001).bind fun bt456 => ((some (([] : List Int) : List Int)).bind fun y462 => (if y462.length + x1.length < 17592186044416 then ((list_Run.f bt456.1 bt456.2 (y462 ++ x1) x2).bind fun bt468 => ((trefoilref11_Run.f k x452000 x452001 x1 x2).bind fun bt472 => ((trefoillaw04_Own.f x452000 x452001).bind fun bt476 => ((some (([] : List Int) : List Int)).bind fun y482 => (if y482.length + x1.length < 17592186044416 then ((list_New.f bt476.1 bt476.2 (y482 ++ x1) x2).bind fun bt488 => ((trefoilref11_New.f k x452000 x452001 x1 x2).bind fun bt496 => ((trefoilref11_SameTrace.f k bt468.1 bt472.1).bind fun t504 => (if t504 = true then (if bt468.2 = bt472.2 then ((trefoilref11_Same.f k bt488.1 bt488.2.1 bt496.1 bt496.2.1).bind fun t505 => (if t505 = true then (some (bt488.2.2 == bt496.2.2)) else (some false))) else (some false)) else (some false))))) else (none)))))) else (none))))
def trefoillaw11_ListRuns.f (k : Nat) (l0_0 : List Int) (l0_1 : List (S85)) (l1 : List Int) (a2 : Int) : Option (Bool) := (trefoillaw11_awake.f).bind fun t452 => (if t452 = true then ((trefoillaw04_Few.f l0_0 l0_1).bind fun t453 => (if t453 = true then (if (l1.length : Int) > 70 then (trefoillaw11_ListRuns.j0 k l1 a2 true l0_0 l0_1) else ((trefoillaw11_little.f k l1).bind fun t454 => (trefoillaw11_ListRuns.j0 k l1 a2 (!t454) l0_0 l0_1))) else (trefoillaw11_ListRuns.j0 k l1 a2 true l0_0 l0_1))) else (trefoillaw11_ListRuns.j0 k l1 a2 true l0_0 l0_1))
set_option maxHeartbeats 8000000 in
set_option maxRecDepth 100000 in
theorem trefoillaw11_ListRuns.calls (k : Nat) (A0_0 : Option Addr) (c0_0 : Nat) (l0_0 : List Int) (A0_1 : Option Addr) (c0_1 : Nat) (l0_1 : List (S85)) (A1 : Option Addr) (c1 : Nat) (l1 : List Int) (a2 : Int) (r : Bool) (w : World) (hr0_0 : Kd.C (Kd.int .i64) w A0_0 l0_0.length l0_0) (hc0_0 : l0_0.length ≤ c0_0) (hr0_1 : Kd.C k85 w A0_1 l0_1.length l0_1) (hc0_1 : l0_1.length ≤ c0_1) (hr1 : Kd.C (Kd.int .i64) w A1 l1.length l1) (hc1 : l1.length ≤ c1) (h : trefoillaw11_ListRuns.f k l0_0 l0_1 l1 a2 = some r) (hrt0 : r = true) :
  Calls Try.prog 4 #[.agg #[.slice A0_0 l0_0.length c0_0, .slice A0_1 l0_1.length c0_1], .slice A1 l1.length c1, .int .i64 a2] w fun e w' => e = .returned (.bool r) ∧ Below w.heap.size w w' := by
 have hrt := Z0 hrt0
 clear hrt0
 have hu25 := Try.underlying25
 have hu27 := Try.underlying27
 have HR0_0 := Z0 hr0_0
 have HC0_0 := Z0 hc0_0
 clear hr0_0 hc0_0
 have HR0_1 := Z0 hr0_1
 have HC0_1 := Z0 hc0_1
 clear hr0_1 hc0_1
 have HR1 := Z0 hr1
 have HC1 := Z0 hc1
 clear hr1 hc1
 have HB := Z0 (Below.refl w.heap.size w)
 have H : ((trefoillaw11_awake.f).bind fun t452 => (if t452 = true then ((trefoillaw04_Few.f l0_0 l0_1).bind fun t453 => (if t453 = true then (if (l1.length : Int) > 70 then (trefoillaw11_ListRuns.j0 k l1 a2 true l0_0 l0_1) else ((trefoillaw11_little.f k l1).bind fun t454 => (trefoillaw11_ListRuns.j0 k l1 a2 (!t454) l0_0 l0_1))) else (trefoillaw11_ListRuns.j0 k l1 a2 true l0_0 l0_1))) else (trefoillaw11_ListRuns.j0 k l1 a2 true l0_0 l0_1))) = some r := h
 clear h
 have HC4 := Z0 H
 clear H
 go_enter Try.func4, Try.ntmps4
 go_upto_region 1 with (first | ((with_reducible refine gate_dst (N := 3) rfl ?_); (try (refine gate_guard (by rfl) ?_; dsimp only)); refine zx (N := 3) #[.slice A0_0 l0_0.length c0_0, .slice A0_1 l0_1.length c0_1] 25 ?_; intro gb451 hg w5 hbox hb; have BK451 := Z0 (hbox); have GW451 := Z0 (zh w hg HB); have GE451 := Z0 (zh w hg HB); replace HB := Z0 (below_step (zb HB) hb); clear hb hbox hg))
 (try simp only [Act.put, y0, y1, y2])
 go_cut [31] (fun v31 wc => ∃ (kq : Nat) (x31_3 : Bool), v31 = .bool x31_3 ∧ Aside0 (trefoillaw11_ListRuns.j0 kq l1 a2 x31_3 l0_0 l0_1 = some r) ∧ Aside0 (kq ≤ k) ∧ Aside0 (wc.heap[gb451]? = some (.cells #[(.slice A0_0 l0_0.length c0_0), (.slice A0_1 l0_1.length c0_1)] 25 (0, 0))) ∧ Aside0 (Below w.heap.size w wc))
 case first =>
  have H := HC4.out
  clear HC4
  replace H := Option.bind_eq_some_iff.mp H
  obtain ⟨t452, A60, H⟩ := H
  have A6 := Z0 A60
  clear A60
  by_cases c7 : t452 = true
  ·subst c7
   rw [if_pos rfl] at H
   replace H := Option.bind_eq_some_iff.mp H
   obtain ⟨t453, A80, H⟩ := H
   have A8 := Z0 A80
   clear A80
   by_cases c9 : t453 = true
   ·subst c9
    rw [if_pos rfl] at H
    by_cases c10 : (l1.length : Int) > 70
    ·rw [if_pos c10] at H
     have c10b0 : decide (70 < (l1.length : Int)) = true := decide_eq_true c10
     have c10b1 : decide (70 < l1.length) = true := decide_eq_true (by omega)
     clear c10
     (first | rw [c10b0] | (simp only [i64_w, i32_w]; rw [c10b0]) | skip)
     have H' := Z0 H
     clear H
     go_wp2_with (first | ((with_reducible refine gate_callee (f := 9) rfl ?_); refine goesL_ (some 15) rfl rfl Try.func9 (by kernel_rfl) rfl #[] rfl (by (try simp only [List.map_toArray, List.map_cons, List.map_nil]); first | done | rfl | (simp only [List.length_drop, List.length_take]; rfl)) ?_; (with_reducible refine (trefoillaw11_awake.calls  true _ A6.out).mono ?_); rintro e w11 ⟨rfl, hb⟩; refine ⟨_, rfl, ?_⟩; replace BK451 := Z0 (zkb BK451 hb); replace HB := Z0 (below_step (zb HB) hb); (try clear hb); (try clear hb2); (try clear hk); (try clear hi); have hcz12_0 := kz0 BK451; have hcz12_1 := kz1 BK451; have hfz12_0 := blk_frozen BK451.out 0; have hfz12_1 := blk_frozen BK451.out 1) | (go_at_call 24; (with_reducible refine (trefoillaw04_Few.calls _ _ l0_0 _ _ l0_1 true _ ?side1 ?side2 ?side3 ?side4 A8.out).mono ?_); (case side1 => exact zc (Kd.C_below HR0_0.out HB.out)); (case side2 => exact HC0_0.out); (case side3 => exact zc (Kd.C_below HR0_1.out HB.out)); (case side4 => exact HC0_1.out); rintro e w13 ⟨rfl, hb⟩; replace BK451 := Z0 (zkb BK451 hb); replace HB := Z0 (below_step (zb HB) hb); (try clear hb); (try clear hb2); (try clear hk); (try clear hi)))
     go_meet
     case rel => exact ⟨_, (true), zs, H', ⟨by first | omega | exact Nat.le_refl _⟩, ⟨zk BK451⟩, ⟨zb HB⟩⟩
    ·rw [if_neg c10] at H
     have c10b0 : decide (70 < (l1.length : Int)) = false := decide_eq_false c10
     have c10b1 : decide (70 < l1.length) = false := decide_eq_false (by omega)
     clear c10
     (first | rw [c10b0] | (simp only [i64_w, i32_w]; rw [c10b0]) | skip)
     replace H := Option.bind_eq_some_iff.mp H
     obtain ⟨t454, A140, H⟩ := H
     have A14 := Z0 A140
     clear A140
     have H' := Z0 H
     clear H
     go_wp2_with (first | ((with_reducible refine gate_callee (f := 9) rfl ?_); refine goesL_ (some 15) rfl rfl Try.func9 (by kernel_rfl) rfl #[] rfl (by (try simp only [List.map_toArray, List.map_cons, List.map_nil]); first | done | rfl | (simp only [List.length_drop, List.length_take]; rfl)) ?_; (with_reducible refine (trefoillaw11_awake.calls  true _ A6.out).mono ?_); rintro e w15 ⟨rfl, hb⟩; refine ⟨_, rfl, ?_⟩; replace BK451 := Z0 (zkb BK451 hb); replace HB := Z0 (below_step (zb HB) hb); (try clear hb); (try clear hb2); (try clear hk); (try clear hi); have hcz16_0 := kz0 BK451; have hcz16_1 := kz1 BK451; have hfz16_0 := blk_frozen BK451.out 0; have hfz16_1 := blk_frozen BK451.out 1) | (go_at_call 24; (with_reducible refine (trefoillaw04_Few.calls _ _ l0_0 _ _ l0_1 true _ ?side1 ?side2 ?side3 ?side4 A8.out).mono ?_); (case side1 => exact zc (Kd.C_below HR0_0.out HB.out)); (case side2 => exact HC0_0.out); (case side3 => exact zc (Kd.C_below HR0_1.out HB.out)); (case side4 => exact HC0_1.out); rintro e w17 ⟨rfl, hb⟩; replace BK451 := Z0 (zkb BK451 hb); replace HB := Z0 (below_step (zb HB) hb); (try clear hb); (try clear hb2); (try clear hk); (try clear hi)) | (go_at_call 25; (with_reducible refine (trefoillaw11_little.calls k _ _ l1 t454 _ ?side1 ?side2 A14.out).mono ?_); (case side1 => exact zc (Kd.C_below HR1.out HB.out)); (case side2 => exact HC1.out); rintro e w' ⟨rfl, ⟨nd, rfl⟩⟩))
     go_meet
     case rel => exact ⟨_, (!t454), zs, H', ⟨by first | omega | exact Nat.le_refl _⟩, ⟨zk BK451⟩, ⟨zb HB⟩⟩
   ·replace c9 := Bool.eq_false_iff.mpr c9
    subst c9
    rw [if_neg nft] at H
    have H' := Z0 H
    clear H
    go_wp2_with (first | ((with_reducible refine gate_callee (f := 9) rfl ?_); refine goesL_ (some 15) rfl rfl Try.func9 (by kernel_rfl) rfl #[] rfl (by (try simp only [List.map_toArray, List.map_cons, List.map_nil]); first | done | rfl | (simp only [List.length_drop, List.length_take]; rfl)) ?_; (with_reducible refine (trefoillaw11_awake.calls  true _ A6.out).mono ?_); rintro e w18 ⟨rfl, hb⟩; refine ⟨_, rfl, ?_⟩; replace BK451 := Z0 (zkb BK451 hb); replace HB := Z0 (below_step (zb HB) hb); (try clear hb); (try clear hb2); (try clear hk); (try clear hi); have hcz19_0 := kz0 BK451; have hcz19_1 := kz1 BK451; have hfz19_0 := blk_frozen BK451.out 0; have hfz19_1 := blk_frozen BK451.out 1) | (go_at_call 24; (with_reducible refine (trefoillaw04_Few.calls _ _ l0_0 _ _ l0_1 false _ ?side1 ?side2 ?side3 ?side4 A8.out).mono ?_); (case side1 => exact zc (Kd.C_below HR0_0.out HB.out)); (case side2 => exact HC0_0.out); (case side3 => exact zc (Kd.C_below HR0_1.out HB.out)); (case side4 => exact HC0_1.out); rintro e w20 ⟨rfl, hb⟩; replace BK451 := Z0 (zkb BK451 hb); replace HB := Z0 (below_step (zb HB) hb); (try clear hb); (try clear hb2); (try clear hk); (try clear hi)))
    go_meet
    case rel => exact ⟨_, (true), zs, H', ⟨by first | omega | exact Nat.le_refl _⟩, ⟨zk BK451⟩, ⟨zb HB⟩⟩
  ·replace c7 := Bool.eq_false_iff.mpr c7
   subst c7
   rw [if_neg nft] at H
   have H' := Z0 H
   clear H
   go_wp2_with (first | ((with_reducible refine gate_callee (f := 9) rfl ?_); refine goesL_ (some 15) rfl rfl Try.func9 (by kernel_rfl) rfl #[] rfl (by (try simp only [List.map_toArray, List.map_cons, List.map_nil]); first | done | rfl | (simp only [List.length_drop, List.length_take]; rfl)) ?_; (with_reducible refine (trefoillaw11_awake.calls  false _ A6.out).mono ?_); rintro e w21 ⟨rfl, hb⟩; refine ⟨_, rfl, ?_⟩; replace BK451 := Z0 (zkb BK451 hb); replace HB := Z0 (below_step (zb HB) hb); (try clear hb); (try clear hb2); (try clear hk); (try clear hi)))
   go_meet
   case rel => exact ⟨_, (true), zs, H', ⟨by first | omega | exact Nat.le_refl _⟩, ⟨zk BK451⟩, ⟨zb HB⟩⟩
 case rest =>
  clear HC4
  try clear c1
  try clear p2
  try clear c4
  try clear c7
  try clear c9
  try clear c10
  try clear c10b0
  try clear c10b1
  try clear hcz12_0
  try clear hcz12_1
  try clear hcz16_0
  try clear hcz16_1
  try clear hcz19_0
  try clear hcz19_1
  try clear hfz12_0
  try clear hfz12_1
  try clear hfz16_0
  try clear hfz16_1
  try clear hfz19_0
  try clear hfz19_1
  obtain ⟨kq, x31_3, rfl, HA, HJ3, BK451, HB⟩ := hcut
  cases kq with
  | zero => exact absurd HA.out (by simp [trefoillaw11_ListRuns.j0])
  | succ kj3 =>
   have H := HA.out
   clear HA
   simp only [trefoillaw11_ListRuns.j0] at H
   by_cases c22 : x31_3 = true
   ·subst c22
    rw [if_pos rfl] at H
    replace H := Option.bind_eq_some_iff.mp H
    obtain ⟨t455, A230, H⟩ := H
    have A23 := Z0 A230
    clear A230
    obtain rfl := Option.some.inj H
    go_wp2_with (first | ((with_reducible refine gate_callee (f := 9) rfl ?_); refine goesL_ (some 32) rfl rfl Try.func9 (by kernel_rfl) rfl #[] rfl (by (try simp only [List.map_toArray, List.map_cons, List.map_nil]); first | done | rfl | (simp only [List.length_drop, List.length_take]; rfl)) ?_; (with_reducible refine (trefoillaw11_awake.calls  t455 _ A23.out).mono ?_); rintro e w24 ⟨rfl, hb⟩; refine ⟨_, rfl, ?_⟩; replace BK451 := Z0 (zkb BK451 hb); replace HB := Z0 (below_step (zb HB) hb); (try clear hb); (try clear hb2); (try clear hk); (try clear hi)))
    go_ret
    exact ⟨ze, zb HB⟩
   ·replace c22 := Bool.eq_false_iff.mpr c22
    subst c22
    rw [if_neg nft] at H
    replace H := Option.bind_eq_some_iff.mp H
    obtain ⟨⟨t456, t459⟩, A250, H⟩ := H
    dsimp only at H
    have A25 := Z0 A250
    clear A250
    obtain ⟨y462, hy462⟩ : ∃ y_ : List Int, y_ = (([] : List Int)) := ⟨_, rfl⟩
    replace H : (if y462.length + l1.length < 17592186044416 then ((list_Run.f t456 t459 (y462 ++ l1) a2).bind fun bt468 => ((trefoilref11_Run.f kj3 l0_0 l0_1 l1 a2).bind fun bt472 => ((trefoillaw04_Own.f l0_0 l0_1).bind fun bt476 => ((some (([] : List Int) : List Int)).bind fun y482 => (if y482.length + l1.length < 17592186044416 then ((list_New.f bt476.1 bt476.2 (y482 ++ l1) a2).bind fun bt488 => ((trefoilref11_New.f kj3 l0_0 l0_1 l1 a2).bind fun bt496 => ((trefoilref11_SameTrace.f kj3 bt468.1 bt472.1).bind fun t504 => (if t504 = true then (if bt468.2 = bt472.2 then ((trefoilref11_Same.f kj3 bt488.1 bt488.2.1 bt496.1 bt496.2.1).bind fun t505 => (if t505 = true then (some (bt488.2.2 == bt496.2.2)) else (some false))) else (some false)) else (some false))))) else (none)))))) else (none)) = some r := by first | (rw [hy462]; with_reducible exact H) | (have H2_ := (Option.bind_some _ _).symm.trans H; rw [hy462]; with_reducible exact H2_) | (have H2_ := (Option.bind_some _ _).symm.trans H; with_reducible exact H2_) | with_reducible exact H | (rw [hy462]; exact H) | exact H
    have Ny462 := Z0 hy462
    clear hy462
    by_cases c26 : y462.length + l1.length < 17592186044416
    ·rw [if_pos c26] at H
     have LMc26 := Z0 c26
     clear c26
     obtain ⟨y465, hy465⟩ : ∃ y_ : List Int, y_ = (y462 ++ l1) := ⟨_, rfl⟩
     replace H : ((list_Run.f t456 t459 y465 a2).bind fun bt468 => ((trefoilref11_Run.f kj3 l0_0 l0_1 l1 a2).bind fun bt472 => ((trefoillaw04_Own.f l0_0 l0_1).bind fun bt476 => ((some (([] : List Int) : List Int)).bind fun y482 => (if y482.length + l1.length < 17592186044416 then ((list_New.f bt476.1 bt476.2 (y482 ++ l1) a2).bind fun bt488 => ((trefoilref11_New.f kj3 l0_0 l0_1 l1 a2).bind fun bt496 => ((trefoilref11_SameTrace.f kj3 bt468.1 bt472.1).bind fun t504 => (if t504 = true then (if bt468.2 = bt472.2 then ((trefoilref11_Same.f kj3 bt488.1 bt488.2.1 bt496.1 bt496.2.1).bind fun t505 => (if t505 = true then (some (bt488.2.2 == bt496.2.2)) else (some false))) else (some false)) else (some false))))) else (none)))))) = some r := by first | (rw [hy465]; with_reducible exact H) | (have H2_ := (Option.bind_some _ _).symm.trans H; rw [hy465]; with_reducible exact H2_) | (have H2_ := (Option.bind_some _ _).symm.trans H; with_reducible exact H2_) | with_reducible exact H | (rw [hy465]; exact H) | exact H
     have Ny465 := Z0 hy465
     clear hy465
     replace H := Option.bind_eq_some_iff.mp H
     obtain ⟨⟨t468, t471⟩, A270, H⟩ := H
     dsimp only at H
     have A27 := Z0 A270
     clear A270
     replace H := Option.bind_eq_some_iff.mp H
     obtain ⟨⟨t472, t475⟩, A280, H⟩ := H
     dsimp only at H
     have A28 := Z0 A280
     clear A280
     replace H := Option.bind_eq_some_iff.mp H
     obtain ⟨⟨t476, t479⟩, A290, H⟩ := H
     dsimp only at H
     have A29 := Z0 A290
     clear A290
     obtain ⟨y482, hy482⟩ : ∃ y_ : List Int, y_ = (([] : List Int)) := ⟨_, rfl⟩
     replace H : (if y482.length + l1.length < 17592186044416 then ((list_New.f t476 t479 (y482 ++ l1) a2).bind fun bt488 => ((trefoilref11_New.f kj3 l0_0 l0_1 l1 a2).bind fun bt496 => ((trefoilref11_SameTrace.f kj3 t468 t472).bind fun t504 => (if t504 = true then (if t471 = t475 then ((trefoilref11_Same.f kj3 bt488.1 bt488.2.1 bt496.1 bt496.2.1).bind fun t505 => (if t505 = true then (some (bt488.2.2 == bt496.2.2)) else (some false))) else (some false)) else (some false))))) else (none)) = some r := by first | (rw [hy482]; with_reducible exact H) | (have H2_ := (Option.bind_some _ _).symm.trans H; rw [hy482]; with_reducible exact H2_) | (have H2_ := (Option.bind_some _ _).symm.trans H; with_reducible exact H2_) | with_reducible exact H | (rw [hy482]; exact H) | exact H
     have Ny482 := Z0 hy482
     clear hy482
     by_cases c30 : y482.length + l1.length < 17592186044416
     ·rw [if_pos c30] at H
      have LMc30 := Z0 c30
      clear c30
      obtain ⟨y485, hy485⟩ : ∃ y_ : List Int, y_ = (y482 ++ l1) := ⟨_, rfl⟩
      replace H : ((list_New.f t476 t479 y485 a2).bind fun bt488 => ((trefoilref11_New.f kj3 l0_0 l0_1 l1 a2).bind fun bt496 => ((trefoilref11_SameTrace.f kj3 t468 t472).bind fun t504 => (if t504 = true then (if t471 = t475 then ((trefoilref11_Same.f kj3 bt488.1 bt488.2.1 bt496.1 bt496.2.1).bind fun t505 => (if t505 = true then (some (bt488.2.2 == bt496.2.2)) else (some false))) else (some false)) else (some false))))) = some r := by first | (rw [hy485]; with_reducible exact H) | (have H2_ := (Option.bind_some _ _).symm.trans H; rw [hy485]; with_reducible exact H2_) | (have H2_ := (Option.bind_some _ _).symm.trans H; with_reducible exact H2_) | with_reducible exact H | (rw [hy485]; exact H) | exact H
      have Ny485 := Z0 hy485
      clear hy485
      replace H := Option.bind_eq_some_iff.mp H
      obtain ⟨⟨t488, t491, t494⟩, A310, H⟩ := H
      dsimp only at H
      have A31 := Z0 A310
      clear A310
      replace H := Option.bind_eq_some_iff.mp H
      obtain ⟨⟨t496, t499, t502⟩, A320, H⟩ := H
      dsimp only at H
      have A32 := Z0 A320
      clear A320
      replace H := Option.bind_eq_some_iff.mp H
      obtain ⟨t504, A330, H⟩ := H
      have A33 := Z0 A330
      clear A330
      by_cases c34 : t504 = true
      ·subst c34
       rw [if_pos rfl] at H
       by_cases c35 : t471 = t475
       ·rw [if_pos c35] at H
        have c35b0 : (t471 == t475) = true := beq_iff_eq.mpr c35
        have c35b1 : (t471 != t475) = false := bne_eq_false_iff_eq.mpr c35
        clear c35
        replace H := Option.bind_eq_some_iff.mp H
        obtain ⟨t505, A360, H⟩ := H
        have A36 := Z0 A360
        clear A360
        by_cases c37 : t505 = true
        ·subst c37
         rw [if_pos rfl] at H
         obtain rfl := Option.some.inj H
         have hcz38_0 := kz0 BK451
         have hcz38_1 := kz1 BK451
         have hfz38_0 := blk_frozen BK451.out 0
         have hfz38_1 := blk_frozen BK451.out 1
         go_wp2_with (first | ((with_reducible refine gate_callee (f := 12) rfl ?_); refine goesL_ (some 35) rfl rfl Try.func12 (by kernel_rfl) rfl #[.agg #[.slice A0_0 l0_0.length c0_0, .slice A0_1 l0_1.length c0_1]] rfl (by (try simp only [List.map_toArray, List.map_cons, List.map_nil]); first | done | rfl | (simp only [List.length_drop, List.length_take]; rfl)) ?_; (with_reducible refine (trefoillaw04_Own.calls _ _ l0_0 _ _ l0_1 t456 t459 _ ?side1 ?side2 ?side3 ?side4 A25.out).mono ?_); (case side1 => exact zc (Kd.C_below HR0_0.out HB.out)); (case side2 => exact HC0_0.out); (case side3 => exact zc (Kd.C_below HR0_1.out HB.out)); (case side4 => exact HC0_1.out); rintro e w39 ⟨v457, v460, rfl, ho0, ho1, hb⟩; refine ⟨_, rfl, ?_⟩; have HO458 := Z0 (rl ho0 (below_size (zb HB))); have HO461 := Z0 (rl ho1 (below_size (zb HB))); replace BK451 := Z0 (zkb BK451 hb); replace HB := Z0 (below_step (zb HB) hb); (try clear hb); (try clear hb2); (try clear hk); (try clear hi); (try clear ho0); (try clear ho1)) | ((with_reducible refine gate_dst (N := 36) rfl ?_); (try (refine gate_guard (by rfl) ?_; dsimp only)); refine zz (N := 36) 3 [] Ny462 (Reps.none _ _) ?_; intro v463 w40 ho41 hb; replace HO461 := Z0 (rbe (zr HO461) hb); have HO464 := Z0 (rl (rw_ ho41 (rlt (zr HO458))) (below_size (zb HB))); replace HO458 := Z0 (Kd.R_elder' (zr HO458) (rb ho41) hb); replace BK451 := Z0 (zkb BK451 hb); replace HB := Z0 (below_step (zb HB) hb); clear hb ho41) | ((with_reducible refine gate_builtin (b := .append) (xs := #[.tmp 36, .tmp 37]) rfl ?_); (try (refine gate_guard (by rfl) ?_; dsimp only)); at_builtin; refine Kd.R_append_rows (Kd.int .i64) (w0 := w) w.heap.size rfl (.tmp 36) (.tmp 37) 22 3 (.int .i64 0) 8 rfl Try.underlying22 info3 rfl (by decide) (by omega) v463 y462 l1 _ _ _ (fun k_ => some k_ ≠ (v457 : Value).ownBlock) (fun _ => False) rfl rfl ?aO ?aR (fun _ _ h => h) (fun _ h => h.elim) ?aF ?aB ?aS ?aL ?_; (case aR => repeat (first | exact (Kd.C_below HR1.out HB.out) | (with_reducible refine Kd.C_alloc ?_ _) | (with_reducible refine Kd.C_drewN ?_ _) | (with_reducible refine Kd.C_drew ?_))); (case aB => exact (zb HB)); (case aF => exact (fun k_ hk => Kd.fresh' (rlt (zr HO458)) k_ hk)); (case aO => exact (by (with_reducible repeat (first | apply ra | apply rn | apply rd_)); exact rm HO464.out (fun _ hk => hk.2))); (case aS => exact (below_size (zb HB))); (case aL => have := LMc26.out; omega); intro v466 w42 ho hb hg hat; rw [← Ny465.out] at ho; replace BK451 := Z0 (blk_grown (g := gb451) (o := .cells #[.slice A0_0 l0_0.length c0_0, .slice A0_1 l0_1.length c0_1] 25 (0, 0)) (zk BK451) hg (Kd.R_ne HO464.out BK451.out (by decide))); replace HO458 := Z0 (Kd.R_after (ok := (fun _ => True)) (zr HO458) hg hat); replace HO461 := Z0 (Kd.R_over' (zr HO461) (Kd.R_typed (zr HO464)) (by decide) hg); replace HB := Z0 (hb); have HO467 := Z0 (ho); clear HO464; clear ho hb hg hat; obtain ⟨Ao43, co43, eo43⟩ := Kd.R_slice HO458.out; subst eo43; obtain ⟨Ao44, co44, eo44⟩ := Kd.R_slice HO461.out; subst eo44; obtain ⟨Ao45, co45, eo45⟩ := Kd.R_slice HO467.out; subst eo45) | ((with_reducible refine gate_callee (f := 26) rfl ?_); refine goesL_ (some 40) rfl rfl Try.func26 (by kernel_rfl) rfl #[.agg #[.slice Ao43 t456.length co43, .slice Ao44 t459.length co44], .slice Ao45 y465.length co45, .int .i64 a2] rfl (by (try simp only [List.map_toArray, List.map_cons, List.map_nil]); first | done | rfl | (simp only [List.length_drop, List.length_take]; rfl)) ?_; (with_reducible refine (list_Run.calls _ _ t456 _ _ t459 _ _ y465 a2 t468 t471 _ ?side1 ?side2 ?side3 ?side4 ?side5 ?side6 A27.out).mono ?_); (case side1 => exact zc (rr HO458.out).2.2); (case side2 => exact (rr HO458.out).2.1); (case side3 => exact zc (rr HO461.out).2.2); (case side4 => exact (rr HO461.out).2.1); (case side5 => exact zc (rr HO467.out).2.2); (case side6 => exact (rr HO467.out).2.1); rintro e w46 ⟨v469, rfl, ho0, hb⟩; refine ⟨_, rfl, ?_⟩; replace HO461 := Z0 (rbe (zr HO461) hb); have HO470 := Z0 (Kd.S_lower (Kd.S_new' (Kd.S_new' ho0 (rlt (zr HO458))) (rlt (zr HO467))) (below_size (zb HB))); replace HO458 := Z0 (rbe (zr HO458) hb); replace HO467 := Z0 (rbe (zr HO467) hb); replace BK451 := Z0 (zkb BK451 hb); replace HB := Z0 (below_step (zb HB) hb); (try clear hb); (try clear hb2); (try clear hk); (try clear hi); (try clear ho0); have hcz47_0 := kz0 BK451; have hcz47_1 := kz1 BK451; have hfz47_0 := blk_frozen BK451.out 0; have hfz47_1 := blk_frozen BK451.out 1) | ((with_reducible refine gate_callee (f := 27) rfl ?_); refine goesL_ (some 47) rfl rfl Try.func27 (by kernel_rfl) rfl #[.agg #[.slice A0_0 l0_0.length c0_0, .slice A0_1 l0_1.length c0_1], .slice A1 l1.length c1, .int .i64 a2] rfl (by (try simp only [List.map_toArray, List.map_cons, List.map_nil]); first | done | rfl | (simp only [List.length_drop, List.length_take]; rfl)) ?_; (with_reducible refine (trefoilref11_Run.calls kj3 _ _ l0_0 _ _ l0_1 _ _ l1 a2 t472 t475 _ ?side1 ?side2 ?side3 ?side4 ?side5 ?side6 A28.out).mono ?_); (case side1 => exact zc (Kd.C_below HR0_0.out HB.out)); (case side2 => exact HC0_0.out); (case side3 => exact zc (Kd.C_below HR0_1.out HB.out)); (case side4 => exact HC0_1.out); (case side5 => exact zc (Kd.C_below HR1.out HB.out)); (case side6 => exact HC1.out); rintro e w48 ⟨v473, rfl, ho0, hb⟩; refine ⟨_, rfl, ?_⟩; replace HO461 := Z0 (rbe (zr HO461) hb); have HO474 := Z0 (Kd.S_lower (Kd.S_new' (Kd.S_new' (Kd.S_new' ho0 (rlt (zr HO458))) (rlt (zr HO467))) (Kd.S_lt (by (with_reducible repeat (first | apply Kd.S_alloc | apply Kd.S_drewN | apply Kd.S_drew)); exact HO470.out))) (below_size (zb HB))); replace HO458 := Z0 (rbe (zr HO458) hb); replace HO467 := Z0 (rbe (zr HO467) hb); replace HO470 := Z0 (Kd.S_elder' (by (with_reducible repeat (first | apply Kd.S_alloc | apply Kd.S_drewN | apply Kd.S_drew)); exact HO470.out) (Kd.S_base ho0) hb); replace BK451 := Z0 (zkb BK451 hb); replace HB := Z0 (below_step (zb HB) hb); (try clear hb); (try clear hb2); (try clear hk); (try clear hi); (try clear ho0); have hcz49_0 := kz0 BK451; have hcz49_1 := kz1 BK451; have hfz49_0 := blk_frozen BK451.out 0; have hfz49_1 := blk_frozen BK451.out 1) | ((with_reducible refine gate_callee (f := 12) rfl ?_); refine goesL_ (some 52) rfl rfl Try.func12 (by kernel_rfl) rfl #[.agg #[.slice A0_0 l0_0.length c0_0, .slice A0_1 l0_1.length c0_1]] rfl (by (try simp only [List.map_toArray, List.map_cons, List.map_nil]); first | done | rfl | (simp only [List.length_drop, List.length_take]; rfl)) ?_; (with_reducible refine (trefoillaw04_Own.calls _ _ l0_0 _ _ l0_1 t476 t479 _ ?side1 ?side2 ?side3 ?side4 A29.out).mono ?_); (case side1 => exact zc (Kd.C_below HR0_0.out HB.out)); (case side2 => exact HC0_0.out); (case side3 => exact zc (Kd.C_below HR0_1.out HB.out)); (case side4 => exact HC0_1.out); rintro e w50 ⟨v477, v480, rfl, ho0, ho1, hb⟩; refine ⟨_, rfl, ?_⟩; replace HO470 := Z0 (Kd.S_elder' (by (with_reducible repeat (first | apply Kd.S_alloc | apply Kd.S_drewN | apply Kd.S_drew)); exact HO470.out) (rb ho0) hb); replace HO474 := Z0 (Kd.S_elder' (by (with_reducible repeat (first | apply Kd.S_alloc | apply Kd.S_drewN | apply Kd.S_drew)); exact HO474.out) (rb ho0) hb); have HO478 := Z0 (rl (rw_ (rw_ ho0 (rlt (zr HO458))) (rlt (zr HO467))) (below_size (zb HB))); replace HO458 := Z0 (Kd.R_elder' (zr HO458) (rb ho0) hb); replace HO467 := Z0 (Kd.R_elder' (zr HO467) (rb ho0) hb); have HO481 := Z0 (rl (rw_ ho1 (rlt (zr HO461))) (below_size (zb HB))); replace HO461 := Z0 (Kd.R_elder' (zr HO461) (rb ho1) hb); replace BK451 := Z0 (zkb BK451 hb); replace HB := Z0 (below_step (zb HB) hb); (try clear hb); (try clear hb2); (try clear hk); (try clear hi); (try clear ho0); (try clear ho1)) | ((with_reducible refine gate_dst (N := 53) rfl ?_); (try (refine gate_guard (by rfl) ?_; dsimp only)); refine zz (N := 53) 3 [] Ny482 (Reps.none _ _) ?_; intro v483 w51 ho52 hb; replace HO461 := Z0 (rbe (zr HO461) hb); replace HO470 := Z0 (Kd.S_elder' (by (with_reducible repeat (first | apply Kd.S_alloc | apply Kd.S_drewN | apply Kd.S_drew)); exact HO470.out) (rb ho52) hb); replace HO474 := Z0 (Kd.S_elder' (by (with_reducible repeat (first | apply Kd.S_alloc | apply Kd.S_drewN | apply Kd.S_drew)); exact HO474.out) (rb ho52) hb); replace HO481 := Z0 (rbe (zr HO481) hb); have HO484 := Z0 (rl (rw_ (rw_ (rw_ ho52 (rlt (zr HO458))) (rlt (zr HO467))) (rlt (zr HO478))) (below_size (zb HB))); replace HO458 := Z0 (Kd.R_elder' (zr HO458) (rb ho52) hb); replace HO467 := Z0 (Kd.R_elder' (zr HO467) (rb ho52) hb); replace HO478 := Z0 (Kd.R_elder' (zr HO478) (rb ho52) hb); replace BK451 := Z0 (zkb BK451 hb); replace HB := Z0 (below_step (zb HB) hb); clear hb ho52) | ((with_reducible refine gate_builtin (b := .append) (xs := #[.tmp 53, .tmp 54]) rfl ?_); (try (refine gate_guard (by rfl) ?_; dsimp only)); at_builtin; refine Kd.R_append_rows (Kd.int .i64) (w0 := w) w.heap.size rfl (.tmp 53) (.tmp 54) 22 3 (.int .i64 0) 8 rfl Try.underlying22 info3 rfl (by decide) (by omega) v483 y482 l1 _ _ _ (fun k_ => some k_ ≠ (.slice Ao43 t456.length co43 : Value).ownBlock ∧ some k_ ≠ (.slice Ao45 y465.length co45 : Value).ownBlock ∧ some k_ ≠ (v477 : Value).ownBlock) (fun _ => False) rfl rfl ?aO ?aR (fun _ _ h => h) (fun _ h => h.elim) ?aF ?aB ?aS ?aL ?_; (case aR => repeat (first | exact (Kd.C_below HR1.out HB.out) | (with_reducible refine Kd.C_alloc ?_ _) | (with_reducible refine Kd.C_drewN ?_ _) | (with_reducible refine Kd.C_drew ?_))); (case aB => exact (zb HB)); (case aF => exact (fun k_ hk => ⟨Kd.fresh' (rlt (zr HO458)) k_ hk, Kd.fresh' (rlt (zr HO467)) k_ hk, Kd.fresh' (rlt (zr HO478)) k_ hk⟩)); (case aO => exact (by (with_reducible repeat (first | apply ra | apply rn | apply rd_)); exact rm HO484.out (fun _ hk => ⟨hk.1.1.2, ⟨hk.1.2, hk.2⟩⟩))); (case aS => exact (below_size (zb HB))); (case aL => have := LMc30.out; omega); intro v486 w53 ho hb hg hat; rw [← Ny485.out] at ho; replace BK451 := Z0 (blk_grown (g := gb451) (o := .cells #[.slice A0_0 l0_0.length c0_0, .slice A0_1 l0_1.length c0_1] 25 (0, 0)) (zk BK451) hg (Kd.R_ne HO484.out BK451.out (by decide))); replace HO458 := Z0 (Kd.R_after (ok := (fun k_ => some k_ ≠ (.slice Ao45 y465.length co45 : Value).ownBlock ∧ some k_ ≠ (v477 : Value).ownBlock)) (by (with_reducible repeat (first | apply ra | apply rn | apply rd_)); exact rm HO458.out (fun _ hk => ⟨⟨hk.1.1.2, hk.1.2⟩, hk.2⟩)) hg hat); replace HO461 := Z0 (Kd.R_over' (zr HO461) (Kd.R_typed (zr HO484)) (by decide) hg); replace HO467 := Z0 (Kd.R_after (ok := (fun k_ => some k_ ≠ (.slice Ao43 t456.length co43 : Value).ownBlock ∧ some k_ ≠ (v477 : Value).ownBlock)) (zr HO467) hg hat); replace HO470 := Z0 (Kd.S_after (ok := (fun k_ => some k_ ≠ (.slice Ao43 t456.length co43 : Value).ownBlock ∧ some k_ ≠ (.slice Ao45 y465.length co45 : Value).ownBlock ∧ some k_ ≠ (v473 : Value).ownBlock ∧ some k_ ≠ (v477 : Value).ownBlock)) (by (with_reducible repeat (first | apply Kd.S_alloc | apply Kd.S_drewN | apply Kd.S_drew)); exact Kd.S_mono HO470.out (fun _ hk => ⟨⟨hk.1.1.1.1.2, ⟨hk.1.1.1.2, ⟨hk.1.1.2, hk.1.2⟩⟩⟩, hk.2⟩)) hg hat); replace HO474 := Z0 (Kd.S_after (ok := (fun k_ => some k_ ≠ (.slice Ao43 t456.length co43 : Value).ownBlock ∧ some k_ ≠ (.slice Ao45 y465.length co45 : Value).ownBlock ∧ some k_ ≠ (v469 : Value).ownBlock ∧ some k_ ≠ (v477 : Value).ownBlock)) (by (with_reducible repeat (first | apply Kd.S_alloc | apply Kd.S_drewN | apply Kd.S_drew)); exact Kd.S_mono HO474.out (fun _ hk => ⟨⟨hk.1.1.1.1.2, ⟨hk.1.1.1.2, ⟨hk.1.1.2, hk.1.2⟩⟩⟩, hk.2⟩)) hg hat); replace HO478 := Z0 (Kd.R_after (ok := (fun k_ => some k_ ≠ (.slice Ao43 t456.length co43 : Value).ownBlock ∧ some k_ ≠ (.slice Ao45 y465.length co45 : Value).ownBlock)) (by (with_reducible repeat (first | apply ra | apply rn | apply rd_)); exact rm HO478.out (fun _ hk => ⟨⟨hk.1.1.2, hk.1.2⟩, hk.2⟩)) hg hat); replace HO481 := Z0 (Kd.R_over' (zr HO481) (Kd.R_typed (zr HO484)) (by decide) hg); replace HB := Z0 (hb); have HO487 := Z0 (ho); clear HO484; clear ho hb hg hat; obtain ⟨Ao54, co54, eo54⟩ := Kd.R_slice HO478.out; subst eo54; obtain ⟨Ao55, co55, eo55⟩ := Kd.R_slice HO481.out; subst eo55; obtain ⟨Ao56, co56, eo56⟩ := Kd.R_slice HO487.out; subst eo56) | ((with_reducible refine gate_callee (f := 28) rfl ?_); refine goesL_ (some 57) rfl rfl Try.func28 (by kernel_rfl) rfl #[.agg #[.slice Ao54 t476.length co54, .slice Ao55 t479.length co55], .slice Ao56 y485.length co56, .int .i64 a2] rfl (by (try simp only [List.map_toArray, List.map_cons, List.map_nil]); first | done | rfl | (simp only [List.length_drop, List.length_take]; rfl)) ?_; (with_reducible refine (list_New.calls _ _ t476 _ _ t479 _ _ y485 a2 t488 t491 t494 _ ?side1 ?side2 ?side3 ?side4 ?side5 ?side6 A31.out).mono ?_); (case side1 => exact zc (rr HO478.out).2.2); (case side2 => exact (rr HO478.out).2.1); (case side3 => exact zc (rr HO481.out).2.2); (case side4 => exact (rr HO481.out).2.1); (case side5 => exact zc (rr HO487.out).2.2); (case side6 => exact (rr HO487.out).2.1); rintro e w57 ⟨v489, v492, rfl, ho0, ho1, hb⟩; refine ⟨_, rfl, ?_⟩; replace HO461 := Z0 (rbe (zr HO461) hb); replace HO470 := Z0 (Kd.S_mono (Kd.S_told (Kd.S_told (Kd.S_old (by (with_reducible repeat (first | apply Kd.S_alloc | apply Kd.S_drewN | apply Kd.S_drew)); exact HO470.out) hb) (rb ho0)) (rb ho1)) (fun _ h_ => h_.1)); replace HO474 := Z0 (Kd.S_mono (Kd.S_told (Kd.S_told (Kd.S_old (by (with_reducible repeat (first | apply Kd.S_alloc | apply Kd.S_drewN | apply Kd.S_drew)); exact HO474.out) hb) (rb ho0)) (rb ho1)) (fun _ h_ => h_.1)); replace HO481 := Z0 (rbe (zr HO481) hb); have HO490 := Z0 (rl (rw_ (rw_ (rw_ (rw_ ho0 (rlt (zr HO458))) (rlt (zr HO467))) (rlt (zr HO478))) (rlt (zr HO487))) (below_size (zb HB))); have HO493 := Z0 (rl (rw_ (rw_ (rw_ (rw_ ho1 (rlt (zr HO458))) (rlt (zr HO467))) (rlt (zr HO478))) (rlt (zr HO487))) (below_size (zb HB))); replace HO458 := Z0 (rm (rt (rt (ro (zr HO458) hb) (rb ho0)) (rb ho1)) (fun _ h_ => h_.1)); replace HO467 := Z0 (rm (rt (rt (ro (zr HO467) hb) (rb ho0)) (rb ho1)) (fun _ h_ => h_.1)); replace HO478 := Z0 (rm (rt (rt (ro (zr HO478) hb) (rb ho0)) (rb ho1)) (fun _ h_ => h_.1)); replace HO487 := Z0 (rm (rt (rt (ro (zr HO487) hb) (rb ho0)) (rb ho1)) (fun _ h_ => h_.1)); replace BK451 := Z0 (zkb BK451 hb); replace HB := Z0 (below_step (zb HB) hb); (try clear hb); (try clear hb2); (try clear hk); (try clear hi); (try clear ho0); (try clear ho1)) | ((with_reducible refine gate_dst (N := 11) rfl ?_); (try (refine gate_guard (by rfl) ?_; dsimp only)); refine zx (N := 11) #[.slice none 0 0, .slice none 0 0] 27 ?_; intro gb495 hg w58 hbox hb; replace HO458 := Z0 (rbe (zr HO458) hb); replace HO461 := Z0 (rbe (zr HO461) hb); replace HO467 := Z0 (rbe (zr HO467) hb); replace HO470 := Z0 (Kd.S_below (by (with_reducible repeat (first | apply Kd.S_alloc | apply Kd.S_drewN | apply Kd.S_drew)); exact HO470.out) hb); replace HO474 := Z0 (Kd.S_below (by (with_reducible repeat (first | apply Kd.S_alloc | apply Kd.S_drewN | apply Kd.S_drew)); exact HO474.out) hb); replace HO478 := Z0 (rbe (zr HO478) hb); replace HO481 := Z0 (rbe (zr HO481) hb); replace HO487 := Z0 (rbe (zr HO487) hb); replace HO490 := Z0 (rbe (zr HO490) hb); replace HO493 := Z0 (rbe (zr HO493) hb); have BK495 := Z0 (hbox); have GW495 := Z0 (zh w hg HB); have GE495 := Z0 (zh w hg HB); replace HB := Z0 (below_step (zb HB) hb); have NB451_495 := Z0 (zl hg BK451); have NB495_451 := Z0 (zu hg BK451); replace BK451 := Z0 (zkb BK451 hb); clear hb hbox hg; obtain ⟨Ao59, co59, eo59⟩ := Kd.R_slice HO490.out; subst eo59; have hnb60 := NB495_451.out; have hnc60 := NB451_495.out; have hcz61_0 := kz0 BK495; have hcz61_1 := kz1 BK495; have hfz61_0 := blk_frozen BK495.out 0; have hfz61_1 := blk_frozen BK495.out 1; obtain ⟨Ao62, co62, eo62⟩ := Kd.R_slice HO493.out; subst eo62; have hcz63_0 := kz0 BK451; have hcz63_1 := kz1 BK451; have hfz63_0 := blk_frozen BK451.out 0; have hfz63_1 := blk_frozen BK451.out 1) | ((with_reducible refine gate_callee (f := 29) rfl ?_); refine goesL_ (some 64) rfl rfl Try.func29 (by kernel_rfl) rfl #[.agg #[.slice A0_0 l0_0.length c0_0, .slice A0_1 l0_1.length c0_1], .slice A1 l1.length c1, .int .i64 a2] rfl (by (try simp only [List.map_toArray, List.map_cons, List.map_nil]); first | done | rfl | (simp only [List.length_drop, List.length_take]; rfl)) ?_; (with_reducible refine (trefoilref11_New.calls kj3 _ _ l0_0 _ _ l0_1 _ _ l1 a2 t496 t499 t502 _ ?side1 ?side2 ?side3 ?side4 ?side5 ?side6 A32.out).mono ?_); (case side1 => exact Kd.C_below HR0_0.out (zb HB)); (case side2 => exact HC0_0.out); (case side3 => exact Kd.C_below HR0_1.out (zb HB)); (case side4 => exact HC0_1.out); (case side5 => exact Kd.C_below HR1.out (zb HB)); (case side6 => exact HC1.out); rintro e w64 ⟨v497, v500, rfl, ho0, ho1, hb⟩; refine ⟨_, rfl, ?_⟩; replace HO461 := Z0 (rbe (zy HO461 BK495) hb); replace HO470 := Z0 (Kd.S_mono (Kd.S_told (Kd.S_told (Kd.S_old (by (with_reducible repeat (first | apply Kd.S_alloc | apply Kd.S_drewN | apply Kd.S_drew)); exact (Kd.S_mono (Kd.S_far (p := ⟨gb495, 1, none⟩) (Kd.S_far (p := ⟨gb495, 0, none⟩) (Kd.S_types HO470.out BK495.out (by decide)) (fun _ hk => hk.2) (.slice Ao59 t488.length co59)) (fun _ hk => hk.2) (.slice Ao62 t491.length co62)) (fun _ h_ => h_.1))) hb) (rb ho0)) (rb ho1)) (fun _ h_ => h_.1)); replace HO474 := Z0 (Kd.S_mono (Kd.S_told (Kd.S_told (Kd.S_old (by (with_reducible repeat (first | apply Kd.S_alloc | apply Kd.S_drewN | apply Kd.S_drew)); exact (Kd.S_mono (Kd.S_far (p := ⟨gb495, 1, none⟩) (Kd.S_far (p := ⟨gb495, 0, none⟩) (Kd.S_types HO474.out BK495.out (by decide)) (fun _ hk => hk.2) (.slice Ao59 t488.length co59)) (fun _ hk => hk.2) (.slice Ao62 t491.length co62)) (fun _ h_ => h_.1))) hb) (rb ho0)) (rb ho1)) (fun _ h_ => h_.1)); replace HO481 := Z0 (rbe (zy HO481 BK495) hb); have HO498 := Z0 (rl (rw_ (rw_ (rw_ (rw_ (rw_ (rw_ ho0 (rlt (zy HO458 BK495))) (rlt (zy HO467 BK495))) (rlt (zy HO478 BK495))) (rlt (zy HO487 BK495))) (rlt (zy HO490 BK495))) (rlt (zy HO493 BK495))) (below_size (zb HB))); have HO501 := Z0 (rl (rw_ (rw_ (rw_ (rw_ (rw_ (rw_ ho1 (rlt (zy HO458 BK495))) (rlt (zy HO467 BK495))) (rlt (zy HO478 BK495))) (rlt (zy HO487 BK495))) (rlt (zy HO490 BK495))) (rlt (zy HO493 BK495))) (below_size (zb HB))); replace HO458 := Z0 (rm (rt (rt (ro (zy HO458 BK495) hb) (rb ho0)) (rb ho1)) (fun _ h_ => h_.1)); replace HO467 := Z0 (rm (rt (rt (ro (zy HO467 BK495) hb) (rb ho0)) (rb ho1)) (fun _ h_ => h_.1)); replace HO478 := Z0 (rm (rt (rt (ro (zy HO478 BK495) hb) (rb ho0)) (rb ho1)) (fun _ h_ => h_.1)); replace HO487 := Z0 (rm (rt (rt (ro (zy HO487 BK495) hb) (rb ho0)) (rb ho1)) (fun _ h_ => h_.1)); replace HO490 := Z0 (rm (rt (rt (ro (zy HO490 BK495) hb) (rb ho0)) (rb ho1)) (fun _ h_ => h_.1)); replace HO493 := Z0 (rm (rt (rt (ro (zy HO493 BK495) hb) (rb ho0)) (rb ho1)) (fun _ h_ => h_.1)); replace BK451 := Z0 (kb (g := gb451) (o := .cells #[.slice A0_0 l0_0.length c0_0, .slice A0_1 l0_1.length c0_1] 25 (0, 0)) (by (with_reducible repeat (first | refine kn ?_ _ | refine kd_ ?_ | refine ka ?_ _)); refine blk_far ?_ NB451_495.out _; (with_reducible repeat (first | refine kn ?_ _ | refine kd_ ?_ | refine ka ?_ _)); refine blk_far ?_ NB451_495.out _; (with_reducible repeat (first | refine kn ?_ _ | refine kd_ ?_ | refine ka ?_ _)); exact BK451.out) hb); replace BK495 := Z0 (kb (g := gb495) (o := .cells #[.slice Ao59 t488.length co59, .slice Ao62 t491.length co62] 27 (0, 0)) (by (with_reducible repeat (first | refine kn ?_ _ | refine kd_ ?_ | refine ka ?_ _)); refine blk_put (cs := #[.slice Ao59 t488.length co59, .slice none 0 0]) ?_ 1 _ rfl; (with_reducible repeat (first | refine kn ?_ _ | refine kd_ ?_ | refine ka ?_ _)); refine blk_put (cs := #[.slice none 0 0, .slice none 0 0]) ?_ 0 _ rfl; (with_reducible repeat (first | refine kn ?_ _ | refine kd_ ?_ | refine ka ?_ _)); exact BK495.out) hb); replace HB := Z0 (below_step (zb HB) hb); (try clear hb); (try clear hb2); (try clear hk); (try clear hi); (try clear ho0); (try clear ho1)) | ((with_reducible refine gate_dst (N := 13) rfl ?_); (try (refine gate_guard (by rfl) ?_; dsimp only)); refine zx (N := 13) #[.slice none 0 0, .slice none 0 0] 27 ?_; intro gb503 hg w65 hbox hb; replace HO458 := Z0 (rbe (zr HO458) hb); replace HO461 := Z0 (rbe (zr HO461) hb); replace HO467 := Z0 (rbe (zr HO467) hb); replace HO470 := Z0 (Kd.S_below (by (with_reducible repeat (first | apply Kd.S_alloc | apply Kd.S_drewN | apply Kd.S_drew)); exact HO470.out) hb); replace HO474 := Z0 (Kd.S_below (by (with_reducible repeat (first | apply Kd.S_alloc | apply Kd.S_drewN | apply Kd.S_drew)); exact HO474.out) hb); replace HO478 := Z0 (rbe (zr HO478) hb); replace HO481 := Z0 (rbe (zr HO481) hb); replace HO487 := Z0 (rbe (zr HO487) hb); replace HO490 := Z0 (rbe (zr HO490) hb); replace HO493 := Z0 (rbe (zr HO493) hb); replace HO498 := Z0 (rbe (zr HO498) hb); replace HO501 := Z0 (rbe (zr HO501) hb); have BK503 := Z0 (hbox); have GW503 := Z0 (zh w hg HB); have GE503 := Z0 (zh w hg HB); replace HB := Z0 (below_step (zb HB) hb); have NB451_503 := Z0 (zl hg BK451); have NB503_451 := Z0 (zu hg BK451); replace BK451 := Z0 (zkb BK451 hb); have NB495_503 := Z0 (zl hg BK495); have NB503_495 := Z0 (zu hg BK495); replace BK495 := Z0 (zkb BK495 hb); clear hb hbox hg; obtain ⟨Ao66, co66, eo66⟩ := Kd.R_slice HO498.out; subst eo66; have hnb67 := NB503_451.out; have hnc67 := NB451_503.out; have hnb68 := NB503_495.out; have hnc68 := NB495_503.out; have hcz69_0 := kz0 BK503; have hcz69_1 := kz1 BK503; have hfz69_0 := blk_frozen BK503.out 0; have hfz69_1 := blk_frozen BK503.out 1; obtain ⟨Ao70, co70, eo70⟩ := Kd.R_slice HO501.out; subst eo70; obtain ⟨Ao71, co71, eo71⟩ := Kd.S_slice HO470.out; subst eo71; obtain ⟨Ao72, co72, eo72⟩ := Kd.S_slice HO474.out; subst eo72) | ((with_reducible refine gate_callee (f := 30) rfl ?_); refine goesL_ (some 69) rfl rfl Try.func30 (by kernel_rfl) rfl #[.slice Ao71 t468.length co71, .slice Ao72 t472.length co72] rfl (by (try simp only [List.map_toArray, List.map_cons, List.map_nil]); first | done | rfl | (simp only [List.length_drop, List.length_take]; rfl)) ?_; (with_reducible refine (trefoilref11_SameTrace.calls kj3 _ _ t468 _ _ t472 true _ ?side1 ?side2 ?side3 ?side4 A33.out).mono ?_); (case side1 => refine (Kd.S_reads' (e := 22) (base := w.heap.size) (ok := fun k_ => ((((((some k_ ≠ (.slice Ao43 t456.length co43 : Value).ownBlock ∧ (some k_ ≠ (.slice Ao45 y465.length co45 : Value).ownBlock ∧ (some k_ ≠ (.slice Ao72 t472.length co72 : Value).ownBlock ∧ some k_ ≠ (.slice Ao54 t476.length co54 : Value).ownBlock))) ∧ some k_ ≠ (.slice Ao56 y485.length co56 : Value).ownBlock) ∧ some k_ ≠ (.slice Ao59 t488.length co59 : Value).ownBlock) ∧ some k_ ≠ (.slice Ao62 t491.length co62 : Value).ownBlock) ∧ some k_ ≠ (.slice Ao66 t496.length co66 : Value).ownBlock) ∧ some k_ ≠ (.slice Ao70 t499.length co70 : Value).ownBlock)) (n := t468.length) (c := co71) ?_).2.2; exact (by (with_reducible repeat (first | apply Kd.S_alloc | apply Kd.S_drewN | apply Kd.S_drew)); exact (Kd.S_mono (Kd.S_far (p := ⟨gb503, 1, none⟩) (Kd.S_far (p := ⟨gb503, 0, none⟩) (Kd.S_types HO470.out BK503.out (by decide)) (fun _ hk => hk.2) (.slice Ao66 t496.length co66)) (fun _ hk => hk.2) (.slice Ao70 t499.length co70)) (fun _ h_ => h_.1)))); (case side2 => exact (Kd.S_reads' HO470.out).2.1); (case side3 => refine (Kd.S_reads' (e := 22) (base := w.heap.size) (ok := fun k_ => ((((((some k_ ≠ (.slice Ao43 t456.length co43 : Value).ownBlock ∧ (some k_ ≠ (.slice Ao45 y465.length co45 : Value).ownBlock ∧ (some k_ ≠ (.slice Ao71 t468.length co71 : Value).ownBlock ∧ some k_ ≠ (.slice Ao54 t476.length co54 : Value).ownBlock))) ∧ some k_ ≠ (.slice Ao56 y485.length co56 : Value).ownBlock) ∧ some k_ ≠ (.slice Ao59 t488.length co59 : Value).ownBlock) ∧ some k_ ≠ (.slice Ao62 t491.length co62 : Value).ownBlock) ∧ some k_ ≠ (.slice Ao66 t496.length co66 : Value).ownBlock) ∧ some k_ ≠ (.slice Ao70 t499.length co70 : Value).ownBlock)) (n := t472.length) (c := co72) ?_).2.2; exact (by (with_reducible repeat (first | apply Kd.S_alloc | apply Kd.S_drewN | apply Kd.S_drew)); exact (Kd.S_mono (Kd.S_far (p := ⟨gb503, 1, none⟩) (Kd.S_far (p := ⟨gb503, 0, none⟩) (Kd.S_types HO474.out BK503.out (by decide)) (fun _ hk => hk.2) (.slice Ao66 t496.length co66)) (fun _ hk => hk.2) (.slice Ao70 t499.length co70)) (fun _ h_ => h_.1)))); (case side4 => exact (Kd.S_reads' HO474.out).2.1); rintro e w' ⟨rfl, ⟨nd, rfl⟩⟩; refine ⟨_, rfl, ?_⟩; have hcz73_0 := kz0 BK495; have hcz73_1 := kz1 BK495; have hfz73_0 := blk_frozen BK495.out 0; have hfz73_1 := blk_frozen BK495.out 1) | (go_at_call 19; (with_reducible refine (trefoilref11_Same.calls kj3 _ _ t488 _ _ t491 _ _ t496 _ _ t499 true _ ?side1 ?side2 ?side3 ?side4 ?side5 ?side6 ?side7 ?side8 A36.out).mono ?_); (case side1 => refine (rr (e := 3) (base := w.heap.size) (ok := fun k_ => ((((((some k_ ≠ (.slice Ao62 t491.length co62 : Value).ownBlock ∧ some k_ ≠ (.slice Ao43 t456.length co43 : Value).ownBlock) ∧ some k_ ≠ (.slice Ao45 y465.length co45 : Value).ownBlock) ∧ some k_ ≠ (.slice Ao54 t476.length co54 : Value).ownBlock) ∧ some k_ ≠ (.slice Ao56 y485.length co56 : Value).ownBlock) ∧ some k_ ≠ (.slice Ao66 t496.length co66 : Value).ownBlock) ∧ some k_ ≠ (.slice Ao70 t499.length co70 : Value).ownBlock)) (n := t488.length) (c := co59) ?_).2.2; exact (zy HO490 BK503)); (case side2 => exact (rr HO490.out).2.1); (case side3 => refine (rr (e := 3) (base := w.heap.size) (ok := fun k_ => ((((((some k_ ≠ (.slice Ao59 t488.length co59 : Value).ownBlock ∧ some k_ ≠ (.slice Ao43 t456.length co43 : Value).ownBlock) ∧ some k_ ≠ (.slice Ao45 y465.length co45 : Value).ownBlock) ∧ some k_ ≠ (.slice Ao54 t476.length co54 : Value).ownBlock) ∧ some k_ ≠ (.slice Ao56 y485.length co56 : Value).ownBlock) ∧ some k_ ≠ (.slice Ao66 t496.length co66 : Value).ownBlock) ∧ some k_ ≠ (.slice Ao70 t499.length co70 : Value).ownBlock)) (n := t491.length) (c := co62) ?_).2.2; exact (zy HO493 BK503)); (case side4 => exact (rr HO493.out).2.1); (case side5 => refine (rr (e := 3) (base := w.heap.size) (ok := fun k_ => ((((((some k_ ≠ (.slice Ao70 t499.length co70 : Value).ownBlock ∧ some k_ ≠ (.slice Ao43 t456.length co43 : Value).ownBlock) ∧ some k_ ≠ (.slice Ao45 y465.length co45 : Value).ownBlock) ∧ some k_ ≠ (.slice Ao54 t476.length co54 : Value).ownBlock) ∧ some k_ ≠ (.slice Ao56 y485.length co56 : Value).ownBlock) ∧ some k_ ≠ (.slice Ao59 t488.length co59 : Value).ownBlock) ∧ some k_ ≠ (.slice Ao62 t491.length co62 : Value).ownBlock)) (n := t496.length) (c := co66) ?_).2.2; exact (zy HO498 BK503)); (case side6 => exact (rr HO498.out).2.1); (case side7 => refine (rr (e := 3) (base := w.heap.size) (ok := fun k_ => ((((((some k_ ≠ (.slice Ao66 t496.length co66 : Value).ownBlock ∧ some k_ ≠ (.slice Ao43 t456.length co43 : Value).ownBlock) ∧ some k_ ≠ (.slice Ao45 y465.length co45 : Value).ownBlock) ∧ some k_ ≠ (.slice Ao54 t476.length co54 : Value).ownBlock) ∧ some k_ ≠ (.slice Ao56 y485.length co56 : Value).ownBlock) ∧ some k_ ≠ (.slice Ao59 t488.length co59 : Value).ownBlock) ∧ some k_ ≠ (.slice Ao62 t491.length co62 : Value).ownBlock)) (n := t499.length) (c := co70) ?_).2.2; exact (zy HO501 BK503)); (case side8 => exact (rr HO501.out).2.1); rintro e w74 ⟨rfl, hb⟩; replace HO458 := Z0 (rbe (zy HO458 BK503) hb); replace HO461 := Z0 (rbe (zy HO461 BK503) hb); replace HO467 := Z0 (rbe (zy HO467 BK503) hb); replace HO470 := Z0 (Kd.S_below (by (with_reducible repeat (first | apply Kd.S_alloc | apply Kd.S_drewN | apply Kd.S_drew)); exact (Kd.S_mono (Kd.S_far (p := ⟨gb503, 1, none⟩) (Kd.S_far (p := ⟨gb503, 0, none⟩) (Kd.S_types HO470.out BK503.out (by decide)) (fun _ hk => hk.2) (.slice Ao66 t496.length co66)) (fun _ hk => hk.2) (.slice Ao70 t499.length co70)) (fun _ h_ => h_.1))) hb); replace HO474 := Z0 (Kd.S_below (by (with_reducible repeat (first | apply Kd.S_alloc | apply Kd.S_drewN | apply Kd.S_drew)); exact (Kd.S_mono (Kd.S_far (p := ⟨gb503, 1, none⟩) (Kd.S_far (p := ⟨gb503, 0, none⟩) (Kd.S_types HO474.out BK503.out (by decide)) (fun _ hk => hk.2) (.slice Ao66 t496.length co66)) (fun _ hk => hk.2) (.slice Ao70 t499.length co70)) (fun _ h_ => h_.1))) hb); replace HO478 := Z0 (rbe (zy HO478 BK503) hb); replace HO481 := Z0 (rbe (zy HO481 BK503) hb); replace HO487 := Z0 (rbe (zy HO487 BK503) hb); replace HO490 := Z0 (rbe (zy HO490 BK503) hb); replace HO493 := Z0 (rbe (zy HO493 BK503) hb); replace HO498 := Z0 (rbe (zy HO498 BK503) hb); replace HO501 := Z0 (rbe (zy HO501 BK503) hb); replace BK451 := Z0 (kb (g := gb451) (o := .cells #[.slice A0_0 l0_0.length c0_0, .slice A0_1 l0_1.length c0_1] 25 (0, 0)) (by (with_reducible repeat (first | refine kn ?_ _ | refine kd_ ?_ | refine ka ?_ _)); refine blk_far ?_ NB451_503.out _; (with_reducible repeat (first | refine kn ?_ _ | refine kd_ ?_ | refine ka ?_ _)); refine blk_far ?_ NB451_503.out _; (with_reducible repeat (first | refine kn ?_ _ | refine kd_ ?_ | refine ka ?_ _)); exact BK451.out) hb); replace BK495 := Z0 (kb (g := gb495) (o := .cells #[.slice Ao59 t488.length co59, .slice Ao62 t491.length co62] 27 (0, 0)) (by (with_reducible repeat (first | refine kn ?_ _ | refine kd_ ?_ | refine ka ?_ _)); refine blk_far ?_ NB495_503.out _; (with_reducible repeat (first | refine kn ?_ _ | refine kd_ ?_ | refine ka ?_ _)); refine blk_far ?_ NB495_503.out _; (with_reducible repeat (first | refine kn ?_ _ | refine kd_ ?_ | refine ka ?_ _)); exact BK495.out) hb); replace BK503 := Z0 (kb (g := gb503) (o := .cells #[.slice Ao66 t496.length co66, .slice Ao70 t499.length co70] 27 (0, 0)) (by (with_reducible repeat (first | refine kn ?_ _ | refine kd_ ?_ | refine ka ?_ _)); refine blk_put (cs := #[.slice Ao66 t496.length co66, .slice none 0 0]) ?_ 1 _ rfl; (with_reducible repeat (first | refine kn ?_ _ | refine kd_ ?_ | refine ka ?_ _)); refine blk_put (cs := #[.slice none 0 0, .slice none 0 0]) ?_ 0 _ rfl; (with_reducible repeat (first | refine kn ?_ _ | refine kd_ ?_ | refine ka ?_ _)); exact BK503.out) hb); replace HB := Z0 (below_step (zb HB) hb); (try clear hb); (try clear hb2); (try clear hk); (try clear hi)))
         go_ret
         exact ⟨ze, zb HB⟩
        ·replace c37 := Bool.eq_false_iff.mpr c37
         subst c37
         rw [if_neg nft] at H
         exact (nft (ab H hrt)).elim
       ·rw [if_neg c35] at H
        have c35b0 : (t471 == t475) = false := beq_eq_false_iff_ne.mpr c35
        have c35b1 : (t471 != t475) = true := bne_iff_ne.mpr c35
        exact (nft (ab H hrt)).elim
      ·replace c34 := Bool.eq_false_iff.mpr c34
       subst c34
       rw [if_neg nft] at H
       exact (nft (ab H hrt)).elim
     ·rw [if_neg c30] at H
      exact absurd H (by simp)
    ·rw [if_neg c26] at H
     exact absurd H (by simp)
end Go.Proofs.Ytmbhjhanafmidaa.PListRuns
