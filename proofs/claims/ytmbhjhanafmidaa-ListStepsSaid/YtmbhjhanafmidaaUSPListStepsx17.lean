/- Written by a program of this work: each theorem says that a call of the Go function comes to what the Lean function beside it tells, under the conditions that it names; Lean checks it. -/
import Derived.Test.YtmbhjhanafmidaaUSPListStepsx0
import Derived.Test.YtmbhjhanafmidaaUSPListStepsx10
import Derived.Test.YtmbhjhanafmidaaUSZr
namespace Go.Proofs.Ytmbhjhanafmidaa.PListSteps
open Go.Proofs.Ytmbhjhanafmidaa.PAw Go.Proofs.Ytmbhjhanafmidaa.Zr Go.RowKit Go.Proofs.YtmbhjhanafmidaaW.PrintWords Go.Proofs.YtmbhjhanafmidaaW.PrintLast Go.Proofs.YtmbhjhanafmidaaW.PrintMore
attribute [local go_sem] max2_int min2_int max_two min_two max_three min_three max_four min_four   -- for this text's walks alone
set_option linter.unusedVariables false
set_option linter.unusedSimpArgs false
def trefoilref11_Same.f (k : Nat) (l0_0 : List Int) (l0_1 : List Int) (l1_0 : List Int) (l1_1 : List Int) : Option (Bool) := (trefoilref02_Ints.f k l0_0 l1_0).bind fun t359 => (if t359 = true then ((trefoilref02_Ints.f k l0_1 l1_1).bind fun t360 => (some t360)) else (some false))
set_option maxHeartbeats 8000000 in
set_option maxRecDepth 100000 in
theorem trefoilref11_Same.calls (k : Nat) (A0_0 : Option Addr) (c0_0 : Nat) (l0_0 : List Int) (A0_1 : Option Addr) (c0_1 : Nat) (l0_1 : List Int) (A1_0 : Option Addr) (c1_0 : Nat) (l1_0 : List Int) (A1_1 : Option Addr) (c1_1 : Nat) (l1_1 : List Int) (r : Bool) (w : World) (hr0_0 : Kd.C (Kd.int .i64) w A0_0 l0_0.length l0_0) (hc0_0 : l0_0.length ≤ c0_0) (hr0_1 : Kd.C (Kd.int .i64) w A0_1 l0_1.length l0_1) (hc0_1 : l0_1.length ≤ c0_1) (hr1_0 : Kd.C (Kd.int .i64) w A1_0 l1_0.length l1_0) (hc1_0 : l1_0.length ≤ c1_0) (hr1_1 : Kd.C (Kd.int .i64) w A1_1 l1_1.length l1_1) (hc1_1 : l1_1.length ≤ c1_1) (h : trefoilref11_Same.f k l0_0 l0_1 l1_0 l1_1 = some r) :
  Calls Try.prog 19 #[.agg #[.slice A0_0 l0_0.length c0_0, .slice A0_1 l0_1.length c0_1], .agg #[.slice A1_0 l1_0.length c1_0, .slice A1_1 l1_1.length c1_1]] w fun e w' => e = .returned (.bool r) ∧ Below w.heap.size w w' := by
 have hu27 := Try.underlying27
 have HR0_0 := Z0 hr0_0
 have HC0_0 := Z0 hc0_0
 clear hr0_0 hc0_0
 have HR0_1 := Z0 hr0_1
 have HC0_1 := Z0 hc0_1
 clear hr0_1 hc0_1
 have HR1_0 := Z0 hr1_0
 have HC1_0 := Z0 hc1_0
 clear hr1_0 hc1_0
 have HR1_1 := Z0 hr1_1
 have HC1_1 := Z0 hc1_1
 clear hr1_1 hc1_1
 have HB := Z0 (Below.refl w.heap.size w)
 have H : ((trefoilref02_Ints.f k l0_0 l1_0).bind fun t359 => (if t359 = true then ((trefoilref02_Ints.f k l0_1 l1_1).bind fun t360 => (some t360)) else (some false))) = some r := h
 clear h
 replace H := Option.bind_eq_some_iff.mp H
 obtain ⟨t359, A30, H⟩ := H
 have A3 := Z0 A30
 clear A30
 by_cases c4 : t359 = true
 ·subst c4
  rw [if_pos rfl] at H
  replace H := Option.bind_eq_some_iff.mp H
  obtain ⟨t360, A50, H⟩ := H
  have A5 := Z0 A50
  clear A50
  obtain rfl := Option.some.inj H
  go_enter Try.func19, Try.ntmps19
  go_wp2_with (first | ((with_reducible refine gate_dst (N := 2) rfl ?_); refine zx (N := 2) #[.slice A0_0 l0_0.length c0_0, .slice A0_1 l0_1.length c0_1] 27 ?_; intro gb357 hg w6 hbox hb; have BK357 := Z0 (hbox); have GW357 := Z0 (zh w hg HB); have GE357 := Z0 (zh w hg HB); replace HB := Z0 (below_step (zb HB) hb); clear hb hbox hg) | ((with_reducible refine gate_dst (N := 3) rfl ?_); refine zx (N := 3) #[.slice A1_0 l1_0.length c1_0, .slice A1_1 l1_1.length c1_1] 27 ?_; intro gb358 hg w7 hbox hb; have BK358 := Z0 (hbox); have GW358 := Z0 (zh w hg HB); have GE358 := Z0 (zh w hg HB); replace HB := Z0 (below_step (zb HB) hb); have NB357_358 := Z0 (zl hg BK357); have NB358_357 := Z0 (zu hg BK357); replace BK357 := Z0 (zkb BK357 hb); clear hb hbox hg; have hnb8 := NB357_358.out; have hnc8 := NB358_357.out; have hcz9_0 := kz0 BK357; have hcz9_1 := kz1 BK357; have hfz9_0 := blk_frozen BK357.out 0; have hfz9_1 := blk_frozen BK357.out 1; have hcz10_0 := kz0 BK358; have hcz10_1 := kz1 BK358; have hfz10_0 := blk_frozen BK358.out 0; have hfz10_1 := blk_frozen BK358.out 1) | ((with_reducible refine gate_callee (f := 22) rfl ?_); refine goesL_ (some 9) rfl rfl Try.func22 (by kernel_rfl) rfl #[.slice A0_0 l0_0.length c0_0, .slice A1_0 l1_0.length c1_0] rfl (by (try simp only [List.map_toArray, List.map_cons, List.map_nil]); first | done | rfl | (simp only [List.length_drop, List.length_take]; rfl)) ?_; (with_reducible refine (trefoilref02_Ints.calls k _ _ l0_0 _ _ l1_0 true _ ?side1 ?side2 ?side3 ?side4 A3.out).mono ?_); (case side1 => exact zc (Kd.C_below HR0_0.out HB.out)); (case side2 => exact HC0_0.out); (case side3 => exact zc (Kd.C_below HR1_0.out HB.out)); (case side4 => exact HC1_0.out); rintro e w' ⟨rfl, ⟨nd, rfl⟩⟩; refine ⟨_, rfl, ?_⟩) | (go_at_call 22; (with_reducible refine (trefoilref02_Ints.calls k _ _ l0_1 _ _ l1_1 t360 _ ?side1 ?side2 ?side3 ?side4 A5.out).mono ?_); (case side1 => repeat (first | exact (Kd.C_below HR0_1.out (zb HB)) | (with_reducible refine Kd.C_alloc ?_ _) | (with_reducible refine Kd.C_drewN ?_ _) | (with_reducible refine Kd.C_drew ?_))); (case side2 => exact HC0_1.out); (case side3 => repeat (first | exact (Kd.C_below HR1_1.out (zb HB)) | (with_reducible refine Kd.C_alloc ?_ _) | (with_reducible refine Kd.C_drewN ?_ _) | (with_reducible refine Kd.C_drew ?_))); (case side4 => exact HC1_1.out); rintro e w' ⟨rfl, ⟨nd, rfl⟩⟩))
  go_ret
  exact ⟨ze, zb HB⟩
 ·replace c4 := Bool.eq_false_iff.mpr c4
  subst c4
  rw [if_neg nft] at H
  obtain rfl := Option.some.inj H
  go_enter Try.func19, Try.ntmps19
  go_wp2_with (first | ((with_reducible refine gate_dst (N := 2) rfl ?_); refine zx (N := 2) #[.slice A0_0 l0_0.length c0_0, .slice A0_1 l0_1.length c0_1] 27 ?_; intro gb357 hg w11 hbox hb; have BK357 := Z0 (hbox); have GW357 := Z0 (zh w hg HB); have GE357 := Z0 (zh w hg HB); replace HB := Z0 (below_step (zb HB) hb); clear hb hbox hg) | ((with_reducible refine gate_dst (N := 3) rfl ?_); refine zx (N := 3) #[.slice A1_0 l1_0.length c1_0, .slice A1_1 l1_1.length c1_1] 27 ?_; intro gb358 hg w12 hbox hb; have BK358 := Z0 (hbox); have GW358 := Z0 (zh w hg HB); have GE358 := Z0 (zh w hg HB); replace HB := Z0 (below_step (zb HB) hb); have NB357_358 := Z0 (zl hg BK357); have NB358_357 := Z0 (zu hg BK357); replace BK357 := Z0 (zkb BK357 hb); clear hb hbox hg; have hnb13 := NB357_358.out; have hnc13 := NB358_357.out; have hcz14_0 := kz0 BK357; have hcz14_1 := kz1 BK357; have hfz14_0 := blk_frozen BK357.out 0; have hfz14_1 := blk_frozen BK357.out 1; have hcz15_0 := kz0 BK358; have hcz15_1 := kz1 BK358; have hfz15_0 := blk_frozen BK358.out 0; have hfz15_1 := blk_frozen BK358.out 1) | ((with_reducible refine gate_callee (f := 22) rfl ?_); refine goesL_ (some 9) rfl rfl Try.func22 (by kernel_rfl) rfl #[.slice A0_0 l0_0.length c0_0, .slice A1_0 l1_0.length c1_0] rfl (by (try simp only [List.map_toArray, List.map_cons, List.map_nil]); first | done | rfl | (simp only [List.length_drop, List.length_take]; rfl)) ?_; (with_reducible refine (trefoilref02_Ints.calls k _ _ l0_0 _ _ l1_0 false _ ?side1 ?side2 ?side3 ?side4 A3.out).mono ?_); (case side1 => exact zc (Kd.C_below HR0_0.out HB.out)); (case side2 => exact HC0_0.out); (case side3 => exact zc (Kd.C_below HR1_0.out HB.out)); (case side4 => exact HC1_0.out); rintro e w' ⟨rfl, ⟨nd, rfl⟩⟩; refine ⟨_, rfl, ?_⟩))
  go_ret
  exact ⟨ze, zb HB⟩
end Go.Proofs.Ytmbhjhanafmidaa.PListSteps
