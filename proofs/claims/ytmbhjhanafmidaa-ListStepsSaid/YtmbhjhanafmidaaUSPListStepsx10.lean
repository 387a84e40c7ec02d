/- Written by a program of this work: each theorem says that a call of the Go function comes to what the Lean function beside it tells, under the conditions that it names; Lean checks it. -/
import Derived.Test.YtmbhjhanafmidaaUSPListStepsx0
import Derived.Test.YtmbhjhanafmidaaUSPListStepsx2
import Derived.Test.YtmbhjhanafmidaaUSZr
namespace Go.Proofs.Ytmbhjhanafmidaa.PListSteps
open Go.Proofs.Ytmbhjhanafmidaa.PAw Go.Proofs.Ytmbhjhanafmidaa.Zr Go.RowKit Go.Proofs.YtmbhjhanafmidaaW.PrintWords Go.Proofs.YtmbhjhanafmidaaW.PrintLast Go.Proofs.YtmbhjhanafmidaaW.PrintMore
attribute [local go_sem] max2_int min2_int max_two min_two max_three min_three max_four min_four   -- for this text's walks alone
set_option linter.unusedVariables false
set_option linter.unusedSimpArgs false
def sched_Check.f (l0_0 : List Int) (l0_1 : List (S85)) (l1 : List Int) (a2 : Int) (l3 : List (List Int)) : Option (Int) := if ((l0_0.length ≤ 1000 ∧ l0_1.length ≤ 1000) ∧ l1.length ≤ 1000) ∧ l3.length ≤ 5000 then some (SchPlain.lookR l0_0 (l0_1.map fun x => (x.f0, x.f1)) l1 a2 l3) else none
def trefoillaw11_awake.f : Option Bool := some true
theorem trefoillaw11_awake.calls (r : Bool) (w : World) (h : trefoillaw11_awake.f = some r) :
  Calls Try.prog 9 #[] w fun e w' => e = .returned (.bool r) ∧ Below w.heap.size w w' := by
 obtain rfl : true = r := by simpa [trefoillaw11_awake.f] using h
 exact awake11_any w
def trefoillaw04_Few.f (l0_0 : List Int) (l0_1 : List (S85)) : Option (Bool) := if (l0_0.length : Int) ≤ 70 then (some (decide ((l0_1.length : Int) ≤ 300))) else (some false)
set_option maxHeartbeats 8000000 in
set_option maxRecDepth 100000 in
theorem trefoillaw04_Few.calls (A0_0 : Option Addr) (c0_0 : Nat) (l0_0 : List Int) (A0_1 : Option Addr) (c0_1 : Nat) (l0_1 : List (S85)) (r : Bool) (w : World) (hr0_0 : Kd.C (Kd.int .i64) w A0_0 l0_0.length l0_0) (hc0_0 : l0_0.length ≤ c0_0) (hr0_1 : Kd.C k85 w A0_1 l0_1.length l0_1) (hc0_1 : l0_1.length ≤ c0_1) (h : trefoillaw04_Few.f l0_0 l0_1 = some r) :
  Calls Try.prog 24 #[.agg #[.slice A0_0 l0_0.length c0_0, .slice A0_1 l0_1.length c0_1]] w fun e w' => e = .returned (.bool r) ∧ Below w.heap.size w w' := by
 have hu25 := Try.underlying25
 have HR0_0 := Z0 hr0_0
 have HC0_0 := Z0 hc0_0
 clear hr0_0 hc0_0
 have HR0_1 := Z0 hr0_1
 have HC0_1 := Z0 hc0_1
 clear hr0_1 hc0_1
 have HB := Z0 (Below.refl w.heap.size w)
 have H : (if (l0_0.length : Int) ≤ 70 then (some (decide ((l0_1.length : Int) ≤ 300))) else (some false)) = some r := h
 clear h
 by_cases c2 : (l0_0.length : Int) ≤ 70
 ·rw [if_pos c2] at H
  have c2b0 : decide ((l0_0.length : Int) ≤ 70) = true := decide_eq_true c2
  have c2b1 : decide (l0_0.length ≤ 70) = true := decide_eq_true (by omega)
  clear c2
  obtain rfl := Option.some.inj H
  go_enter Try.func24, Try.ntmps24
  go_wp2_with (first | ((with_reducible refine gate_dst (N := 1) rfl ?_); (try (refine gate_guard (by rfl) ?_; dsimp only)); refine zx (N := 1) #[.slice A0_0 l0_0.length c0_0, .slice A0_1 l0_1.length c0_1] 25 ?_; intro gb270 hg w3 hbox hb; have BK270 := Z0 (hbox); have GW270 := Z0 (zh w hg HB); have GE270 := Z0 (zh w hg HB); replace HB := Z0 (below_step (zb HB) hb); clear hb hbox hg; have hcz4_0 := kz0 BK270; have hcz4_1 := kz1 BK270; have hfz4_0 := blk_frozen BK270.out 0; have hfz4_1 := blk_frozen BK270.out 1))
  go_ret
  exact ⟨ze, zb HB⟩
 ·rw [if_neg c2] at H
  have c2b0 : decide ((l0_0.length : Int) ≤ 70) = false := decide_eq_false c2
  have c2b1 : decide (l0_0.length ≤ 70) = false := decide_eq_false (by omega)
  clear c2
  obtain rfl := Option.some.inj H
  go_enter Try.func24, Try.ntmps24
  go_wp2_with (first | ((with_reducible refine gate_dst (N := 1) rfl ?_); (try (refine gate_guard (by rfl) ?_; dsimp only)); refine zx (N := 1) #[.slice A0_0 l0_0.length c0_0, .slice A0_1 l0_1.length c0_1] 25 ?_; intro gb270 hg w5 hbox hb; have BK270 := Z0 (hbox); have GW270 := Z0 (zh w hg HB); have GE270 := Z0 (zh w hg HB); replace HB := Z0 (below_step (zb HB) hb); clear hb hbox hg; have hcz6_0 := kz0 BK270; have hcz6_1 := kz1 BK270; have hfz6_0 := blk_frozen BK270.out 0; have hfz6_1 := blk_frozen BK270.out 1))
  go_ret
  exact ⟨ze, zb HB⟩
def trefoillaw11_few.f (l0_0 : List Int) (l0_1 : List (S85)) (l1_0 : List Int) (l1_1 : List Int) : Option (Bool) := (trefoillaw04_Few.f l0_0 l0_1).bind fun t273 => (if t273 = true then (if (l1_0.length : Int) ≤ 12 then (some (decide ((l1_1.length : Int) ≤ 70))) else (some false)) else (some false))
set_option maxHeartbeats 8000000 in
set_option maxRecDepth 100000 in
theorem trefoillaw11_few.calls (A0_0 : Option Addr) (c0_0 : Nat) (l0_0 : List Int) (A0_1 : Option Addr) (c0_1 : Nat) (l0_1 : List (S85)) (A1_0 : Option Addr) (c1_0 : Nat) (l1_0 : List Int) (A1_1 : Option Addr) (c1_1 : Nat) (l1_1 : List Int) (r : Bool) (w : World) (hr0_0 : Kd.C (Kd.int .i64) w A0_0 l0_0.length l0_0) (hc0_0 : l0_0.length ≤ c0_0) (hr0_1 : Kd.C k85 w A0_1 l0_1.length l0_1) (hc0_1 : l0_1.length ≤ c0_1) (hr1_0 : Kd.C (Kd.int .i64) w A1_0 l1_0.length l1_0) (hc1_0 : l1_0.length ≤ c1_0) (hr1_1 : Kd.C (Kd.int .i64) w A1_1 l1_1.length l1_1) (hc1_1 : l1_1.length ≤ c1_1) (h : trefoillaw11_few.f l0_0 l0_1 l1_0 l1_1 = some r) :
  Calls Try.prog 10 #[.agg #[.slice A0_0 l0_0.length c0_0, .slice A0_1 l0_1.length c0_1], .agg #[.slice A1_0 l1_0.length c1_0, .slice A1_1 l1_1.length c1_1]] w fun e w' => e = .returned (.bool r) ∧ Below w.heap.size w w' := by
 have hu25 := Try.underlying25
 have hu27 := Try.underlying27
 have HR0_0 := Z0 hr0_0
 have HC0_0 := Z0 hc0_0
 clear hr0_0 hc0_0
 have HR0_1 := Z0 hr0_1
 have HC0_1 := Z0 hc0_1
 clear hr0_1 hc0_1
 have HR1_0 := Z0 hr1_0
 have HC1_0 := Z0 hc1_0
 clear hr1_0 hc1_0
 have HR1_1 := Z0 hr1_1
 have HC1_1 := Z0 hc1_1
 clear hr1_1 hc1_1
 have HB := Z0 (Below.refl w.heap.size w)
 have H : ((trefoillaw04_Few.f l0_0 l0_1).bind fun t273 => (if t273 = true then (if (l1_0.length : Int) ≤ 12 then (some (decide ((l1_1.length : Int) ≤ 70))) else (some false)) else (some false))) = some r := h
 clear h
 replace H := Option.bind_eq_some_iff.mp H
 obtain ⟨t273, A30, H⟩ := H
 have A3 := Z0 A30
 clear A30
 by_cases c4 : t273 = true
 ·subst c4
  rw [if_pos rfl] at H
  by_cases c5 : (l1_0.length : Int) ≤ 12
  ·rw [if_pos c5] at H
   have c5b0 : decide ((l1_0.length : Int) ≤ 12) = true := decide_eq_true c5
   have c5b1 : decide (l1_0.length ≤ 12) = true := decide_eq_true (by omega)
   clear c5
   obtain rfl := Option.some.inj H
   go_enter Try.func10, Try.ntmps10
   go_wp2_with (first | ((with_reducible refine gate_dst (N := 2) rfl ?_); (try (refine gate_guard (by rfl) ?_; dsimp only)); refine zx (N := 2) #[.slice A0_0 l0_0.length c0_0, .slice A0_1 l0_1.length c0_1] 25 ?_; intro gb271 hg w6 hbox hb; have BK271 := Z0 (hbox); have GW271 := Z0 (zh w hg HB); have GE271 := Z0 (zh w hg HB); replace HB := Z0 (below_step (zb HB) hb); clear hb hbox hg) | ((with_reducible refine gate_dst (N := 3) rfl ?_); (try (refine gate_guard (by rfl) ?_; dsimp only)); refine zx (N := 3) #[.slice A1_0 l1_0.length c1_0, .slice A1_1 l1_1.length c1_1] 27 ?_; intro gb272 hg w7 hbox hb; have BK272 := Z0 (hbox); have GW272 := Z0 (zh w hg HB); have GE272 := Z0 (zh w hg HB); replace HB := Z0 (below_step (zb HB) hb); have NB271_272 := Z0 (zl hg BK271); have NB272_271 := Z0 (zu hg BK271); replace BK271 := Z0 (zkb BK271 hb); clear hb hbox hg; have hnb8 := NB271_272.out; have hnc8 := NB272_271.out; have hcz9_0 := kz0 BK271; have hcz9_1 := kz1 BK271; have hfz9_0 := blk_frozen BK271.out 0; have hfz9_1 := blk_frozen BK271.out 1) | ((with_reducible refine gate_callee (f := 24) rfl ?_); refine goesL_ (some 6) rfl rfl Try.func24 (by kernel_rfl) rfl #[.agg #[.slice A0_0 l0_0.length c0_0, .slice A0_1 l0_1.length c0_1]] rfl (by (try simp only [List.map_toArray, List.map_cons, List.map_nil]); first | done | rfl | (simp only [List.length_drop, List.length_take]; rfl)) ?_; (with_reducible refine (trefoillaw04_Few.calls _ _ l0_0 _ _ l0_1 true _ ?side1 ?side2 ?side3 ?side4 A3.out).mono ?_); (case side1 => exact zc (Kd.C_below HR0_0.out HB.out)); (case side2 => exact HC0_0.out); (case side3 => exact zc (Kd.C_below HR0_1.out HB.out)); (case side4 => exact HC0_1.out); rintro e w10 ⟨rfl, hb⟩; refine ⟨_, rfl, ?_⟩; replace BK271 := Z0 (zkb BK271 hb); replace BK272 := Z0 (zkb BK272 hb); replace HB := Z0 (below_step (zb HB) hb); (try clear hb); (try clear hb2); (try clear hk); (try clear hi); have hcz11_0 := kz0 BK272; have hcz11_1 := kz1 BK272; have hfz11_0 := blk_frozen BK272.out 0; have hfz11_1 := blk_frozen BK272.out 1))
   go_ret
   exact ⟨ze, zb HB⟩
  ·rw [if_neg c5] at H
   have c5b0 : decide ((l1_0.length : Int) ≤ 12) = false := decide_eq_false c5
   have c5b1 : decide (l1_0.length ≤ 12) = false := decide_eq_false (by omega)
   clear c5
   obtain rfl := Option.some.inj H
   go_enter Try.func10, Try.ntmps10
   go_wp2_with (first | ((with_reducible refine gate_dst (N := 2) rfl ?_); (try (refine gate_guard (by rfl) ?_; dsimp only)); refine zx (N := 2) #[.slice A0_0 l0_0.length c0_0, .slice A0_1 l0_1.length c0_1] 25 ?_; intro gb271 hg w12 hbox hb; have BK271 := Z0 (hbox); have GW271 := Z0 (zh w hg HB); have GE271 := Z0 (zh w hg HB); replace HB := Z0 (below_step (zb HB) hb); clear hb hbox hg) | ((with_reducible refine gate_dst (N := 3) rfl ?_); (try (refine gate_guard (by rfl) ?_; dsimp only)); refine zx (N := 3) #[.slice A1_0 l1_0.length c1_0, .slice A1_1 l1_1.length c1_1] 27 ?_; intro gb272 hg w13 hbox hb; have BK272 := Z0 (hbox); have GW272 := Z0 (zh w hg HB); have GE272 := Z0 (zh w hg HB); replace HB := Z0 (below_step (zb HB) hb); have NB271_272 := Z0 (zl hg BK271); have NB272_271 := Z0 (zu hg BK271); replace BK271 := Z0 (zkb BK271 hb); clear hb hbox hg; have hnb14 := NB271_272.out; have hnc14 := NB272_271.out; have hcz15_0 := kz0 BK271; have hcz15_1 := kz1 BK271; have hfz15_0 := blk_frozen BK271.out 0; have hfz15_1 := blk_frozen BK271.out 1) | ((with_reducible refine gate_callee (f := 24) rfl ?_); refine goesL_ (some 6) rfl rfl Try.func24 (by kernel_rfl) rfl #[.agg #[.slice A0_0 l0_0.length c0_0, .slice A0_1 l0_1.length c0_1]] rfl (by (try simp only [List.map_toArray, List.map_cons, List.map_nil]); first | done | rfl | (simp only [List.length_drop, List.length_take]; rfl)) ?_; (with_reducible refine (trefoillaw04_Few.calls _ _ l0_0 _ _ l0_1 true _ ?side1 ?side2 ?side3 ?side4 A3.out).mono ?_); (case side1 => exact zc (Kd.C_below HR0_0.out HB.out)); (case side2 => exact HC0_0.out); (case side3 => exact zc (Kd.C_below HR0_1.out HB.out)); (case side4 => exact HC0_1.out); rintro e w16 ⟨rfl, hb⟩; refine ⟨_, rfl, ?_⟩; replace BK271 := Z0 (zkb BK271 hb); replace BK272 := Z0 (zkb BK272 hb); replace HB := Z0 (below_step (zb HB) hb); (try clear hb); (try clear hb2); (try clear hk); (try clear hi); have hcz17_0 := kz0 BK272; have hcz17_1 := kz1 BK272; have hfz17_0 := blk_frozen BK272.out 0; have hfz17_1 := blk_frozen BK272.out 1))
   go_ret
   exact ⟨ze, zb HB⟩
 ·replace c4 := Bool.eq_false_iff.mpr c4
  subst c4
  rw [if_neg nft] at H
  obtain rfl := Option.some.inj H
  go_enter Try.func10, Try.ntmps10
  go_wp2_with (first | ((with_reducible refine gate_dst (N := 2) rfl ?_); (try (refine gate_guard (by rfl) ?_; dsimp only)); refine zx (N := 2) #[.slice A0_0 l0_0.length c0_0, .slice A0_1 l0_1.length c0_1] 25 ?_; intro gb271 hg w18 hbox hb; have BK271 := Z0 (hbox); have GW271 := Z0 (zh w hg HB); have GE271 := Z0 (zh w hg HB); replace HB := Z0 (below_step (zb HB) hb); clear hb hbox hg) | ((with_reducible refine gate_dst (N := 3) rfl ?_); (try (refine gate_guard (by rfl) ?_; dsimp only)); refine zx (N := 3) #[.slice A1_0 l1_0.length c1_0, .slice A1_1 l1_1.length c1_1] 27 ?_; intro gb272 hg w19 hbox hb; have BK272 := Z0 (hbox); have GW272 := Z0 (zh w hg HB); have GE272 := Z0 (zh w hg HB); replace HB := Z0 (below_step (zb HB) hb); have NB271_272 := Z0 (zl hg BK271); have NB272_271 := Z0 (zu hg BK271); replace BK271 := Z0 (zkb BK271 hb); clear hb hbox hg; have hnb20 := NB271_272.out; have hnc20 := NB272_271.out; have hcz21_0 := kz0 BK271; have hcz21_1 := kz1 BK271; have hfz21_0 := blk_frozen BK271.out 0; have hfz21_1 := blk_frozen BK271.out 1) | ((with_reducible refine gate_callee (f := 24) rfl ?_); refine goesL_ (some 6) rfl rfl Try.func24 (by kernel_rfl) rfl #[.agg #[.slice A0_0 l0_0.length c0_0, .slice A0_1 l0_1.length c0_1]] rfl (by (try simp only [List.map_toArray, List.map_cons, List.map_nil]); first | done | rfl | (simp only [List.length_drop, List.length_take]; rfl)) ?_; (with_reducible refine (trefoillaw04_Few.calls _ _ l0_0 _ _ l0_1 false _ ?side1 ?side2 ?side3 ?side4 A3.out).mono ?_); (case side1 => exact zc (Kd.C_below HR0_0.out HB.out)); (case side2 => exact HC0_0.out); (case side3 => exact zc (Kd.C_below HR0_1.out HB.out)); (case side4 => exact HC0_1.out); rintro e w22 ⟨rfl, hb⟩; refine ⟨_, rfl, ?_⟩; replace BK271 := Z0 (zkb BK271 hb); replace BK272 := Z0 (zkb BK272 hb); replace HB := Z0 (below_step (zb HB) hb); (try clear hb); (try clear hb2); (try clear hk); (try clear hi)))
  go_ret
  exact ⟨ze, zb HB⟩
end Go.Proofs.Ytmbhjhanafmidaa.PListSteps
