/- Written by a program of this work: each theorem says that a call of the Go function comes to what the Lean function beside it tells, under the conditions that it names; Lean checks it. -/
import Derived.Test.YtmbhjhanafmidaaUSPListStepsx0
import Derived.Test.YtmbhjhanafmidaaUSPListStepsx2
import Derived.Test.YtmbhjhanafmidaaUSPListStepsx10
import Derived.Test.YtmbhjhanafmidaaUSPListStepsx11
import Derived.Test.YtmbhjhanafmidaaUSPListStepsx16
import Derived.Test.YtmbhjhanafmidaaUSPListStepsx17
import Derived.Test.YtmbhjhanafmidaaUSPListStepsx18
import Derived.Test.YtmbhjhanafmidaaUSPListStepsx19
import Derived.Test.YtmbhjhanafmidaaUSPListStepsx20
import Derived.Test.YtmbhjhanafmidaaUSZr
import Derived.Test.YtmbhjhanafmidaaUSZq
namespace Go.Proofs.Ytmbhjhanafmidaa.PListSteps
open Go.Proofs.Ytmbhjhanafmidaa.PAw Go.Proofs.Ytmbhjhanafmidaa.Zr Go.Proofs.Ytmbhjhanafmidaa.Zq Go.RowKit Go.Proofs.YtmbhjhanafmidaaW.PrintWords Go.Proofs.YtmbhjhanafmidaaW.PrintLast Go.Proofs.YtmbhjhanafmidaaW.PrintMore
attribute [local go_sem] max2_int min2_int max_two min_two max_three min_three max_four min_four   -- for this text's walks alone
set_option linter.unusedVariables false
set_option linter.unusedSimpArgs false
mutual
def trefoillaw11_ListSteps.j0 : Nat → Bool → List Int → List (S85) → List Int → List Int → List Int → List Int → Option (Bool)
 | 0, _, _, _, _, _, _, _ => none
 | k + 1, x29, x421000, x421001, x422000, x422001, x423000, x423001 => if x29 = true then ((trefoillaw11_awake.f).bind fun t426 => (some t426)) else ((trefoillaw04_Own.f x421000 x421001).bind fun bt427 => ((trefoillaw11_Own.f x422000 x422001).bind fun bt433 => ((list_Fill.f bt427.1 bt427.2 bt433.1 bt433.2).bind fun bt439 => ((trefoillaw04_Own.f x421000 x421001).bind fun bt447 => ((trefoillaw11_Own.f x422000 x422001).bind fun bt453 => ((list_Tick.f bt447.1 bt447.2 bt453.1 bt453.2).bind fun bt459 => ((trefoillaw04_Own.f x421000 x421001).bind fun bt470 => ((trefoillaw11_Own.f x422000 x422001).bind fun bt476 => ((list_Ready.f bt470.1 bt470.2 bt476.1 bt476.2).bind fun t482 => ((trefoilref11_Check.f k x421000 x421001 x422000 x422001).bind fun t485 => ((trefoillaw04_Own.f x421000 x421001).bind fun bt486 => ((trefoillaw11_Own.f x422000 x422001).bind fun bt492 => ((list_Check.f bt486.1 bt486.2 bt492.1 bt492.2).bind fun t498 => (if t498 = t485 then (if bt439.2.2 = t485 then (if bt459.2.2.2 = t485 then ((trefoillaw11_Own.f x422000 x422001).bind fun bt499 => ((trefoillaw11_Own.f x423000 x423001).bind fun bt505 => ((list_Same.f k bt499.1 bt499.2 bt505.1 bt505.2).bind fun t511 => ((trefoilref11_Same.f k x422000 x422001 x423000 x423001).bind fun t512 => (trefoillaw11_ListSteps.j1 k bt459.2.2.1 t482 t485 (t511 != t512) x421000 x421001 x422000 x422001 bt439.1 bt439.2.1 bt459.1 bt459.2.1))))) else (trefoillaw11_ListSteps.j1 k bt459.2.2.1 t482 t485 true x421000 x421001 x422000 x422001 bt439.1 bt439.2.1 bt459.1 bt459.2.1)) else (trefoillaw11_ListSteps.j1 k bt459.2.2.1 t482 t485 true x421000 x421001 x422000 x422001 bt439.1 bt439.2.1 bt459.1 bt459.2.1)) else (trefoillaw11_ListSteps.j1 k bt459.2.2.1 t482 t485 true x421000 x421001 x422000 x422001 bt439.1 bt439.2.1 bt459.1 bt459.2.1)))))))))))))))
def trefoillaw11_ListSteps.j1 : Nat → List Int → List Int → Int → Bool → List Int → List (S85) → List Int → List Int → List Int → List Int → List Int → List Int → Option (Bool)
 | 0, _, _, _, _, _, _, _, _, _, _, _, _ => none
 | k + 1, x10, x12, x13, x83, x421000, x421001, x422000, x422001, x447000, x447001, x470000, x470001 => if x83 = true then (some false) else (if x13 = 0 then ((trefoilref11_Tick.f k x422000 x422001).bind fun bt515 => ((trefoilref11_Fill.f k x421000 x421001 x422000 x422001).bind fun bt525 => ((trefoilref11_Same.f k x447000 x447001 bt525.1 bt525.2).bind fun t531 => (if t531 = true then ((trefoilref11_Same.f k x470000 x470001 bt515.1 bt515.2.1).bind fun t532 => (if t532 = true then ((trefoilref02_Ints.f k x10 bt515.2.2).bind fun t533 => (if t533 = true then ((trefoilref11_Ready.f k x421000 x421001 x422000 x422001).bind fun t534 => ((trefoilref02_Ints.f k x12 t534).bind fun t537 => (some t537))) else (some false))) else (some false))) else (some false))))) else ((trefoilref11_Same.f k x447000 x447001 ([] : List Int) ([] : List Int)).bind fun t513 => (if t513 = true then ((trefoilref11_Same.f k x470000 x470001 ([] : List Int) ([] : List Int)).bind fun t514 => (if t514 = true then (if (x10.length : Int) = 0 then (some ((x12.length : Int) == 0)) else (some false)) else (some false))) else (some false))))
end
def trefoillaw11_ListSteps.f (k : Nat) (l0_0 : List Int) (l0_1 : List (S85)) (l1_0 : List Int) (l1_1 : List Int) (l2_0 : List Int) (l2_1 : List Int) : Option (Bool) := (trefoillaw11_awake.f).bind fun t423 => (if t423 = true then ((trefoillaw11_few.f l0_0 l0_1 l1_0 l1_1).bind fun t424 => (if t424 = true then ((trefoillaw11_few.f l0_0 l0_1 l2_0 l2_1).bind fun t425 => (trefoillaw11_ListSteps.j0 k (!t425) l0_0 l0_1 l1_0 l1_1 l2_0 l2_1)) else (trefoillaw11_ListSteps.j0 k true l0_0 l0_1 l1_0 l1_1 l2_0 l2_1))) else (trefoillaw11_ListSteps.j0 k true l0_0 l0_1 l1_0 l1_1 l2_0 l2_1))
def trefoillaw11_ListSteps.T3 : Bool × List (List Nat × List Nat) := (true, [([], []), ([0], [0]), ([], []), ([2, 1], [2]), ([1, 3, 3], [1, 3]), ([4], [4]), ([5], [5]), ([5], [5]), ([], []), ([8, 6, 4, 0, 1, 2, 3, 4, 5, 6, 8], [6, 8]), ([7, 9, 0, 1, 2, 3, 4, 5, 6, 7, 8, 9], [7])])
def trefoillaw11_ListSteps.B3 : List Nat := [0, 1, 0, 7, 15, 31, 63, 63, 0, 383, 1023]
theorem trefoillaw11_ListSteps.tab3 : rtab .any (opsOf Try.f3 3) = trefoillaw11_ListSteps.T3 := by kernel_rfl
theorem trefoillaw11_ListSteps.bits3 : waitsOk trefoillaw11_ListSteps.T3.2 trefoillaw11_ListSteps.B3 = true := by kernel_rfl
def trefoillaw11_ListSteps.T4 : Bool × List (List Nat × List Nat) := (true, [([], []), ([0], [0]), ([], []), ([2, 1], [2]), ([1, 3, 3], [1, 3]), ([4], [4]), ([5], [5]), ([5], [5]), ([5], [5]), ([], []), ([9, 6, 4, 0, 1, 2, 3, 4, 5, 6, 9], [6, 9]), ([7, 10, 0, 1, 2, 3, 4, 5, 6, 7, 9, 10], [7]), ([8, 11, 0, 1, 2, 3, 4, 5, 6, 7, 8, 9, 10, 11], [8])])
def trefoillaw11_ListSteps.B4 : List Nat := [0, 1, 0, 7, 15, 31, 63, 63, 63, 0, 639, 1791, 4095]
theorem trefoillaw11_ListSteps.tab4 : rtab .any (opsOf Try.f3 4) = trefoillaw11_ListSteps.T4 := by kernel_rfl
theorem trefoillaw11_ListSteps.bits4 : waitsOk trefoillaw11_ListSteps.T4.2 trefoillaw11_ListSteps.B4 = true := by kernel_rfl
def trefoillaw11_ListSteps.T7 : Bool × List (List Nat × List Nat) := (true, [([], []), ([0], [0]), ([], []), ([2, 1], [2]), ([1, 3, 3], [1, 3]), ([], []), ([4, 5], [4, 5]), ([6, 4], [6]), ([7], [7]), ([7], [7]), ([8, 9, 7], [7, 8, 9]), ([7, 10], [7, 10]), ([11, 7], [11]), ([12], [12]), ([12], [12]), ([13, 14, 12], [12, 13, 14]), ([12, 15], [12, 15]), ([16, 12], [16]), ([17], [17]), ([18, 17, 17], [17, 18]), ([17], [17]), ([20, 19, 17], [17, 20]), ([19, 21, 21, 17], [17, 19, 21]), ([17], [17]), ([17], [17]), ([23, 24, 22, 17], [17, 23, 24]), ([22, 25, 17], [17, 22, 25]), ([17, 26], [17, 26])])
def trefoillaw11_ListSteps.B7 : List Nat := [0, 1, 0, 7, 15, 0, 63, 127, 255, 255, 1023, 2047, 4095, 8191, 8191, 32767, 65535, 131071, 262143, 524287, 262143, 2097151, 4194303, 262143, 262143, 33554431, 67108863, 134217727]
theorem trefoillaw11_ListSteps.tab7 : rtab .any (opsOf Try.f3 7) = trefoillaw11_ListSteps.T7 := by kernel_rfl
theorem trefoillaw11_ListSteps.bits7 : waitsOk trefoillaw11_ListSteps.T7.2 trefoillaw11_ListSteps.B7 = true := by kernel_rfl
def trefoillaw11_ListSteps.T12 : Bool × List (List Nat × List Nat) := (true, [([], []), ([], []), ([], []), ([1, 2], [1, 2]), ([0, 3, 3], [0, 3]), ([4, 4], [4]), ([5], [5]), ([5], [5]), ([6, 7, 5, 5], [5, 6, 7]), ([5, 8], [5, 8]), ([9, 8], [9]), ([10], [10]), ([10], [10]), ([11, 12, 10, 10], [10, 11, 12]), ([10, 13], [10, 13]), ([14, 13], [14]), ([15], [15]), ([15], [15]), ([15], [15]), ([17, 18, 15, 15], [15, 17, 18]), ([16, 19, 19, 15], [15, 16, 19]), ([15, 20], [15, 20]), ([21, 20, 0, 1, 2, 3, 4, 5, 6, 7, 8, 9, 10, 11, 12, 13, 14, 15, 16, 17, 18, 19, 20, 21], [21])])
def trefoillaw11_ListSteps.B12 : List Nat := [0, 0, 0, 6, 15, 31, 63, 63, 255, 511, 1023, 2047, 2047, 8191, 16383, 32767, 65535, 65535, 65535, 458751, 1048575, 2097151, 4194303]
theorem trefoillaw11_ListSteps.tab12 : rtab .any (opsOf Try.f3 12) = trefoillaw11_ListSteps.T12 := by kernel_rfl
theorem trefoillaw11_ListSteps.bits12 : waitsOk trefoillaw11_ListSteps.T12.2 trefoillaw11_ListSteps.B12 = true := by kernel_rfl
theorem trefoillaw11_ListSteps.jt {k : Nat} {a0 : List Int} {a1 : List Int} {a2 : Int} {a4 : List Int} {a5 : List (S85)} {a6 : List Int} {a7 : List Int} {a8 : List Int} {a9 : List Int} {a10 : List Int} {a11 : List Int} {r : Bool} (H : trefoillaw11_ListSteps.j1 k a0 a1 a2 true a4 a5 a6 a7 a8 a9 a10 a11 = some r) (hrt : Aside0 (r = true)) : False := by
 cases k with
 | zero => cases H
 | succ k =>
  rw [trefoillaw11_ListSteps.j1, if_pos rfl] at H
  exact nft (ab H hrt)
set_option maxHeartbeats 8000000 in
set_option maxRecDepth 100000 in
theorem trefoillaw11_ListSteps.calls (k : Nat) (A0_0 : Option Addr) (c0_0 : Nat) (l0_0 : List Int) (A0_1 : Option Addr) (c0_1 : Nat) (l0_1 : List (S85)) (A1_0 : Option Addr) (c1_0 : Nat) (l1_0 : List Int) (A1_1 : Option Addr) (c1_1 : Nat) (l1_1 : List Int) (A2_0 : Option Addr) (c2_0 : Nat) (l2_0 : List Int) (A2_1 : Option Addr) (c2_1 : Nat) (l2_1 : List Int) (r : Bool) (w : World) (hr0_0 : Kd.C (Kd.int .i64) w A0_0 l0_0.length l0_0) (hc0_0 : l0_0.length ≤ c0_0) (hr0_1 : Kd.C k85 w A0_1 l0_1.length l0_1) (hc0_1 : l0_1.length ≤ c0_1) (hr1_0 : Kd.C (Kd.int .i64) w A1_0 l1_0.length l1_0) (hc1_0 : l1_0.length ≤ c1_0) (hr1_1 : Kd.C (Kd.int .i64) w A1_1 l1_1.length l1_1) (hc1_1 : l1_1.length ≤ c1_1) (hr2_0 : Kd.C (Kd.int .i64) w A2_0 l2_0.length l2_0) (hc2_0 : l2_0.length ≤ c2_0) (hr2_1 : Kd.C (Kd.int .i64) w A2_1 l2_1.length l2_1) (hc2_1 : l2_1.length ≤ c2_1) (h : trefoillaw11_ListSteps.f k l0_0 l0_1 l1_0 l1_1 l2_0 l2_1 = some r) (hrt0 : r = true) :
  Calls Try.prog 3 #[.agg #[.slice A0_0 l0_0.length c0_0, .slice A0_1 l0_1.length c0_1], .agg #[.slice A1_0 l1_0.length c1_0, .slice A1_1 l1_1.length c1_1], .agg #[.slice A2_0 l2_0.length c2_0, .slice A2_1 l2_1.length c2_1]] w fun e w' => e = .returned (.bool r) ∧ Below w.heap.size w w' := by
 have hrt := Z0 hrt0
 clear hrt0
 have hu25 := Try.underlying25
 have hu27 := Try.underlying27
 have HR0_0 := Z0 hr0_0
 have HC0_0 := Z0 hc0_0
 clear hr0_0 hc0_0
 have HR0_1 := Z0 hr0_1
 have HC0_1 := Z0 hc0_1
 clear hr0_1 hc0_1
 have HR1_0 := Z0 hr1_0
 have HC1_0 := Z0 hc1_0
 clear hr1_0 hc1_0
 have HR1_1 := Z0 hr1_1
 have HC1_1 := Z0 hc1_1
 clear hr1_1 hc1_1
 have HR2_0 := Z0 hr2_0
 have HC2_0 := Z0 hc2_0
 clear hr2_0 hc2_0
 have HR2_1 := Z0 hr2_1
 have HC2_1 := Z0 hc2_1
 clear hr2_1 hc2_1
 have HB := Z0 (Below.refl w.heap.size w)
 have H : ((trefoillaw11_awake.f).bind fun t423 => (if t423 = true then ((trefoillaw11_few.f l0_0 l0_1 l1_0 l1_1).bind fun t424 => (if t424 = true then ((trefoillaw11_few.f l0_0 l0_1 l2_0 l2_1).bind fun t425 => (trefoillaw11_ListSteps.j0 k (!t425) l0_0 l0_1 l1_0 l1_1 l2_0 l2_1)) else (trefoillaw11_ListSteps.j0 k true l0_0 l0_1 l1_0 l1_1 l2_0 l2_1))) else (trefoillaw11_ListSteps.j0 k true l0_0 l0_1 l1_0 l1_1 l2_0 l2_1))) = some r := h
 clear h
 have HC4 := Z0 H
 clear H
 go_enter Try.func3, Try.ntmps3
 go_upto_region 1 with (first | ((with_reducible refine gate_dst (N := 3) rfl ?_); (try (refine gate_guard (by rfl) ?_; dsimp only)); refine zx (N := 3) #[.slice A0_0 l0_0.length c0_0, .slice A0_1 l0_1.length c0_1] 25 ?_; intro gb420 hg w5 hbox hb; have BK420 := Z0 (hbox); have GW420 := Z0 (zh w hg HB); have GE420 := Z0 (zh w hg HB); replace HB := Z0 (below_step (zb HB) hb); clear hb hbox hg) | ((with_reducible refine gate_dst (N := 4) rfl ?_); (try (refine gate_guard (by rfl) ?_; dsimp only)); refine zx (N := 4) #[.slice A1_0 l1_0.length c1_0, .slice A1_1 l1_1.length c1_1] 27 ?_; intro gb421 hg w6 hbox hb; have BK421 := Z0 (hbox); have GW421 := Z0 (zh w hg HB); have GE421 := Z0 (zh w hg HB); replace HB := Z0 (below_step (zb HB) hb); have NB420_421 := Z0 (zl hg BK420); have NB421_420 := Z0 (zu hg BK420); replace BK420 := Z0 (zkb BK420 hb); clear hb hbox hg) | ((with_reducible refine gate_dst (N := 5) rfl ?_); (try (refine gate_guard (by rfl) ?_; dsimp only)); refine zx (N := 5) #[.slice A2_0 l2_0.length c2_0, .slice A2_1 l2_1.length c2_1] 27 ?_; intro gb422 hg w7 hbox hb; have BK422 := Z0 (hbox); have GW422 := Z0 (zh w hg HB); have GE422 := Z0 (zh w hg HB); replace HB := Z0 (below_step (zb HB) hb); have NB420_422 := Z0 (zl hg BK420); have NB422_420 := Z0 (zu hg BK420); replace BK420 := Z0 (zkb BK420 hb); have NB421_422 := Z0 (zl hg BK421); have NB422_421 := Z0 (zu hg BK421); replace BK421 := Z0 (zkb BK421 hb); clear hb hbox hg))
 (try simp only [Act.put, y0, y1, y2])
 go_cut [29] (fun v29 wc => ∃ (kq : Nat) (x29_3 : Bool), v29 = .bool x29_3 ∧ Aside0 (trefoillaw11_ListSteps.j0 kq x29_3 l0_0 l0_1 l1_0 l1_1 l2_0 l2_1 = some r) ∧ Aside0 (kq ≤ k) ∧ Aside0 (wc.heap[gb420]? = some (.cells #[(.slice A0_0 l0_0.length c0_0), (.slice A0_1 l0_1.length c0_1)] 25 (0, 0))) ∧ Aside0 (wc.heap[gb421]? = some (.cells #[(.slice A1_0 l1_0.length c1_0), (.slice A1_1 l1_1.length c1_1)] 27 (0, 0))) ∧ Aside0 (wc.heap[gb422]? = some (.cells #[(.slice A2_0 l2_0.length c2_0), (.slice A2_1 l2_1.length c2_1)] 27 (0, 0))) ∧ Aside0 (Below w.heap.size w wc))
 case first =>
  have H := HC4.out
  clear HC4
  replace H := Option.bind_eq_some_iff.mp H
  obtain ⟨t423, A80, H⟩ := H
  have A8 := Z0 A80
  clear A80
  by_cases c9 : t423 = true
  rotate_left
  ·replace c9 := Bool.eq_false_iff.mpr c9
   subst c9
   rw [if_neg nft] at H
   have H' := Z0 H
   clear H
   go_wp2_with (first | ((with_reducible refine gate_callee (f := 9) rfl ?_); refine goesL_ (some 16) rfl rfl Try.func9 (by kernel_rfl) rfl #[] rfl (by (try simp only [List.map_toArray, List.map_cons, List.map_nil]); first | done | rfl | (simp only [List.length_drop, List.length_take]; rfl)) ?_; (with_reducible refine (trefoillaw11_awake.calls  false _ A8.out).mono ?_); rintro e w30 ⟨rfl, hb⟩; refine ⟨_, rfl, ?_⟩; replace BK420 := Z0 (zkb BK420 hb); replace BK421 := Z0 (zkb BK421 hb); replace BK422 := Z0 (zkb BK422 hb); replace HB := Z0 (below_step (zb HB) hb); (try clear hb); (try clear hb2); (try clear hk); (try clear hi)))
   go_meet
   case rel => exact ⟨_, (true), zs, H', ⟨by first | omega | exact Nat.le_refl _⟩, ⟨zk BK420⟩, ⟨zk BK421⟩, ⟨zk BK422⟩, ⟨zb HB⟩⟩
  subst c9
  rw [if_pos rfl] at H
  replace H := Option.bind_eq_some_iff.mp H
  obtain ⟨t424, A100, H⟩ := H
  have A10 := Z0 A100
  clear A100
  by_cases c11 : t424 = true
  rotate_left
  ·replace c11 := Bool.eq_false_iff.mpr c11
   subst c11
   rw [if_neg nft] at H
   have H' := Z0 H
   clear H
   go_wp2_with (first | ((with_reducible refine gate_callee (f := 9) rfl ?_); refine goesL_ (some 16) rfl rfl Try.func9 (by kernel_rfl) rfl #[] rfl (by (try simp only [List.map_toArray, List.map_cons, List.map_nil]); first | done | rfl | (simp only [List.length_drop, List.length_take]; rfl)) ?_; (with_reducible refine (trefoillaw11_awake.calls  true _ A8.out).mono ?_); rintro e w23 ⟨rfl, hb⟩; refine ⟨_, rfl, ?_⟩; replace BK420 := Z0 (zkb BK420 hb); replace BK421 := Z0 (zkb BK421 hb); replace BK422 := Z0 (zkb BK422 hb); replace HB := Z0 (below_step (zb HB) hb); (try clear hb); (try clear hb2); (try clear hk); (try clear hi); have hnb24 := NB420_421.out; have hnc24 := NB421_420.out; have hnb25 := NB420_422.out; have hnc25 := NB422_420.out; have hcz26_0 := kz0 BK420; have hcz26_1 := kz1 BK420; have hfz26_0 := blk_frozen BK420.out 0; have hfz26_1 := blk_frozen BK420.out 1; have hnb27 := NB421_422.out; have hnc27 := NB422_421.out; have hcz28_0 := kz0 BK421; have hcz28_1 := kz1 BK421; have hfz28_0 := blk_frozen BK421.out 0; have hfz28_1 := blk_frozen BK421.out 1) | (go_at_call 10; (with_reducible refine (trefoillaw11_few.calls _ _ l0_0 _ _ l0_1 _ _ l1_0 _ _ l1_1 false _ ?side1 ?side2 ?side3 ?side4 ?side5 ?side6 ?side7 ?side8 A10.out).mono ?_); (case side1 => exact zc (Kd.C_below HR0_0.out HB.out)); (case side2 => exact HC0_0.out); (case side3 => exact zc (Kd.C_below HR0_1.out HB.out)); (case side4 => exact HC0_1.out); (case side5 => exact zc (Kd.C_below HR1_0.out HB.out)); (case side6 => exact HC1_0.out); (case side7 => exact zc (Kd.C_below HR1_1.out HB.out)); (case side8 => exact HC1_1.out); rintro e w29 ⟨rfl, hb⟩; replace BK420 := Z0 (zkb BK420 hb); replace BK421 := Z0 (zkb BK421 hb); replace BK422 := Z0 (zkb BK422 hb); replace HB := Z0 (below_step (zb HB) hb); (try clear hb); (try clear hb2); (try clear hk); (try clear hi)))
   go_meet
   case rel => exact ⟨_, (true), zs, H', ⟨by first | omega | exact Nat.le_refl _⟩, ⟨zk BK420⟩, ⟨zk BK421⟩, ⟨zk BK422⟩, ⟨zb HB⟩⟩
  subst c11
  rw [if_pos rfl] at H
  replace H := Option.bind_eq_some_iff.mp H
  obtain ⟨t425, A120, H⟩ := H
  have A12 := Z0 A120
  clear A120
  have H' := Z0 H
  clear H
  go_wp2_with (first | ((with_reducible refine gate_callee (f := 9) rfl ?_); refine goesL_ (some 16) rfl rfl Try.func9 (by kernel_rfl) rfl #[] rfl (by (try simp only [List.map_toArray, List.map_cons, List.map_nil]); first | done | rfl | (simp only [List.length_drop, List.length_take]; rfl)) ?_; (with_reducible refine (trefoillaw11_awake.calls  true _ A8.out).mono ?_); rintro e w13 ⟨rfl, hb⟩; refine ⟨_, rfl, ?_⟩; replace BK420 := Z0 (zkb BK420 hb); replace BK421 := Z0 (zkb BK421 hb); replace BK422 := Z0 (zkb BK422 hb); replace HB := Z0 (below_step (zb HB) hb); (try clear hb); (try clear hb2); (try clear hk); (try clear hi); have hnb14 := NB420_421.out; have hnc14 := NB421_420.out; have hnb15 := NB420_422.out; have hnc15 := NB422_420.out; have hcz16_0 := kz0 BK420; have hcz16_1 := kz1 BK420; have hfz16_0 := blk_frozen BK420.out 0; have hfz16_1 := blk_frozen BK420.out 1; have hnb17 := NB421_422.out; have hnc17 := NB422_421.out; have hcz18_0 := kz0 BK421; have hcz18_1 := kz1 BK421; have hfz18_0 := blk_frozen BK421.out 0; have hfz18_1 := blk_frozen BK421.out 1) | (go_at_call 10; (with_reducible refine (trefoillaw11_few.calls _ _ l0_0 _ _ l0_1 _ _ l1_0 _ _ l1_1 true _ ?side1 ?side2 ?side3 ?side4 ?side5 ?side6 ?side7 ?side8 A10.out).mono ?_); (case side1 => exact zc (Kd.C_below HR0_0.out HB.out)); (case side2 => exact HC0_0.out); (case side3 => exact zc (Kd.C_below HR0_1.out HB.out)); (case side4 => exact HC0_1.out); (case side5 => exact zc (Kd.C_below HR1_0.out HB.out)); (case side6 => exact HC1_0.out); (case side7 => exact zc (Kd.C_below HR1_1.out HB.out)); (case side8 => exact HC1_1.out); rintro e w19 ⟨rfl, hb⟩; replace BK420 := Z0 (zkb BK420 hb); replace BK421 := Z0 (zkb BK421 hb); replace BK422 := Z0 (zkb BK422 hb); replace HB := Z0 (below_step (zb HB) hb); (try clear hb); (try clear hb2); (try clear hk); (try clear hi); have hcz20_0 := kz0 BK420; have hcz20_1 := kz1 BK420; have hfz20_0 := blk_frozen BK420.out 0; have hfz20_1 := blk_frozen BK420.out 1; have hcz21_0 := kz0 BK422; have hcz21_1 := kz1 BK422; have hfz21_0 := blk_frozen BK422.out 0; have hfz21_1 := blk_frozen BK422.out 1) | (go_at_call 10; (with_reducible refine (trefoillaw11_few.calls _ _ l0_0 _ _ l0_1 _ _ l2_0 _ _ l2_1 t425 _ ?side1 ?side2 ?side3 ?side4 ?side5 ?side6 ?side7 ?side8 A12.out).mono ?_); (case side1 => exact zc (Kd.C_below HR0_0.out HB.out)); (case side2 => exact HC0_0.out); (case side3 => exact zc (Kd.C_below HR0_1.out HB.out)); (case side4 => exact HC0_1.out); (case side5 => exact zc (Kd.C_below HR2_0.out HB.out)); (case side6 => exact HC2_0.out); (case side7 => exact zc (Kd.C_below HR2_1.out HB.out)); (case side8 => exact HC2_1.out); rintro e w22 ⟨rfl, hb⟩; replace BK420 := Z0 (zkb BK420 hb); replace BK421 := Z0 (zkb BK421 hb); replace BK422 := Z0 (zkb BK422 hb); replace HB := Z0 (below_step (zb HB) hb); (try clear hb); (try clear hb2); (try clear hk); (try clear hi)))
  go_meet
  case rel => exact ⟨_, (!t425), zs, H', ⟨by first | omega | exact Nat.le_refl _⟩, ⟨zk BK420⟩, ⟨zk BK421⟩, ⟨zk BK422⟩, ⟨zb HB⟩⟩
 case rest =>
  clear HC4
  try clear c1
  try clear c2
  try clear p2
  try clear c3
  try clear c9
  try clear c11
  try clear c14
  try clear c15
  try clear c17
  try clear c24
  try clear c25
  try clear c27
  try clear hcz16_0
  try clear hcz16_1
  try clear hcz18_0
  try clear hcz18_1
  try clear hcz20_0
  try clear hcz20_1
  try clear hcz21_0
  try clear hcz21_1
  try clear hcz26_0
  try clear hcz26_1
  try clear hcz28_0
  try clear hcz28_1
  try clear hfz16_0
  try clear hfz16_1
  try clear hfz18_0
  try clear hfz18_1
  try clear hfz20_0
  try clear hfz20_1
  try clear hfz21_0
  try clear hfz21_1
  try clear hfz26_0
  try clear hfz26_1
  try clear hfz28_0
  try clear hfz28_1
  obtain ⟨kq, x29_3, rfl, HA, HJ3, BK420, BK421, BK422, HB⟩ := hcut
  cases kq with
  | zero => exact absurd HA.out (by simp [trefoillaw11_ListSteps.j0])
  | succ kj3 =>
   have H := HA.out
   clear HA
   simp only [trefoillaw11_ListSteps.j0] at H
   by_cases c31 : x29_3 = true
   ·subst c31
    rw [if_pos rfl] at H
    replace H := Option.bind_eq_some_iff.mp H
    obtain ⟨t426, A320, H⟩ := H
    have A32 := Z0 A320
    clear A320
    obtain rfl := Option.some.inj H
    go_wp2_with (first | ((with_reducible refine gate_callee (f := 9) rfl ?_); refine goesL_ (some 30) rfl rfl Try.func9 (by kernel_rfl) rfl #[] rfl (by (try simp only [List.map_toArray, List.map_cons, List.map_nil]); first | done | rfl | (simp only [List.length_drop, List.length_take]; rfl)) ?_; (with_reducible refine (trefoillaw11_awake.calls  t426 _ A32.out).mono ?_); rintro e w33 ⟨rfl, hb⟩; refine ⟨_, rfl, ?_⟩; replace BK420 := Z0 (zkb BK420 hb); replace BK421 := Z0 (zkb BK421 hb); replace BK422 := Z0 (zkb BK422 hb); replace HB := Z0 (below_step (zb HB) hb); (try clear hb); (try clear hb2); (try clear hk); (try clear hi)))
    go_ret
    exact ⟨ze, zb HB⟩
   ·replace c31 := Bool.eq_false_iff.mpr c31
    subst c31
    rw [if_neg nft] at H
    replace H := Option.bind_eq_some_iff.mp H
    obtain ⟨⟨t427, t430⟩, A340, H⟩ := H
    dsimp only at H
    have A34 := Z0 A340
    clear A340
    replace H := Option.bind_eq_some_iff.mp H
    obtain ⟨⟨t433, t436⟩, A350, H⟩ := H
    dsimp only at H
    have A35 := Z0 A350
    clear A350
    replace H := Option.bind_eq_some_iff.mp H
    obtain ⟨⟨t439, t442, t445⟩, A360, H⟩ := H
    dsimp only at H
    have A36 := Z0 A360
    clear A360
    replace H := Option.bind_eq_some_iff.mp H
    obtain ⟨⟨t447, t450⟩, A370, H⟩ := H
    dsimp only at H
    have A37 := Z0 A370
    clear A370
    replace H := Option.bind_eq_some_iff.mp H
    obtain ⟨⟨t453, t456⟩, A380, H⟩ := H
    dsimp only at H
    have A38 := Z0 A380
    clear A380
    replace H := Option.bind_eq_some_iff.mp H
    obtain ⟨⟨t459, t462, t465, t468⟩, A390, H⟩ := H
    dsimp only at H
    have A39 := Z0 A390
    clear A390
    replace H := Option.bind_eq_some_iff.mp H
    obtain ⟨⟨t470, t473⟩, A400, H⟩ := H
    dsimp only at H
    have A40 := Z0 A400
    clear A400
    replace H := Option.bind_eq_some_iff.mp H
    obtain ⟨⟨t476, t479⟩, A410, H⟩ := H
    dsimp only at H
    have A41 := Z0 A410
    clear A410
    replace H := Option.bind_eq_some_iff.mp H
    obtain ⟨t482, A420, H⟩ := H
    have A42 := Z0 A420
    clear A420
    replace H := Option.bind_eq_some_iff.mp H
    obtain ⟨t485, A430, H⟩ := H
    have A43 := Z0 A430
    clear A430
    have HC44 := Z0 H
    clear H
    try go_wp2
    replace BK420 := Z0 (kd_ BK420.out)
    replace BK421 := Z0 (kd_ BK421.out)
    replace BK422 := Z0 (kd_ BK422.out)
    replace HB := Z0 (wd HB.out)
    as_aux_lemma =>
    refine start_ (n := 11) (S := fun w' => w'.cell? ⟨gb420, 0, none⟩ = some (.slice A0_0 l0_0.length c0_0) ∧ w'.cell? ⟨gb420, 1, none⟩ = some (.slice A0_1 l0_1.length c0_1) ∧ w'.cell? ⟨gb421, 0, none⟩ = some (.slice A1_0 l1_0.length c1_0) ∧ w'.cell? ⟨gb421, 1, none⟩ = some (.slice A1_1 l1_1.length c1_1)) (ds := []) (bz 11 0) (by kernel_rfl) rfl rfl ⟨kz0 BK420, kz1 BK420, kz0 BK421, kz1 BK421⟩ (fun hHeld => ?_); refine with_tabW trefoillaw11_ListSteps.tab3 trefoillaw11_ListSteps.bits3 (fun HT_ HW_ => ?_)
    generalize wc.drew = w45 at BK420 BK421 BK422 HB hHeld ⊢
    refine tk4 0 (some 32) (bz 11 1) HT_ HW_ hHeld ?_
    refine tk4 2 (some 34) (bz 11 5) HT_ HW_ hHeld ?_
    refine join_ (σ := Value × Value × Value × Value × Value × Value × Nat) 2 (bz 11 511) (fun s_ => [(33, .agg #[s_.1, s_.2.1]), (35, .agg #[s_.2.2.1, s_.2.2.2.1]), (36, .tuple #[.agg #[s_.2.2.2.2.1, s_.2.2.2.2.2.1], .int .i64 t445]), (7, .pointer (some ⟨s_.2.2.2.2.2.2, 0, none⟩)), (31, .tuple #[.agg #[s_.2.2.2.2.1, s_.2.2.2.2.2.1], .int .i64 t445]), (37, .agg #[s_.2.2.2.2.1, s_.2.2.2.2.2.1]), (38, .int .i64 t445)]) (fun s_ w' => (w'.cell? ⟨gb420, 0, none⟩ = some (.slice A0_0 l0_0.length c0_0) ∧ w'.cell? ⟨gb420, 1, none⟩ = some (.slice A0_1 l0_1.length c0_1) ∧ w'.cell? ⟨gb421, 0, none⟩ = some (.slice A1_0 l1_0.length c1_0) ∧ w'.cell? ⟨gb421, 1, none⟩ = some (.slice A1_1 l1_1.length c1_1)) ∧ (Kd.R (Kd.int .i64) 3 w' w.heap.size (fun k_ => some k_ ≠ (s_.2.2.1 : Value).ownBlock ∧ some k_ ≠ (s_.2.2.2.1 : Value).ownBlock ∧ some k_ ≠ (s_.2.2.2.2.1 : Value).ownBlock ∧ some k_ ≠ (s_.2.2.2.2.2.1 : Value).ownBlock) s_.1 t427) ∧ (Kd.R k85 85 w' w.heap.size (fun _ => True) s_.2.1 t430) ∧ (Kd.R (Kd.int .i64) 3 w' w.heap.size (fun k_ => some k_ ≠ (s_.1 : Value).ownBlock ∧ some k_ ≠ (s_.2.2.2.1 : Value).ownBlock ∧ some k_ ≠ (s_.2.2.2.2.1 : Value).ownBlock ∧ some k_ ≠ (s_.2.2.2.2.2.1 : Value).ownBlock) s_.2.2.1 t433) ∧ (Kd.R (Kd.int .i64) 3 w' w.heap.size (fun k_ => some k_ ≠ (s_.1 : Value).ownBlock ∧ some k_ ≠ (s_.2.2.1 : Value).ownBlock ∧ some k_ ≠ (s_.2.2.2.2.1 : Value).ownBlock ∧ some k_ ≠ (s_.2.2.2.2.2.1 : Value).ownBlock) s_.2.2.2.1 t436) ∧ (Kd.R (Kd.int .i64) 3 w' w.heap.size (fun k_ => some k_ ≠ (s_.1 : Value).ownBlock ∧ some k_ ≠ (s_.2.2.1 : Value).ownBlock ∧ some k_ ≠ (s_.2.2.2.1 : Value).ownBlock ∧ some k_ ≠ (s_.2.2.2.2.2.1 : Value).ownBlock) s_.2.2.2.2.1 t439) ∧ (Kd.R (Kd.int .i64) 3 w' w.heap.size (fun k_ => some k_ ≠ (s_.1 : Value).ownBlock ∧ some k_ ≠ (s_.2.2.1 : Value).ownBlock ∧ some k_ ≠ (s_.2.2.2.1 : Value).ownBlock ∧ some k_ ≠ (s_.2.2.2.2.1 : Value).ownBlock) s_.2.2.2.2.2.1 t442) ∧ (w'.heap[gb420]? = some (.cells #[.slice A0_0 l0_0.length c0_0, .slice A0_1 l0_1.length c0_1] 25 (0, 0))) ∧ (w'.heap[gb421]? = some (.cells #[.slice A1_0 l1_0.length c1_0, .slice A1_1 l1_1.length c1_1] 27 (0, 0))) ∧ (w'.heap[gb422]? = some (.cells #[.slice A2_0 l2_0.length c2_0, .slice A2_1 l2_1.length c2_1] 27 (0, 0))) ∧ (w'.heap[s_.2.2.2.2.2.2]? = some (.cells #[.slice none 0 0, .slice none 0 0] 27 (0, 0))) ∧ (w.heap.size ≤ s_.2.2.2.2.2.2) ∧ (w.heap.size ≤ s_.2.2.2.2.2.2) ∧ (gb420 ≠ s_.2.2.2.2.2.2) ∧ (s_.2.2.2.2.2.2 ≠ gb420) ∧ (gb421 ≠ s_.2.2.2.2.2.2) ∧ (s_.2.2.2.2.2.2 ≠ gb421) ∧ (gb422 ≠ s_.2.2.2.2.2.2) ∧ (s_.2.2.2.2.2.2 ≠ gb422) ∧ (Below w.heap.size w w')) ?_ ?_
    rotate_left
    ·intro hCont
     refine two_ (i := 1) (j := 8) (Ni := some 33) (Nj := some 7) (bz 11 7) (bz 11 261) rfl rfl rfl rfl (two_of HT_.out (by kernel_rfl)) (by decide) (by decide) (fun K hK => ?_) (fun K hK => ?_)
     ·skip
      refine zg Try.func12 #[.agg #[.slice A0_0 l0_0.length c0_0, .slice A0_1 l0_1.length c0_1]] ?_
      with_reducible refine (trefoillaw04_Own.calls _ _ l0_0 _ _ l0_1 t427 t430 _ ?side1 ?side2 ?side3 ?side4 A34.out).mono ?_
      (case side1 => exact zc (Kd.C_below HR0_0.out HB.out))
      (case side2 => exact HC0_0.out)
      (case side3 => exact zc (Kd.C_below HR0_1.out HB.out))
      (case side4 => exact HC0_1.out)
      rintro e w46 ⟨v428, v431, rfl, ho0, ho1, hb⟩
      refine ⟨_, rfl, ?_⟩
      have HO429 := Z0 (rl ho0 (below_size (zb HB)))
      have HO432 := Z0 (rl ho1 (below_size (zb HB)))
      replace BK420 := Z0 (zkb BK420 hb)
      replace BK421 := Z0 (zkb BK421 hb)
      replace BK422 := Z0 (zkb BK422 hb)
      replace HB := Z0 (below_step (zb HB) hb)
      (try clear hb)
      (try clear hb2)
      (try clear hk)
      (try clear hi)
      (try clear ho0)
      (try clear ho1)
      refine hK.out _ _ ⟨kz0 BK420, kz1 BK420, kz0 BK421, kz1 BK421⟩ (fun hHeld => ?_)
      clear hK K
      refine norm_ (a' := ?_) ?_ ?_
      rotate_left
      ·show Act.put _ (some 33) _ = _
       simp only [Act.put, y0, y1, y2, i64_w, i32_w]
       rfl
      refine two_ (i := 3) (j := 8) (Ni := some 35) (Nj := some 7) (bz 11 15) (bz 11 263) rfl rfl rfl rfl (two_of HT_.out (by kernel_rfl)) (by decide) (by decide) (fun K hK => ?_) (fun K hK => ?_)
      ·skip
       refine zg Try.func13 #[.agg #[.slice A1_0 l1_0.length c1_0, .slice A1_1 l1_1.length c1_1]] ?_
       with_reducible refine (trefoillaw11_Own.calls _ _ l1_0 _ _ l1_1 t433 t436 _ ?side1 ?side2 ?side3 ?side4 A35.out).mono ?_
       (case side1 => exact zc (Kd.C_below HR1_0.out HB.out))
       (case side2 => exact HC1_0.out)
       (case side3 => exact zc (Kd.C_below HR1_1.out HB.out))
       (case side4 => exact HC1_1.out)
       rintro e w47 ⟨v434, v437, rfl, ho0, ho1, hb⟩
       refine ⟨_, rfl, ?_⟩
       replace HO432 := Z0 (rbe (zr HO432) hb)
       have HO435 := Z0 (rl (rw_ ho0 (rlt (zr HO429))) (below_size (zb HB)))
       have HO438 := Z0 (rl (rw_ ho1 (rlt (zr HO429))) (below_size (zb HB)))
       replace HO429 := Z0 (rmt HO429 hb ho0 ho1)
       replace BK420 := Z0 (zkb BK420 hb)
       replace BK421 := Z0 (zkb BK421 hb)
       replace BK422 := Z0 (zkb BK422 hb)
       replace HB := Z0 (below_step (zb HB) hb)
       (try clear hb)
       (try clear hb2)
       (try clear hk)
       (try clear hi)
       (try clear ho0)
       (try clear ho1)
       obtain ⟨Ao48, co48, eo48⟩ := Kd.R_slice HO429.out
       subst eo48
       obtain ⟨Ao49, co49, eo49⟩ := Kd.R_slice HO432.out
       subst eo49
       obtain ⟨Ao50, co50, eo50⟩ := Kd.R_slice HO435.out
       subst eo50
       obtain ⟨Ao51, co51, eo51⟩ := Kd.R_slice HO438.out
       subst eo51
       refine hK.out _ _ ⟨kz0 BK420, kz1 BK420, kz0 BK421, kz1 BK421⟩ (fun hHeld => ?_)
       clear hK K
       refine norm_ (a' := ?_) ?_ ?_
       rotate_left
       ·show Act.put _ (some 35) _ = _
        simp only [Act.put, y0, y1, y2, i64_w, i32_w]
        rfl
       refine two_ (i := 4) (j := 8) (Ni := some 36) (Nj := some 7) (bz 11 31) (bz 11 271) rfl rfl rfl rfl (two_of HT_.out (by kernel_rfl)) (by decide) (by decide) (fun K hK => ?_) (fun K hK => ?_)
       ·skip
        refine zg Try.func11 #[.agg #[.slice Ao48 t427.length co48, .slice Ao49 t430.length co49], .agg #[.slice Ao50 t433.length co50, .slice Ao51 t436.length co51]] ?_
        with_reducible refine (list_Fill.calls _ _ t427 _ _ t430 _ _ t433 _ _ t436 t439 t442 t445 _ ?side1 ?side2 ?side3 ?side4 ?side5 ?side6 ?side7 ?side8 A36.out).mono ?_
        (case side1 => exact zc (rr HO429.out).2.2)
        (case side2 => exact (rr HO429.out).2.1)
        (case side3 => exact zc (rr HO432.out).2.2)
        (case side4 => exact (rr HO432.out).2.1)
        (case side5 => exact zc (rr HO435.out).2.2)
        (case side6 => exact (rr HO435.out).2.1)
        (case side7 => exact zc (rr HO438.out).2.2)
        (case side8 => exact (rr HO438.out).2.1)
        rintro e w52 ⟨v440, v443, rfl, ho0, ho1, hb⟩
        refine ⟨_, rfl, ?_⟩
        replace HO432 := Z0 (rbe (zr HO432) hb)
        have HO441 := Z0 (rl (rw_ (rw_ (rw_ ho0 (rlt (zr HO429))) (rlt (zr HO435))) (rlt (zr HO438))) (below_size (zb HB)))
        have HO444 := Z0 (rl (rw_ (rw_ (rw_ ho1 (rlt (zr HO429))) (rlt (zr HO435))) (rlt (zr HO438))) (below_size (zb HB)))
        replace HO429 := Z0 (rmt HO429 hb ho0 ho1)
        replace HO435 := Z0 (rmt HO435 hb ho0 ho1)
        replace HO438 := Z0 (rmt HO438 hb ho0 ho1)
        replace BK420 := Z0 (zkb BK420 hb)
        replace BK421 := Z0 (zkb BK421 hb)
        replace BK422 := Z0 (zkb BK422 hb)
        replace HB := Z0 (below_step (zb HB) hb)
        (try clear hb)
        (try clear hb2)
        (try clear hk)
        (try clear hi)
        (try clear ho0)
        (try clear ho1)
        refine hK.out _ _ ⟨kz0 BK420, kz1 BK420, kz0 BK421, kz1 BK421⟩ (fun hHeld => ?_)
        clear hK K
        refine norm_ (a' := ?_) ?_ ?_
        rotate_left
        ·show Act.put _ (some 36) _ = _
         simp only [Act.put, y0, y1, y2, i64_w, i32_w]
         rfl
        refine pu 5 (some 31) (bz 11 63) HT_ ?_
        refine pu 6 (some 37) (bz 11 127) HT_ ?_
        refine pu 7 (some 38) (bz 11 255) HT_ ?_
        refine one_ (i := 8) (N := some 7) (bz 11 511) rfl rfl (one_of HT_.out (by kernel_rfl)) (by decide) (fun K hK => ?_)
        refine box_step ?hg (N := 7) ?hd (cs := #[.slice none 0 0, .slice none 0 0]) (t := 27) ?hr ?_; (case hd => rfl); (case hg => rfl); (case hr => first | (go_simp; done) | (go_simp; rfl))
        intro gb446 hg w53 hbox hb
        replace HO429 := Z0 (rbe (zr HO429) hb)
        replace HO432 := Z0 (rbe (zr HO432) hb)
        replace HO435 := Z0 (rbe (zr HO435) hb)
        replace HO438 := Z0 (rbe (zr HO438) hb)
        replace HO441 := Z0 (rbe (zr HO441) hb)
        replace HO444 := Z0 (rbe (zr HO444) hb)
        have BK446 := Z0 (hbox)
        have GW446 := Z0 (zh w hg HB)
        have GE446 := Z0 (zh w hg HB)
        replace HB := Z0 (below_step (zb HB) hb)
        have NB420_446 := Z0 (zl hg BK420)
        have NB446_420 := Z0 (zu hg BK420)
        replace BK420 := Z0 (zkb BK420 hb)
        have NB421_446 := Z0 (zl hg BK421)
        have NB446_421 := Z0 (zu hg BK421)
        replace BK421 := Z0 (zkb BK421 hb)
        have NB422_446 := Z0 (zl hg BK422)
        have NB446_422 := Z0 (zu hg BK422)
        replace BK422 := Z0 (zkb BK422 hb)
        clear hb hbox hg
        refine hK.out _ _ ⟨kz0 BK420, kz1 BK420, kz0 BK421, kz1 BK421⟩ (fun hHeld => ?_)
        clear hK K
        refine norm_ (a' := ?_) ?_ ?_
        rotate_left
        ·show Act.put _ (some 7) _ = _
         simp only [Act.put, y0, y1, y2, i64_w, i32_w]
         rfl
        exact norm_ (by simp only [putAll, Act.put, y0, y1, y2]) (hCont (.slice Ao48 t427.length co48, .slice Ao49 t430.length co49, .slice Ao50 t433.length co50, .slice Ao51 t436.length co51, v440, v443, gb446) _ ⟨hHeld, (by (with_reducible repeat (first | apply ra | apply rn | apply rd_)); exact rm HO429.out (fun _ hk => ⟨hk.1.1.1.2, ⟨hk.1.1.2, ⟨hk.1.2, hk.2⟩⟩⟩)), (zr HO432), (by (with_reducible repeat (first | apply ra | apply rn | apply rd_)); exact rm HO435.out (fun _ hk => ⟨hk.1.1.2, ⟨hk.1.1.1, ⟨hk.1.2, hk.2⟩⟩⟩)), (by (with_reducible repeat (first | apply ra | apply rn | apply rd_)); exact rm HO438.out (fun _ hk => ⟨hk.1.1.2, ⟨hk.1.1.1, ⟨hk.1.2, hk.2⟩⟩⟩)), (by (with_reducible repeat (first | apply ra | apply rn | apply rd_)); exact rm HO441.out (fun _ hk => ⟨hk.1.1.2, ⟨hk.1.2, ⟨hk.2, hk.1.1.1⟩⟩⟩)), (by (with_reducible repeat (first | apply ra | apply rn | apply rd_)); exact rm HO444.out (fun _ hk => ⟨hk.1.1.2, ⟨hk.1.2, ⟨hk.2, hk.1.1.1⟩⟩⟩)), (zk BK420), (zk BK421), (zk BK422), (zk BK446), GW446.out, GE446.out, NB420_446.out, NB446_420.out, NB421_446.out, NB446_421.out, NB422_446.out, NB446_422.out, (zb HB)⟩)
       ·skip
        refine box_step ?hg (N := 7) ?hd (cs := #[.slice none 0 0, .slice none 0 0]) (t := 27) ?hr ?_; (case hd => rfl); (case hg => rfl); (case hr => first | (go_simp; done) | (go_simp; rfl))
        intro gb446 hg w48 hbox hb
        replace HO429 := Z0 (rbe (zr HO429) hb)
        replace HO432 := Z0 (rbe (zr HO432) hb)
        replace HO435 := Z0 (rbe (zr HO435) hb)
        replace HO438 := Z0 (rbe (zr HO438) hb)
        have BK446 := Z0 (hbox)
        have GW446 := Z0 (zh w hg HB)
        have GE446 := Z0 (zh w hg HB)
        replace HB := Z0 (below_step (zb HB) hb)
        have NB420_446 := Z0 (zl hg BK420)
        have NB446_420 := Z0 (zu hg BK420)
        replace BK420 := Z0 (zkb BK420 hb)
        have NB421_446 := Z0 (zl hg BK421)
        have NB446_421 := Z0 (zu hg BK421)
        replace BK421 := Z0 (zkb BK421 hb)
        have NB422_446 := Z0 (zl hg BK422)
        have NB446_422 := Z0 (zu hg BK422)
        replace BK422 := Z0 (zkb BK422 hb)
        clear hb hbox hg
        obtain ⟨Ao49, co49, eo49⟩ := Kd.R_slice HO429.out
        (first | subst eo49 | (injection eo49 with f1_ f2_ f3_; have f4_ := f1_.symm; have f5_ := f3_.symm; clear f1_ f2_ f3_; subst f4_; subst f5_))
        obtain ⟨Ao50, co50, eo50⟩ := Kd.R_slice HO432.out
        (first | subst eo50 | (injection eo50 with f1_ f2_ f3_; have f4_ := f1_.symm; have f5_ := f3_.symm; clear f1_ f2_ f3_; subst f4_; subst f5_))
        obtain ⟨Ao51, co51, eo51⟩ := Kd.R_slice HO435.out
        (first | subst eo51 | (injection eo51 with f1_ f2_ f3_; have f4_ := f1_.symm; have f5_ := f3_.symm; clear f1_ f2_ f3_; subst f4_; subst f5_))
        obtain ⟨Ao52, co52, eo52⟩ := Kd.R_slice HO438.out
        (first | subst eo52 | (injection eo52 with f1_ f2_ f3_; have f4_ := f1_.symm; have f5_ := f3_.symm; clear f1_ f2_ f3_; subst f4_; subst f5_))
        refine hK.out _ _ ⟨kz0 BK420, kz1 BK420, kz0 BK421, kz1 BK421⟩ (fun hHeld => ?_)
        clear hK K
        refine norm_ (a' := ?_) ?_ ?_
        rotate_left
        ·show Act.put _ (some 7) _ = _
         simp only [Act.put, y0, y1, y2, i64_w, i32_w]
         rfl
        refine one_ (i := 4) (N := some 36) (bz 11 287) rfl rfl (one_of HT_.out (by kernel_rfl)) (by decide) (fun K hK => ?_)
        refine zg Try.func11 #[.agg #[.slice Ao49 t427.length co49, .slice Ao50 t430.length co50], .agg #[.slice Ao51 t433.length co51, .slice Ao52 t436.length co52]] ?_
        with_reducible refine (list_Fill.calls _ _ t427 _ _ t430 _ _ t433 _ _ t436 t439 t442 t445 _ ?side1 ?side2 ?side3 ?side4 ?side5 ?side6 ?side7 ?side8 A36.out).mono ?_
        (case side1 => exact zc (rr HO429.out).2.2)
        (case side2 => exact (rr HO429.out).2.1)
        (case side3 => exact zc (rr HO432.out).2.2)
        (case side4 => exact (rr HO432.out).2.1)
        (case side5 => exact zc (rr HO435.out).2.2)
        (case side6 => exact (rr HO435.out).2.1)
        (case side7 => exact zc (rr HO438.out).2.2)
        (case side8 => exact (rr HO438.out).2.1)
        rintro e w53 ⟨v440, v443, rfl, ho0, ho1, hb⟩
        refine ⟨_, rfl, ?_⟩
        replace HO432 := Z0 (rbe (zr HO432) hb)
        have HO441 := Z0 (rl (rw_ (rw_ (rw_ ho0 (rlt (zr HO429))) (rlt (zr HO435))) (rlt (zr HO438))) (below_size (zb HB)))
        have HO444 := Z0 (rl (rw_ (rw_ (rw_ ho1 (rlt (zr HO429))) (rlt (zr HO435))) (rlt (zr HO438))) (below_size (zb HB)))
        replace HO429 := Z0 (rmt HO429 hb ho0 ho1)
        replace HO435 := Z0 (rmt HO435 hb ho0 ho1)
        replace HO438 := Z0 (rmt HO438 hb ho0 ho1)
        replace BK420 := Z0 (zkb BK420 hb)
        replace BK421 := Z0 (zkb BK421 hb)
        replace BK422 := Z0 (zkb BK422 hb)
        replace BK446 := Z0 (zkb BK446 hb)
        replace HB := Z0 (below_step (zb HB) hb)
        (try clear hb)
        (try clear hb2)
        (try clear hk)
        (try clear hi)
        (try clear ho0)
        (try clear ho1)
        refine hK.out _ _ ⟨kz0 BK420, kz1 BK420, kz0 BK421, kz1 BK421⟩ (fun hHeld => ?_)
        clear hK K
        refine norm_ (a' := ?_) ?_ ?_
        rotate_left
        ·show Act.put _ (some 36) _ = _
         simp only [Act.put, y0, y1, y2, i64_w, i32_w]
         rfl
        refine pu 5 (some 31) (bz 11 319) HT_ ?_
        refine pu 6 (some 37) (bz 11 383) HT_ ?_
        refine pu 7 (some 38) (bz 11 511) HT_ ?_
        exact norm_ (by simp only [putAll, Act.put, y0, y1, y2]) (hCont (.slice Ao49 t427.length co49, .slice Ao50 t430.length co50, .slice Ao51 t433.length co51, .slice Ao52 t436.length co52, v440, v443, gb446) _ ⟨hHeld, (by (with_reducible repeat (first | apply ra | apply rn | apply rd_)); exact rm HO429.out (fun _ hk => ⟨hk.1.1.1.2, ⟨hk.1.1.2, ⟨hk.1.2, hk.2⟩⟩⟩)), (zr HO432), (by (with_reducible repeat (first | apply ra | apply rn | apply rd_)); exact rm HO435.out (fun _ hk => ⟨hk.1.1.2, ⟨hk.1.1.1, ⟨hk.1.2, hk.2⟩⟩⟩)), (by (with_reducible repeat (first | apply ra | apply rn | apply rd_)); exact rm HO438.out (fun _ hk => ⟨hk.1.1.2, ⟨hk.1.1.1, ⟨hk.1.2, hk.2⟩⟩⟩)), (by (with_reducible repeat (first | apply ra | apply rn | apply rd_)); exact rm HO441.out (fun _ hk => ⟨hk.1.1.2, ⟨hk.1.2, ⟨hk.2, hk.1.1.1⟩⟩⟩)), (by (with_reducible repeat (first | apply ra | apply rn | apply rd_)); exact rm HO444.out (fun _ hk => ⟨hk.1.1.2, ⟨hk.1.2, ⟨hk.2, hk.1.1.1⟩⟩⟩)), (zk BK420), (zk BK421), (zk BK422), (zk BK446), GW446.out, GE446.out, NB420_446.out, NB446_420.out, NB421_446.out, NB446_421.out, NB422_446.out, NB446_422.out, (zb HB)⟩)
      ·skip
       refine box_step ?hg (N := 7) ?hd (cs := #[.slice none 0 0, .slice none 0 0]) (t := 27) ?hr ?_; (case hd => rfl); (case hg => rfl); (case hr => first | (go_simp; done) | (go_simp; rfl))
       intro gb446 hg w47 hbox hb
       replace HO429 := Z0 (rbe (zr HO429) hb)
       replace HO432 := Z0 (rbe (zr HO432) hb)
       have BK446 := Z0 (hbox)
       have GW446 := Z0 (zh w hg HB)
       have GE446 := Z0 (zh w hg HB)
       replace HB := Z0 (below_step (zb HB) hb)
       have NB420_446 := Z0 (zl hg BK420)
       have NB446_420 := Z0 (zu hg BK420)
       replace BK420 := Z0 (zkb BK420 hb)
       have NB421_446 := Z0 (zl hg BK421)
       have NB446_421 := Z0 (zu hg BK421)
       replace BK421 := Z0 (zkb BK421 hb)
       have NB422_446 := Z0 (zl hg BK422)
       have NB446_422 := Z0 (zu hg BK422)
       replace BK422 := Z0 (zkb BK422 hb)
       clear hb hbox hg
       refine hK.out _ _ ⟨kz0 BK420, kz1 BK420, kz0 BK421, kz1 BK421⟩ (fun hHeld => ?_)
       clear hK K
       refine norm_ (a' := ?_) ?_ ?_
       rotate_left
       ·show Act.put _ (some 7) _ = _
        simp only [Act.put, y0, y1, y2, i64_w, i32_w]
        rfl
       refine one_ (i := 3) (N := some 35) (bz 11 271) rfl rfl (one_of HT_.out (by kernel_rfl)) (by decide) (fun K hK => ?_)
       refine zg Try.func13 #[.agg #[.slice A1_0 l1_0.length c1_0, .slice A1_1 l1_1.length c1_1]] ?_
       with_reducible refine (trefoillaw11_Own.calls _ _ l1_0 _ _ l1_1 t433 t436 _ ?side1 ?side2 ?side3 ?side4 A35.out).mono ?_
       (case side1 => exact zc (Kd.C_below HR1_0.out HB.out))
       (case side2 => exact HC1_0.out)
       (case side3 => exact zc (Kd.C_below HR1_1.out HB.out))
       (case side4 => exact HC1_1.out)
       rintro e w48 ⟨v434, v437, rfl, ho0, ho1, hb⟩
       refine ⟨_, rfl, ?_⟩
       replace HO432 := Z0 (rbe (zr HO432) hb)
       have HO435 := Z0 (rl (rw_ ho0 (rlt (zr HO429))) (below_size (zb HB)))
       have HO438 := Z0 (rl (rw_ ho1 (rlt (zr HO429))) (below_size (zb HB)))
       replace HO429 := Z0 (rmt HO429 hb ho0 ho1)
       replace BK420 := Z0 (zkb BK420 hb)
       replace BK421 := Z0 (zkb BK421 hb)
       replace BK422 := Z0 (zkb BK422 hb)
       replace BK446 := Z0 (zkb BK446 hb)
       replace HB := Z0 (below_step (zb HB) hb)
       (try clear hb)
       (try clear hb2)
       (try clear hk)
       (try clear hi)
       (try clear ho0)
       (try clear ho1)
       obtain ⟨Ao49, co49, eo49⟩ := Kd.R_slice HO429.out
       subst eo49
       obtain ⟨Ao50, co50, eo50⟩ := Kd.R_slice HO432.out
       subst eo50
       obtain ⟨Ao51, co51, eo51⟩ := Kd.R_slice HO435.out
       subst eo51
       obtain ⟨Ao52, co52, eo52⟩ := Kd.R_slice HO438.out
       subst eo52
       refine hK.out _ _ ⟨kz0 BK420, kz1 BK420, kz0 BK421, kz1 BK421⟩ (fun hHeld => ?_)
       clear hK K
       refine norm_ (a' := ?_) ?_ ?_
       rotate_left
       ·show Act.put _ (some 35) _ = _
        simp only [Act.put, y0, y1, y2, i64_w, i32_w]
        rfl
       refine one_ (i := 4) (N := some 36) (bz 11 287) rfl rfl (one_of HT_.out (by kernel_rfl)) (by decide) (fun K hK => ?_)
       refine zg Try.func11 #[.agg #[.slice Ao49 t427.length co49, .slice Ao50 t430.length co50], .agg #[.slice Ao51 t433.length co51, .slice Ao52 t436.length co52]] ?_
       with_reducible refine (list_Fill.calls _ _ t427 _ _ t430 _ _ t433 _ _ t436 t439 t442 t445 _ ?side1 ?side2 ?side3 ?side4 ?side5 ?side6 ?side7 ?side8 A36.out).mono ?_
       (case side1 => exact zc (rr HO429.out).2.2)
       (case side2 => exact (rr HO429.out).2.1)
       (case side3 => exact zc (rr HO432.out).2.2)
       (case side4 => exact (rr HO432.out).2.1)
       (case side5 => exact zc (rr HO435.out).2.2)
       (case side6 => exact (rr HO435.out).2.1)
       (case side7 => exact zc (rr HO438.out).2.2)
       (case side8 => exact (rr HO438.out).2.1)
       rintro e w53 ⟨v440, v443, rfl, ho0, ho1, hb⟩
       refine ⟨_, rfl, ?_⟩
       replace HO432 := Z0 (rbe (zr HO432) hb)
       have HO441 := Z0 (rl (rw_ (rw_ (rw_ ho0 (rlt (zr HO429))) (rlt (zr HO435))) (rlt (zr HO438))) (below_size (zb HB)))
       have HO444 := Z0 (rl (rw_ (rw_ (rw_ ho1 (rlt (zr HO429))) (rlt (zr HO435))) (rlt (zr HO438))) (below_size (zb HB)))
       replace HO429 := Z0 (rmt HO429 hb ho0 ho1)
       replace HO435 := Z0 (rmt HO435 hb ho0 ho1)
       replace HO438 := Z0 (rmt HO438 hb ho0 ho1)
       replace BK420 := Z0 (zkb BK420 hb)
       replace BK421 := Z0 (zkb BK421 hb)
       replace BK422 := Z0 (zkb BK422 hb)
       replace BK446 := Z0 (zkb BK446 hb)
       replace HB := Z0 (below_step (zb HB) hb)
       (try clear hb)
       (try clear hb2)
       (try clear hk)
       (try clear hi)
       (try clear ho0)
       (try clear ho1)
       refine hK.out _ _ ⟨kz0 BK420, kz1 BK420, kz0 BK421, kz1 BK421⟩ (fun hHeld => ?_)
       clear hK K
       refine norm_ (a' := ?_) ?_ ?_
       rotate_left
       ·show Act.put _ (some 36) _ = _
        simp only [Act.put, y0, y1, y2, i64_w, i32_w]
        rfl
       refine pu 5 (some 31) (bz 11 319) HT_ ?_
       refine pu 6 (some 37) (bz 11 383) HT_ ?_
       refine pu 7 (some 38) (bz 11 511) HT_ ?_
       exact norm_ (by simp only [putAll, Act.put, y0, y1, y2]) (hCont (.slice Ao49 t427.length co49, .slice Ao50 t430.length co50, .slice Ao51 t433.length co51, .slice Ao52 t436.length co52, v440, v443, gb446) _ ⟨hHeld, (by (with_reducible repeat (first | apply ra | apply rn | apply rd_)); exact rm HO429.out (fun _ hk => ⟨hk.1.1.1.2, ⟨hk.1.1.2, ⟨hk.1.2, hk.2⟩⟩⟩)), (zr HO432), (by (with_reducible repeat (first | apply ra | apply rn | apply rd_)); exact rm HO435.out (fun _ hk => ⟨hk.1.1.2, ⟨hk.1.1.1, ⟨hk.1.2, hk.2⟩⟩⟩)), (by (with_reducible repeat (first | apply ra | apply rn | apply rd_)); exact rm HO438.out (fun _ hk => ⟨hk.1.1.2, ⟨hk.1.1.1, ⟨hk.1.2, hk.2⟩⟩⟩)), (by (with_reducible repeat (first | apply ra | apply rn | apply rd_)); exact rm HO441.out (fun _ hk => ⟨hk.1.1.2, ⟨hk.1.2, ⟨hk.2, hk.1.1.1⟩⟩⟩)), (by (with_reducible repeat (first | apply ra | apply rn | apply rd_)); exact rm HO444.out (fun _ hk => ⟨hk.1.1.2, ⟨hk.1.2, ⟨hk.2, hk.1.1.1⟩⟩⟩)), (zk BK420), (zk BK421), (zk BK422), (zk BK446), GW446.out, GE446.out, NB420_446.out, NB446_420.out, NB421_446.out, NB446_421.out, NB422_446.out, NB446_422.out, (zb HB)⟩)
     ·skip
      refine box_step ?hg (N := 7) ?hd (cs := #[.slice none 0 0, .slice none 0 0]) (t := 27) ?hr ?_; (case hd => rfl); (case hg => rfl); (case hr => first | (go_simp; done) | (go_simp; rfl))
      intro gb446 hg w46 hbox hb
      have BK446 := Z0 (hbox)
      have GW446 := Z0 (zh w hg HB)
      have GE446 := Z0 (zh w hg HB)
      replace HB := Z0 (below_step (zb HB) hb)
      have NB420_446 := Z0 (zl hg BK420)
      have NB446_420 := Z0 (zu hg BK420)
      replace BK420 := Z0 (zkb BK420 hb)
      have NB421_446 := Z0 (zl hg BK421)
      have NB446_421 := Z0 (zu hg BK421)
      replace BK421 := Z0 (zkb BK421 hb)
      have NB422_446 := Z0 (zl hg BK422)
      have NB446_422 := Z0 (zu hg BK422)
      replace BK422 := Z0 (zkb BK422 hb)
      clear hb hbox hg
      refine hK.out _ _ ⟨kz0 BK420, kz1 BK420, kz0 BK421, kz1 BK421⟩ (fun hHeld => ?_)
      clear hK K
      refine norm_ (a' := ?_) ?_ ?_
      rotate_left
      ·show Act.put _ (some 7) _ = _
       simp only [Act.put, y0, y1, y2, i64_w, i32_w]
       rfl
      refine one_ (i := 1) (N := some 33) (bz 11 263) rfl rfl (one_of HT_.out (by kernel_rfl)) (by decide) (fun K hK => ?_)
      refine zg Try.func12 #[.agg #[.slice A0_0 l0_0.length c0_0, .slice A0_1 l0_1.length c0_1]] ?_
      with_reducible refine (trefoillaw04_Own.calls _ _ l0_0 _ _ l0_1 t427 t430 _ ?side1 ?side2 ?side3 ?side4 A34.out).mono ?_
      (case side1 => exact zc (Kd.C_below HR0_0.out HB.out))
      (case side2 => exact HC0_0.out)
      (case side3 => exact zc (Kd.C_below HR0_1.out HB.out))
      (case side4 => exact HC0_1.out)
      rintro e w47 ⟨v428, v431, rfl, ho0, ho1, hb⟩
      refine ⟨_, rfl, ?_⟩
      have HO429 := Z0 (rl ho0 (below_size (zb HB)))
      have HO432 := Z0 (rl ho1 (below_size (zb HB)))
      replace BK420 := Z0 (zkb BK420 hb)
      replace BK421 := Z0 (zkb BK421 hb)
      replace BK422 := Z0 (zkb BK422 hb)
      replace BK446 := Z0 (zkb BK446 hb)
      replace HB := Z0 (below_step (zb HB) hb)
      (try clear hb)
      (try clear hb2)
      (try clear hk)
      (try clear hi)
      (try clear ho0)
      (try clear ho1)
      refine hK.out _ _ ⟨kz0 BK420, kz1 BK420, kz0 BK421, kz1 BK421⟩ (fun hHeld => ?_)
      clear hK K
      refine norm_ (a' := ?_) ?_ ?_
      rotate_left
      ·show Act.put _ (some 33) _ = _
       simp only [Act.put, y0, y1, y2, i64_w, i32_w]
       rfl
      refine one_ (i := 3) (N := some 35) (bz 11 271) rfl rfl (one_of HT_.out (by kernel_rfl)) (by decide) (fun K hK => ?_)
      refine zg Try.func13 #[.agg #[.slice A1_0 l1_0.length c1_0, .slice A1_1 l1_1.length c1_1]] ?_
      with_reducible refine (trefoillaw11_Own.calls _ _ l1_0 _ _ l1_1 t433 t436 _ ?side1 ?side2 ?side3 ?side4 A35.out).mono ?_
      (case side1 => exact zc (Kd.C_below HR1_0.out HB.out))
      (case side2 => exact HC1_0.out)
      (case side3 => exact zc (Kd.C_below HR1_1.out HB.out))
      (case side4 => exact HC1_1.out)
      rintro e w48 ⟨v434, v437, rfl, ho0, ho1, hb⟩
      refine ⟨_, rfl, ?_⟩
      replace HO432 := Z0 (rbe (zr HO432) hb)
      have HO435 := Z0 (rl (rw_ ho0 (rlt (zr HO429))) (below_size (zb HB)))
      have HO438 := Z0 (rl (rw_ ho1 (rlt (zr HO429))) (below_size (zb HB)))
      replace HO429 := Z0 (rmt HO429 hb ho0 ho1)
      replace BK420 := Z0 (zkb BK420 hb)
      replace BK421 := Z0 (zkb BK421 hb)
      replace BK422 := Z0 (zkb BK422 hb)
      replace BK446 := Z0 (zkb BK446 hb)
      replace HB := Z0 (below_step (zb HB) hb)
      (try clear hb)
      (try clear hb2)
      (try clear hk)
      (try clear hi)
      (try clear ho0)
      (try clear ho1)
      obtain ⟨Ao49, co49, eo49⟩ := Kd.R_slice HO429.out
      subst eo49
      obtain ⟨Ao50, co50, eo50⟩ := Kd.R_slice HO432.out
      subst eo50
      obtain ⟨Ao51, co51, eo51⟩ := Kd.R_slice HO435.out
      subst eo51
      obtain ⟨Ao52, co52, eo52⟩ := Kd.R_slice HO438.out
      subst eo52
      refine hK.out _ _ ⟨kz0 BK420, kz1 BK420, kz0 BK421, kz1 BK421⟩ (fun hHeld => ?_)
      clear hK K
      refine norm_ (a' := ?_) ?_ ?_
      rotate_left
      ·show Act.put _ (some 35) _ = _
       simp only [Act.put, y0, y1, y2, i64_w, i32_w]
       rfl
      refine one_ (i := 4) (N := some 36) (bz 11 287) rfl rfl (one_of HT_.out (by kernel_rfl)) (by decide) (fun K hK => ?_)
      refine zg Try.func11 #[.agg #[.slice Ao49 t427.length co49, .slice Ao50 t430.length co50], .agg #[.slice Ao51 t433.length co51, .slice Ao52 t436.length co52]] ?_
      with_reducible refine (list_Fill.calls _ _ t427 _ _ t430 _ _ t433 _ _ t436 t439 t442 t445 _ ?side1 ?side2 ?side3 ?side4 ?side5 ?side6 ?side7 ?side8 A36.out).mono ?_
      (case side1 => exact zc (rr HO429.out).2.2)
      (case side2 => exact (rr HO429.out).2.1)
      (case side3 => exact zc (rr HO432.out).2.2)
      (case side4 => exact (rr HO432.out).2.1)
      (case side5 => exact zc (rr HO435.out).2.2)
      (case side6 => exact (rr HO435.out).2.1)
      (case side7 => exact zc (rr HO438.out).2.2)
      (case side8 => exact (rr HO438.out).2.1)
      rintro e w53 ⟨v440, v443, rfl, ho0, ho1, hb⟩
      refine ⟨_, rfl, ?_⟩
      replace HO432 := Z0 (rbe (zr HO432) hb)
      have HO441 := Z0 (rl (rw_ (rw_ (rw_ ho0 (rlt (zr HO429))) (rlt (zr HO435))) (rlt (zr HO438))) (below_size (zb HB)))
      have HO444 := Z0 (rl (rw_ (rw_ (rw_ ho1 (rlt (zr HO429))) (rlt (zr HO435))) (rlt (zr HO438))) (below_size (zb HB)))
      replace HO429 := Z0 (rmt HO429 hb ho0 ho1)
      replace HO435 := Z0 (rmt HO435 hb ho0 ho1)
      replace HO438 := Z0 (rmt HO438 hb ho0 ho1)
      replace BK420 := Z0 (zkb BK420 hb)
      replace BK421 := Z0 (zkb BK421 hb)
      replace BK422 := Z0 (zkb BK422 hb)
      replace BK446 := Z0 (zkb BK446 hb)
      replace HB := Z0 (below_step (zb HB) hb)
      (try clear hb)
      (try clear hb2)
      (try clear hk)
      (try clear hi)
      (try clear ho0)
      (try clear ho1)
      refine hK.out _ _ ⟨kz0 BK420, kz1 BK420, kz0 BK421, kz1 BK421⟩ (fun hHeld => ?_)
      clear hK K
      refine norm_ (a' := ?_) ?_ ?_
      rotate_left
      ·show Act.put _ (some 36) _ = _
       simp only [Act.put, y0, y1, y2, i64_w, i32_w]
       rfl
      refine pu 5 (some 31) (bz 11 319) HT_ ?_
      refine pu 6 (some 37) (bz 11 383) HT_ ?_
      refine pu 7 (some 38) (bz 11 511) HT_ ?_
      exact norm_ (by simp only [putAll, Act.put, y0, y1, y2]) (hCont (.slice Ao49 t427.length co49, .slice Ao50 t430.length co50, .slice Ao51 t433.length co51, .slice Ao52 t436.length co52, v440, v443, gb446) _ ⟨hHeld, (by (with_reducible repeat (first | apply ra | apply rn | apply rd_)); exact rm HO429.out (fun _ hk => ⟨hk.1.1.1.2, ⟨hk.1.1.2, ⟨hk.1.2, hk.2⟩⟩⟩)), (zr HO432), (by (with_reducible repeat (first | apply ra | apply rn | apply rd_)); exact rm HO435.out (fun _ hk => ⟨hk.1.1.2, ⟨hk.1.1.1, ⟨hk.1.2, hk.2⟩⟩⟩)), (by (with_reducible repeat (first | apply ra | apply rn | apply rd_)); exact rm HO438.out (fun _ hk => ⟨hk.1.1.2, ⟨hk.1.1.1, ⟨hk.1.2, hk.2⟩⟩⟩)), (by (with_reducible repeat (first | apply ra | apply rn | apply rd_)); exact rm HO441.out (fun _ hk => ⟨hk.1.1.2, ⟨hk.1.2, ⟨hk.2, hk.1.1.1⟩⟩⟩)), (by (with_reducible repeat (first | apply ra | apply rn | apply rd_)); exact rm HO444.out (fun _ hk => ⟨hk.1.1.2, ⟨hk.1.2, ⟨hk.2, hk.1.1.1⟩⟩⟩)), (zk BK420), (zk BK421), (zk BK422), (zk BK446), GW446.out, GE446.out, NB420_446.out, NB446_420.out, NB421_446.out, NB446_421.out, NB422_446.out, NB446_422.out, (zb HB)⟩)
    rintro ⟨v428, v431, v434, v437, v440, v443, gb446⟩ w54 ⟨hS_, h0_, h1_, h2_, h3_, h4_, h5_, h6_, h7_, h8_, h9_, h10_, h11_, h12_, h13_, h14_, h15_, h16_, h17_, h18_⟩
    clear BK420
    clear BK421
    clear BK422
    clear HB
    dsimp only at h0_ h1_ h2_ h3_ h4_ h5_ h6_ h7_ h8_ h9_ h10_ h11_ h12_ h13_ h14_ h15_ h16_ h17_ h18_
    have HO429 := Z0 h0_
    have HO432 := Z0 h1_
    have HO435 := Z0 h2_
    have HO438 := Z0 h3_
    have HO441 := Z0 h4_
    have HO444 := Z0 h5_
    have BK420 := Z0 h6_
    have BK421 := Z0 h7_
    have BK422 := Z0 h8_
    have BK446 := Z0 h9_
    have GW446 := Z0 h10_
    have GE446 := Z0 h11_
    have NB420_446 := Z0 h12_
    have NB446_420 := Z0 h13_
    have NB421_446 := Z0 h14_
    have NB446_421 := Z0 h15_
    have NB422_446 := Z0 h16_
    have NB446_422 := Z0 h17_
    have HB := Z0 h18_
    clear h0_ h1_ h2_ h3_ h4_ h5_ h6_ h7_ h8_ h9_ h10_ h11_ h12_ h13_ h14_ h15_ h16_ h17_ h18_
    have hHeld : w54.cell? ⟨gb420, 0, none⟩ = some (.slice A0_0 l0_0.length c0_0) ∧ w54.cell? ⟨gb420, 1, none⟩ = some (.slice A0_1 l0_1.length c0_1) ∧ w54.cell? ⟨gb421, 0, none⟩ = some (.slice A1_0 l1_0.length c1_0) ∧ w54.cell? ⟨gb421, 1, none⟩ = some (.slice A1_1 l1_1.length c1_1) := hS_
    obtain ⟨Ao55, co55, eo55⟩ := Kd.R_slice HO441.out
    subst eo55
    obtain ⟨Ao57, co57, eo57⟩ := Kd.R_slice HO444.out
    subst eo57
    refine norm_ (a' := ?_) ?_ ?_; rotate_left; simp only [putAll, Act.put, y0, y1, y2]; rfl
    refine one_ (i := 9) (N := none) (bz 11 1023) rfl rfl (one_of HT_.out (by kernel_rfl)) (by decide) (fun K hK => ?_)
    have hs56 : w54.cell? ⟨gb446, 0, none⟩ = some (.slice none 0 0) := (kc BK446.out 0).trans rfl
    have hfs56 := blk_frozen BK446.out 0
    have hns56_0 := NB420_446.out
    have hns56_1 := NB421_446.out
    have hns56_2 := NB422_446.out
    have hms56_0 := NB446_420.out
    have hms56_1 := NB446_421.out
    have hms56_2 := NB446_422.out
    have hs58 : w54.cell? ⟨gb446, 1, none⟩ = some (.slice none 0 0) := (kc BK446.out 1).trans rfl
    have hfs58 := blk_frozen BK446.out 1
    have hns58_0 := NB420_446.out
    have hns58_1 := NB421_446.out
    have hns58_2 := NB422_446.out
    have hms58_0 := NB446_420.out
    have hms58_1 := NB446_421.out
    have hms58_2 := NB446_422.out
    refine skip_ (w1 := ?_) (by rfl) rfl ?_ ?_; rotate_left; go_simp; rfl
    refine hK.out _ _ ⟨((cell_far (p := ⟨gb446, _, none⟩) NB420_446.out _).trans (((cell_far (p := ⟨gb446, _, none⟩) NB420_446.out _).trans (hHeld.1)))), ((cell_far (p := ⟨gb446, _, none⟩) NB420_446.out _).trans (((cell_far (p := ⟨gb446, _, none⟩) NB420_446.out _).trans (hHeld.2.1)))), ((cell_far (p := ⟨gb446, _, none⟩) NB421_446.out _).trans (((cell_far (p := ⟨gb446, _, none⟩) NB421_446.out _).trans (hHeld.2.2.1)))), ((cell_far (p := ⟨gb446, _, none⟩) NB421_446.out _).trans (((cell_far (p := ⟨gb446, _, none⟩) NB421_446.out _).trans (hHeld.2.2.2))))⟩ (fun hHeld => ?_)
    clear hK K
    refine pu 10 (some 8) (bz 11 2047) HT_ ?_
    refine done_ (done_of HT_.out (by kernel_rfl)) ?_
    try go_wp2
    have n0_ := zyw HO429 BK446 (.slice Ao55 t439.length co55) (.slice Ao57 t442.length co57)
    have n1_ := zyw HO432 BK446 (.slice Ao55 t439.length co55) (.slice Ao57 t442.length co57)
    have n2_ := zyw HO435 BK446 (.slice Ao55 t439.length co55) (.slice Ao57 t442.length co57)
    have n3_ := zyw HO438 BK446 (.slice Ao55 t439.length co55) (.slice Ao57 t442.length co57)
    have n4_ := zyw HO441 BK446 (.slice Ao55 t439.length co55) (.slice Ao57 t442.length co57)
    have n5_ := zyw HO444 BK446 (.slice Ao55 t439.length co55) (.slice Ao57 t442.length co57)
    have n6_ := zfw BK420 NB420_446 (.slice Ao55 t439.length co55) (.slice Ao57 t442.length co57)
    have n7_ := zfw BK421 NB421_446 (.slice Ao55 t439.length co55) (.slice Ao57 t442.length co57)
    have n8_ := zfw BK422 NB422_446 (.slice Ao55 t439.length co55) (.slice Ao57 t442.length co57)
    have n9_ := zpw BK446 (.slice Ao55 t439.length co55) (.slice Ao57 t442.length co57)
    have n10_ : Aside0 (Below w.heap.size w ((w54.setCell ⟨gb446, 0, none⟩ (.slice Ao55 t439.length co55)).setCell ⟨gb446, 1, none⟩ (.slice Ao57 t442.length co57))) := ⟨zb HB⟩
    (try clear HO429)
    (try clear HO432)
    (try clear HO435)
    (try clear HO438)
    (try clear HO441)
    (try clear HO444)
    (try clear BK420)
    (try clear BK421)
    (try clear BK422)
    (try clear BK446)
    (try clear HB)
    generalize ((w54.setCell ⟨gb446, 0, none⟩ (.slice Ao55 t439.length co55)).setCell ⟨gb446, 1, none⟩ (.slice Ao57 t442.length co57)) = w59 at n0_ n1_ n2_ n3_ n4_ n5_ n6_ n7_ n8_ n9_ n10_ ⊢
    have HO429 := n0_
    have HO432 := n1_
    have HO435 := n2_
    have HO438 := n3_
    have HO441 := n4_
    have HO444 := n5_
    have BK420 := n6_
    have BK421 := n7_
    have BK422 := n8_
    have BK446 := n9_
    have HB := n10_
    clear n0_ n1_ n2_ n3_ n4_ n5_ n6_ n7_ n8_ n9_ n10_
    replace HO429 := Z0 (rd_ HO429.out)
    replace HO432 := Z0 (rd_ HO432.out)
    replace HO435 := Z0 (rd_ HO435.out)
    replace HO438 := Z0 (rd_ HO438.out)
    replace HO441 := Z0 (rd_ HO441.out)
    replace HO444 := Z0 (rd_ HO444.out)
    replace BK420 := Z0 (kd_ BK420.out)
    replace BK421 := Z0 (kd_ BK421.out)
    replace BK422 := Z0 (kd_ BK422.out)
    replace BK446 := Z0 (kd_ BK446.out)
    replace HB := Z0 (wd HB.out)
    as_aux_lemma =>
    refine start_ (n := 13) (S := fun w' => w'.cell? ⟨gb420, 0, none⟩ = some (.slice A0_0 l0_0.length c0_0) ∧ w'.cell? ⟨gb420, 1, none⟩ = some (.slice A0_1 l0_1.length c0_1) ∧ w'.cell? ⟨gb421, 0, none⟩ = some (.slice A1_0 l1_0.length c1_0) ∧ w'.cell? ⟨gb421, 1, none⟩ = some (.slice A1_1 l1_1.length c1_1)) (ds := []) (bz 13 0) (by kernel_rfl) rfl rfl ⟨kz0 BK420, kz1 BK420, kz0 BK421, kz1 BK421⟩ (fun hHeld => ?_); refine with_tabW trefoillaw11_ListSteps.tab4 trefoillaw11_ListSteps.bits4 (fun HT_ HW_ => ?_)
    generalize w59.drew = w60 at HO429 HO432 HO435 HO438 HO441 HO444 BK420 BK421 BK422 BK446 HB hHeld ⊢
    refine tk4 0 (some 40) (bz 13 1) HT_ HW_ hHeld ?_
    refine tk4 2 (some 42) (bz 13 5) HT_ HW_ hHeld ?_
    refine join_ (σ := Value × Value × Value × Value × Value × Value × Value × Nat) 3 (bz 13 1023) (fun s_ => [(41, .agg #[s_.1, s_.2.1]), (43, .agg #[s_.2.2.1, s_.2.2.2.1]), (44, .tuple #[.agg #[s_.2.2.2.2.1, s_.2.2.2.2.2.1], s_.2.2.2.2.2.2.1, .int .i64 t468]), (9, .pointer (some ⟨s_.2.2.2.2.2.2.2, 0, none⟩)), (39, .tuple #[.agg #[s_.2.2.2.2.1, s_.2.2.2.2.2.1], s_.2.2.2.2.2.2.1, .int .i64 t468]), (45, .agg #[s_.2.2.2.2.1, s_.2.2.2.2.2.1]), (46, s_.2.2.2.2.2.2.1), (47, .int .i64 t468)]) (fun s_ w' => (w'.cell? ⟨gb420, 0, none⟩ = some (.slice A0_0 l0_0.length c0_0) ∧ w'.cell? ⟨gb420, 1, none⟩ = some (.slice A0_1 l0_1.length c0_1) ∧ w'.cell? ⟨gb421, 0, none⟩ = some (.slice A1_0 l1_0.length c1_0) ∧ w'.cell? ⟨gb421, 1, none⟩ = some (.slice A1_1 l1_1.length c1_1)) ∧ (Kd.R (Kd.int .i64) 3 w' w.heap.size (fun k_ => some k_ ≠ (v434 : Value).ownBlock ∧ some k_ ≠ (v437 : Value).ownBlock ∧ some k_ ≠ (.slice Ao55 t439.length co55 : Value).ownBlock ∧ some k_ ≠ (.slice Ao57 t442.length co57 : Value).ownBlock ∧ some k_ ≠ (s_.1 : Value).ownBlock ∧ some k_ ≠ (s_.2.2.1 : Value).ownBlock ∧ some k_ ≠ (s_.2.2.2.1 : Value).ownBlock ∧ some k_ ≠ (s_.2.2.2.2.1 : Value).ownBlock ∧ some k_ ≠ (s_.2.2.2.2.2.1 : Value).ownBlock ∧ some k_ ≠ (s_.2.2.2.2.2.2.1 : Value).ownBlock) v428 t427) ∧ (Kd.R k85 85 w' w.heap.size (fun k_ => some k_ ≠ (s_.2.1 : Value).ownBlock) v431 t430) ∧ (Kd.R (Kd.int .i64) 3 w' w.heap.size (fun k_ => some k_ ≠ (v428 : Value).ownBlock ∧ some k_ ≠ (v437 : Value).ownBlock ∧ some k_ ≠ (.slice Ao55 t439.length co55 : Value).ownBlock ∧ some k_ ≠ (.slice Ao57 t442.length co57 : Value).ownBlock ∧ some k_ ≠ (s_.1 : Value).ownBlock ∧ some k_ ≠ (s_.2.2.1 : Value).ownBlock ∧ some k_ ≠ (s_.2.2.2.1 : Value).ownBlock ∧ some k_ ≠ (s_.2.2.2.2.1 : Value).ownBlock ∧ some k_ ≠ (s_.2.2.2.2.2.1 : Value).ownBlock ∧ some k_ ≠ (s_.2.2.2.2.2.2.1 : Value).ownBlock) v434 t433) ∧ (Kd.R (Kd.int .i64) 3 w' w.heap.size (fun k_ => some k_ ≠ (v428 : Value).ownBlock ∧ some k_ ≠ (v434 : Value).ownBlock ∧ some k_ ≠ (.slice Ao55 t439.length co55 : Value).ownBlock ∧ some k_ ≠ (.slice Ao57 t442.length co57 : Value).ownBlock ∧ some k_ ≠ (s_.1 : Value).ownBlock ∧ some k_ ≠ (s_.2.2.1 : Value).ownBlock ∧ some k_ ≠ (s_.2.2.2.1 : Value).ownBlock ∧ some k_ ≠ (s_.2.2.2.2.1 : Value).ownBlock ∧ some k_ ≠ (s_.2.2.2.2.2.1 : Value).ownBlock ∧ some k_ ≠ (s_.2.2.2.2.2.2.1 : Value).ownBlock) v437 t436) ∧ (Kd.R (Kd.int .i64) 3 w' w.heap.size (fun k_ => some k_ ≠ (v428 : Value).ownBlock ∧ some k_ ≠ (v434 : Value).ownBlock ∧ some k_ ≠ (v437 : Value).ownBlock ∧ some k_ ≠ (.slice Ao57 t442.length co57 : Value).ownBlock ∧ some k_ ≠ (s_.1 : Value).ownBlock ∧ some k_ ≠ (s_.2.2.1 : Value).ownBlock ∧ some k_ ≠ (s_.2.2.2.1 : Value).ownBlock ∧ some k_ ≠ (s_.2.2.2.2.1 : Value).ownBlock ∧ some k_ ≠ (s_.2.2.2.2.2.1 : Value).ownBlock ∧ some k_ ≠ (s_.2.2.2.2.2.2.1 : Value).ownBlock) (.slice Ao55 t439.length co55) t439) ∧ (Kd.R (Kd.int .i64) 3 w' w.heap.size (fun k_ => some k_ ≠ (v428 : Value).ownBlock ∧ some k_ ≠ (v434 : Value).ownBlock ∧ some k_ ≠ (v437 : Value).ownBlock ∧ some k_ ≠ (.slice Ao55 t439.length co55 : Value).ownBlock ∧ some k_ ≠ (s_.1 : Value).ownBlock ∧ some k_ ≠ (s_.2.2.1 : Value).ownBlock ∧ some k_ ≠ (s_.2.2.2.1 : Value).ownBlock ∧ some k_ ≠ (s_.2.2.2.2.1 : Value).ownBlock ∧ some k_ ≠ (s_.2.2.2.2.2.1 : Value).ownBlock ∧ some k_ ≠ (s_.2.2.2.2.2.2.1 : Value).ownBlock) (.slice Ao57 t442.length co57) t442) ∧ (Kd.R (Kd.int .i64) 3 w' w.heap.size (fun k_ => some k_ ≠ (v428 : Value).ownBlock ∧ some k_ ≠ (v434 : Value).ownBlock ∧ some k_ ≠ (v437 : Value).ownBlock ∧ some k_ ≠ (.slice Ao55 t439.length co55 : Value).ownBlock ∧ some k_ ≠ (.slice Ao57 t442.length co57 : Value).ownBlock ∧ some k_ ≠ (s_.2.2.1 : Value).ownBlock ∧ some k_ ≠ (s_.2.2.2.1 : Value).ownBlock ∧ some k_ ≠ (s_.2.2.2.2.1 : Value).ownBlock ∧ some k_ ≠ (s_.2.2.2.2.2.1 : Value).ownBlock ∧ some k_ ≠ (s_.2.2.2.2.2.2.1 : Value).ownBlock) s_.1 t447) ∧ (Kd.R k85 85 w' w.heap.size (fun k_ => some k_ ≠ (v431 : Value).ownBlock) s_.2.1 t450) ∧ (Kd.R (Kd.int .i64) 3 w' w.heap.size (fun k_ => some k_ ≠ (v428 : Value).ownBlock ∧ some k_ ≠ (v434 : Value).ownBlock ∧ some k_ ≠ (v437 : Value).ownBlock ∧ some k_ ≠ (.slice Ao55 t439.length co55 : Value).ownBlock ∧ some k_ ≠ (.slice Ao57 t442.length co57 : Value).ownBlock ∧ some k_ ≠ (s_.1 : Value).ownBlock ∧ some k_ ≠ (s_.2.2.2.1 : Value).ownBlock ∧ some k_ ≠ (s_.2.2.2.2.1 : Value).ownBlock ∧ some k_ ≠ (s_.2.2.2.2.2.1 : Value).ownBlock ∧ some k_ ≠ (s_.2.2.2.2.2.2.1 : Value).ownBlock) s_.2.2.1 t453) ∧ (Kd.R (Kd.int .i64) 3 w' w.heap.size (fun k_ => some k_ ≠ (v428 : Value).ownBlock ∧ some k_ ≠ (v434 : Value).ownBlock ∧ some k_ ≠ (v437 : Value).ownBlock ∧ some k_ ≠ (.slice Ao55 t439.length co55 : Value).ownBlock ∧ some k_ ≠ (.slice Ao57 t442.length co57 : Value).ownBlock ∧ some k_ ≠ (s_.1 : Value).ownBlock ∧ some k_ ≠ (s_.2.2.1 : Value).ownBlock ∧ some k_ ≠ (s_.2.2.2.2.1 : Value).ownBlock ∧ some k_ ≠ (s_.2.2.2.2.2.1 : Value).ownBlock ∧ some k_ ≠ (s_.2.2.2.2.2.2.1 : Value).ownBlock) s_.2.2.2.1 t456) ∧ (Kd.R (Kd.int .i64) 3 w' w.heap.size (fun k_ => some k_ ≠ (v428 : Value).ownBlock ∧ some k_ ≠ (v434 : Value).ownBlock ∧ some k_ ≠ (v437 : Value).ownBlock ∧ some k_ ≠ (.slice Ao55 t439.length co55 : Value).ownBlock ∧ some k_ ≠ (.slice Ao57 t442.length co57 : Value).ownBlock ∧ some k_ ≠ (s_.1 : Value).ownBlock ∧ some k_ ≠ (s_.2.2.1 : Value).ownBlock ∧ some k_ ≠ (s_.2.2.2.1 : Value).ownBlock ∧ some k_ ≠ (s_.2.2.2.2.2.1 : Value).ownBlock ∧ some k_ ≠ (s_.2.2.2.2.2.2.1 : Value).ownBlock) s_.2.2.2.2.1 t459) ∧ (Kd.R (Kd.int .i64) 3 w' w.heap.size (fun k_ => some k_ ≠ (v428 : Value).ownBlock ∧ some k_ ≠ (v434 : Value).ownBlock ∧ some k_ ≠ (v437 : Value).ownBlock ∧ some k_ ≠ (.slice Ao55 t439.length co55 : Value).ownBlock ∧ some k_ ≠ (.slice Ao57 t442.length co57 : Value).ownBlock ∧ some k_ ≠ (s_.1 : Value).ownBlock ∧ some k_ ≠ (s_.2.2.1 : Value).ownBlock ∧ some k_ ≠ (s_.2.2.2.1 : Value).ownBlock ∧ some k_ ≠ (s_.2.2.2.2.1 : Value).ownBlock ∧ some k_ ≠ (s_.2.2.2.2.2.2.1 : Value).ownBlock) s_.2.2.2.2.2.1 t462) ∧ (Kd.R (Kd.int .i64) 3 w' w.heap.size (fun k_ => some k_ ≠ (v428 : Value).ownBlock ∧ some k_ ≠ (v434 : Value).ownBlock ∧ some k_ ≠ (v437 : Value).ownBlock ∧ some k_ ≠ (.slice Ao55 t439.length co55 : Value).ownBlock ∧ some k_ ≠ (.slice Ao57 t442.length co57 : Value).ownBlock ∧ some k_ ≠ (s_.1 : Value).ownBlock ∧ some k_ ≠ (s_.2.2.1 : Value).ownBlock ∧ some k_ ≠ (s_.2.2.2.1 : Value).ownBlock ∧ some k_ ≠ (s_.2.2.2.2.1 : Value).ownBlock ∧ some k_ ≠ (s_.2.2.2.2.2.1 : Value).ownBlock) s_.2.2.2.2.2.2.1 t465) ∧ (w'.heap[gb420]? = some (.cells #[.slice A0_0 l0_0.length c0_0, .slice A0_1 l0_1.length c0_1] 25 (0, 0))) ∧ (w'.heap[gb421]? = some (.cells #[.slice A1_0 l1_0.length c1_0, .slice A1_1 l1_1.length c1_1] 27 (0, 0))) ∧ (w'.heap[gb422]? = some (.cells #[.slice A2_0 l2_0.length c2_0, .slice A2_1 l2_1.length c2_1] 27 (0, 0))) ∧ (w'.heap[gb446]? = some (.cells #[.slice Ao55 t439.length co55, .slice Ao57 t442.length co57] 27 (0, 0))) ∧ (w'.heap[s_.2.2.2.2.2.2.2]? = some (.cells #[.slice none 0 0, .slice none 0 0] 27 (0, 0))) ∧ (w.heap.size ≤ s_.2.2.2.2.2.2.2) ∧ (w.heap.size ≤ s_.2.2.2.2.2.2.2) ∧ (gb420 ≠ s_.2.2.2.2.2.2.2) ∧ (s_.2.2.2.2.2.2.2 ≠ gb420) ∧ (gb421 ≠ s_.2.2.2.2.2.2.2) ∧ (s_.2.2.2.2.2.2.2 ≠ gb421) ∧ (gb422 ≠ s_.2.2.2.2.2.2.2) ∧ (s_.2.2.2.2.2.2.2 ≠ gb422) ∧ (gb446 ≠ s_.2.2.2.2.2.2.2) ∧ (s_.2.2.2.2.2.2.2 ≠ gb446) ∧ (Below w.heap.size w w')) ?_ ?_
    rotate_left
    ·intro hCont
     refine two_ (i := 1) (j := 9) (Ni := some 41) (Nj := some 9) (bz 13 7) (bz 13 517) rfl rfl rfl rfl (two_of HT_.out (by kernel_rfl)) (by decide) (by decide) (fun K hK => ?_) (fun K hK => ?_)
     ·skip
      refine zg Try.func12 #[.agg #[.slice A0_0 l0_0.length c0_0, .slice A0_1 l0_1.length c0_1]] ?_
      with_reducible refine (trefoillaw04_Own.calls _ _ l0_0 _ _ l0_1 t447 t450 _ ?side1 ?side2 ?side3 ?side4 A37.out).mono ?_
      (case side1 => exact zc (Kd.C_below HR0_0.out HB.out))
      (case side2 => exact HC0_0.out)
      (case side3 => exact zc (Kd.C_below HR0_1.out HB.out))
      (case side4 => exact HC0_1.out)
      rintro e w61 ⟨v448, v451, rfl, ho0, ho1, hb⟩
      refine ⟨_, rfl, ?_⟩
      have HO449 := Z0 (rl (rw_ (rw_ (rw_ (rw_ (rw_ ho0 (rlt (zr HO429))) (rlt (zr HO435))) (rlt (zr HO438))) (rlt (zr HO441))) (rlt (zr HO444))) (below_size (zb HB)))
      replace HO429 := Z0 (Kd.R_elder' (zr HO429) (rb ho0) hb)
      replace HO435 := Z0 (Kd.R_elder' (zr HO435) (rb ho0) hb)
      replace HO438 := Z0 (Kd.R_elder' (zr HO438) (rb ho0) hb)
      replace HO441 := Z0 (Kd.R_elder' (zr HO441) (rb ho0) hb)
      replace HO444 := Z0 (Kd.R_elder' (zr HO444) (rb ho0) hb)
      have HO452 := Z0 (rl (rw_ ho1 (rlt (zr HO432))) (below_size (zb HB)))
      replace HO432 := Z0 (Kd.R_elder' (zr HO432) (rb ho1) hb)
      replace BK420 := Z0 (zkb BK420 hb)
      replace BK421 := Z0 (zkb BK421 hb)
      replace BK422 := Z0 (zkb BK422 hb)
      replace BK446 := Z0 (zkb BK446 hb)
      replace HB := Z0 (below_step (zb HB) hb)
      (try clear hb)
      (try clear hb2)
      (try clear hk)
      (try clear hi)
      (try clear ho0)
      (try clear ho1)
      refine hK.out _ _ ⟨kz0 BK420, kz1 BK420, kz0 BK421, kz1 BK421⟩ (fun hHeld => ?_)
      clear hK K
      refine norm_ (a' := ?_) ?_ ?_
      rotate_left
      ·show Act.put _ (some 41) _ = _
       simp only [Act.put, y0, y1, y2, i64_w, i32_w]
       rfl
      refine two_ (i := 3) (j := 9) (Ni := some 43) (Nj := some 9) (bz 13 15) (bz 13 519) rfl rfl rfl rfl (two_of HT_.out (by kernel_rfl)) (by decide) (by decide) (fun K hK => ?_) (fun K hK => ?_)
      ·skip
       refine zg Try.func13 #[.agg #[.slice A1_0 l1_0.length c1_0, .slice A1_1 l1_1.length c1_1]] ?_
       with_reducible refine (trefoillaw11_Own.calls _ _ l1_0 _ _ l1_1 t453 t456 _ ?side1 ?side2 ?side3 ?side4 A38.out).mono ?_
       (case side1 => exact zc (Kd.C_below HR1_0.out HB.out))
       (case side2 => exact HC1_0.out)
       (case side3 => exact zc (Kd.C_below HR1_1.out HB.out))
       (case side4 => exact HC1_1.out)
       rintro e w62 ⟨v454, v457, rfl, ho0, ho1, hb⟩
       refine ⟨_, rfl, ?_⟩
       replace HO432 := Z0 (rbe (zr HO432) hb)
       replace HO452 := Z0 (rbe (zr HO452) hb)
       have HO455 := Z0 (rl (rw_ (rw_ (rw_ (rw_ (rw_ (rw_ ho0 (rlt (zr HO429))) (rlt (zr HO435))) (rlt (zr HO438))) (rlt (zr HO441))) (rlt (zr HO444))) (rlt (zr HO449))) (below_size (zb HB)))
       have HO458 := Z0 (rl (rw_ (rw_ (rw_ (rw_ (rw_ (rw_ ho1 (rlt (zr HO429))) (rlt (zr HO435))) (rlt (zr HO438))) (rlt (zr HO441))) (rlt (zr HO444))) (rlt (zr HO449))) (below_size (zb HB)))
       replace HO429 := Z0 (rmt HO429 hb ho0 ho1)
       replace HO435 := Z0 (rmt HO435 hb ho0 ho1)
       replace HO438 := Z0 (rmt HO438 hb ho0 ho1)
       replace HO441 := Z0 (rmt HO441 hb ho0 ho1)
       replace HO444 := Z0 (rmt HO444 hb ho0 ho1)
       replace HO449 := Z0 (rmt HO449 hb ho0 ho1)
       replace BK420 := Z0 (zkb BK420 hb)
       replace BK421 := Z0 (zkb BK421 hb)
       replace BK422 := Z0 (zkb BK422 hb)
       replace BK446 := Z0 (zkb BK446 hb)
       replace HB := Z0 (below_step (zb HB) hb)
       (try clear hb)
       (try clear hb2)
       (try clear hk)
       (try clear hi)
       (try clear ho0)
       (try clear ho1)
       obtain ⟨Ao63, co63, eo63⟩ := Kd.R_slice HO449.out
       subst eo63
       obtain ⟨Ao64, co64, eo64⟩ := Kd.R_slice HO452.out
       subst eo64
       obtain ⟨Ao65, co65, eo65⟩ := Kd.R_slice HO455.out
       subst eo65
       obtain ⟨Ao66, co66, eo66⟩ := Kd.R_slice HO458.out
       subst eo66
       refine hK.out _ _ ⟨kz0 BK420, kz1 BK420, kz0 BK421, kz1 BK421⟩ (fun hHeld => ?_)
       clear hK K
       refine norm_ (a' := ?_) ?_ ?_
       rotate_left
       ·show Act.put _ (some 43) _ = _
        simp only [Act.put, y0, y1, y2, i64_w, i32_w]
        rfl
       refine two_ (i := 4) (j := 9) (Ni := some 44) (Nj := some 9) (bz 13 31) (bz 13 527) rfl rfl rfl rfl (two_of HT_.out (by kernel_rfl)) (by decide) (by decide) (fun K hK => ?_) (fun K hK => ?_)
       ·skip
        refine zg Try.func14 #[.agg #[.slice Ao63 t447.length co63, .slice Ao64 t450.length co64], .agg #[.slice Ao65 t453.length co65, .slice Ao66 t456.length co66]] ?_
        with_reducible refine (list_Tick.calls _ _ t447 _ _ t450 _ _ t453 _ _ t456 t459 t462 t465 t468 _ ?side1 ?side2 ?side3 ?side4 ?side5 ?side6 ?side7 ?side8 A39.out).mono ?_
        (case side1 => exact zc (rr HO449.out).2.2)
        (case side2 => exact (rr HO449.out).2.1)
        (case side3 => exact zc (rr HO452.out).2.2)
        (case side4 => exact (rr HO452.out).2.1)
        (case side5 => exact zc (rr HO455.out).2.2)
        (case side6 => exact (rr HO455.out).2.1)
        (case side7 => exact zc (rr HO458.out).2.2)
        (case side8 => exact (rr HO458.out).2.1)
        rintro e w67 ⟨v460, v463, v466, rfl, ho0, ho1, ho2, hb⟩
        refine ⟨_, rfl, ?_⟩
        replace HO432 := Z0 (rbe (zr HO432) hb)
        replace HO452 := Z0 (rbe (zr HO452) hb)
        have HO461 := Z0 (rl (rw_ (rw_ (rw_ (rw_ (rw_ (rw_ (rw_ (rw_ ho0 (rlt (zr HO429))) (rlt (zr HO435))) (rlt (zr HO438))) (rlt (zr HO441))) (rlt (zr HO444))) (rlt (zr HO449))) (rlt (zr HO455))) (rlt (zr HO458))) (below_size (zb HB)))
        have HO464 := Z0 (rl (rw_ (rw_ (rw_ (rw_ (rw_ (rw_ (rw_ (rw_ ho1 (rlt (zr HO429))) (rlt (zr HO435))) (rlt (zr HO438))) (rlt (zr HO441))) (rlt (zr HO444))) (rlt (zr HO449))) (rlt (zr HO455))) (rlt (zr HO458))) (below_size (zb HB)))
        have HO467 := Z0 (rl (rw_ (rw_ (rw_ (rw_ (rw_ (rw_ (rw_ (rw_ ho2 (rlt (zr HO429))) (rlt (zr HO435))) (rlt (zr HO438))) (rlt (zr HO441))) (rlt (zr HO444))) (rlt (zr HO449))) (rlt (zr HO455))) (rlt (zr HO458))) (below_size (zb HB)))
        replace HO429 := Z0 (rm (rt (rt (rt (ro (zr HO429) hb) (rb ho0)) (rb ho1)) (rb ho2)) (fun _ h_ => h_.1))
        replace HO435 := Z0 (rm (rt (rt (rt (ro (zr HO435) hb) (rb ho0)) (rb ho1)) (rb ho2)) (fun _ h_ => h_.1))
        replace HO438 := Z0 (rm (rt (rt (rt (ro (zr HO438) hb) (rb ho0)) (rb ho1)) (rb ho2)) (fun _ h_ => h_.1))
        replace HO441 := Z0 (rm (rt (rt (rt (ro (zr HO441) hb) (rb ho0)) (rb ho1)) (rb ho2)) (fun _ h_ => h_.1))
        replace HO444 := Z0 (rm (rt (rt (rt (ro (zr HO444) hb) (rb ho0)) (rb ho1)) (rb ho2)) (fun _ h_ => h_.1))
        replace HO449 := Z0 (rm (rt (rt (rt (ro (zr HO449) hb) (rb ho0)) (rb ho1)) (rb ho2)) (fun _ h_ => h_.1))
        replace HO455 := Z0 (rm (rt (rt (rt (ro (zr HO455) hb) (rb ho0)) (rb ho1)) (rb ho2)) (fun _ h_ => h_.1))
        replace HO458 := Z0 (rm (rt (rt (rt (ro (zr HO458) hb) (rb ho0)) (rb ho1)) (rb ho2)) (fun _ h_ => h_.1))
        replace BK420 := Z0 (zkb BK420 hb)
        replace BK421 := Z0 (zkb BK421 hb)
        replace BK422 := Z0 (zkb BK422 hb)
        replace BK446 := Z0 (zkb BK446 hb)
        replace HB := Z0 (below_step (zb HB) hb)
        (try clear hb)
        (try clear hb2)
        (try clear hk)
        (try clear hi)
        (try clear ho0)
        (try clear ho1)
        (try clear ho2)
        refine hK.out _ _ ⟨kz0 BK420, kz1 BK420, kz0 BK421, kz1 BK421⟩ (fun hHeld => ?_)
        clear hK K
        refine norm_ (a' := ?_) ?_ ?_
        rotate_left
        ·show Act.put _ (some 44) _ = _
         simp only [Act.put, y0, y1, y2, i64_w, i32_w]
         rfl
        refine pu 5 (some 39) (bz 13 63) HT_ ?_
        refine pu 6 (some 45) (bz 13 127) HT_ ?_
        refine pu 7 (some 46) (bz 13 255) HT_ ?_
        refine pu 8 (some 47) (bz 13 511) HT_ ?_
        refine one_ (i := 9) (N := some 9) (bz 13 1023) rfl rfl (one_of HT_.out (by kernel_rfl)) (by decide) (fun K hK => ?_)
        refine box_step ?hg (N := 9) ?hd (cs := #[.slice none 0 0, .slice none 0 0]) (t := 27) ?hr ?_; (case hd => rfl); (case hg => rfl); (case hr => first | (go_simp; done) | (go_simp; rfl))
        intro gb469 hg w68 hbox hb
        replace HO429 := Z0 (rbe (zr HO429) hb)
        replace HO432 := Z0 (rbe (zr HO432) hb)
        replace HO435 := Z0 (rbe (zr HO435) hb)
        replace HO438 := Z0 (rbe (zr HO438) hb)
        replace HO441 := Z0 (rbe (zr HO441) hb)
        replace HO444 := Z0 (rbe (zr HO444) hb)
        replace HO449 := Z0 (rbe (zr HO449) hb)
        replace HO452 := Z0 (rbe (zr HO452) hb)
        replace HO455 := Z0 (rbe (zr HO455) hb)
        replace HO458 := Z0 (rbe (zr HO458) hb)
        replace HO461 := Z0 (rbe (zr HO461) hb)
        replace HO464 := Z0 (rbe (zr HO464) hb)
        replace HO467 := Z0 (rbe (zr HO467) hb)
        have BK469 := Z0 (hbox)
        have GW469 := Z0 (zh w hg HB)
        have GE469 := Z0 (zh w hg HB)
        replace HB := Z0 (below_step (zb HB) hb)
        have NB420_469 := Z0 (zl hg BK420)
        have NB469_420 := Z0 (zu hg BK420)
        replace BK420 := Z0 (zkb BK420 hb)
        have NB421_469 := Z0 (zl hg BK421)
        have NB469_421 := Z0 (zu hg BK421)
        replace BK421 := Z0 (zkb BK421 hb)
        have NB422_469 := Z0 (zl hg BK422)
        have NB469_422 := Z0 (zu hg BK422)
        replace BK422 := Z0 (zkb BK422 hb)
        have NB446_469 := Z0 (zl hg BK446)
        have NB469_446 := Z0 (zu hg BK446)
        replace BK446 := Z0 (zkb BK446 hb)
        clear hb hbox hg
        refine hK.out _ _ ⟨kz0 BK420, kz1 BK420, kz0 BK421, kz1 BK421⟩ (fun hHeld => ?_)
        clear hK K
        refine norm_ (a' := ?_) ?_ ?_
        rotate_left
        ·show Act.put _ (some 9) _ = _
         simp only [Act.put, y0, y1, y2, i64_w, i32_w]
         rfl
        exact norm_ (by simp only [putAll, Act.put, y0, y1, y2]) (hCont (.slice Ao63 t447.length co63, .slice Ao64 t450.length co64, .slice Ao65 t453.length co65, .slice Ao66 t456.length co66, v460, v463, v466, gb469) _ ⟨hHeld, (by (with_reducible repeat (first | apply ra | apply rn | apply rd_)); exact rm HO429.out (fun _ hk => ⟨hk.1.1.1.1.1.1.1, ⟨hk.1.1.1.1.1.1.2.1, ⟨hk.1.1.1.1.1.1.2.2.1, ⟨hk.1.1.1.1.1.1.2.2.2, ⟨hk.1.1.1.1.1.2, ⟨hk.1.1.1.1.2, ⟨hk.1.1.1.2, ⟨hk.1.1.2, ⟨hk.1.2, hk.2⟩⟩⟩⟩⟩⟩⟩⟩⟩)), (by (with_reducible repeat (first | apply ra | apply rn | apply rd_)); exact rm HO432.out (fun _ hk => hk.2)), (by (with_reducible repeat (first | apply ra | apply rn | apply rd_)); exact rm HO435.out (fun _ hk => ⟨hk.1.1.1.1.1.1.1, ⟨hk.1.1.1.1.1.1.2.1, ⟨hk.1.1.1.1.1.1.2.2.1, ⟨hk.1.1.1.1.1.1.2.2.2, ⟨hk.1.1.1.1.1.2, ⟨hk.1.1.1.1.2, ⟨hk.1.1.1.2, ⟨hk.1.1.2, ⟨hk.1.2, hk.2⟩⟩⟩⟩⟩⟩⟩⟩⟩)), (by (with_reducible repeat (first | apply ra | apply rn | apply rd_)); exact rm HO438.out (fun _ hk => ⟨hk.1.1.1.1.1.1.1, ⟨hk.1.1.1.1.1.1.2.1, ⟨hk.1.1.1.1.1.1.2.2.1, ⟨hk.1.1.1.1.1.1.2.2.2, ⟨hk.1.1.1.1.1.2, ⟨hk.1.1.1.1.2, ⟨hk.1.1.1.2, ⟨hk.1.1.2, ⟨hk.1.2, hk.2⟩⟩⟩⟩⟩⟩⟩⟩⟩)), (by (with_reducible repeat (first | apply ra | apply rn | apply rd_)); exact rm HO441.out (fun _ hk => ⟨hk.1.1.1.1.1.1.1, ⟨hk.1.1.1.1.1.1.2.1, ⟨hk.1.1.1.1.1.1.2.2.1, ⟨hk.1.1.1.1.1.1.2.2.2, ⟨hk.1.1.1.1.1.2, ⟨hk.1.1.1.1.2, ⟨hk.1.1.1.2, ⟨hk.1.1.2, ⟨hk.1.2, hk.2⟩⟩⟩⟩⟩⟩⟩⟩⟩)), (by (with_reducible repeat (first | apply ra | apply rn | apply rd_)); exact rm HO444.out (fun _ hk => ⟨hk.1.1.1.1.1.1.1, ⟨hk.1.1.1.1.1.1.2.1, ⟨hk.1.1.1.1.1.1.2.2.1, ⟨hk.1.1.1.1.1.1.2.2.2, ⟨hk.1.1.1.1.1.2, ⟨hk.1.1.1.1.2, ⟨hk.1.1.1.2, ⟨hk.1.1.2, ⟨hk.1.2, hk.2⟩⟩⟩⟩⟩⟩⟩⟩⟩)), (by (with_reducible repeat (first | apply ra | apply rn | apply rd_)); exact rm HO449.out (fun _ hk => ⟨hk.1.1.1.1.1.1.1.1.1.2, ⟨hk.1.1.1.1.1.1.1.1.2, ⟨hk.1.1.1.1.1.1.1.2, ⟨hk.1.1.1.1.1.1.2, ⟨hk.1.1.1.1.1.2, ⟨hk.1.1.1.1.2, ⟨hk.1.1.1.2, ⟨hk.1.1.2, ⟨hk.1.2, hk.2⟩⟩⟩⟩⟩⟩⟩⟩⟩)), (by (with_reducible repeat (first | apply ra | apply rn | apply rd_)); exact rm HO452.out (fun _ hk => hk.2)), (by (with_reducible repeat (first | apply ra | apply rn | apply rd_)); exact rm HO455.out (fun _ hk => ⟨hk.1.1.1.1.1.1.1.1.2, ⟨hk.1.1.1.1.1.1.1.2, ⟨hk.1.1.1.1.1.1.2, ⟨hk.1.1.1.1.1.2, ⟨hk.1.1.1.1.2, ⟨hk.1.1.1.2, ⟨hk.1.1.1.1.1.1.1.1.1, ⟨hk.1.1.2, ⟨hk.1.2, hk.2⟩⟩⟩⟩⟩⟩⟩⟩⟩)), (by (with_reducible repeat (first | apply ra | apply rn | apply rd_)); exact rm HO458.out (fun _ hk => ⟨hk.1.1.1.1.1.1.1.1.2, ⟨hk.1.1.1.1.1.1.1.2, ⟨hk.1.1.1.1.1.1.2, ⟨hk.1.1.1.1.1.2, ⟨hk.1.1.1.1.2, ⟨hk.1.1.1.2, ⟨hk.1.1.1.1.1.1.1.1.1, ⟨hk.1.1.2, ⟨hk.1.2, hk.2⟩⟩⟩⟩⟩⟩⟩⟩⟩)), (by (with_reducible repeat (first | apply ra | apply rn | apply rd_)); exact rm HO461.out (fun _ hk => ⟨hk.1.1.1.1.1.1.1.2, ⟨hk.1.1.1.1.1.1.2, ⟨hk.1.1.1.1.1.2, ⟨hk.1.1.1.1.2, ⟨hk.1.1.1.2, ⟨hk.1.1.2, ⟨hk.1.2, ⟨hk.2, ⟨hk.1.1.1.1.1.1.1.1.1, hk.1.1.1.1.1.1.1.1.2⟩⟩⟩⟩⟩⟩⟩⟩⟩)), (by (with_reducible repeat (first | apply ra | apply rn | apply rd_)); exact rm HO464.out (fun _ hk => ⟨hk.1.1.1.1.1.1.1.2, ⟨hk.1.1.1.1.1.1.2, ⟨hk.1.1.1.1.1.2, ⟨hk.1.1.1.1.2, ⟨hk.1.1.1.2, ⟨hk.1.1.2, ⟨hk.1.2, ⟨hk.2, ⟨hk.1.1.1.1.1.1.1.1.1, hk.1.1.1.1.1.1.1.1.2⟩⟩⟩⟩⟩⟩⟩⟩⟩)), (by (with_reducible repeat (first | apply ra | apply rn | apply rd_)); exact rm HO467.out (fun _ hk => ⟨hk.1.1.1.1.1.1.1.2, ⟨hk.1.1.1.1.1.1.2, ⟨hk.1.1.1.1.1.2, ⟨hk.1.1.1.1.2, ⟨hk.1.1.1.2, ⟨hk.1.1.2, ⟨hk.1.2, ⟨hk.2, ⟨hk.1.1.1.1.1.1.1.1.1, hk.1.1.1.1.1.1.1.1.2⟩⟩⟩⟩⟩⟩⟩⟩⟩)), (zk BK420), (zk BK421), (zk BK422), (zk BK446), (zk BK469), GW469.out, GE469.out, NB420_469.out, NB469_420.out, NB421_469.out, NB469_421.out, NB422_469.out, NB469_422.out, NB446_469.out, NB469_446.out, (zb HB)⟩)
       ·skip
        refine box_step ?hg (N := 9) ?hd (cs := #[.slice none 0 0, .slice none 0 0]) (t := 27) ?hr ?_; (case hd => rfl); (case hg => rfl); (case hr => first | (go_simp; done) | (go_simp; rfl))
        intro gb469 hg w63 hbox hb
        replace HO429 := Z0 (rbe (zr HO429) hb)
        replace HO432 := Z0 (rbe (zr HO432) hb)
        replace HO435 := Z0 (rbe (zr HO435) hb)
        replace HO438 := Z0 (rbe (zr HO438) hb)
        replace HO441 := Z0 (rbe (zr HO441) hb)
        replace HO444 := Z0 (rbe (zr HO444) hb)
        replace HO449 := Z0 (rbe (zr HO449) hb)
        replace HO452 := Z0 (rbe (zr HO452) hb)
        replace HO455 := Z0 (rbe (zr HO455) hb)
        replace HO458 := Z0 (rbe (zr HO458) hb)
        have BK469 := Z0 (hbox)
        have GW469 := Z0 (zh w hg HB)
        have GE469 := Z0 (zh w hg HB)
        replace HB := Z0 (below_step (zb HB) hb)
        have NB420_469 := Z0 (zl hg BK420)
        have NB469_420 := Z0 (zu hg BK420)
        replace BK420 := Z0 (zkb BK420 hb)
        have NB421_469 := Z0 (zl hg BK421)
        have NB469_421 := Z0 (zu hg BK421)
        replace BK421 := Z0 (zkb BK421 hb)
        have NB422_469 := Z0 (zl hg BK422)
        have NB469_422 := Z0 (zu hg BK422)
        replace BK422 := Z0 (zkb BK422 hb)
        have NB446_469 := Z0 (zl hg BK446)
        have NB469_446 := Z0 (zu hg BK446)
        replace BK446 := Z0 (zkb BK446 hb)
        clear hb hbox hg
        obtain ⟨Ao64, co64, eo64⟩ := Kd.R_slice HO449.out
        (first | subst eo64 | (injection eo64 with f1_ f2_ f3_; have f4_ := f1_.symm; have f5_ := f3_.symm; clear f1_ f2_ f3_; subst f4_; subst f5_))
        obtain ⟨Ao65, co65, eo65⟩ := Kd.R_slice HO452.out
        (first | subst eo65 | (injection eo65 with f1_ f2_ f3_; have f4_ := f1_.symm; have f5_ := f3_.symm; clear f1_ f2_ f3_; subst f4_; subst f5_))
        obtain ⟨Ao66, co66, eo66⟩ := Kd.R_slice HO455.out
        (first | subst eo66 | (injection eo66 with f1_ f2_ f3_; have f4_ := f1_.symm; have f5_ := f3_.symm; clear f1_ f2_ f3_; subst f4_; subst f5_))
        obtain ⟨Ao67, co67, eo67⟩ := Kd.R_slice HO458.out
        (first | subst eo67 | (injection eo67 with f1_ f2_ f3_; have f4_ := f1_.symm; have f5_ := f3_.symm; clear f1_ f2_ f3_; subst f4_; subst f5_))
        refine hK.out _ _ ⟨kz0 BK420, kz1 BK420, kz0 BK421, kz1 BK421⟩ (fun hHeld => ?_)
        clear hK K
        refine norm_ (a' := ?_) ?_ ?_
        rotate_left
        ·show Act.put _ (some 9) _ = _
         simp only [Act.put, y0, y1, y2, i64_w, i32_w]
         rfl
        refine one_ (i := 4) (N := some 44) (bz 13 543) rfl rfl (one_of HT_.out (by kernel_rfl)) (by decide) (fun K hK => ?_)
        refine zg Try.func14 #[.agg #[.slice Ao64 t447.length co64, .slice Ao65 t450.length co65], .agg #[.slice Ao66 t453.length co66, .slice Ao67 t456.length co67]] ?_
        with_reducible refine (list_Tick.calls _ _ t447 _ _ t450 _ _ t453 _ _ t456 t459 t462 t465 t468 _ ?side1 ?side2 ?side3 ?side4 ?side5 ?side6 ?side7 ?side8 A39.out).mono ?_
        (case side1 => exact zc (rr HO449.out).2.2)
        (case side2 => exact (rr HO449.out).2.1)
        (case side3 => exact zc (rr HO452.out).2.2)
        (case side4 => exact (rr HO452.out).2.1)
        (case side5 => exact zc (rr HO455.out).2.2)
        (case side6 => exact (rr HO455.out).2.1)
        (case side7 => exact zc (rr HO458.out).2.2)
        (case side8 => exact (rr HO458.out).2.1)
        rintro e w68 ⟨v460, v463, v466, rfl, ho0, ho1, ho2, hb⟩
        refine ⟨_, rfl, ?_⟩
        replace HO432 := Z0 (rbe (zr HO432) hb)
        replace HO452 := Z0 (rbe (zr HO452) hb)
        have HO461 := Z0 (rl (rw_ (rw_ (rw_ (rw_ (rw_ (rw_ (rw_ (rw_ ho0 (rlt (zr HO429))) (rlt (zr HO435))) (rlt (zr HO438))) (rlt (zr HO441))) (rlt (zr HO444))) (rlt (zr HO449))) (rlt (zr HO455))) (rlt (zr HO458))) (below_size (zb HB)))
        have HO464 := Z0 (rl (rw_ (rw_ (rw_ (rw_ (rw_ (rw_ (rw_ (rw_ ho1 (rlt (zr HO429))) (rlt (zr HO435))) (rlt (zr HO438))) (rlt (zr HO441))) (rlt (zr HO444))) (rlt (zr HO449))) (rlt (zr HO455))) (rlt (zr HO458))) (below_size (zb HB)))
        have HO467 := Z0 (rl (rw_ (rw_ (rw_ (rw_ (rw_ (rw_ (rw_ (rw_ ho2 (rlt (zr HO429))) (rlt (zr HO435))) (rlt (zr HO438))) (rlt (zr HO441))) (rlt (zr HO444))) (rlt (zr HO449))) (rlt (zr HO455))) (rlt (zr HO458))) (below_size (zb HB)))
        replace HO429 := Z0 (rm (rt (rt (rt (ro (zr HO429) hb) (rb ho0)) (rb ho1)) (rb ho2)) (fun _ h_ => h_.1))
        replace HO435 := Z0 (rm (rt (rt (rt (ro (zr HO435) hb) (rb ho0)) (rb ho1)) (rb ho2)) (fun _ h_ => h_.1))
        replace HO438 := Z0 (rm (rt (rt (rt (ro (zr HO438) hb) (rb ho0)) (rb ho1)) (rb ho2)) (fun _ h_ => h_.1))
        replace HO441 := Z0 (rm (rt (rt (rt (ro (zr HO441) hb) (rb ho0)) (rb ho1)) (rb ho2)) (fun _ h_ => h_.1))
        replace HO444 := Z0 (rm (rt (rt (rt (ro (zr HO444) hb) (rb ho0)) (rb ho1)) (rb ho2)) (fun _ h_ => h_.1))
        replace HO449 := Z0 (rm (rt (rt (rt (ro (zr HO449) hb) (rb ho0)) (rb ho1)) (rb ho2)) (fun _ h_ => h_.1))
        replace HO455 := Z0 (rm (rt (rt (rt (ro (zr HO455) hb) (rb ho0)) (rb ho1)) (rb ho2)) (fun _ h_ => h_.1))
        replace HO458 := Z0 (rm (rt (rt (rt (ro (zr HO458) hb) (rb ho0)) (rb ho1)) (rb ho2)) (fun _ h_ => h_.1))
        replace BK420 := Z0 (zkb BK420 hb)
        replace BK421 := Z0 (zkb BK421 hb)
        replace BK422 := Z0 (zkb BK422 hb)
        replace BK446 := Z0 (zkb BK446 hb)
        replace BK469 := Z0 (zkb BK469 hb)
        replace HB := Z0 (below_step (zb HB) hb)
        (try clear hb)
        (try clear hb2)
        (try clear hk)
        (try clear hi)
        (try clear ho0)
        (try clear ho1)
        (try clear ho2)
        refine hK.out _ _ ⟨kz0 BK420, kz1 BK420, kz0 BK421, kz1 BK421⟩ (fun hHeld => ?_)
        clear hK K
        refine norm_ (a' := ?_) ?_ ?_
        rotate_left
        ·show Act.put _ (some 44) _ = _
         simp only [Act.put, y0, y1, y2, i64_w, i32_w]
         rfl
        refine pu 5 (some 39) (bz 13 575) HT_ ?_
        refine pu 6 (some 45) (bz 13 639) HT_ ?_
        refine pu 7 (some 46) (bz 13 767) HT_ ?_
        refine pu 8 (some 47) (bz 13 1023) HT_ ?_
        exact norm_ (by simp only [putAll, Act.put, y0, y1, y2]) (hCont (.slice Ao64 t447.length co64, .slice Ao65 t450.length co65, .slice Ao66 t453.length co66, .slice Ao67 t456.length co67, v460, v463, v466, gb469) _ ⟨hHeld, (by (with_reducible repeat (first | apply ra | apply rn | apply rd_)); exact rm HO429.out (fun _ hk => ⟨hk.1.1.1.1.1.1.1, ⟨hk.1.1.1.1.1.1.2.1, ⟨hk.1.1.1.1.1.1.2.2.1, ⟨hk.1.1.1.1.1.1.2.2.2, ⟨hk.1.1.1.1.1.2, ⟨hk.1.1.1.1.2, ⟨hk.1.1.1.2, ⟨hk.1.1.2, ⟨hk.1.2, hk.2⟩⟩⟩⟩⟩⟩⟩⟩⟩)), (by (with_reducible repeat (first | apply ra | apply rn | apply rd_)); exact rm HO432.out (fun _ hk => hk.2)), (by (with_reducible repeat (first | apply ra | apply rn | apply rd_)); exact rm HO435.out (fun _ hk => ⟨hk.1.1.1.1.1.1.1, ⟨hk.1.1.1.1.1.1.2.1, ⟨hk.1.1.1.1.1.1.2.2.1, ⟨hk.1.1.1.1.1.1.2.2.2, ⟨hk.1.1.1.1.1.2, ⟨hk.1.1.1.1.2, ⟨hk.1.1.1.2, ⟨hk.1.1.2, ⟨hk.1.2, hk.2⟩⟩⟩⟩⟩⟩⟩⟩⟩)), (by (with_reducible repeat (first | apply ra | apply rn | apply rd_)); exact rm HO438.out (fun _ hk => ⟨hk.1.1.1.1.1.1.1, ⟨hk.1.1.1.1.1.1.2.1, ⟨hk.1.1.1.1.1.1.2.2.1, ⟨hk.1.1.1.1.1.1.2.2.2, ⟨hk.1.1.1.1.1.2, ⟨hk.1.1.1.1.2, ⟨hk.1.1.1.2, ⟨hk.1.1.2, ⟨hk.1.2, hk.2⟩⟩⟩⟩⟩⟩⟩⟩⟩)), (by (with_reducible repeat (first | apply ra | apply rn | apply rd_)); exact rm HO441.out (fun _ hk => ⟨hk.1.1.1.1.1.1.1, ⟨hk.1.1.1.1.1.1.2.1, ⟨hk.1.1.1.1.1.1.2.2.1, ⟨hk.1.1.1.1.1.1.2.2.2, ⟨hk.1.1.1.1.1.2, ⟨hk.1.1.1.1.2, ⟨hk.1.1.1.2, ⟨hk.1.1.2, ⟨hk.1.2, hk.2⟩⟩⟩⟩⟩⟩⟩⟩⟩)), (by (with_reducible repeat (first | apply ra | apply rn | apply rd_)); exact rm HO444.out (fun _ hk => ⟨hk.1.1.1.1.1.1.1, ⟨hk.1.1.1.1.1.1.2.1, ⟨hk.1.1.1.1.1.1.2.2.1, ⟨hk.1.1.1.1.1.1.2.2.2, ⟨hk.1.1.1.1.1.2, ⟨hk.1.1.1.1.2, ⟨hk.1.1.1.2, ⟨hk.1.1.2, ⟨hk.1.2, hk.2⟩⟩⟩⟩⟩⟩⟩⟩⟩)), (by (with_reducible repeat (first | apply ra | apply rn | apply rd_)); exact rm HO449.out (fun _ hk => ⟨hk.1.1.1.1.1.1.1.1.1.2, ⟨hk.1.1.1.1.1.1.1.1.2, ⟨hk.1.1.1.1.1.1.1.2, ⟨hk.1.1.1.1.1.1.2, ⟨hk.1.1.1.1.1.2, ⟨hk.1.1.1.1.2, ⟨hk.1.1.1.2, ⟨hk.1.1.2, ⟨hk.1.2, hk.2⟩⟩⟩⟩⟩⟩⟩⟩⟩)), (by (with_reducible repeat (first | apply ra | apply rn | apply rd_)); exact rm HO452.out (fun _ hk => hk.2)), (by (with_reducible repeat (first | apply ra | apply rn | apply rd_)); exact rm HO455.out (fun _ hk => ⟨hk.1.1.1.1.1.1.1.1.2, ⟨hk.1.1.1.1.1.1.1.2, ⟨hk.1.1.1.1.1.1.2, ⟨hk.1.1.1.1.1.2, ⟨hk.1.1.1.1.2, ⟨hk.1.1.1.2, ⟨hk.1.1.1.1.1.1.1.1.1, ⟨hk.1.1.2, ⟨hk.1.2, hk.2⟩⟩⟩⟩⟩⟩⟩⟩⟩)), (by (with_reducible repeat (first | apply ra | apply rn | apply rd_)); exact rm HO458.out (fun _ hk => ⟨hk.1.1.1.1.1.1.1.1.2, ⟨hk.1.1.1.1.1.1.1.2, ⟨hk.1.1.1.1.1.1.2, ⟨hk.1.1.1.1.1.2, ⟨hk.1.1.1.1.2, ⟨hk.1.1.1.2, ⟨hk.1.1.1.1.1.1.1.1.1, ⟨hk.1.1.2, ⟨hk.1.2, hk.2⟩⟩⟩⟩⟩⟩⟩⟩⟩)), (by (with_reducible repeat (first | apply ra | apply rn | apply rd_)); exact rm HO461.out (fun _ hk => ⟨hk.1.1.1.1.1.1.1.2, ⟨hk.1.1.1.1.1.1.2, ⟨hk.1.1.1.1.1.2, ⟨hk.1.1.1.1.2, ⟨hk.1.1.1.2, ⟨hk.1.1.2, ⟨hk.1.2, ⟨hk.2, ⟨hk.1.1.1.1.1.1.1.1.1, hk.1.1.1.1.1.1.1.1.2⟩⟩⟩⟩⟩⟩⟩⟩⟩)), (by (with_reducible repeat (first | apply ra | apply rn | apply rd_)); exact rm HO464.out (fun _ hk => ⟨hk.1.1.1.1.1.1.1.2, ⟨hk.1.1.1.1.1.1.2, ⟨hk.1.1.1.1.1.2, ⟨hk.1.1.1.1.2, ⟨hk.1.1.1.2, ⟨hk.1.1.2, ⟨hk.1.2, ⟨hk.2, ⟨hk.1.1.1.1.1.1.1.1.1, hk.1.1.1.1.1.1.1.1.2⟩⟩⟩⟩⟩⟩⟩⟩⟩)), (by (with_reducible repeat (first | apply ra | apply rn | apply rd_)); exact rm HO467.out (fun _ hk => ⟨hk.1.1.1.1.1.1.1.2, ⟨hk.1.1.1.1.1.1.2, ⟨hk.1.1.1.1.1.2, ⟨hk.1.1.1.1.2, ⟨hk.1.1.1.2, ⟨hk.1.1.2, ⟨hk.1.2, ⟨hk.2, ⟨hk.1.1.1.1.1.1.1.1.1, hk.1.1.1.1.1.1.1.1.2⟩⟩⟩⟩⟩⟩⟩⟩⟩)), (zk BK420), (zk BK421), (zk BK422), (zk BK446), (zk BK469), GW469.out, GE469.out, NB420_469.out, NB469_420.out, NB421_469.out, NB469_421.out, NB422_469.out, NB469_422.out, NB446_469.out, NB469_446.out, (zb HB)⟩)
      ·skip
       refine box_step ?hg (N := 9) ?hd (cs := #[.slice none 0 0, .slice none 0 0]) (t := 27) ?hr ?_; (case hd => rfl); (case hg => rfl); (case hr => first | (go_simp; done) | (go_simp; rfl))
       intro gb469 hg w62 hbox hb
       replace HO429 := Z0 (rbe (zr HO429) hb)
       replace HO432 := Z0 (rbe (zr HO432) hb)
       replace HO435 := Z0 (rbe (zr HO435) hb)
       replace HO438 := Z0 (rbe (zr HO438) hb)
       replace HO441 := Z0 (rbe (zr HO441) hb)
       replace HO444 := Z0 (rbe (zr HO444) hb)
       replace HO449 := Z0 (rbe (zr HO449) hb)
       replace HO452 := Z0 (rbe (zr HO452) hb)
       have BK469 := Z0 (hbox)
       have GW469 := Z0 (zh w hg HB)
       have GE469 := Z0 (zh w hg HB)
       replace HB := Z0 (below_step (zb HB) hb)
       have NB420_469 := Z0 (zl hg BK420)
       have NB469_420 := Z0 (zu hg BK420)
       replace BK420 := Z0 (zkb BK420 hb)
       have NB421_469 := Z0 (zl hg BK421)
       have NB469_421 := Z0 (zu hg BK421)
       replace BK421 := Z0 (zkb BK421 hb)
       have NB422_469 := Z0 (zl hg BK422)
       have NB469_422 := Z0 (zu hg BK422)
       replace BK422 := Z0 (zkb BK422 hb)
       have NB446_469 := Z0 (zl hg BK446)
       have NB469_446 := Z0 (zu hg BK446)
       replace BK446 := Z0 (zkb BK446 hb)
       clear hb hbox hg
       refine hK.out _ _ ⟨kz0 BK420, kz1 BK420, kz0 BK421, kz1 BK421⟩ (fun hHeld => ?_)
       clear hK K
       refine norm_ (a' := ?_) ?_ ?_
       rotate_left
       ·show Act.put _ (some 9) _ = _
        simp only [Act.put, y0, y1, y2, i64_w, i32_w]
        rfl
       refine one_ (i := 3) (N := some 43) (bz 13 527) rfl rfl (one_of HT_.out (by kernel_rfl)) (by decide) (fun K hK => ?_)
       refine zg Try.func13 #[.agg #[.slice A1_0 l1_0.length c1_0, .slice A1_1 l1_1.length c1_1]] ?_
       with_reducible refine (trefoillaw11_Own.calls _ _ l1_0 _ _ l1_1 t453 t456 _ ?side1 ?side2 ?side3 ?side4 A38.out).mono ?_
       (case side1 => exact zc (Kd.C_below HR1_0.out HB.out))
       (case side2 => exact HC1_0.out)
       (case side3 => exact zc (Kd.C_below HR1_1.out HB.out))
       (case side4 => exact HC1_1.out)
       rintro e w63 ⟨v454, v457, rfl, ho0, ho1, hb⟩
       refine ⟨_, rfl, ?_⟩
       replace HO432 := Z0 (rbe (zr HO432) hb)
       replace HO452 := Z0 (rbe (zr HO452) hb)
       have HO455 := Z0 (rl (rw_ (rw_ (rw_ (rw_ (rw_ (rw_ ho0 (rlt (zr HO429))) (rlt (zr HO435))) (rlt (zr HO438))) (rlt (zr HO441))) (rlt (zr HO444))) (rlt (zr HO449))) (below_size (zb HB)))
       have HO458 := Z0 (rl (rw_ (rw_ (rw_ (rw_ (rw_ (rw_ ho1 (rlt (zr HO429))) (rlt (zr HO435))) (rlt (zr HO438))) (rlt (zr HO441))) (rlt (zr HO444))) (rlt (zr HO449))) (below_size (zb HB)))
       replace HO429 := Z0 (rmt HO429 hb ho0 ho1)
       replace HO435 := Z0 (rmt HO435 hb ho0 ho1)
       replace HO438 := Z0 (rmt HO438 hb ho0 ho1)
       replace HO441 := Z0 (rmt HO441 hb ho0 ho1)
       replace HO444 := Z0 (rmt HO444 hb ho0 ho1)
       replace HO449 := Z0 (rmt HO449 hb ho0 ho1)
       replace BK420 := Z0 (zkb BK420 hb)
       replace BK421 := Z0 (zkb BK421 hb)
       replace BK422 := Z0 (zkb BK422 hb)
       replace BK446 := Z0 (zkb BK446 hb)
       replace BK469 := Z0 (zkb BK469 hb)
       replace HB := Z0 (below_step (zb HB) hb)
       (try clear hb)
       (try clear hb2)
       (try clear hk)
       (try clear hi)
       (try clear ho0)
       (try clear ho1)
       obtain ⟨Ao64, co64, eo64⟩ := Kd.R_slice HO449.out
       subst eo64
       obtain ⟨Ao65, co65, eo65⟩ := Kd.R_slice HO452.out
       subst eo65
       obtain ⟨Ao66, co66, eo66⟩ := Kd.R_slice HO455.out
       subst eo66
       obtain ⟨Ao67, co67, eo67⟩ := Kd.R_slice HO458.out
       subst eo67
       refine hK.out _ _ ⟨kz0 BK420, kz1 BK420, kz0 BK421, kz1 BK421⟩ (fun hHeld => ?_)
       clear hK K
       refine norm_ (a' := ?_) ?_ ?_
       rotate_left
       ·show Act.put _ (some 43) _ = _
        simp only [Act.put, y0, y1, y2, i64_w, i32_w]
        rfl
       refine one_ (i := 4) (N := some 44) (bz 13 543) rfl rfl (one_of HT_.out (by kernel_rfl)) (by decide) (fun K hK => ?_)
       refine zg Try.func14 #[.agg #[.slice Ao64 t447.length co64, .slice Ao65 t450.length co65], .agg #[.slice Ao66 t453.length co66, .slice Ao67 t456.length co67]] ?_
       with_reducible refine (list_Tick.calls _ _ t447 _ _ t450 _ _ t453 _ _ t456 t459 t462 t465 t468 _ ?side1 ?side2 ?side3 ?side4 ?side5 ?side6 ?side7 ?side8 A39.out).mono ?_
       (case side1 => exact zc (rr HO449.out).2.2)
       (case side2 => exact (rr HO449.out).2.1)
       (case side3 => exact zc (rr HO452.out).2.2)
       (case side4 => exact (rr HO452.out).2.1)
       (case side5 => exact zc (rr HO455.out).2.2)
       (case side6 => exact (rr HO455.out).2.1)
       (case side7 => exact zc (rr HO458.out).2.2)
       (case side8 => exact (rr HO458.out).2.1)
       rintro e w68 ⟨v460, v463, v466, rfl, ho0, ho1, ho2, hb⟩
       refine ⟨_, rfl, ?_⟩
       replace HO432 := Z0 (rbe (zr HO432) hb)
       replace HO452 := Z0 (rbe (zr HO452) hb)
       have HO461 := Z0 (rl (rw_ (rw_ (rw_ (rw_ (rw_ (rw_ (rw_ (rw_ ho0 (rlt (zr HO429))) (rlt (zr HO435))) (rlt (zr HO438))) (rlt (zr HO441))) (rlt (zr HO444))) (rlt (zr HO449))) (rlt (zr HO455))) (rlt (zr HO458))) (below_size (zb HB)))
       have HO464 := Z0 (rl (rw_ (rw_ (rw_ (rw_ (rw_ (rw_ (rw_ (rw_ ho1 (rlt (zr HO429))) (rlt (zr HO435))) (rlt (zr HO438))) (rlt (zr HO441))) (rlt (zr HO444))) (rlt (zr HO449))) (rlt (zr HO455))) (rlt (zr HO458))) (below_size (zb HB)))
       have HO467 := Z0 (rl (rw_ (rw_ (rw_ (rw_ (rw_ (rw_ (rw_ (rw_ ho2 (rlt (zr HO429))) (rlt (zr HO435))) (rlt (zr HO438))) (rlt (zr HO441))) (rlt (zr HO444))) (rlt (zr HO449))) (rlt (zr HO455))) (rlt (zr HO458))) (below_size (zb HB)))
       replace HO429 := Z0 (rm (rt (rt (rt (ro (zr HO429) hb) (rb ho0)) (rb ho1)) (rb ho2)) (fun _ h_ => h_.1))
       replace HO435 := Z0 (rm (rt (rt (rt (ro (zr HO435) hb) (rb ho0)) (rb ho1)) (rb ho2)) (fun _ h_ => h_.1))
       replace HO438 := Z0 (rm (rt (rt (rt (ro (zr HO438) hb) (rb ho0)) (rb ho1)) (rb ho2)) (fun _ h_ => h_.1))
       replace HO441 := Z0 (rm (rt (rt (rt (ro (zr HO441) hb) (rb ho0)) (rb ho1)) (rb ho2)) (fun _ h_ => h_.1))
       replace HO444 := Z0 (rm (rt (rt (rt (ro (zr HO444) hb) (rb ho0)) (rb ho1)) (rb ho2)) (fun _ h_ => h_.1))
       replace HO449 := Z0 (rm (rt (rt (rt (ro (zr HO449) hb) (rb ho0)) (rb ho1)) (rb ho2)) (fun _ h_ => h_.1))
       replace HO455 := Z0 (rm (rt (rt (rt (ro (zr HO455) hb) (rb ho0)) (rb ho1)) (rb ho2)) (fun _ h_ => h_.1))
       replace HO458 := Z0 (rm (rt (rt (rt (ro (zr HO458) hb) (rb ho0)) (rb ho1)) (rb ho2)) (fun _ h_ => h_.1))
       replace BK420 := Z0 (zkb BK420 hb)
       replace BK421 := Z0 (zkb BK421 hb)
       replace BK422 := Z0 (zkb BK422 hb)
       replace BK446 := Z0 (zkb BK446 hb)
       replace BK469 := Z0 (zkb BK469 hb)
       replace HB := Z0 (below_step (zb HB) hb)
       (try clear hb)
       (try clear hb2)
       (try clear hk)
       (try clear hi)
       (try clear ho0)
       (try clear ho1)
       (try clear ho2)
       refine hK.out _ _ ⟨kz0 BK420, kz1 BK420, kz0 BK421, kz1 BK421⟩ (fun hHeld => ?_)
       clear hK K
       refine norm_ (a' := ?_) ?_ ?_
       rotate_left
       ·show Act.put _ (some 44) _ = _
        simp only [Act.put, y0, y1, y2, i64_w, i32_w]
        rfl
       refine pu 5 (some 39) (bz 13 575) HT_ ?_
       refine pu 6 (some 45) (bz 13 639) HT_ ?_
       refine pu 7 (some 46) (bz 13 767) HT_ ?_
       refine pu 8 (some 47) (bz 13 1023) HT_ ?_
       exact norm_ (by simp only [putAll, Act.put, y0, y1, y2]) (hCont (.slice Ao64 t447.length co64, .slice Ao65 t450.length co65, .slice Ao66 t453.length co66, .slice Ao67 t456.length co67, v460, v463, v466, gb469) _ ⟨hHeld, (by (with_reducible repeat (first | apply ra | apply rn | apply rd_)); exact rm HO429.out (fun _ hk => ⟨hk.1.1.1.1.1.1.1, ⟨hk.1.1.1.1.1.1.2.1, ⟨hk.1.1.1.1.1.1.2.2.1, ⟨hk.1.1.1.1.1.1.2.2.2, ⟨hk.1.1.1.1.1.2, ⟨hk.1.1.1.1.2, ⟨hk.1.1.1.2, ⟨hk.1.1.2, ⟨hk.1.2, hk.2⟩⟩⟩⟩⟩⟩⟩⟩⟩)), (by (with_reducible repeat (first | apply ra | apply rn | apply rd_)); exact rm HO432.out (fun _ hk => hk.2)), (by (with_reducible repeat (first | apply ra | apply rn | apply rd_)); exact rm HO435.out (fun _ hk => ⟨hk.1.1.1.1.1.1.1, ⟨hk.1.1.1.1.1.1.2.1, ⟨hk.1.1.1.1.1.1.2.2.1, ⟨hk.1.1.1.1.1.1.2.2.2, ⟨hk.1.1.1.1.1.2, ⟨hk.1.1.1.1.2, ⟨hk.1.1.1.2, ⟨hk.1.1.2, ⟨hk.1.2, hk.2⟩⟩⟩⟩⟩⟩⟩⟩⟩)), (by (with_reducible repeat (first | apply ra | apply rn | apply rd_)); exact rm HO438.out (fun _ hk => ⟨hk.1.1.1.1.1.1.1, ⟨hk.1.1.1.1.1.1.2.1, ⟨hk.1.1.1.1.1.1.2.2.1, ⟨hk.1.1.1.1.1.1.2.2.2, ⟨hk.1.1.1.1.1.2, ⟨hk.1.1.1.1.2, ⟨hk.1.1.1.2, ⟨hk.1.1.2, ⟨hk.1.2, hk.2⟩⟩⟩⟩⟩⟩⟩⟩⟩)), (by (with_reducible repeat (first | apply ra | apply rn | apply rd_)); exact rm HO441.out (fun _ hk => ⟨hk.1.1.1.1.1.1.1, ⟨hk.1.1.1.1.1.1.2.1, ⟨hk.1.1.1.1.1.1.2.2.1, ⟨hk.1.1.1.1.1.1.2.2.2, ⟨hk.1.1.1.1.1.2, ⟨hk.1.1.1.1.2, ⟨hk.1.1.1.2, ⟨hk.1.1.2, ⟨hk.1.2, hk.2⟩⟩⟩⟩⟩⟩⟩⟩⟩)), (by (with_reducible repeat (first | apply ra | apply rn | apply rd_)); exact rm HO444.out (fun _ hk => ⟨hk.1.1.1.1.1.1.1, ⟨hk.1.1.1.1.1.1.2.1, ⟨hk.1.1.1.1.1.1.2.2.1, ⟨hk.1.1.1.1.1.1.2.2.2, ⟨hk.1.1.1.1.1.2, ⟨hk.1.1.1.1.2, ⟨hk.1.1.1.2, ⟨hk.1.1.2, ⟨hk.1.2, hk.2⟩⟩⟩⟩⟩⟩⟩⟩⟩)), (by (with_reducible repeat (first | apply ra | apply rn | apply rd_)); exact rm HO449.out (fun _ hk => ⟨hk.1.1.1.1.1.1.1.1.1.2, ⟨hk.1.1.1.1.1.1.1.1.2, ⟨hk.1.1.1.1.1.1.1.2, ⟨hk.1.1.1.1.1.1.2, ⟨hk.1.1.1.1.1.2, ⟨hk.1.1.1.1.2, ⟨hk.1.1.1.2, ⟨hk.1.1.2, ⟨hk.1.2, hk.2⟩⟩⟩⟩⟩⟩⟩⟩⟩)), (by (with_reducible repeat (first | apply ra | apply rn | apply rd_)); exact rm HO452.out (fun _ hk => hk.2)), (by (with_reducible repeat (first | apply ra | apply rn | apply rd_)); exact rm HO455.out (fun _ hk => ⟨hk.1.1.1.1.1.1.1.1.2, ⟨hk.1.1.1.1.1.1.1.2, ⟨hk.1.1.1.1.1.1.2, ⟨hk.1.1.1.1.1.2, ⟨hk.1.1.1.1.2, ⟨hk.1.1.1.2, ⟨hk.1.1.1.1.1.1.1.1.1, ⟨hk.1.1.2, ⟨hk.1.2, hk.2⟩⟩⟩⟩⟩⟩⟩⟩⟩)), (by (with_reducible repeat (first | apply ra | apply rn | apply rd_)); exact rm HO458.out (fun _ hk => ⟨hk.1.1.1.1.1.1.1.1.2, ⟨hk.1.1.1.1.1.1.1.2, ⟨hk.1.1.1.1.1.1.2, ⟨hk.1.1.1.1.1.2, ⟨hk.1.1.1.1.2, ⟨hk.1.1.1.2, ⟨hk.1.1.1.1.1.1.1.1.1, ⟨hk.1.1.2, ⟨hk.1.2, hk.2⟩⟩⟩⟩⟩⟩⟩⟩⟩)), (by (with_reducible repeat (first | apply ra | apply rn | apply rd_)); exact rm HO461.out (fun _ hk => ⟨hk.1.1.1.1.1.1.1.2, ⟨hk.1.1.1.1.1.1.2, ⟨hk.1.1.1.1.1.2, ⟨hk.1.1.1.1.2, ⟨hk.1.1.1.2, ⟨hk.1.1.2, ⟨hk.1.2, ⟨hk.2, ⟨hk.1.1.1.1.1.1.1.1.1, hk.1.1.1.1.1.1.1.1.2⟩⟩⟩⟩⟩⟩⟩⟩⟩)), (by (with_reducible repeat (first | apply ra | apply rn | apply rd_)); exact rm HO464.out (fun _ hk => ⟨hk.1.1.1.1.1.1.1.2, ⟨hk.1.1.1.1.1.1.2, ⟨hk.1.1.1.1.1.2, ⟨hk.1.1.1.1.2, ⟨hk.1.1.1.2, ⟨hk.1.1.2, ⟨hk.1.2, ⟨hk.2, ⟨hk.1.1.1.1.1.1.1.1.1, hk.1.1.1.1.1.1.1.1.2⟩⟩⟩⟩⟩⟩⟩⟩⟩)), (by (with_reducible repeat (first | apply ra | apply rn | apply rd_)); exact rm HO467.out (fun _ hk => ⟨hk.1.1.1.1.1.1.1.2, ⟨hk.1.1.1.1.1.1.2, ⟨hk.1.1.1.1.1.2, ⟨hk.1.1.1.1.2, ⟨hk.1.1.1.2, ⟨hk.1.1.2, ⟨hk.1.2, ⟨hk.2, ⟨hk.1.1.1.1.1.1.1.1.1, hk.1.1.1.1.1.1.1.1.2⟩⟩⟩⟩⟩⟩⟩⟩⟩)), (zk BK420), (zk BK421), (zk BK422), (zk BK446), (zk BK469), GW469.out, GE469.out, NB420_469.out, NB469_420.out, NB421_469.out, NB469_421.out, NB422_469.out, NB469_422.out, NB446_469.out, NB469_446.out, (zb HB)⟩)
     ·skip
      refine box_step ?hg (N := 9) ?hd (cs := #[.slice none 0 0, .slice none 0 0]) (t := 27) ?hr ?_; (case hd => rfl); (case hg => rfl); (case hr => first | (go_simp; done) | (go_simp; rfl))
      intro gb469 hg w61 hbox hb
      replace HO429 := Z0 (rbe (zr HO429) hb)
      replace HO432 := Z0 (rbe (zr HO432) hb)
      replace HO435 := Z0 (rbe (zr HO435) hb)
      replace HO438 := Z0 (rbe (zr HO438) hb)
      replace HO441 := Z0 (rbe (zr HO441) hb)
      replace HO444 := Z0 (rbe (zr HO444) hb)
      have BK469 := Z0 (hbox)
      have GW469 := Z0 (zh w hg HB)
      have GE469 := Z0 (zh w hg HB)
      replace HB := Z0 (below_step (zb HB) hb)
      have NB420_469 := Z0 (zl hg BK420)
      have NB469_420 := Z0 (zu hg BK420)
      replace BK420 := Z0 (zkb BK420 hb)
      have NB421_469 := Z0 (zl hg BK421)
      have NB469_421 := Z0 (zu hg BK421)
      replace BK421 := Z0 (zkb BK421 hb)
      have NB422_469 := Z0 (zl hg BK422)
      have NB469_422 := Z0 (zu hg BK422)
      replace BK422 := Z0 (zkb BK422 hb)
      have NB446_469 := Z0 (zl hg BK446)
      have NB469_446 := Z0 (zu hg BK446)
      replace BK446 := Z0 (zkb BK446 hb)
      clear hb hbox hg
      refine hK.out _ _ ⟨kz0 BK420, kz1 BK420, kz0 BK421, kz1 BK421⟩ (fun hHeld => ?_)
      clear hK K
      refine norm_ (a' := ?_) ?_ ?_
      rotate_left
      ·show Act.put _ (some 9) _ = _
       simp only [Act.put, y0, y1, y2, i64_w, i32_w]
       rfl
      refine one_ (i := 1) (N := some 41) (bz 13 519) rfl rfl (one_of HT_.out (by kernel_rfl)) (by decide) (fun K hK => ?_)
      refine zg Try.func12 #[.agg #[.slice A0_0 l0_0.length c0_0, .slice A0_1 l0_1.length c0_1]] ?_
      with_reducible refine (trefoillaw04_Own.calls _ _ l0_0 _ _ l0_1 t447 t450 _ ?side1 ?side2 ?side3 ?side4 A37.out).mono ?_
      (case side1 => exact zc (Kd.C_below HR0_0.out HB.out))
      (case side2 => exact HC0_0.out)
      (case side3 => exact zc (Kd.C_below HR0_1.out HB.out))
      (case side4 => exact HC0_1.out)
      rintro e w62 ⟨v448, v451, rfl, ho0, ho1, hb⟩
      refine ⟨_, rfl, ?_⟩
      have HO449 := Z0 (rl (rw_ (rw_ (rw_ (rw_ (rw_ ho0 (rlt (zr HO429))) (rlt (zr HO435))) (rlt (zr HO438))) (rlt (zr HO441))) (rlt (zr HO444))) (below_size (zb HB)))
      replace HO429 := Z0 (Kd.R_elder' (zr HO429) (rb ho0) hb)
      replace HO435 := Z0 (Kd.R_elder' (zr HO435) (rb ho0) hb)
      replace HO438 := Z0 (Kd.R_elder' (zr HO438) (rb ho0) hb)
      replace HO441 := Z0 (Kd.R_elder' (zr HO441) (rb ho0) hb)
      replace HO444 := Z0 (Kd.R_elder' (zr HO444) (rb ho0) hb)
      have HO452 := Z0 (rl (rw_ ho1 (rlt (zr HO432))) (below_size (zb HB)))
      replace HO432 := Z0 (Kd.R_elder' (zr HO432) (rb ho1) hb)
      replace BK420 := Z0 (zkb BK420 hb)
      replace BK421 := Z0 (zkb BK421 hb)
      replace BK422 := Z0 (zkb BK422 hb)
      replace BK446 := Z0 (zkb BK446 hb)
      replace BK469 := Z0 (zkb BK469 hb)
      replace HB := Z0 (below_step (zb HB) hb)
      (try clear hb)
      (try clear hb2)
      (try clear hk)
      (try clear hi)
      (try clear ho0)
      (try clear ho1)
      refine hK.out _ _ ⟨kz0 BK420, kz1 BK420, kz0 BK421, kz1 BK421⟩ (fun hHeld => ?_)
      clear hK K
      refine norm_ (a' := ?_) ?_ ?_
      rotate_left
      ·show Act.put _ (some 41) _ = _
       simp only [Act.put, y0, y1, y2, i64_w, i32_w]
       rfl
      refine one_ (i := 3) (N := some 43) (bz 13 527) rfl rfl (one_of HT_.out (by kernel_rfl)) (by decide) (fun K hK => ?_)
      refine zg Try.func13 #[.agg #[.slice A1_0 l1_0.length c1_0, .slice A1_1 l1_1.length c1_1]] ?_
      with_reducible refine (trefoillaw11_Own.calls _ _ l1_0 _ _ l1_1 t453 t456 _ ?side1 ?side2 ?side3 ?side4 A38.out).mono ?_
      (case side1 => exact zc (Kd.C_below HR1_0.out HB.out))
      (case side2 => exact HC1_0.out)
      (case side3 => exact zc (Kd.C_below HR1_1.out HB.out))
      (case side4 => exact HC1_1.out)
      rintro e w63 ⟨v454, v457, rfl, ho0, ho1, hb⟩
      refine ⟨_, rfl, ?_⟩
      replace HO432 := Z0 (rbe (zr HO432) hb)
      replace HO452 := Z0 (rbe (zr HO452) hb)
      have HO455 := Z0 (rl (rw_ (rw_ (rw_ (rw_ (rw_ (rw_ ho0 (rlt (zr HO429))) (rlt (zr HO435))) (rlt (zr HO438))) (rlt (zr HO441))) (rlt (zr HO444))) (rlt (zr HO449))) (below_size (zb HB)))
      have HO458 := Z0 (rl (rw_ (rw_ (rw_ (rw_ (rw_ (rw_ ho1 (rlt (zr HO429))) (rlt (zr HO435))) (rlt (zr HO438))) (rlt (zr HO441))) (rlt (zr HO444))) (rlt (zr HO449))) (below_size (zb HB)))
      replace HO429 := Z0 (rmt HO429 hb ho0 ho1)
      replace HO435 := Z0 (rmt HO435 hb ho0 ho1)
      replace HO438 := Z0 (rmt HO438 hb ho0 ho1)
      replace HO441 := Z0 (rmt HO441 hb ho0 ho1)
      replace HO444 := Z0 (rmt HO444 hb ho0 ho1)
      replace HO449 := Z0 (rmt HO449 hb ho0 ho1)
      replace BK420 := Z0 (zkb BK420 hb)
      replace BK421 := Z0 (zkb BK421 hb)
      replace BK422 := Z0 (zkb BK422 hb)
      replace BK446 := Z0 (zkb BK446 hb)
      replace BK469 := Z0 (zkb BK469 hb)
      replace HB := Z0 (below_step (zb HB) hb)
      (try clear hb)
      (try clear hb2)
      (try clear hk)
      (try clear hi)
      (try clear ho0)
      (try clear ho1)
      obtain ⟨Ao64, co64, eo64⟩ := Kd.R_slice HO449.out
      subst eo64
      obtain ⟨Ao65, co65, eo65⟩ := Kd.R_slice HO452.out
      subst eo65
      obtain ⟨Ao66, co66, eo66⟩ := Kd.R_slice HO455.out
      subst eo66
      obtain ⟨Ao67, co67, eo67⟩ := Kd.R_slice HO458.out
      subst eo67
      refine hK.out _ _ ⟨kz0 BK420, kz1 BK420, kz0 BK421, kz1 BK421⟩ (fun hHeld => ?_)
      clear hK K
      refine norm_ (a' := ?_) ?_ ?_
      rotate_left
      ·show Act.put _ (some 43) _ = _
       simp only [Act.put, y0, y1, y2, i64_w, i32_w]
       rfl
      refine one_ (i := 4) (N := some 44) (bz 13 543) rfl rfl (one_of HT_.out (by kernel_rfl)) (by decide) (fun K hK => ?_)
      refine zg Try.func14 #[.agg #[.slice Ao64 t447.length co64, .slice Ao65 t450.length co65], .agg #[.slice Ao66 t453.length co66, .slice Ao67 t456.length co67]] ?_
      with_reducible refine (list_Tick.calls _ _ t447 _ _ t450 _ _ t453 _ _ t456 t459 t462 t465 t468 _ ?side1 ?side2 ?side3 ?side4 ?side5 ?side6 ?side7 ?side8 A39.out).mono ?_
      (case side1 => exact zc (rr HO449.out).2.2)
      (case side2 => exact (rr HO449.out).2.1)
      (case side3 => exact zc (rr HO452.out).2.2)
      (case side4 => exact (rr HO452.out).2.1)
      (case side5 => exact zc (rr HO455.out).2.2)
      (case side6 => exact (rr HO455.out).2.1)
      (case side7 => exact zc (rr HO458.out).2.2)
      (case side8 => exact (rr HO458.out).2.1)
      rintro e w68 ⟨v460, v463, v466, rfl, ho0, ho1, ho2, hb⟩
      refine ⟨_, rfl, ?_⟩
      replace HO432 := Z0 (rbe (zr HO432) hb)
      replace HO452 := Z0 (rbe (zr HO452) hb)
      have HO461 := Z0 (rl (rw_ (rw_ (rw_ (rw_ (rw_ (rw_ (rw_ (rw_ ho0 (rlt (zr HO429))) (rlt (zr HO435))) (rlt (zr HO438))) (rlt (zr HO441))) (rlt (zr HO444))) (rlt (zr HO449))) (rlt (zr HO455))) (rlt (zr HO458))) (below_size (zb HB)))
      have HO464 := Z0 (rl (rw_ (rw_ (rw_ (rw_ (rw_ (rw_ (rw_ (rw_ ho1 (rlt (zr HO429))) (rlt (zr HO435))) (rlt (zr HO438))) (rlt (zr HO441))) (rlt (zr HO444))) (rlt (zr HO449))) (rlt (zr HO455))) (rlt (zr HO458))) (below_size (zb HB)))
      have HO467 := Z0 (rl (rw_ (rw_ (rw_ (rw_ (rw_ (rw_ (rw_ (rw_ ho2 (rlt (zr HO429))) (rlt (zr HO435))) (rlt (zr HO438))) (rlt (zr HO441))) (rlt (zr HO444))) (rlt (zr HO449))) (rlt (zr HO455))) (rlt (zr HO458))) (below_size (zb HB)))
      replace HO429 := Z0 (rm (rt (rt (rt (ro (zr HO429) hb) (rb ho0)) (rb ho1)) (rb ho2)) (fun _ h_ => h_.1))
      replace HO435 := Z0 (rm (rt (rt (rt (ro (zr HO435) hb) (rb ho0)) (rb ho1)) (rb ho2)) (fun _ h_ => h_.1))
      replace HO438 := Z0 (rm (rt (rt (rt (ro (zr HO438) hb) (rb ho0)) (rb ho1)) (rb ho2)) (fun _ h_ => h_.1))
      replace HO441 := Z0 (rm (rt (rt (rt (ro (zr HO441) hb) (rb ho0)) (rb ho1)) (rb ho2)) (fun _ h_ => h_.1))
      replace HO444 := Z0 (rm (rt (rt (rt (ro (zr HO444) hb) (rb ho0)) (rb ho1)) (rb ho2)) (fun _ h_ => h_.1))
      replace HO449 := Z0 (rm (rt (rt (rt (ro (zr HO449) hb) (rb ho0)) (rb ho1)) (rb ho2)) (fun _ h_ => h_.1))
      replace HO455 := Z0 (rm (rt (rt (rt (ro (zr HO455) hb) (rb ho0)) (rb ho1)) (rb ho2)) (fun _ h_ => h_.1))
      replace HO458 := Z0 (rm (rt (rt (rt (ro (zr HO458) hb) (rb ho0)) (rb ho1)) (rb ho2)) (fun _ h_ => h_.1))
      replace BK420 := Z0 (zkb BK420 hb)
      replace BK421 := Z0 (zkb BK421 hb)
      replace BK422 := Z0 (zkb BK422 hb)
      replace BK446 := Z0 (zkb BK446 hb)
      replace BK469 := Z0 (zkb BK469 hb)
      replace HB := Z0 (below_step (zb HB) hb)
      (try clear hb)
      (try clear hb2)
      (try clear hk)
      (try clear hi)
      (try clear ho0)
      (try clear ho1)
      (try clear ho2)
      refine hK.out _ _ ⟨kz0 BK420, kz1 BK420, kz0 BK421, kz1 BK421⟩ (fun hHeld => ?_)
      clear hK K
      refine norm_ (a' := ?_) ?_ ?_
      rotate_left
      ·show Act.put _ (some 44) _ = _
       simp only [Act.put, y0, y1, y2, i64_w, i32_w]
       rfl
      refine pu 5 (some 39) (bz 13 575) HT_ ?_
      refine pu 6 (some 45) (bz 13 639) HT_ ?_
      refine pu 7 (some 46) (bz 13 767) HT_ ?_
      refine pu 8 (some 47) (bz 13 1023) HT_ ?_
      exact norm_ (by simp only [putAll, Act.put, y0, y1, y2]) (hCont (.slice Ao64 t447.length co64, .slice Ao65 t450.length co65, .slice Ao66 t453.length co66, .slice Ao67 t456.length co67, v460, v463, v466, gb469) _ ⟨hHeld, (by (with_reducible repeat (first | apply ra | apply rn | apply rd_)); exact rm HO429.out (fun _ hk => ⟨hk.1.1.1.1.1.1.1, ⟨hk.1.1.1.1.1.1.2.1, ⟨hk.1.1.1.1.1.1.2.2.1, ⟨hk.1.1.1.1.1.1.2.2.2, ⟨hk.1.1.1.1.1.2, ⟨hk.1.1.1.1.2, ⟨hk.1.1.1.2, ⟨hk.1.1.2, ⟨hk.1.2, hk.2⟩⟩⟩⟩⟩⟩⟩⟩⟩)), (by (with_reducible repeat (first | apply ra | apply rn | apply rd_)); exact rm HO432.out (fun _ hk => hk.2)), (by (with_reducible repeat (first | apply ra | apply rn | apply rd_)); exact rm HO435.out (fun _ hk => ⟨hk.1.1.1.1.1.1.1, ⟨hk.1.1.1.1.1.1.2.1, ⟨hk.1.1.1.1.1.1.2.2.1, ⟨hk.1.1.1.1.1.1.2.2.2, ⟨hk.1.1.1.1.1.2, ⟨hk.1.1.1.1.2, ⟨hk.1.1.1.2, ⟨hk.1.1.2, ⟨hk.1.2, hk.2⟩⟩⟩⟩⟩⟩⟩⟩⟩)), (by (with_reducible repeat (first | apply ra | apply rn | apply rd_)); exact rm HO438.out (fun _ hk => ⟨hk.1.1.1.1.1.1.1, ⟨hk.1.1.1.1.1.1.2.1, ⟨hk.1.1.1.1.1.1.2.2.1, ⟨hk.1.1.1.1.1.1.2.2.2, ⟨hk.1.1.1.1.1.2, ⟨hk.1.1.1.1.2, ⟨hk.1.1.1.2, ⟨hk.1.1.2, ⟨hk.1.2, hk.2⟩⟩⟩⟩⟩⟩⟩⟩⟩)), (by (with_reducible repeat (first | apply ra | apply rn | apply rd_)); exact rm HO441.out (fun _ hk => ⟨hk.1.1.1.1.1.1.1, ⟨hk.1.1.1.1.1.1.2.1, ⟨hk.1.1.1.1.1.1.2.2.1, ⟨hk.1.1.1.1.1.1.2.2.2, ⟨hk.1.1.1.1.1.2, ⟨hk.1.1.1.1.2, ⟨hk.1.1.1.2, ⟨hk.1.1.2, ⟨hk.1.2, hk.2⟩⟩⟩⟩⟩⟩⟩⟩⟩)), (by (with_reducible repeat (first | apply ra | apply rn | apply rd_)); exact rm HO444.out (fun _ hk => ⟨hk.1.1.1.1.1.1.1, ⟨hk.1.1.1.1.1.1.2.1, ⟨hk.1.1.1.1.1.1.2.2.1, ⟨hk.1.1.1.1.1.1.2.2.2, ⟨hk.1.1.1.1.1.2, ⟨hk.1.1.1.1.2, ⟨hk.1.1.1.2, ⟨hk.1.1.2, ⟨hk.1.2, hk.2⟩⟩⟩⟩⟩⟩⟩⟩⟩)), (by (with_reducible repeat (first | apply ra | apply rn | apply rd_)); exact rm HO449.out (fun _ hk => ⟨hk.1.1.1.1.1.1.1.1.1.2, ⟨hk.1.1.1.1.1.1.1.1.2, ⟨hk.1.1.1.1.1.1.1.2, ⟨hk.1.1.1.1.1.1.2, ⟨hk.1.1.1.1.1.2, ⟨hk.1.1.1.1.2, ⟨hk.1.1.1.2, ⟨hk.1.1.2, ⟨hk.1.2, hk.2⟩⟩⟩⟩⟩⟩⟩⟩⟩)), (by (with_reducible repeat (first | apply ra | apply rn | apply rd_)); exact rm HO452.out (fun _ hk => hk.2)), (by (with_reducible repeat (first | apply ra | apply rn | apply rd_)); exact rm HO455.out (fun _ hk => ⟨hk.1.1.1.1.1.1.1.1.2, ⟨hk.1.1.1.1.1.1.1.2, ⟨hk.1.1.1.1.1.1.2, ⟨hk.1.1.1.1.1.2, ⟨hk.1.1.1.1.2, ⟨hk.1.1.1.2, ⟨hk.1.1.1.1.1.1.1.1.1, ⟨hk.1.1.2, ⟨hk.1.2, hk.2⟩⟩⟩⟩⟩⟩⟩⟩⟩)), (by (with_reducible repeat (first | apply ra | apply rn | apply rd_)); exact rm HO458.out (fun _ hk => ⟨hk.1.1.1.1.1.1.1.1.2, ⟨hk.1.1.1.1.1.1.1.2, ⟨hk.1.1.1.1.1.1.2, ⟨hk.1.1.1.1.1.2, ⟨hk.1.1.1.1.2, ⟨hk.1.1.1.2, ⟨hk.1.1.1.1.1.1.1.1.1, ⟨hk.1.1.2, ⟨hk.1.2, hk.2⟩⟩⟩⟩⟩⟩⟩⟩⟩)), (by (with_reducible repeat (first | apply ra | apply rn | apply rd_)); exact rm HO461.out (fun _ hk => ⟨hk.1.1.1.1.1.1.1.2, ⟨hk.1.1.1.1.1.1.2, ⟨hk.1.1.1.1.1.2, ⟨hk.1.1.1.1.2, ⟨hk.1.1.1.2, ⟨hk.1.1.2, ⟨hk.1.2, ⟨hk.2, ⟨hk.1.1.1.1.1.1.1.1.1, hk.1.1.1.1.1.1.1.1.2⟩⟩⟩⟩⟩⟩⟩⟩⟩)), (by (with_reducible repeat (first | apply ra | apply rn | apply rd_)); exact rm HO464.out (fun _ hk => ⟨hk.1.1.1.1.1.1.1.2, ⟨hk.1.1.1.1.1.1.2, ⟨hk.1.1.1.1.1.2, ⟨hk.1.1.1.1.2, ⟨hk.1.1.1.2, ⟨hk.1.1.2, ⟨hk.1.2, ⟨hk.2, ⟨hk.1.1.1.1.1.1.1.1.1, hk.1.1.1.1.1.1.1.1.2⟩⟩⟩⟩⟩⟩⟩⟩⟩)), (by (with_reducible repeat (first | apply ra | apply rn | apply rd_)); exact rm HO467.out (fun _ hk => ⟨hk.1.1.1.1.1.1.1.2, ⟨hk.1.1.1.1.1.1.2, ⟨hk.1.1.1.1.1.2, ⟨hk.1.1.1.1.2, ⟨hk.1.1.1.2, ⟨hk.1.1.2, ⟨hk.1.2, ⟨hk.2, ⟨hk.1.1.1.1.1.1.1.1.1, hk.1.1.1.1.1.1.1.1.2⟩⟩⟩⟩⟩⟩⟩⟩⟩)), (zk BK420), (zk BK421), (zk BK422), (zk BK446), (zk BK469), GW469.out, GE469.out, NB420_469.out, NB469_420.out, NB421_469.out, NB469_421.out, NB422_469.out, NB469_422.out, NB446_469.out, NB469_446.out, (zb HB)⟩)
    rintro ⟨v448, v451, v454, v457, v460, v463, v466, gb469⟩ w69 ⟨hS_, h0_, h1_, h2_, h3_, h4_, h5_, h6_, h7_, h8_, h9_, h10_, h11_, h12_, h13_, h14_, h15_, h16_, h17_, h18_, h19_, h20_, h21_, h22_, h23_, h24_, h25_, h26_, h27_, h28_⟩
    clear HO429
    clear HO432
    clear HO435
    clear HO438
    clear HO441
    clear HO444
    clear BK420
    clear BK421
    clear BK422
    clear BK446
    clear HB
    dsimp only at h0_ h1_ h2_ h3_ h4_ h5_ h6_ h7_ h8_ h9_ h10_ h11_ h12_ h13_ h14_ h15_ h16_ h17_ h18_ h19_ h20_ h21_ h22_ h23_ h24_ h25_ h26_ h27_ h28_
    have HO429 := Z0 h0_
    have HO432 := Z0 h1_
    have HO435 := Z0 h2_
    have HO438 := Z0 h3_
    have HO441 := Z0 h4_
    have HO444 := Z0 h5_
    have HO449 := Z0 h6_
    have HO452 := Z0 h7_
    have HO455 := Z0 h8_
    have HO458 := Z0 h9_
    have HO461 := Z0 h10_
    have HO464 := Z0 h11_
    have HO467 := Z0 h12_
    have BK420 := Z0 h13_
    have BK421 := Z0 h14_
    have BK422 := Z0 h15_
    have BK446 := Z0 h16_
    have BK469 := Z0 h17_
    have GW469 := Z0 h18_
    have GE469 := Z0 h19_
    have NB420_469 := Z0 h20_
    have NB469_420 := Z0 h21_
    have NB421_469 := Z0 h22_
    have NB469_421 := Z0 h23_
    have NB422_469 := Z0 h24_
    have NB469_422 := Z0 h25_
    have NB446_469 := Z0 h26_
    have NB469_446 := Z0 h27_
    have HB := Z0 h28_
    clear h0_ h1_ h2_ h3_ h4_ h5_ h6_ h7_ h8_ h9_ h10_ h11_ h12_ h13_ h14_ h15_ h16_ h17_ h18_ h19_ h20_ h21_ h22_ h23_ h24_ h25_ h26_ h27_ h28_
    have hHeld : w69.cell? ⟨gb420, 0, none⟩ = some (.slice A0_0 l0_0.length c0_0) ∧ w69.cell? ⟨gb420, 1, none⟩ = some (.slice A0_1 l0_1.length c0_1) ∧ w69.cell? ⟨gb421, 0, none⟩ = some (.slice A1_0 l1_0.length c1_0) ∧ w69.cell? ⟨gb421, 1, none⟩ = some (.slice A1_1 l1_1.length c1_1) := hS_
    obtain ⟨Ao70, co70, eo70⟩ := Kd.R_slice HO461.out
    subst eo70
    obtain ⟨Ao72, co72, eo72⟩ := Kd.R_slice HO464.out
    subst eo72
    refine norm_ (a' := ?_) ?_ ?_; rotate_left; simp only [putAll, Act.put, y0, y1, y2]; rfl
    refine one_ (i := 10) (N := none) (bz 13 2047) rfl rfl (one_of HT_.out (by kernel_rfl)) (by decide) (fun K hK => ?_)
    have hs71 : w69.cell? ⟨gb469, 0, none⟩ = some (.slice none 0 0) := (kc BK469.out 0).trans rfl
    have hfs71 := blk_frozen BK469.out 0
    have hns71_0 := NB420_469.out
    have hns71_1 := NB421_469.out
    have hns71_2 := NB422_469.out
    have hns71_3 := NB446_469.out
    have hms71_0 := NB469_420.out
    have hms71_1 := NB469_421.out
    have hms71_2 := NB469_422.out
    have hms71_3 := NB469_446.out
    have hs73 : w69.cell? ⟨gb469, 1, none⟩ = some (.slice none 0 0) := (kc BK469.out 1).trans rfl
    have hfs73 := blk_frozen BK469.out 1
    have hns73_0 := NB420_469.out
    have hns73_1 := NB421_469.out
    have hns73_2 := NB422_469.out
    have hns73_3 := NB446_469.out
    have hms73_0 := NB469_420.out
    have hms73_1 := NB469_421.out
    have hms73_2 := NB469_422.out
    have hms73_3 := NB469_446.out
    refine skip_ (w1 := ?_) (by rfl) rfl ?_ ?_; rotate_left; go_simp; rfl
    refine hK.out _ _ ⟨((cell_far (p := ⟨gb469, _, none⟩) NB420_469.out _).trans (((cell_far (p := ⟨gb469, _, none⟩) NB420_469.out _).trans (hHeld.1)))), ((cell_far (p := ⟨gb469, _, none⟩) NB420_469.out _).trans (((cell_far (p := ⟨gb469, _, none⟩) NB420_469.out _).trans (hHeld.2.1)))), ((cell_far (p := ⟨gb469, _, none⟩) NB421_469.out _).trans (((cell_far (p := ⟨gb469, _, none⟩) NB421_469.out _).trans (hHeld.2.2.1)))), ((cell_far (p := ⟨gb469, _, none⟩) NB421_469.out _).trans (((cell_far (p := ⟨gb469, _, none⟩) NB421_469.out _).trans (hHeld.2.2.2))))⟩ (fun hHeld => ?_)
    clear hK K
    refine pu 11 (some 10) (bz 13 4095) HT_ ?_
    refine pu 12 (some 11) (bz 13 8191) HT_ ?_
    refine done_ (done_of HT_.out (by kernel_rfl)) ?_
    try go_wp2
    have n0_ := zyw HO429 BK469 (.slice Ao70 t459.length co70) (.slice Ao72 t462.length co72)
    have n1_ := zyw HO432 BK469 (.slice Ao70 t459.length co70) (.slice Ao72 t462.length co72)
    have n2_ := zyw HO435 BK469 (.slice Ao70 t459.length co70) (.slice Ao72 t462.length co72)
    have n3_ := zyw HO438 BK469 (.slice Ao70 t459.length co70) (.slice Ao72 t462.length co72)
    have n4_ := zyw HO441 BK469 (.slice Ao70 t459.length co70) (.slice Ao72 t462.length co72)
    have n5_ := zyw HO444 BK469 (.slice Ao70 t459.length co70) (.slice Ao72 t462.length co72)
    have n6_ := zyw HO449 BK469 (.slice Ao70 t459.length co70) (.slice Ao72 t462.length co72)
    have n7_ := zyw HO452 BK469 (.slice Ao70 t459.length co70) (.slice Ao72 t462.length co72)
    have n8_ := zyw HO455 BK469 (.slice Ao70 t459.length co70) (.slice Ao72 t462.length co72)
    have n9_ := zyw HO458 BK469 (.slice Ao70 t459.length co70) (.slice Ao72 t462.length co72)
    have n10_ := zyw HO461 BK469 (.slice Ao70 t459.length co70) (.slice Ao72 t462.length co72)
    have n11_ := zyw HO464 BK469 (.slice Ao70 t459.length co70) (.slice Ao72 t462.length co72)
    have n12_ := zyw HO467 BK469 (.slice Ao70 t459.length co70) (.slice Ao72 t462.length co72)
    have n13_ := zfw BK420 NB420_469 (.slice Ao70 t459.length co70) (.slice Ao72 t462.length co72)
    have n14_ := zfw BK421 NB421_469 (.slice Ao70 t459.length co70) (.slice Ao72 t462.length co72)
    have n15_ := zfw BK422 NB422_469 (.slice Ao70 t459.length co70) (.slice Ao72 t462.length co72)
    have n16_ := zfw BK446 NB446_469 (.slice Ao70 t459.length co70) (.slice Ao72 t462.length co72)
    have n17_ := zpw BK469 (.slice Ao70 t459.length co70) (.slice Ao72 t462.length co72)
    have n18_ : Aside0 (Below w.heap.size w ((w69.setCell ⟨gb469, 0, none⟩ (.slice Ao70 t459.length co70)).setCell ⟨gb469, 1, none⟩ (.slice Ao72 t462.length co72))) := ⟨zb HB⟩
    (try clear HO429)
    (try clear HO432)
    (try clear HO435)
    (try clear HO438)
    (try clear HO441)
    (try clear HO444)
    (try clear HO449)
    (try clear HO452)
    (try clear HO455)
    (try clear HO458)
    (try clear HO461)
    (try clear HO464)
    (try clear HO467)
    (try clear BK420)
    (try clear BK421)
    (try clear BK422)
    (try clear BK446)
    (try clear BK469)
    (try clear HB)
    generalize ((w69.setCell ⟨gb469, 0, none⟩ (.slice Ao70 t459.length co70)).setCell ⟨gb469, 1, none⟩ (.slice Ao72 t462.length co72)) = w74 at n0_ n1_ n2_ n3_ n4_ n5_ n6_ n7_ n8_ n9_ n10_ n11_ n12_ n13_ n14_ n15_ n16_ n17_ n18_ ⊢
    have HO429 := n0_
    have HO432 := n1_
    have HO435 := n2_
    have HO438 := n3_
    have HO441 := n4_
    have HO444 := n5_
    have HO449 := n6_
    have HO452 := n7_
    have HO455 := n8_
    have HO458 := n9_
    have HO461 := n10_
    have HO464 := n11_
    have HO467 := n12_
    have BK420 := n13_
    have BK421 := n14_
    have BK422 := n15_
    have BK446 := n16_
    have BK469 := n17_
    have HB := n18_
    clear n0_ n1_ n2_ n3_ n4_ n5_ n6_ n7_ n8_ n9_ n10_ n11_ n12_ n13_ n14_ n15_ n16_ n17_ n18_
    replace HO429 := Z0 (rd_ HO429.out)
    replace HO432 := Z0 (rd_ HO432.out)
    replace HO435 := Z0 (rd_ HO435.out)
    replace HO438 := Z0 (rd_ HO438.out)
    replace HO441 := Z0 (rd_ HO441.out)
    replace HO444 := Z0 (rd_ HO444.out)
    replace HO449 := Z0 (rd_ HO449.out)
    replace HO452 := Z0 (rd_ HO452.out)
    replace HO455 := Z0 (rd_ HO455.out)
    replace HO458 := Z0 (rd_ HO458.out)
    replace HO461 := Z0 (rd_ HO461.out)
    replace HO464 := Z0 (rd_ HO464.out)
    replace HO467 := Z0 (rd_ HO467.out)
    replace BK420 := Z0 (kd_ BK420.out)
    replace BK421 := Z0 (kd_ BK421.out)
    replace BK422 := Z0 (kd_ BK422.out)
    replace BK446 := Z0 (kd_ BK446.out)
    replace BK469 := Z0 (kd_ BK469.out)
    replace HB := Z0 (wd HB.out)
    as_aux_lemma =>
    refine start_ (n := 6) (S := fun w' => w'.cell? ⟨gb420, 0, none⟩ = some (.slice A0_0 l0_0.length c0_0) ∧ w'.cell? ⟨gb420, 1, none⟩ = some (.slice A0_1 l0_1.length c0_1) ∧ w'.cell? ⟨gb421, 0, none⟩ = some (.slice A1_0 l1_0.length c1_0) ∧ w'.cell? ⟨gb421, 1, none⟩ = some (.slice A1_1 l1_1.length c1_1)) (ds := []) (bz 6 0) (by kernel_rfl) rfl rfl ⟨kz0 BK420, kz1 BK420, kz0 BK421, kz1 BK421⟩ (fun hHeld => ?_)
    generalize w74.drew = w75 at HO429 HO432 HO435 HO438 HO441 HO444 HO449 HO452 HO455 HO458 HO461 HO464 HO467 BK420 BK421 BK422 BK446 BK469 HB hHeld ⊢
    refine take_ (i := 0) (N := some 48) (v := ?_) (a' := ?_) (bz 6 1) rfl rfl (by kernel_rfl) (fun _ _ _ h => h) (Or.inl ⟨by rfl, ?_⟩) hHeld ?_ ?_; rotate_left; rintro w' ⟨s0, s1, s2, s3⟩; go_simp; with_reducible rfl; rotate_left; simp only [Act.put, y0, y1, y2, i64_w, i32_w]; rfl
    refine take_ (i := 2) (N := some 50) (v := ?_) (a' := ?_) (bz 6 5) rfl rfl (by kernel_rfl) (fun _ _ _ h => h) (Or.inl ⟨by rfl, ?_⟩) hHeld ?_ ?_; rotate_left; rintro w' ⟨s0, s1, s2, s3⟩; go_simp; with_reducible rfl; rotate_left; simp only [Act.put, y0, y1, y2, i64_w, i32_w]; rfl
    refine one_ (i := 1) (N := some 49) (bz 6 7) rfl rfl (by kernel_rfl) (by decide) (fun K hK => ?_)
    refine zg Try.func12 #[.agg #[.slice A0_0 l0_0.length c0_0, .slice A0_1 l0_1.length c0_1]] ?_
    with_reducible refine (trefoillaw04_Own.calls _ _ l0_0 _ _ l0_1 t470 t473 _ ?side1 ?side2 ?side3 ?side4 A40.out).mono ?_
    (case side1 => exact zc (Kd.C_below HR0_0.out HB.out))
    (case side2 => exact HC0_0.out)
    (case side3 => exact zc (Kd.C_below HR0_1.out HB.out))
    (case side4 => exact HC0_1.out)
    rintro e w76 ⟨v471, v474, rfl, ho0, ho1, hb⟩
    refine ⟨_, rfl, ?_⟩
    have HO472 := Z0 (rl (rw_ (rw_ (rw_ (rw_ (rw_ (rw_ (rw_ (rw_ (rw_ (rw_ (rw_ ho0 (rlt (zr HO429))) (rlt (zr HO435))) (rlt (zr HO438))) (rlt (zr HO441))) (rlt (zr HO444))) (rlt (zr HO449))) (rlt (zr HO455))) (rlt (zr HO458))) (rlt (zr HO461))) (rlt (zr HO464))) (rlt (zr HO467))) (below_size (zb HB)))
    replace HO429 := Z0 (Kd.R_elder' (zr HO429) (rb ho0) hb)
    replace HO435 := Z0 (Kd.R_elder' (zr HO435) (rb ho0) hb)
    replace HO438 := Z0 (Kd.R_elder' (zr HO438) (rb ho0) hb)
    replace HO441 := Z0 (Kd.R_elder' (zr HO441) (rb ho0) hb)
    replace HO444 := Z0 (Kd.R_elder' (zr HO444) (rb ho0) hb)
    replace HO449 := Z0 (Kd.R_elder' (zr HO449) (rb ho0) hb)
    replace HO455 := Z0 (Kd.R_elder' (zr HO455) (rb ho0) hb)
    replace HO458 := Z0 (Kd.R_elder' (zr HO458) (rb ho0) hb)
    replace HO461 := Z0 (Kd.R_elder' (zr HO461) (rb ho0) hb)
    replace HO464 := Z0 (Kd.R_elder' (zr HO464) (rb ho0) hb)
    replace HO467 := Z0 (Kd.R_elder' (zr HO467) (rb ho0) hb)
    have HO475 := Z0 (rl (rw_ (rw_ ho1 (rlt (zr HO432))) (rlt (zr HO452))) (below_size (zb HB)))
    replace HO432 := Z0 (Kd.R_elder' (zr HO432) (rb ho1) hb)
    replace HO452 := Z0 (Kd.R_elder' (zr HO452) (rb ho1) hb)
    replace BK420 := Z0 (zkb BK420 hb)
    replace BK421 := Z0 (zkb BK421 hb)
    replace BK422 := Z0 (zkb BK422 hb)
    replace BK446 := Z0 (zkb BK446 hb)
    replace BK469 := Z0 (zkb BK469 hb)
    replace HB := Z0 (below_step (zb HB) hb)
    (try clear hb)
    (try clear hb2)
    (try clear hk)
    (try clear hi)
    (try clear ho0)
    (try clear ho1)
    refine hK.out _ _ ⟨kz0 BK420, kz1 BK420, kz0 BK421, kz1 BK421⟩ (fun hHeld => ?_)
    clear hK K
    refine norm_ (a' := ?_) ?_ ?_
    rotate_left
    ·show Act.put _ (some 49) _ = _
     simp only [Act.put, y0, y1, y2, i64_w, i32_w]
     rfl
    refine one_ (i := 3) (N := some 51) (bz 6 15) rfl rfl (by kernel_rfl) (by decide) (fun K hK => ?_)
    refine zg Try.func13 #[.agg #[.slice A1_0 l1_0.length c1_0, .slice A1_1 l1_1.length c1_1]] ?_
    with_reducible refine (trefoillaw11_Own.calls _ _ l1_0 _ _ l1_1 t476 t479 _ ?side1 ?side2 ?side3 ?side4 A41.out).mono ?_
    (case side1 => exact zc (Kd.C_below HR1_0.out HB.out))
    (case side2 => exact HC1_0.out)
    (case side3 => exact zc (Kd.C_below HR1_1.out HB.out))
    (case side4 => exact HC1_1.out)
    rintro e w77 ⟨v477, v480, rfl, ho0, ho1, hb⟩
    refine ⟨_, rfl, ?_⟩
    replace HO432 := Z0 (rbe (zr HO432) hb)
    replace HO452 := Z0 (rbe (zr HO452) hb)
    replace HO475 := Z0 (rbe (zr HO475) hb)
    have HO478 := Z0 (rl (rw_ (rw_ (rw_ (rw_ (rw_ (rw_ (rw_ (rw_ (rw_ (rw_ (rw_ (rw_ ho0 (rlt (zr HO429))) (rlt (zr HO435))) (rlt (zr HO438))) (rlt (zr HO441))) (rlt (zr HO444))) (rlt (zr HO449))) (rlt (zr HO455))) (rlt (zr HO458))) (rlt (zr HO461))) (rlt (zr HO464))) (rlt (zr HO467))) (rlt (zr HO472))) (below_size (zb HB)))
    have HO481 := Z0 (rl (rw_ (rw_ (rw_ (rw_ (rw_ (rw_ (rw_ (rw_ (rw_ (rw_ (rw_ (rw_ ho1 (rlt (zr HO429))) (rlt (zr HO435))) (rlt (zr HO438))) (rlt (zr HO441))) (rlt (zr HO444))) (rlt (zr HO449))) (rlt (zr HO455))) (rlt (zr HO458))) (rlt (zr HO461))) (rlt (zr HO464))) (rlt (zr HO467))) (rlt (zr HO472))) (below_size (zb HB)))
    replace HO429 := Z0 (rmt HO429 hb ho0 ho1)
    replace HO435 := Z0 (rmt HO435 hb ho0 ho1)
    replace HO438 := Z0 (rmt HO438 hb ho0 ho1)
    replace HO441 := Z0 (rmt HO441 hb ho0 ho1)
    replace HO444 := Z0 (rmt HO444 hb ho0 ho1)
    replace HO449 := Z0 (rmt HO449 hb ho0 ho1)
    replace HO455 := Z0 (rmt HO455 hb ho0 ho1)
    replace HO458 := Z0 (rmt HO458 hb ho0 ho1)
    replace HO461 := Z0 (rmt HO461 hb ho0 ho1)
    replace HO464 := Z0 (rmt HO464 hb ho0 ho1)
    replace HO467 := Z0 (rmt HO467 hb ho0 ho1)
    replace HO472 := Z0 (rmt HO472 hb ho0 ho1)
    replace BK420 := Z0 (zkb BK420 hb)
    replace BK421 := Z0 (zkb BK421 hb)
    replace BK422 := Z0 (zkb BK422 hb)
    replace BK446 := Z0 (zkb BK446 hb)
    replace BK469 := Z0 (zkb BK469 hb)
    replace HB := Z0 (below_step (zb HB) hb)
    (try clear hb)
    (try clear hb2)
    (try clear hk)
    (try clear hi)
    (try clear ho0)
    (try clear ho1)
    obtain ⟨Ao78, co78, eo78⟩ := Kd.R_slice HO472.out
    subst eo78
    obtain ⟨Ao79, co79, eo79⟩ := Kd.R_slice HO475.out
    subst eo79
    obtain ⟨Ao80, co80, eo80⟩ := Kd.R_slice HO478.out
    subst eo80
    obtain ⟨Ao81, co81, eo81⟩ := Kd.R_slice HO481.out
    subst eo81
    refine hK.out _ _ ⟨kz0 BK420, kz1 BK420, kz0 BK421, kz1 BK421⟩ (fun hHeld => ?_)
    clear hK K
    refine norm_ (a' := ?_) ?_ ?_
    rotate_left
    ·show Act.put _ (some 51) _ = _
     simp only [Act.put, y0, y1, y2, i64_w, i32_w]
     rfl
    refine one_ (i := 4) (N := some 52) (bz 6 31) rfl rfl (by kernel_rfl) (by decide) (fun K hK => ?_)
    refine zg Try.func15 #[.agg #[.slice Ao78 t470.length co78, .slice Ao79 t473.length co79], .agg #[.slice Ao80 t476.length co80, .slice Ao81 t479.length co81]] ?_
    with_reducible refine (list_Ready.calls _ _ t470 _ _ t473 _ _ t476 _ _ t479 t482 _ ?side1 ?side2 ?side3 ?side4 ?side5 ?side6 ?side7 ?side8 A42.out).mono ?_
    (case side1 => exact zc (rr HO472.out).2.2)
    (case side2 => exact (rr HO472.out).2.1)
    (case side3 => exact zc (rr HO475.out).2.2)
    (case side4 => exact (rr HO475.out).2.1)
    (case side5 => exact zc (rr HO478.out).2.2)
    (case side6 => exact (rr HO478.out).2.1)
    (case side7 => exact zc (rr HO481.out).2.2)
    (case side8 => exact (rr HO481.out).2.1)
    rintro e w82 ⟨v483, rfl, ho0, hb⟩
    refine ⟨_, rfl, ?_⟩
    replace HO432 := Z0 (rbe (zr HO432) hb)
    replace HO452 := Z0 (rbe (zr HO452) hb)
    replace HO475 := Z0 (rbe (zr HO475) hb)
    have HO484 := Z0 (rl (rw_ (rw_ (rw_ (rw_ (rw_ (rw_ (rw_ (rw_ (rw_ (rw_ (rw_ (rw_ (rw_ (rw_ ho0 (rlt (zr HO429))) (rlt (zr HO435))) (rlt (zr HO438))) (rlt (zr HO441))) (rlt (zr HO444))) (rlt (zr HO449))) (rlt (zr HO455))) (rlt (zr HO458))) (rlt (zr HO461))) (rlt (zr HO464))) (rlt (zr HO467))) (rlt (zr HO472))) (rlt (zr HO478))) (rlt (zr HO481))) (below_size (zb HB)))
    replace HO429 := Z0 (Kd.R_elder' (zr HO429) (rb ho0) hb)
    replace HO435 := Z0 (Kd.R_elder' (zr HO435) (rb ho0) hb)
    replace HO438 := Z0 (Kd.R_elder' (zr HO438) (rb ho0) hb)
    replace HO441 := Z0 (Kd.R_elder' (zr HO441) (rb ho0) hb)
    replace HO444 := Z0 (Kd.R_elder' (zr HO444) (rb ho0) hb)
    replace HO449 := Z0 (Kd.R_elder' (zr HO449) (rb ho0) hb)
    replace HO455 := Z0 (Kd.R_elder' (zr HO455) (rb ho0) hb)
    replace HO458 := Z0 (Kd.R_elder' (zr HO458) (rb ho0) hb)
    replace HO461 := Z0 (Kd.R_elder' (zr HO461) (rb ho0) hb)
    replace HO464 := Z0 (Kd.R_elder' (zr HO464) (rb ho0) hb)
    replace HO467 := Z0 (Kd.R_elder' (zr HO467) (rb ho0) hb)
    replace HO472 := Z0 (Kd.R_elder' (zr HO472) (rb ho0) hb)
    replace HO478 := Z0 (Kd.R_elder' (zr HO478) (rb ho0) hb)
    replace HO481 := Z0 (Kd.R_elder' (zr HO481) (rb ho0) hb)
    replace BK420 := Z0 (zkb BK420 hb)
    replace BK421 := Z0 (zkb BK421 hb)
    replace BK422 := Z0 (zkb BK422 hb)
    replace BK446 := Z0 (zkb BK446 hb)
    replace BK469 := Z0 (zkb BK469 hb)
    replace HB := Z0 (below_step (zb HB) hb)
    (try clear hb)
    (try clear hb2)
    (try clear hk)
    (try clear hi)
    (try clear ho0)
    refine hK.out _ _ ⟨kz0 BK420, kz1 BK420, kz0 BK421, kz1 BK421⟩ (fun hHeld => ?_)
    clear hK K
    refine norm_ (a' := ?_) ?_ ?_
    rotate_left
    ·show Act.put _ (some 52) _ = _
     simp only [Act.put, y0, y1, y2, i64_w, i32_w]
     rfl
    refine pure_ (i := 5) (N := some 12) (v := ?_) (a' := ?_) (bz 6 63) rfl rfl (by kernel_rfl) (fun _ _ _ h => h) (Or.inl ⟨by rfl, ?_⟩) ?_ ?_; rotate_left; intro w'; go_simp; with_reducible rfl; rotate_left; simp only [Act.put, y0, y1, y2, i64_w, i32_w]; rfl
    refine done_ (by kernel_rfl) ?_
    have hnb83 := NB420_421.out
    have hnc83 := NB421_420.out
    have hnb84 := NB420_422.out
    have hnc84 := NB422_420.out
    have hnb85 := NB420_446.out
    have hnc85 := NB446_420.out
    have hnb86 := NB420_469.out
    have hnc86 := NB469_420.out
    have hcz87_0 := kz0 BK420
    have hcz87_1 := kz1 BK420
    have hfz87_0 := blk_frozen BK420.out 0
    have hfz87_1 := blk_frozen BK420.out 1
    have hnb88 := NB421_422.out
    have hnc88 := NB422_421.out
    have hnb89 := NB421_446.out
    have hnc89 := NB446_421.out
    have hnb90 := NB421_469.out
    have hnc90 := NB469_421.out
    have hcz91_0 := kz0 BK421
    have hcz91_1 := kz1 BK421
    have hfz91_0 := blk_frozen BK421.out 0
    have hfz91_1 := blk_frozen BK421.out 1
    go_upto_region 7 with (first | ((with_reducible refine gate_callee (f := 16) rfl ?_); refine goesL_ (some 55) rfl rfl Try.func16 (by kernel_rfl) rfl #[.agg #[.slice A0_0 l0_0.length c0_0, .slice A0_1 l0_1.length c0_1], .agg #[.slice A1_0 l1_0.length c1_0, .slice A1_1 l1_1.length c1_1]] rfl (by (try simp only [List.map_toArray, List.map_cons, List.map_nil]); first | done | rfl | (simp only [List.length_drop, List.length_take]; rfl)) ?_; (with_reducible refine (trefoilref11_Check.calls kj3 _ _ l0_0 _ _ l0_1 _ _ l1_0 _ _ l1_1 t485 _ ?side1 ?side2 ?side3 ?side4 ?side5 ?side6 ?side7 ?side8 A43.out).mono ?_); (case side1 => exact zc (Kd.C_below HR0_0.out HB.out)); (case side2 => exact HC0_0.out); (case side3 => exact zc (Kd.C_below HR0_1.out HB.out)); (case side4 => exact HC0_1.out); (case side5 => exact zc (Kd.C_below HR1_0.out HB.out)); (case side6 => exact HC1_0.out); (case side7 => exact zc (Kd.C_below HR1_1.out HB.out)); (case side8 => exact HC1_1.out); rintro e w92 ⟨rfl, hb⟩; refine ⟨_, rfl, ?_⟩; replace HO429 := Z0 (rbe (zr HO429) hb); replace HO432 := Z0 (rbe (zr HO432) hb); replace HO435 := Z0 (rbe (zr HO435) hb); replace HO438 := Z0 (rbe (zr HO438) hb); replace HO441 := Z0 (rbe (zr HO441) hb); replace HO444 := Z0 (rbe (zr HO444) hb); replace HO449 := Z0 (rbe (zr HO449) hb); replace HO452 := Z0 (rbe (zr HO452) hb); replace HO455 := Z0 (rbe (zr HO455) hb); replace HO458 := Z0 (rbe (zr HO458) hb); replace HO461 := Z0 (rbe (zr HO461) hb); replace HO464 := Z0 (rbe (zr HO464) hb); replace HO467 := Z0 (rbe (zr HO467) hb); replace HO472 := Z0 (rbe (zr HO472) hb); replace HO475 := Z0 (rbe (zr HO475) hb); replace HO478 := Z0 (rbe (zr HO478) hb); replace HO481 := Z0 (rbe (zr HO481) hb); replace HO484 := Z0 (rbe (zr HO484) hb); replace BK420 := Z0 (zkb BK420 hb); replace BK421 := Z0 (zkb BK421 hb); replace BK422 := Z0 (zkb BK422 hb); replace BK446 := Z0 (zkb BK446 hb); replace BK469 := Z0 (zkb BK469 hb); replace HB := Z0 (below_step (zb HB) hb); (try clear hb); (try clear hb2); (try clear hk); (try clear hi)))
    (try simp only [Act.put, y0, y1, y2])
    go_cut [83] (fun v83 wc => ∃ (kq : Nat) (x83_43 : Bool), v83 = .bool x83_43 ∧ Aside0 (trefoillaw11_ListSteps.j1 kq t465 t482 t485 x83_43 l0_0 l0_1 l1_0 l1_1 t439 t442 t459 t462 = some r) ∧ Aside0 (kq ≤ kj3) ∧ Aside0 (Kd.R (Kd.int .i64) 3 wc w.heap.size (fun k_ => some k_ ≠ (v483 : Value).ownBlock ∧ some k_ ≠ ((.slice Ao55 t439.length co55) : Value).ownBlock ∧ some k_ ≠ ((.slice Ao57 t442.length co57) : Value).ownBlock ∧ some k_ ≠ ((.slice Ao70 t459.length co70) : Value).ownBlock ∧ some k_ ≠ ((.slice Ao72 t462.length co72) : Value).ownBlock) v466 t465) ∧ Aside0 (Kd.R (Kd.int .i64) 3 wc w.heap.size (fun k_ => some k_ ≠ (v466 : Value).ownBlock ∧ some k_ ≠ ((.slice Ao55 t439.length co55) : Value).ownBlock ∧ some k_ ≠ ((.slice Ao57 t442.length co57) : Value).ownBlock ∧ some k_ ≠ ((.slice Ao70 t459.length co70) : Value).ownBlock ∧ some k_ ≠ ((.slice Ao72 t462.length co72) : Value).ownBlock) v483 t482) ∧ Aside0 (Kd.R (Kd.int .i64) 3 wc w.heap.size (fun k_ => some k_ ≠ (v466 : Value).ownBlock ∧ some k_ ≠ (v483 : Value).ownBlock ∧ some k_ ≠ ((.slice Ao57 t442.length co57) : Value).ownBlock ∧ some k_ ≠ ((.slice Ao70 t459.length co70) : Value).ownBlock ∧ some k_ ≠ ((.slice Ao72 t462.length co72) : Value).ownBlock) (.slice Ao55 t439.length co55) t439) ∧ Aside0 (Kd.R (Kd.int .i64) 3 wc w.heap.size (fun k_ => some k_ ≠ (v466 : Value).ownBlock ∧ some k_ ≠ (v483 : Value).ownBlock ∧ some k_ ≠ ((.slice Ao55 t439.length co55) : Value).ownBlock ∧ some k_ ≠ ((.slice Ao70 t459.length co70) : Value).ownBlock ∧ some k_ ≠ ((.slice Ao72 t462.length co72) : Value).ownBlock) (.slice Ao57 t442.length co57) t442) ∧ Aside0 (Kd.R (Kd.int .i64) 3 wc w.heap.size (fun k_ => some k_ ≠ (v466 : Value).ownBlock ∧ some k_ ≠ (v483 : Value).ownBlock ∧ some k_ ≠ ((.slice Ao55 t439.length co55) : Value).ownBlock ∧ some k_ ≠ ((.slice Ao57 t442.length co57) : Value).ownBlock ∧ some k_ ≠ ((.slice Ao72 t462.length co72) : Value).ownBlock) (.slice Ao70 t459.length co70) t459) ∧ Aside0 (Kd.R (Kd.int .i64) 3 wc w.heap.size (fun k_ => some k_ ≠ (v466 : Value).ownBlock ∧ some k_ ≠ (v483 : Value).ownBlock ∧ some k_ ≠ ((.slice Ao55 t439.length co55) : Value).ownBlock ∧ some k_ ≠ ((.slice Ao57 t442.length co57) : Value).ownBlock ∧ some k_ ≠ ((.slice Ao70 t459.length co70) : Value).ownBlock) (.slice Ao72 t462.length co72) t462) ∧ Aside0 (wc.heap[gb420]? = some (.cells #[(.slice A0_0 l0_0.length c0_0), (.slice A0_1 l0_1.length c0_1)] 25 (0, 0))) ∧ Aside0 (wc.heap[gb421]? = some (.cells #[(.slice A1_0 l1_0.length c1_0), (.slice A1_1 l1_1.length c1_1)] 27 (0, 0))) ∧ Aside0 (wc.heap[gb422]? = some (.cells #[(.slice A2_0 l2_0.length c2_0), (.slice A2_1 l2_1.length c2_1)] 27 (0, 0))) ∧ Aside0 (wc.heap[gb446]? = some (.cells #[(.slice Ao55 t439.length co55), (.slice Ao57 t442.length co57)] 27 (0, 0))) ∧ Aside0 (wc.heap[gb469]? = some (.cells #[(.slice Ao70 t459.length co70), (.slice Ao72 t462.length co72)] 27 (0, 0))) ∧ Aside0 (Below w.heap.size w wc))
    case first =>
     have H := HC44.out
     clear HC44
     replace H := Option.bind_eq_some_iff.mp H
     obtain ⟨⟨t486, t489⟩, A930, H⟩ := H
     dsimp only at H
     have A93 := Z0 A930
     clear A930
     replace H := Option.bind_eq_some_iff.mp H
     obtain ⟨⟨t492, t495⟩, A940, H⟩ := H
     dsimp only at H
     have A94 := Z0 A940
     clear A940
     replace H := Option.bind_eq_some_iff.mp H
     obtain ⟨t498, A950, H⟩ := H
     have A95 := Z0 A950
     clear A950
     by_cases c96 : t498 = t485
     rotate_left
     ·rw [if_neg c96] at H
      exact (trefoillaw11_ListSteps.jt H hrt).elim
     rw [if_pos c96] at H
     have c96b0 : (t498 == t485) = true := beq_iff_eq.mpr c96
     have c96b1 : (t498 != t485) = false := bne_eq_false_iff_eq.mpr c96
     clear c96
     (first | rw [c96b0] | (simp only [i64_w, i32_w]; rw [c96b0]) | skip)
     by_cases c97 : t445 = t485
     rotate_left
     ·rw [if_neg c97] at H
      exact (trefoillaw11_ListSteps.jt H hrt).elim
     rw [if_pos c97] at H
     have c97b0 : (t445 == t485) = true := beq_iff_eq.mpr c97
     have c97b1 : (t445 != t485) = false := bne_eq_false_iff_eq.mpr c97
     clear c97
     by_cases c98 : t468 = t485
     rotate_left
     ·rw [if_neg c98] at H
      exact (trefoillaw11_ListSteps.jt H hrt).elim
     rw [if_pos c98] at H
     have c98b0 : (t468 == t485) = true := beq_iff_eq.mpr c98
     have c98b1 : (t468 != t485) = false := bne_eq_false_iff_eq.mpr c98
     clear c98
     replace H := Option.bind_eq_some_iff.mp H
     obtain ⟨⟨t499, t502⟩, A990, H⟩ := H
     dsimp only at H
     have A99 := Z0 A990
     clear A990
     replace H := Option.bind_eq_some_iff.mp H
     obtain ⟨⟨t505, t508⟩, A1000, H⟩ := H
     dsimp only at H
     have A100 := Z0 A1000
     clear A1000
     replace H := Option.bind_eq_some_iff.mp H
     obtain ⟨t511, A1010, H⟩ := H
     have A101 := Z0 A1010
     clear A1010
     replace H := Option.bind_eq_some_iff.mp H
     obtain ⟨t512, A1020, H⟩ := H
     have A102 := Z0 A1020
     clear A1020
     have H' := Z0 H
     clear H
     try go_wp2
     replace HO429 := Z0 (rd_ HO429.out)
     replace HO432 := Z0 (rd_ HO432.out)
     replace HO435 := Z0 (rd_ HO435.out)
     replace HO438 := Z0 (rd_ HO438.out)
     replace HO441 := Z0 (rd_ HO441.out)
     replace HO444 := Z0 (rd_ HO444.out)
     replace HO449 := Z0 (rd_ HO449.out)
     replace HO452 := Z0 (rd_ HO452.out)
     replace HO455 := Z0 (rd_ HO455.out)
     replace HO458 := Z0 (rd_ HO458.out)
     replace HO461 := Z0 (rd_ HO461.out)
     replace HO464 := Z0 (rd_ HO464.out)
     replace HO467 := Z0 (rd_ HO467.out)
     replace HO472 := Z0 (rd_ HO472.out)
     replace HO475 := Z0 (rd_ HO475.out)
     replace HO478 := Z0 (rd_ HO478.out)
     replace HO481 := Z0 (rd_ HO481.out)
     replace HO484 := Z0 (rd_ HO484.out)
     replace BK420 := Z0 (kd_ BK420.out)
     replace BK421 := Z0 (kd_ BK421.out)
     replace BK422 := Z0 (kd_ BK422.out)
     replace BK446 := Z0 (kd_ BK446.out)
     replace BK469 := Z0 (kd_ BK469.out)
     replace HB := Z0 (wd HB.out)
     as_aux_lemma =>
     refine start_ (n := 28) (S := fun w' => w'.cell? ⟨gb420, 0, none⟩ = some (.slice A0_0 l0_0.length c0_0) ∧ w'.cell? ⟨gb420, 1, none⟩ = some (.slice A0_1 l0_1.length c0_1) ∧ w'.cell? ⟨gb421, 0, none⟩ = some (.slice A1_0 l1_0.length c1_0) ∧ w'.cell? ⟨gb421, 1, none⟩ = some (.slice A1_1 l1_1.length c1_1) ∧ w'.cell? ⟨gb422, 0, none⟩ = some (.slice A2_0 l2_0.length c2_0) ∧ w'.cell? ⟨gb422, 1, none⟩ = some (.slice A2_1 l2_1.length c2_1)) (ds := []) (bz 28 0) (by kernel_rfl) rfl rfl ⟨kz0 BK420, kz1 BK420, kz0 BK421, kz1 BK421, kz0 BK422, kz1 BK422⟩ (fun hHeld => ?_); refine with_tabW trefoillaw11_ListSteps.tab7 trefoillaw11_ListSteps.bits7 (fun HT_ HW_ => ?_)
     generalize w92.drew = w103 at HO429 HO432 HO435 HO438 HO441 HO444 HO449 HO452 HO455 HO458 HO461 HO464 HO467 HO472 HO475 HO478 HO481 HO484 BK420 BK421 BK422 BK446 BK469 HB hHeld ⊢
     refine pu 5 (some 61) (bz 28 32) HT_ ?_
     refine tk6 0 (some 56) (bz 28 33) HT_ HW_ hHeld ?_
     refine tk6 2 (some 58) (bz 28 37) HT_ HW_ hHeld ?_
     refine one_ (i := 1) (N := some 57) (bz 28 39) rfl rfl (one_of HT_.out (by kernel_rfl)) (by decide) (fun K hK => ?_)
     refine zg Try.func12 #[.agg #[.slice A0_0 l0_0.length c0_0, .slice A0_1 l0_1.length c0_1]] ?_
     with_reducible refine (trefoillaw04_Own.calls _ _ l0_0 _ _ l0_1 t486 t489 _ ?side1 ?side2 ?side3 ?side4 A93.out).mono ?_
     (case side1 => exact zc (Kd.C_below HR0_0.out HB.out))
     (case side2 => exact HC0_0.out)
     (case side3 => exact zc (Kd.C_below HR0_1.out HB.out))
     (case side4 => exact HC0_1.out)
     rintro e w104 ⟨v487, v490, rfl, ho0, ho1, hb⟩
     refine ⟨_, rfl, ?_⟩
     have HO488 := Z0 (rl (rw_ (rw_ (rw_ (rw_ (rw_ (rw_ (rw_ (rw_ (rw_ (rw_ (rw_ (rw_ (rw_ (rw_ (rw_ ho0 (rlt (zr HO429))) (rlt (zr HO435))) (rlt (zr HO438))) (rlt (zr HO441))) (rlt (zr HO444))) (rlt (zr HO449))) (rlt (zr HO455))) (rlt (zr HO458))) (rlt (zr HO461))) (rlt (zr HO464))) (rlt (zr HO467))) (rlt (zr HO472))) (rlt (zr HO478))) (rlt (zr HO481))) (rlt (zr HO484))) (below_size (zb HB)))
     replace HO429 := Z0 (Kd.R_elder' (zr HO429) (rb ho0) hb)
     replace HO435 := Z0 (Kd.R_elder' (zr HO435) (rb ho0) hb)
     replace HO438 := Z0 (Kd.R_elder' (zr HO438) (rb ho0) hb)
     replace HO441 := Z0 (Kd.R_elder' (zr HO441) (rb ho0) hb)
     replace HO444 := Z0 (Kd.R_elder' (zr HO444) (rb ho0) hb)
     replace HO449 := Z0 (Kd.R_elder' (zr HO449) (rb ho0) hb)
     replace HO455 := Z0 (Kd.R_elder' (zr HO455) (rb ho0) hb)
     replace HO458 := Z0 (Kd.R_elder' (zr HO458) (rb ho0) hb)
     replace HO461 := Z0 (Kd.R_elder' (zr HO461) (rb ho0) hb)
     replace HO464 := Z0 (Kd.R_elder' (zr HO464) (rb ho0) hb)
     replace HO467 := Z0 (Kd.R_elder' (zr HO467) (rb ho0) hb)
     replace HO472 := Z0 (Kd.R_elder' (zr HO472) (rb ho0) hb)
     replace HO478 := Z0 (Kd.R_elder' (zr HO478) (rb ho0) hb)
     replace HO481 := Z0 (Kd.R_elder' (zr HO481) (rb ho0) hb)
     replace HO484 := Z0 (Kd.R_elder' (zr HO484) (rb ho0) hb)
     have HO491 := Z0 (rl (rw_ (rw_ (rw_ ho1 (rlt (zr HO432))) (rlt (zr HO452))) (rlt (zr HO475))) (below_size (zb HB)))
     replace HO432 := Z0 (Kd.R_elder' (zr HO432) (rb ho1) hb)
     replace HO452 := Z0 (Kd.R_elder' (zr HO452) (rb ho1) hb)
     replace HO475 := Z0 (Kd.R_elder' (zr HO475) (rb ho1) hb)
     replace BK420 := Z0 (zkb BK420 hb)
     replace BK421 := Z0 (zkb BK421 hb)
     replace BK422 := Z0 (zkb BK422 hb)
     replace BK446 := Z0 (zkb BK446 hb)
     replace BK469 := Z0 (zkb BK469 hb)
     replace HB := Z0 (below_step (zb HB) hb)
     (try clear hb)
     (try clear hb2)
     (try clear hk)
     (try clear hi)
     (try clear ho0)
     (try clear ho1)
     refine hK.out _ _ ⟨kz0 BK420, kz1 BK420, kz0 BK421, kz1 BK421, kz0 BK422, kz1 BK422⟩ (fun hHeld => ?_)
     clear hK K
     refine norm_ (a' := ?_) ?_ ?_
     rotate_left
     ·show Act.put _ (some 57) _ = _
      simp only [Act.put, y0, y1, y2, i64_w, i32_w]
      rfl
     refine one_ (i := 3) (N := some 59) (bz 28 47) rfl rfl (one_of HT_.out (by kernel_rfl)) (by decide) (fun K hK => ?_)
     refine zg Try.func13 #[.agg #[.slice A1_0 l1_0.length c1_0, .slice A1_1 l1_1.length c1_1]] ?_
     with_reducible refine (trefoillaw11_Own.calls _ _ l1_0 _ _ l1_1 t492 t495 _ ?side1 ?side2 ?side3 ?side4 A94.out).mono ?_
     (case side1 => exact zc (Kd.C_below HR1_0.out HB.out))
     (case side2 => exact HC1_0.out)
     (case side3 => exact zc (Kd.C_below HR1_1.out HB.out))
     (case side4 => exact HC1_1.out)
     rintro e w105 ⟨v493, v496, rfl, ho0, ho1, hb⟩
     refine ⟨_, rfl, ?_⟩
     replace HO432 := Z0 (rbe (zr HO432) hb)
     replace HO452 := Z0 (rbe (zr HO452) hb)
     replace HO475 := Z0 (rbe (zr HO475) hb)
     replace HO491 := Z0 (rbe (zr HO491) hb)
     have HO494 := Z0 (rl (rw_ (rw_ (rw_ (rw_ (rw_ (rw_ (rw_ (rw_ (rw_ (rw_ (rw_ (rw_ (rw_ (rw_ (rw_ (rw_ ho0 (rlt (zr HO429))) (rlt (zr HO435))) (rlt (zr HO438))) (rlt (zr HO441))) (rlt (zr HO444))) (rlt (zr HO449))) (rlt (zr HO455))) (rlt (zr HO458))) (rlt (zr HO461))) (rlt (zr HO464))) (rlt (zr HO467))) (rlt (zr HO472))) (rlt (zr HO478))) (rlt (zr HO481))) (rlt (zr HO484))) (rlt (zr HO488))) (below_size (zb HB)))
     have HO497 := Z0 (rl (rw_ (rw_ (rw_ (rw_ (rw_ (rw_ (rw_ (rw_ (rw_ (rw_ (rw_ (rw_ (rw_ (rw_ (rw_ (rw_ ho1 (rlt (zr HO429))) (rlt (zr HO435))) (rlt (zr HO438))) (rlt (zr HO441))) (rlt (zr HO444))) (rlt (zr HO449))) (rlt (zr HO455))) (rlt (zr HO458))) (rlt (zr HO461))) (rlt (zr HO464))) (rlt (zr HO467))) (rlt (zr HO472))) (rlt (zr HO478))) (rlt (zr HO481))) (rlt (zr HO484))) (rlt (zr HO488))) (below_size (zb HB)))
     replace HO429 := Z0 (rmt HO429 hb ho0 ho1)
     replace HO435 := Z0 (rmt HO435 hb ho0 ho1)
     replace HO438 := Z0 (rmt HO438 hb ho0 ho1)
     replace HO441 := Z0 (rmt HO441 hb ho0 ho1)
     replace HO444 := Z0 (rmt HO444 hb ho0 ho1)
     replace HO449 := Z0 (rmt HO449 hb ho0 ho1)
     replace HO455 := Z0 (rmt HO455 hb ho0 ho1)
     replace HO458 := Z0 (rmt HO458 hb ho0 ho1)
     replace HO461 := Z0 (rmt HO461 hb ho0 ho1)
     replace HO464 := Z0 (rmt HO464 hb ho0 ho1)
     replace HO467 := Z0 (rmt HO467 hb ho0 ho1)
     replace HO472 := Z0 (rmt HO472 hb ho0 ho1)
     replace HO478 := Z0 (rmt HO478 hb ho0 ho1)
     replace HO481 := Z0 (rmt HO481 hb ho0 ho1)
     replace HO484 := Z0 (rmt HO484 hb ho0 ho1)
     replace HO488 := Z0 (rmt HO488 hb ho0 ho1)
     replace BK420 := Z0 (zkb BK420 hb)
     replace BK421 := Z0 (zkb BK421 hb)
     replace BK422 := Z0 (zkb BK422 hb)
     replace BK446 := Z0 (zkb BK446 hb)
     replace BK469 := Z0 (zkb BK469 hb)
     replace HB := Z0 (below_step (zb HB) hb)
     (try clear hb)
     (try clear hb2)
     (try clear hk)
     (try clear hi)
     (try clear ho0)
     (try clear ho1)
     obtain ⟨Ao106, co106, eo106⟩ := Kd.R_slice HO488.out
     subst eo106
     obtain ⟨Ao107, co107, eo107⟩ := Kd.R_slice HO491.out
     subst eo107
     obtain ⟨Ao108, co108, eo108⟩ := Kd.R_slice HO494.out
     subst eo108
     obtain ⟨Ao109, co109, eo109⟩ := Kd.R_slice HO497.out
     subst eo109
     refine hK.out _ _ ⟨kz0 BK420, kz1 BK420, kz0 BK421, kz1 BK421, kz0 BK422, kz1 BK422⟩ (fun hHeld => ?_)
     clear hK K
     refine norm_ (a' := ?_) ?_ ?_
     rotate_left
     ·show Act.put _ (some 59) _ = _
      simp only [Act.put, y0, y1, y2, i64_w, i32_w]
      rfl
     refine one_ (i := 4) (N := some 60) (bz 28 63) rfl rfl (one_of HT_.out (by kernel_rfl)) (by decide) (fun K hK => ?_)
     refine zg Try.func17 #[.agg #[.slice Ao106 t486.length co106, .slice Ao107 t489.length co107], .agg #[.slice Ao108 t492.length co108, .slice Ao109 t495.length co109]] ?_
     with_reducible refine (list_Check.calls _ _ t486 _ _ t489 _ _ t492 _ _ t495 t498 _ ?side1 ?side2 ?side3 ?side4 ?side5 ?side6 ?side7 ?side8 A95.out).mono ?_
     (case side1 => exact zc (rr HO488.out).2.2)
     (case side2 => exact (rr HO488.out).2.1)
     (case side3 => exact zc (rr HO491.out).2.2)
     (case side4 => exact (rr HO491.out).2.1)
     (case side5 => exact zc (rr HO494.out).2.2)
     (case side6 => exact (rr HO494.out).2.1)
     (case side7 => exact zc (rr HO497.out).2.2)
     (case side8 => exact (rr HO497.out).2.1)
     rintro e w110 ⟨rfl, hb⟩
     refine ⟨_, rfl, ?_⟩
     replace HO429 := Z0 (rbe (zr HO429) hb)
     replace HO432 := Z0 (rbe (zr HO432) hb)
     replace HO435 := Z0 (rbe (zr HO435) hb)
     replace HO438 := Z0 (rbe (zr HO438) hb)
     replace HO441 := Z0 (rbe (zr HO441) hb)
     replace HO444 := Z0 (rbe (zr HO444) hb)
     replace HO449 := Z0 (rbe (zr HO449) hb)
     replace HO452 := Z0 (rbe (zr HO452) hb)
     replace HO455 := Z0 (rbe (zr HO455) hb)
     replace HO458 := Z0 (rbe (zr HO458) hb)
     replace HO461 := Z0 (rbe (zr HO461) hb)
     replace HO464 := Z0 (rbe (zr HO464) hb)
     replace HO467 := Z0 (rbe (zr HO467) hb)
     replace HO472 := Z0 (rbe (zr HO472) hb)
     replace HO475 := Z0 (rbe (zr HO475) hb)
     replace HO478 := Z0 (rbe (zr HO478) hb)
     replace HO481 := Z0 (rbe (zr HO481) hb)
     replace HO484 := Z0 (rbe (zr HO484) hb)
     replace HO488 := Z0 (rbe (zr HO488) hb)
     replace HO491 := Z0 (rbe (zr HO491) hb)
     replace HO494 := Z0 (rbe (zr HO494) hb)
     replace HO497 := Z0 (rbe (zr HO497) hb)
     replace BK420 := Z0 (zkb BK420 hb)
     replace BK421 := Z0 (zkb BK421 hb)
     replace BK422 := Z0 (zkb BK422 hb)
     replace BK446 := Z0 (zkb BK446 hb)
     replace BK469 := Z0 (zkb BK469 hb)
     replace HB := Z0 (below_step (zb HB) hb)
     (try clear hb)
     (try clear hb2)
     (try clear hk)
     (try clear hi)
     refine hK.out _ _ ⟨kz0 BK420, kz1 BK420, kz0 BK421, kz1 BK421, kz0 BK422, kz1 BK422⟩ (fun hHeld => ?_)
     clear hK K
     refine norm_ (a' := ?_) ?_ ?_
     rotate_left
     ·show Act.put _ (some 60) _ = _
      simp only [Act.put, y0, y1, y2, i64_w, i32_w]
      rfl
     refine pu 6 (some 62) (bz 28 127) HT_ ?_
     refine pu 7 (some 63) (bz 28 255) HT_ ?_
     refine pu 8 (some 64) (bz 28 511) HT_ ?_
     refine pu 9 (some 65) (bz 28 1023) HT_ ?_
     refine pu 10 (some 66) (bz 28 2047) HT_ ?_
     refine pu 11 (some 67) (bz 28 4095) HT_ ?_
     refine pu 12 (some 68) (bz 28 8191) HT_ ?_
     refine pu 13 (some 69) (bz 28 16383) HT_ ?_
     refine pu 14 (some 70) (bz 28 32767) HT_ ?_
     refine pu 15 (some 71) (bz 28 65535) HT_ ?_
     refine pu 16 (some 72) (bz 28 131071) HT_ ?_
     refine pu 17 (some 73) (bz 28 262143) HT_ ?_
     refine tk6 18 (some 74) (bz 28 524287) HT_ HW_ hHeld ?_
     refine tk6 20 (some 76) (bz 28 0x17ffff) HT_ HW_ hHeld ?_
     refine tk6 23 (some 79) (bz 28 0x97ffff) HT_ HW_ hHeld ?_
     refine tk6 24 (some 80) (bz 28 0x197ffff) HT_ HW_ hHeld ?_
     refine one_ (i := 19) (N := some 75) (bz 28 0x19fffff) rfl rfl (one_of HT_.out (by kernel_rfl)) (by decide) (fun K hK => ?_)
     refine zg Try.func13 #[.agg #[.slice A1_0 l1_0.length c1_0, .slice A1_1 l1_1.length c1_1]] ?_
     with_reducible refine (trefoillaw11_Own.calls _ _ l1_0 _ _ l1_1 t499 t502 _ ?side1 ?side2 ?side3 ?side4 A99.out).mono ?_
     (case side1 => exact zc (Kd.C_below HR1_0.out HB.out))
     (case side2 => exact HC1_0.out)
     (case side3 => exact zc (Kd.C_below HR1_1.out HB.out))
     (case side4 => exact HC1_1.out)
     rintro e w111 ⟨v500, v503, rfl, ho0, ho1, hb⟩
     refine ⟨_, rfl, ?_⟩
     replace HO432 := Z0 (rbe (zr HO432) hb)
     replace HO452 := Z0 (rbe (zr HO452) hb)
     replace HO475 := Z0 (rbe (zr HO475) hb)
     replace HO491 := Z0 (rbe (zr HO491) hb)
     have HO501 := Z0 (rl (rw_ (rw_ (rw_ (rw_ (rw_ (rw_ (rw_ (rw_ (rw_ (rw_ (rw_ (rw_ (rw_ (rw_ (rw_ (rw_ (rw_ (rw_ ho0 (rlt (zr HO429))) (rlt (zr HO435))) (rlt (zr HO438))) (rlt (zr HO441))) (rlt (zr HO444))) (rlt (zr HO449))) (rlt (zr HO455))) (rlt (zr HO458))) (rlt (zr HO461))) (rlt (zr HO464))) (rlt (zr HO467))) (rlt (zr HO472))) (rlt (zr HO478))) (rlt (zr HO481))) (rlt (zr HO484))) (rlt (zr HO488))) (rlt (zr HO494))) (rlt (zr HO497))) (below_size (zb HB)))
     have HO504 := Z0 (rl (rw_ (rw_ (rw_ (rw_ (rw_ (rw_ (rw_ (rw_ (rw_ (rw_ (rw_ (rw_ (rw_ (rw_ (rw_ (rw_ (rw_ (rw_ ho1 (rlt (zr HO429))) (rlt (zr HO435))) (rlt (zr HO438))) (rlt (zr HO441))) (rlt (zr HO444))) (rlt (zr HO449))) (rlt (zr HO455))) (rlt (zr HO458))) (rlt (zr HO461))) (rlt (zr HO464))) (rlt (zr HO467))) (rlt (zr HO472))) (rlt (zr HO478))) (rlt (zr HO481))) (rlt (zr HO484))) (rlt (zr HO488))) (rlt (zr HO494))) (rlt (zr HO497))) (below_size (zb HB)))
     replace HO429 := Z0 (rmt HO429 hb ho0 ho1)
     replace HO435 := Z0 (rmt HO435 hb ho0 ho1)
     replace HO438 := Z0 (rmt HO438 hb ho0 ho1)
     replace HO441 := Z0 (rmt HO441 hb ho0 ho1)
     replace HO444 := Z0 (rmt HO444 hb ho0 ho1)
     replace HO449 := Z0 (rmt HO449 hb ho0 ho1)
     replace HO455 := Z0 (rmt HO455 hb ho0 ho1)
     replace HO458 := Z0 (rmt HO458 hb ho0 ho1)
     replace HO461 := Z0 (rmt HO461 hb ho0 ho1)
     replace HO464 := Z0 (rmt HO464 hb ho0 ho1)
     replace HO467 := Z0 (rmt HO467 hb ho0 ho1)
     replace HO472 := Z0 (rmt HO472 hb ho0 ho1)
     replace HO478 := Z0 (rmt HO478 hb ho0 ho1)
     replace HO481 := Z0 (rmt HO481 hb ho0 ho1)
     replace HO484 := Z0 (rmt HO484 hb ho0 ho1)
     replace HO488 := Z0 (rmt HO488 hb ho0 ho1)
     replace HO494 := Z0 (rmt HO494 hb ho0 ho1)
     replace HO497 := Z0 (rmt HO497 hb ho0 ho1)
     replace BK420 := Z0 (zkb BK420 hb)
     replace BK421 := Z0 (zkb BK421 hb)
     replace BK422 := Z0 (zkb BK422 hb)
     replace BK446 := Z0 (zkb BK446 hb)
     replace BK469 := Z0 (zkb BK469 hb)
     replace HB := Z0 (below_step (zb HB) hb)
     (try clear hb)
     (try clear hb2)
     (try clear hk)
     (try clear hi)
     (try clear ho0)
     (try clear ho1)
     refine hK.out _ _ ⟨kz0 BK420, kz1 BK420, kz0 BK421, kz1 BK421, kz0 BK422, kz1 BK422⟩ (fun hHeld => ?_)
     clear hK K
     refine norm_ (a' := ?_) ?_ ?_
     rotate_left
     ·show Act.put _ (some 75) _ = _
      simp only [Act.put, y0, y1, y2, i64_w, i32_w]
      rfl
     refine one_ (i := 21) (N := some 77) (bz 28 0x1bfffff) rfl rfl (one_of HT_.out (by kernel_rfl)) (by decide) (fun K hK => ?_)
     refine zg Try.func13 #[.agg #[.slice A2_0 l2_0.length c2_0, .slice A2_1 l2_1.length c2_1]] ?_
     with_reducible refine (trefoillaw11_Own.calls _ _ l2_0 _ _ l2_1 t505 t508 _ ?side1 ?side2 ?side3 ?side4 A100.out).mono ?_
     (case side1 => exact zc (Kd.C_below HR2_0.out HB.out))
     (case side2 => exact HC2_0.out)
     (case side3 => exact zc (Kd.C_below HR2_1.out HB.out))
     (case side4 => exact HC2_1.out)
     rintro e w112 ⟨v506, v509, rfl, ho0, ho1, hb⟩
     refine ⟨_, rfl, ?_⟩
     replace HO432 := Z0 (rbe (zr HO432) hb)
     replace HO452 := Z0 (rbe (zr HO452) hb)
     replace HO475 := Z0 (rbe (zr HO475) hb)
     replace HO491 := Z0 (rbe (zr HO491) hb)
     have HO507 := Z0 (rl (rw_ (rw_ (rw_ (rw_ (rw_ (rw_ (rw_ (rw_ (rw_ (rw_ (rw_ (rw_ (rw_ (rw_ (rw_ (rw_ (rw_ (rw_ (rw_ (rw_ ho0 (rlt (zr HO429))) (rlt (zr HO435))) (rlt (zr HO438))) (rlt (zr HO441))) (rlt (zr HO444))) (rlt (zr HO449))) (rlt (zr HO455))) (rlt (zr HO458))) (rlt (zr HO461))) (rlt (zr HO464))) (rlt (zr HO467))) (rlt (zr HO472))) (rlt (zr HO478))) (rlt (zr HO481))) (rlt (zr HO484))) (rlt (zr HO488))) (rlt (zr HO494))) (rlt (zr HO497))) (rlt (zr HO501))) (rlt (zr HO504))) (below_size (zb HB)))
     have HO510 := Z0 (rl (rw_ (rw_ (rw_ (rw_ (rw_ (rw_ (rw_ (rw_ (rw_ (rw_ (rw_ (rw_ (rw_ (rw_ (rw_ (rw_ (rw_ (rw_ (rw_ (rw_ ho1 (rlt (zr HO429))) (rlt (zr HO435))) (rlt (zr HO438))) (rlt (zr HO441))) (rlt (zr HO444))) (rlt (zr HO449))) (rlt (zr HO455))) (rlt (zr HO458))) (rlt (zr HO461))) (rlt (zr HO464))) (rlt (zr HO467))) (rlt (zr HO472))) (rlt (zr HO478))) (rlt (zr HO481))) (rlt (zr HO484))) (rlt (zr HO488))) (rlt (zr HO494))) (rlt (zr HO497))) (rlt (zr HO501))) (rlt (zr HO504))) (below_size (zb HB)))
     replace HO429 := Z0 (rmt HO429 hb ho0 ho1)
     replace HO435 := Z0 (rmt HO435 hb ho0 ho1)
     replace HO438 := Z0 (rmt HO438 hb ho0 ho1)
     replace HO441 := Z0 (rmt HO441 hb ho0 ho1)
     replace HO444 := Z0 (rmt HO444 hb ho0 ho1)
     replace HO449 := Z0 (rmt HO449 hb ho0 ho1)
     replace HO455 := Z0 (rmt HO455 hb ho0 ho1)
     replace HO458 := Z0 (rmt HO458 hb ho0 ho1)
     replace HO461 := Z0 (rmt HO461 hb ho0 ho1)
     replace HO464 := Z0 (rmt HO464 hb ho0 ho1)
     replace HO467 := Z0 (rmt HO467 hb ho0 ho1)
     replace HO472 := Z0 (rmt HO472 hb ho0 ho1)
     replace HO478 := Z0 (rmt HO478 hb ho0 ho1)
     replace HO481 := Z0 (rmt HO481 hb ho0 ho1)
     replace HO484 := Z0 (rmt HO484 hb ho0 ho1)
     replace HO488 := Z0 (rmt HO488 hb ho0 ho1)
     replace HO494 := Z0 (rmt HO494 hb ho0 ho1)
     replace HO497 := Z0 (rmt HO497 hb ho0 ho1)
     replace HO501 := Z0 (rmt HO501 hb ho0 ho1)
     replace HO504 := Z0 (rmt HO504 hb ho0 ho1)
     replace BK420 := Z0 (zkb BK420 hb)
     replace BK421 := Z0 (zkb BK421 hb)
     replace BK422 := Z0 (zkb BK422 hb)
     replace BK446 := Z0 (zkb BK446 hb)
     replace BK469 := Z0 (zkb BK469 hb)
     replace HB := Z0 (below_step (zb HB) hb)
     (try clear hb)
     (try clear hb2)
     (try clear hk)
     (try clear hi)
     (try clear ho0)
     (try clear ho1)
     obtain ⟨Ao113, co113, eo113⟩ := Kd.R_slice HO501.out
     subst eo113
     obtain ⟨Ao114, co114, eo114⟩ := Kd.R_slice HO504.out
     subst eo114
     obtain ⟨Ao115, co115, eo115⟩ := Kd.R_slice HO507.out
     subst eo115
     obtain ⟨Ao116, co116, eo116⟩ := Kd.R_slice HO510.out
     subst eo116
     refine hK.out _ _ ⟨kz0 BK420, kz1 BK420, kz0 BK421, kz1 BK421, kz0 BK422, kz1 BK422⟩ (fun hHeld => ?_)
     clear hK K
     refine norm_ (a' := ?_) ?_ ?_
     rotate_left
     ·show Act.put _ (some 77) _ = _
      simp only [Act.put, y0, y1, y2, i64_w, i32_w]
      rfl
     refine one_ (i := 22) (N := some 78) (bz 28 0x1ffffff) rfl rfl (one_of HT_.out (by kernel_rfl)) (by decide) (fun K hK => ?_)
     refine zg Try.func18 #[.agg #[.slice Ao113 t499.length co113, .slice Ao114 t502.length co114], .agg #[.slice Ao115 t505.length co115, .slice Ao116 t508.length co116]] ?_
     with_reducible refine (list_Same.calls kj3 _ _ t499 _ _ t502 _ _ t505 _ _ t508 t511 _ ?side1 ?side2 ?side3 ?side4 ?side5 ?side6 ?side7 ?side8 A101.out).mono ?_
     (case side1 => exact zc (rr HO501.out).2.2)
     (case side2 => exact (rr HO501.out).2.1)
     (case side3 => exact zc (rr HO504.out).2.2)
     (case side4 => exact (rr HO504.out).2.1)
     (case side5 => exact zc (rr HO507.out).2.2)
     (case side6 => exact (rr HO507.out).2.1)
     (case side7 => exact zc (rr HO510.out).2.2)
     (case side8 => exact (rr HO510.out).2.1)
     rintro e w117 ⟨rfl, hb⟩
     refine ⟨_, rfl, ?_⟩
     replace HO429 := Z0 (rbe (zr HO429) hb)
     replace HO432 := Z0 (rbe (zr HO432) hb)
     replace HO435 := Z0 (rbe (zr HO435) hb)
     replace HO438 := Z0 (rbe (zr HO438) hb)
     replace HO441 := Z0 (rbe (zr HO441) hb)
     replace HO444 := Z0 (rbe (zr HO444) hb)
     replace HO449 := Z0 (rbe (zr HO449) hb)
     replace HO452 := Z0 (rbe (zr HO452) hb)
     replace HO455 := Z0 (rbe (zr HO455) hb)
     replace HO458 := Z0 (rbe (zr HO458) hb)
     replace HO461 := Z0 (rbe (zr HO461) hb)
     replace HO464 := Z0 (rbe (zr HO464) hb)
     replace HO467 := Z0 (rbe (zr HO467) hb)
     replace HO472 := Z0 (rbe (zr HO472) hb)
     replace HO475 := Z0 (rbe (zr HO475) hb)
     replace HO478 := Z0 (rbe (zr HO478) hb)
     replace HO481 := Z0 (rbe (zr HO481) hb)
     replace HO484 := Z0 (rbe (zr HO484) hb)
     replace HO488 := Z0 (rbe (zr HO488) hb)
     replace HO491 := Z0 (rbe (zr HO491) hb)
     replace HO494 := Z0 (rbe (zr HO494) hb)
     replace HO497 := Z0 (rbe (zr HO497) hb)
     replace HO501 := Z0 (rbe (zr HO501) hb)
     replace HO504 := Z0 (rbe (zr HO504) hb)
     replace HO507 := Z0 (rbe (zr HO507) hb)
     replace HO510 := Z0 (rbe (zr HO510) hb)
     replace BK420 := Z0 (zkb BK420 hb)
     replace BK421 := Z0 (zkb BK421 hb)
     replace BK422 := Z0 (zkb BK422 hb)
     replace BK446 := Z0 (zkb BK446 hb)
     replace BK469 := Z0 (zkb BK469 hb)
     replace HB := Z0 (below_step (zb HB) hb)
     (try clear hb)
     (try clear hb2)
     (try clear hk)
     (try clear hi)
     refine hK.out _ _ ⟨kz0 BK420, kz1 BK420, kz0 BK421, kz1 BK421, kz0 BK422, kz1 BK422⟩ (fun hHeld => ?_)
     clear hK K
     refine norm_ (a' := ?_) ?_ ?_
     rotate_left
     ·show Act.put _ (some 78) _ = _
      simp only [Act.put, y0, y1, y2, i64_w, i32_w]
      rfl
     refine one_ (i := 25) (N := some 81) (bz 28 0x3ffffff) rfl rfl (one_of HT_.out (by kernel_rfl)) (by decide) (fun K hK => ?_)
     refine zg Try.func19 #[.agg #[.slice A1_0 l1_0.length c1_0, .slice A1_1 l1_1.length c1_1], .agg #[.slice A2_0 l2_0.length c2_0, .slice A2_1 l2_1.length c2_1]] ?_
     with_reducible refine (trefoilref11_Same.calls kj3 _ _ l1_0 _ _ l1_1 _ _ l2_0 _ _ l2_1 t512 _ ?side1 ?side2 ?side3 ?side4 ?side5 ?side6 ?side7 ?side8 A102.out).mono ?_
     (case side1 => exact zc (Kd.C_below HR1_0.out HB.out))
     (case side2 => exact HC1_0.out)
     (case side3 => exact zc (Kd.C_below HR1_1.out HB.out))
     (case side4 => exact HC1_1.out)
     (case side5 => exact zc (Kd.C_below HR2_0.out HB.out))
     (case side6 => exact HC2_0.out)
     (case side7 => exact zc (Kd.C_below HR2_1.out HB.out))
     (case side8 => exact HC2_1.out)
     rintro e w118 ⟨rfl, hb⟩
     refine ⟨_, rfl, ?_⟩
     replace HO429 := Z0 (rbe (zr HO429) hb)
     replace HO432 := Z0 (rbe (zr HO432) hb)
     replace HO435 := Z0 (rbe (zr HO435) hb)
     replace HO438 := Z0 (rbe (zr HO438) hb)
     replace HO441 := Z0 (rbe (zr HO441) hb)
     replace HO444 := Z0 (rbe (zr HO444) hb)
     replace HO449 := Z0 (rbe (zr HO449) hb)
     replace HO452 := Z0 (rbe (zr HO452) hb)
     replace HO455 := Z0 (rbe (zr HO455) hb)
     replace HO458 := Z0 (rbe (zr HO458) hb)
     replace HO461 := Z0 (rbe (zr HO461) hb)
     replace HO464 := Z0 (rbe (zr HO464) hb)
     replace HO467 := Z0 (rbe (zr HO467) hb)
     replace HO472 := Z0 (rbe (zr HO472) hb)
     replace HO475 := Z0 (rbe (zr HO475) hb)
     replace HO478 := Z0 (rbe (zr HO478) hb)
     replace HO481 := Z0 (rbe (zr HO481) hb)
     replace HO484 := Z0 (rbe (zr HO484) hb)
     replace HO488 := Z0 (rbe (zr HO488) hb)
     replace HO491 := Z0 (rbe (zr HO491) hb)
     replace HO494 := Z0 (rbe (zr HO494) hb)
     replace HO497 := Z0 (rbe (zr HO497) hb)
     replace HO501 := Z0 (rbe (zr HO501) hb)
     replace HO504 := Z0 (rbe (zr HO504) hb)
     replace HO507 := Z0 (rbe (zr HO507) hb)
     replace HO510 := Z0 (rbe (zr HO510) hb)
     replace BK420 := Z0 (zkb BK420 hb)
     replace BK421 := Z0 (zkb BK421 hb)
     replace BK422 := Z0 (zkb BK422 hb)
     replace BK446 := Z0 (zkb BK446 hb)
     replace BK469 := Z0 (zkb BK469 hb)
     replace HB := Z0 (below_step (zb HB) hb)
     (try clear hb)
     (try clear hb2)
     (try clear hk)
     (try clear hi)
     refine hK.out _ _ ⟨kz0 BK420, kz1 BK420, kz0 BK421, kz1 BK421, kz0 BK422, kz1 BK422⟩ (fun hHeld => ?_)
     clear hK K
     refine norm_ (a' := ?_) ?_ ?_
     rotate_left
     ·show Act.put _ (some 81) _ = _
      simp only [Act.put, y0, y1, y2, i64_w, i32_w]
      rfl
     refine pu 26 (some 82) (bz 28 0x7ffffff) HT_ ?_
     refine pu 27 (some 83) (bz 28 0xfffffff) HT_ ?_
     refine done_ (done_of HT_.out (by kernel_rfl)) ?_
     try go_wp2
     go_meet
     case rel => exact ⟨_, ((t511 != t512)), zs, H', ⟨by have := HJ3.out; first | omega | exact Nat.le_refl _⟩, ⟨by (with_reducible repeat (first | apply ra | apply rn | apply rd_)); exact rm HO467.out (fun _ hk => ⟨hk.1.1.1.1.1.1.1.2, ⟨hk.1.1.1.1.1.1.1.1.1.1.1.2.2.2.1, ⟨hk.1.1.1.1.1.1.1.1.1.1.1.2.2.2.2.1, ⟨hk.1.1.1.1.1.1.1.1.1.1.1.2.2.2.2.2.2.2.2.1, hk.1.1.1.1.1.1.1.1.1.1.1.2.2.2.2.2.2.2.2.2⟩⟩⟩⟩)⟩, ⟨by (with_reducible repeat (first | apply ra | apply rn | apply rd_)); exact rm HO484.out (fun _ hk => ⟨hk.1.1.1.1.1.1.1.1.1.1.2, ⟨hk.1.1.1.1.1.1.1.1.1.1.1.1.1.1.1.1.1.2, ⟨hk.1.1.1.1.1.1.1.1.1.1.1.1.1.1.1.1.2, ⟨hk.1.1.1.1.1.1.1.1.1.1.1.1.2, hk.1.1.1.1.1.1.1.1.1.1.1.2⟩⟩⟩⟩)⟩, ⟨by (with_reducible repeat (first | apply ra | apply rn | apply rd_)); exact rm HO441.out (fun _ hk => ⟨hk.1.1.1.1.1.1.1.1.1.1.1.2.2.2.2.2.2.2.2.2, ⟨hk.1.1.1.1.1.1.1.2, ⟨hk.1.1.1.1.1.1.1.1.1.1.1.2.2.2.1, ⟨hk.1.1.1.1.1.1.1.1.1.1.1.2.2.2.2.2.2.2.1, hk.1.1.1.1.1.1.1.1.1.1.1.2.2.2.2.2.2.2.2.1⟩⟩⟩⟩)⟩, ⟨by (with_reducible repeat (first | apply ra | apply rn | apply rd_)); exact rm HO444.out (fun _ hk => ⟨hk.1.1.1.1.1.1.1.1.1.1.1.2.2.2.2.2.2.2.2.2, ⟨hk.1.1.1.1.1.1.1.2, ⟨hk.1.1.1.1.1.1.1.1.1.1.1.2.2.2.1, ⟨hk.1.1.1.1.1.1.1.1.1.1.1.2.2.2.2.2.2.2.1, hk.1.1.1.1.1.1.1.1.1.1.1.2.2.2.2.2.2.2.2.1⟩⟩⟩⟩)⟩, ⟨by (with_reducible repeat (first | apply ra | apply rn | apply rd_)); exact rm HO461.out (fun _ hk => ⟨hk.1.1.1.1.1.1.1.1.1.1.1.2.2.2.2.2.2.2.2.2, ⟨hk.1.1.1.1.1.1.1.2, ⟨hk.1.1.1.1.1.1.1.1.1.1.1.2.2.2.1, ⟨hk.1.1.1.1.1.1.1.1.1.1.1.2.2.2.2.1, hk.1.1.1.1.1.1.1.1.1.1.1.2.2.2.2.2.2.2.2.1⟩⟩⟩⟩)⟩, ⟨by (with_reducible repeat (first | apply ra | apply rn | apply rd_)); exact rm HO464.out (fun _ hk => ⟨hk.1.1.1.1.1.1.1.1.1.1.1.2.2.2.2.2.2.2.2.2, ⟨hk.1.1.1.1.1.1.1.2, ⟨hk.1.1.1.1.1.1.1.1.1.1.1.2.2.2.1, ⟨hk.1.1.1.1.1.1.1.1.1.1.1.2.2.2.2.1, hk.1.1.1.1.1.1.1.1.1.1.1.2.2.2.2.2.2.2.2.1⟩⟩⟩⟩)⟩, ⟨zk BK420⟩, ⟨zk BK421⟩, ⟨zk BK422⟩, ⟨zk BK446⟩, ⟨zk BK469⟩, ⟨zb HB⟩⟩
    case rest =>
     clear HC44
     try clear c1
     try clear c2
     try clear p2
     try clear c9
     try clear c12
     try clear c13
     try clear c17
     try clear c96
     try clear c96b0
     try clear c96b1
     obtain ⟨kq, x83_43, rfl, HA, HJ43, HO_10, HO_12, HO_447000, HO_447001, HO_470000, HO_470001, BK420, BK421, BK422, BK446, BK469, HB⟩ := hcut
     cases kq with
     | zero => exact absurd HA.out (by simp [trefoillaw11_ListSteps.j1])
     | succ kj43 =>
      have H := HA.out
      clear HA
      simp only [trefoillaw11_ListSteps.j1] at H
      by_cases c143 : x83_43 = true
      ·subst c143
       rw [if_pos rfl] at H
       exact (nft (ab H hrt)).elim
      ·replace c143 := Bool.eq_false_iff.mpr c143
       subst c143
       rw [if_neg nft] at H
       by_cases c144 : t485 = 0
       rotate_left
       ·rw [if_neg c144] at H
        have c144b0 : (t485 == 0) = false := beq_eq_false_iff_ne.mpr c144
        have c144b1 : (t485 != 0) = true := bne_iff_ne.mpr c144
        replace H := Option.bind_eq_some_iff.mp H
        obtain ⟨t513, A2490, H⟩ := H
        have A249 := Z0 A2490
        clear A2490
        by_cases c250 : t513 = true
        rotate_left
        ·replace c250 := Bool.eq_false_iff.mpr c250
         subst c250
         rw [if_neg nft] at H
         exact (nft (ab H hrt)).elim
        subst c250
        rw [if_pos rfl] at H
        replace H := Option.bind_eq_some_iff.mp H
        obtain ⟨t514, A2510, H⟩ := H
        have A251 := Z0 A2510
        clear A2510
        by_cases c252 : t514 = true
        rotate_left
        ·replace c252 := Bool.eq_false_iff.mpr c252
         subst c252
         rw [if_neg nft] at H
         exact (nft (ab H hrt)).elim
        subst c252
        rw [if_pos rfl] at H
        by_cases c253 : (t465.length : Int) = 0
        rotate_left
        ·rw [if_neg c253] at H
         have c253b0 : ((t465.length : Int) == 0) = false := beq_eq_false_iff_ne.mpr c253
         have c253b1 : ((t465.length : Int) != 0) = true := bne_iff_ne.mpr c253
         have c253b2 : ¬ (t465 = []) := fun h_ => c253 (by rw [h_]; rfl)
         exact (nft (ab H hrt)).elim
        rw [if_pos c253] at H
        have c253b0 : ((t465.length : Int) == 0) = true := beq_iff_eq.mpr c253
        have c253b1 : ((t465.length : Int) != 0) = false := bne_eq_false_iff_eq.mpr c253
        clear c253
        obtain rfl := Option.some.inj H
        have hnb254 := NB446_420.out
        have hnc254 := NB420_446.out
        have hnb255 := NB446_421.out
        have hnc255 := NB421_446.out
        have hnb256 := NB446_422.out
        have hnc256 := NB422_446.out
        have hnb257 := NB446_469.out
        have hnc257 := NB469_446.out
        have hcz258_0 := kz0 BK446
        have hcz258_1 := kz1 BK446
        have hfz258_0 := blk_frozen BK446.out 0
        have hfz258_1 := blk_frozen BK446.out 1
        go_wp2_with (first | ((with_reducible refine gate_callee (f := 19) rfl ?_); refine goesL_ (some 88) rfl rfl Try.func19 (by kernel_rfl) rfl #[.agg #[.slice Ao55 t439.length co55, .slice Ao57 t442.length co57], .agg #[.slice none 0 0, .slice none 0 0]] rfl (by (try simp only [List.map_toArray, List.map_cons, List.map_nil]); first | done | rfl | (simp only [List.length_drop, List.length_take]; rfl)) ?_; (refine (trefoilref11_Same.calls kj43 _ _ t439 _ _ t442 _ _ ([] : List Int) _ _ ([] : List Int) true _ ?side1 ?side2 ?side3 ?side4 ?side5 ?side6 ?side7 ?side8 A249.out).mono ?_); (case side1 => exact zc (rr HO_447000.out).2.2); (case side2 => exact (rr HO_447000.out).2.1); (case side3 => exact zc (rr HO_447001.out).2.2); (case side4 => exact (rr HO_447001.out).2.1); (case side5 => exact Kd.C_nil _ _); (case side6 => exact Nat.le_refl _); (case side7 => exact Kd.C_nil _ _); (case side8 => exact Nat.le_refl _); rintro e w259 ⟨rfl, hb⟩; refine ⟨_, rfl, ?_⟩; have n0_ := Z0 (rbe (zr HO_10) hb); have n1_ := Z0 (rbe (zr HO_12) hb); have n2_ := Z0 (rbe (zr HO_447000) hb); have n3_ := Z0 (rbe (zr HO_447001) hb); have n4_ := Z0 (rbe (zr HO_470000) hb); have n5_ := Z0 (rbe (zr HO_470001) hb); have n6_ := Z0 (zkb BK420 hb); have n7_ := Z0 (zkb BK421 hb); have n8_ := Z0 (zkb BK422 hb); have n9_ := Z0 (zkb BK446 hb); have n10_ := Z0 (zkb BK469 hb); have n11_ := Z0 (below_step (zb HB) hb); clear HO_10; clear HO_12; clear HO_447000; clear HO_447001; clear HO_470000; clear HO_470001; clear BK420; clear BK421; clear BK422; clear BK446; clear BK469; clear HB; have HO_10 := n0_; have HO_12 := n1_; have HO_447000 := n2_; have HO_447001 := n3_; have HO_470000 := n4_; have HO_470001 := n5_; have BK420 := n6_; have BK421 := n7_; have BK422 := n8_; have BK446 := n9_; have BK469 := n10_; have HB := n11_; clear n0_ n1_ n2_ n3_ n4_ n5_ n6_ n7_ n8_ n9_ n10_ n11_; (try clear hb); (try clear hb2); (try clear hk); (try clear hi); have hnb260 := NB469_420.out; have hnc260 := NB420_469.out; have hnb261 := NB469_421.out; have hnc261 := NB421_469.out; have hnb262 := NB469_422.out; have hnc262 := NB422_469.out; have hcz263_0 := kz0 BK469; have hcz263_1 := kz1 BK469; have hfz263_0 := blk_frozen BK469.out 0; have hfz263_1 := blk_frozen BK469.out 1) | (go_at_call 19; (refine (trefoilref11_Same.calls kj43 _ _ t459 _ _ t462 _ _ ([] : List Int) _ _ ([] : List Int) true _ ?side1 ?side2 ?side3 ?side4 ?side5 ?side6 ?side7 ?side8 A251.out).mono ?_); (case side1 => exact zc (rr HO_470000.out).2.2); (case side2 => exact (rr HO_470000.out).2.1); (case side3 => exact zc (rr HO_470001.out).2.2); (case side4 => exact (rr HO_470001.out).2.1); (case side5 => exact Kd.C_nil _ _); (case side6 => exact Nat.le_refl _); (case side7 => exact Kd.C_nil _ _); (case side8 => exact Nat.le_refl _); rintro e w264 ⟨rfl, hb⟩; have n0_ := Z0 (rbe (zr HO_10) hb); have n1_ := Z0 (rbe (zr HO_12) hb); have n2_ := Z0 (rbe (zr HO_447000) hb); have n3_ := Z0 (rbe (zr HO_447001) hb); have n4_ := Z0 (rbe (zr HO_470000) hb); have n5_ := Z0 (rbe (zr HO_470001) hb); have n6_ := Z0 (zkb BK420 hb); have n7_ := Z0 (zkb BK421 hb); have n8_ := Z0 (zkb BK422 hb); have n9_ := Z0 (zkb BK446 hb); have n10_ := Z0 (zkb BK469 hb); have n11_ := Z0 (below_step (zb HB) hb); clear HO_10; clear HO_12; clear HO_447000; clear HO_447001; clear HO_470000; clear HO_470001; clear BK420; clear BK421; clear BK422; clear BK446; clear BK469; clear HB; have HO_10 := n0_; have HO_12 := n1_; have HO_447000 := n2_; have HO_447001 := n3_; have HO_470000 := n4_; have HO_470001 := n5_; have BK420 := n6_; have BK421 := n7_; have BK422 := n8_; have BK446 := n9_; have BK469 := n10_; have HB := n11_; clear n0_ n1_ n2_ n3_ n4_ n5_ n6_ n7_ n8_ n9_ n10_ n11_; (try clear hb); (try clear hb2); (try clear hk); (try clear hi); obtain ⟨Ao265, co265, eo265⟩ := Kd.R_slice HO_10.out; subst eo265; obtain ⟨Ao266, co266, eo266⟩ := Kd.R_slice HO_12.out; subst eo266))
        go_ret
        exact ⟨ze, zb HB⟩
       rw [if_pos c144] at H
       have c144b0 : (t485 == 0) = true := beq_iff_eq.mpr c144
       have c144b1 : (t485 != 0) = false := bne_eq_false_iff_eq.mpr c144
       clear c144
       replace H := Option.bind_eq_some_iff.mp H
       obtain ⟨⟨t515, t518, t521⟩, A1450, H⟩ := H
       dsimp only at H
       have A145 := Z0 A1450
       clear A1450
       replace H := Option.bind_eq_some_iff.mp H
       obtain ⟨⟨t525, t528⟩, A1460, H⟩ := H
       dsimp only at H
       have A146 := Z0 A1460
       clear A1460
       replace H := Option.bind_eq_some_iff.mp H
       obtain ⟨t531, A1470, H⟩ := H
       have A147 := Z0 A1470
       clear A1470
       by_cases c148 : t531 = true
       rotate_left
       ·replace c148 := Bool.eq_false_iff.mpr c148
        subst c148
        rw [if_neg nft] at H
        exact (nft (ab H hrt)).elim
       subst c148
       rw [if_pos rfl] at H
       replace H := Option.bind_eq_some_iff.mp H
       obtain ⟨t532, A1490, H⟩ := H
       have A149 := Z0 A1490
       clear A1490
       by_cases c150 : t532 = true
       rotate_left
       ·replace c150 := Bool.eq_false_iff.mpr c150
        subst c150
        rw [if_neg nft] at H
        exact (nft (ab H hrt)).elim
       subst c150
       rw [if_pos rfl] at H
       replace H := Option.bind_eq_some_iff.mp H
       obtain ⟨t533, A1510, H⟩ := H
       have A151 := Z0 A1510
       clear A1510
       by_cases c152 : t533 = true
       rotate_left
       ·replace c152 := Bool.eq_false_iff.mpr c152
        subst c152
        rw [if_neg nft] at H
        exact (nft (ab H hrt)).elim
       subst c152
       rw [if_pos rfl] at H
       replace H := Option.bind_eq_some_iff.mp H
       obtain ⟨t534, A1530, H⟩ := H
       have A153 := Z0 A1530
       clear A1530
       replace H := Option.bind_eq_some_iff.mp H
       obtain ⟨t537, A1540, H⟩ := H
       have A154 := Z0 A1540
       clear A1540
       obtain rfl := Option.some.inj H
       have hnb155 := NB421_420.out
       have hnc155 := NB420_421.out
       have hnb156 := NB421_422.out
       have hnc156 := NB422_421.out
       have hnb157 := NB421_446.out
       have hnc157 := NB446_421.out
       have hnb158 := NB421_469.out
       have hnc158 := NB469_421.out
       have hcz159_0 := kz0 BK421
       have hcz159_1 := kz1 BK421
       have hfz159_0 := blk_frozen BK421.out 0
       have hfz159_1 := blk_frozen BK421.out 1
       try go_wp2_with (first | ((with_reducible refine gate_callee (f := 20) rfl ?_); refine goesL_ (some 106) rfl rfl Try.func20 (by kernel_rfl) rfl #[.agg #[.slice A1_0 l1_0.length c1_0, .slice A1_1 l1_1.length c1_1]] rfl (by (try simp only [List.map_toArray, List.map_cons, List.map_nil]); first | done | rfl | (simp only [List.length_drop, List.length_take]; rfl)) ?_; (with_reducible refine (trefoilref11_Tick.calls kj43 _ _ l1_0 _ _ l1_1 t515 t518 t521 _ ?side1 ?side2 ?side3 ?side4 A145.out).mono ?_); (case side1 => exact zc (Kd.C_below HR1_0.out HB.out)); (case side2 => exact HC1_0.out); (case side3 => exact zc (Kd.C_below HR1_1.out HB.out)); (case side4 => exact HC1_1.out); rintro e w160 ⟨v516, v519, v522, rfl, ho0, ho1, ho2, hb⟩; refine ⟨_, rfl, ?_⟩; have n0_ := Z0 (rm (rt (rt (rt (ro (zr HO_10) hb) (rb ho0)) (rb ho1)) (rb ho2)) (fun _ h_ => h_.1)); have n1_ := Z0 (rm (rt (rt (rt (ro (zr HO_12) hb) (rb ho0)) (rb ho1)) (rb ho2)) (fun _ h_ => h_.1)); have n2_ := Z0 (rm (rt (rt (rt (ro (zr HO_447000) hb) (rb ho0)) (rb ho1)) (rb ho2)) (fun _ h_ => h_.1)); have n3_ := Z0 (rm (rt (rt (rt (ro (zr HO_447001) hb) (rb ho0)) (rb ho1)) (rb ho2)) (fun _ h_ => h_.1)); have n4_ := Z0 (rm (rt (rt (rt (ro (zr HO_470000) hb) (rb ho0)) (rb ho1)) (rb ho2)) (fun _ h_ => h_.1)); have n5_ := Z0 (rm (rt (rt (rt (ro (zr HO_470001) hb) (rb ho0)) (rb ho1)) (rb ho2)) (fun _ h_ => h_.1)); have n6_ := Z0 (rl (rw_ (rw_ (rw_ (rw_ (rw_ (rw_ ho0 (rlt (zr HO_10))) (rlt (zr HO_12))) (rlt (zr HO_447000))) (rlt (zr HO_447001))) (rlt (zr HO_470000))) (rlt (zr HO_470001))) (below_size (zb HB))); have n7_ := Z0 (rl (rw_ (rw_ (rw_ (rw_ (rw_ (rw_ ho1 (rlt (zr HO_10))) (rlt (zr HO_12))) (rlt (zr HO_447000))) (rlt (zr HO_447001))) (rlt (zr HO_470000))) (rlt (zr HO_470001))) (below_size (zb HB))); have n8_ := Z0 (rl (rw_ (rw_ (rw_ (rw_ (rw_ (rw_ ho2 (rlt (zr HO_10))) (rlt (zr HO_12))) (rlt (zr HO_447000))) (rlt (zr HO_447001))) (rlt (zr HO_470000))) (rlt (zr HO_470001))) (below_size (zb HB))); have n9_ := Z0 (zkb BK420 hb); have n10_ := Z0 (zkb BK421 hb); have n11_ := Z0 (zkb BK422 hb); have n12_ := Z0 (zkb BK446 hb); have n13_ := Z0 (zkb BK469 hb); have n14_ := Z0 (below_step (zb HB) hb); clear HO_10; clear HO_12; clear HO_447000; clear HO_447001; clear HO_470000; clear HO_470001; clear BK420; clear BK421; clear BK422; clear BK446; clear BK469; clear HB; have HO_10 := n0_; have HO_12 := n1_; have HO_447000 := n2_; have HO_447001 := n3_; have HO_470000 := n4_; have HO_470001 := n5_; have HO517 := n6_; have HO520 := n7_; have HO523 := n8_; have BK420 := n9_; have BK421 := n10_; have BK422 := n11_; have BK446 := n12_; have BK469 := n13_; have HB := n14_; clear n0_ n1_ n2_ n3_ n4_ n5_ n6_ n7_ n8_ n9_ n10_ n11_ n12_ n13_ n14_; (try clear hb); (try clear hb2); (try clear hk); (try clear hi); (try clear ho0); (try clear ho1); (try clear ho2)) | ((with_reducible refine gate_dst (N := 14) rfl ?_); (try (refine gate_guard (by rfl) ?_; dsimp only)); refine zx (N := 14) #[.slice none 0 0, .slice none 0 0] 27 ?_; intro gb524 hg w161 hbox hb; have n0_ := Z0 (rbe (zr HO_10) hb); have n1_ := Z0 (rbe (zr HO_12) hb); have n2_ := Z0 (rbe (zr HO_447000) hb); have n3_ := Z0 (rbe (zr HO_447001) hb); have n4_ := Z0 (rbe (zr HO_470000) hb); have n5_ := Z0 (rbe (zr HO_470001) hb); have n6_ := Z0 (rbe (zr HO517) hb); have n7_ := Z0 (rbe (zr HO520) hb); have n8_ := Z0 (rbe (zr HO523) hb); have n9_ := Z0 (zkb BK420 hb); have n10_ := Z0 (zkb BK421 hb); have n11_ := Z0 (zkb BK422 hb); have n12_ := Z0 (zkb BK446 hb); have n13_ := Z0 (zkb BK469 hb); have n14_ := Z0 (below_step (zb HB) hb); have n15_ := Z0 (hbox); have n16_ := Z0 (zh w hg HB); have n17_ := Z0 (zh w hg HB); have n18_ := Z0 (zl hg BK420); have n19_ := Z0 (zu hg BK420); have n20_ := Z0 (zl hg BK421); have n21_ := Z0 (zu hg BK421); have n22_ := Z0 (zl hg BK422); have n23_ := Z0 (zu hg BK422); have n24_ := Z0 (zl hg BK446); have n25_ := Z0 (zu hg BK446); have n26_ := Z0 (zl hg BK469); have n27_ := Z0 (zu hg BK469); clear HO_10; clear HO_12; clear HO_447000; clear HO_447001; clear HO_470000; clear HO_470001; clear HO517; clear HO520; clear HO523; clear BK420; clear BK421; clear BK422; clear BK446; clear BK469; clear HB; have HO_10 := n0_; have HO_12 := n1_; have HO_447000 := n2_; have HO_447001 := n3_; have HO_470000 := n4_; have HO_470001 := n5_; have HO517 := n6_; have HO520 := n7_; have HO523 := n8_; have BK420 := n9_; have BK421 := n10_; have BK422 := n11_; have BK446 := n12_; have BK469 := n13_; have HB := n14_; have BK524 := n15_; have GW524 := n16_; have GE524 := n17_; have NB420_524 := n18_; have NB524_420 := n19_; have NB421_524 := n20_; have NB524_421 := n21_; have NB422_524 := n22_; have NB524_422 := n23_; have NB446_524 := n24_; have NB524_446 := n25_; have NB469_524 := n26_; have NB524_469 := n27_; clear n0_ n1_ n2_ n3_ n4_ n5_ n6_ n7_ n8_ n9_ n10_ n11_ n12_ n13_ n14_ n15_ n16_ n17_ n18_ n19_ n20_ n21_ n22_ n23_ n24_ n25_ n26_ n27_; clear hb hbox hg; obtain ⟨Ao162, co162, eo162⟩ := Kd.R_slice HO517.out; subst eo162; have hnb163 := NB524_420.out; have hnc163 := NB420_524.out; have hnb164 := NB524_421.out; have hnc164 := NB421_524.out; have hnb165 := NB524_422.out; have hnc165 := NB422_524.out; have hnb166 := NB524_446.out; have hnc166 := NB446_524.out; have hnb167 := NB524_469.out; have hnc167 := NB469_524.out; have hcz168_0 := kz0 BK524; have hcz168_1 := kz1 BK524; have hfz168_0 := blk_frozen BK524.out 0; have hfz168_1 := blk_frozen BK524.out 1; obtain ⟨Ao169, co169, eo169⟩ := Kd.R_slice HO520.out; subst eo169))
       have n0_ : Aside0 (Kd.R (Kd.int .i64) 3 ((w161.setCell ⟨gb524, 0, none⟩ (.slice Ao162 t515.length co162)).setCell ⟨gb524, 1, none⟩ (.slice Ao169 t518.length co169)) w.heap.size (fun k_ => some k_ ≠ (v483 : Value).ownBlock ∧ some k_ ≠ (.slice Ao55 t439.length co55 : Value).ownBlock ∧ some k_ ≠ (.slice Ao57 t442.length co57 : Value).ownBlock ∧ some k_ ≠ (.slice Ao70 t459.length co70 : Value).ownBlock ∧ some k_ ≠ (.slice Ao72 t462.length co72 : Value).ownBlock ∧ some k_ ≠ (.slice Ao162 t515.length co162 : Value).ownBlock ∧ some k_ ≠ (.slice Ao169 t518.length co169 : Value).ownBlock ∧ some k_ ≠ (v522 : Value).ownBlock) v466 t465) := ⟨by (with_reducible repeat (first | apply ra | apply rn | apply rd_)); exact rm (Kd.R_far (p := ⟨gb524, 1, none⟩) (Kd.R_far (p := ⟨gb524, 0, none⟩) (Kd.R_types HO_10.out BK524.out (by decide)) (fun _ hk => hk.2) (.slice Ao162 t515.length co162)) (fun _ hk => hk.2) (.slice Ao169 t518.length co169)) (fun _ hk => ⟨hk.1.1.1.1.1, ⟨hk.1.1.1.1.2.1, ⟨hk.1.1.1.1.2.2.1, ⟨hk.1.1.1.1.2.2.2.1, ⟨hk.1.1.1.1.2.2.2.2, ⟨hk.1.1.1.2, ⟨hk.1.1.2, hk.1.2⟩⟩⟩⟩⟩⟩⟩)⟩
       have n1_ : Aside0 (Kd.R (Kd.int .i64) 3 ((w161.setCell ⟨gb524, 0, none⟩ (.slice Ao162 t515.length co162)).setCell ⟨gb524, 1, none⟩ (.slice Ao169 t518.length co169)) w.heap.size (fun k_ => some k_ ≠ (v466 : Value).ownBlock ∧ some k_ ≠ (.slice Ao55 t439.length co55 : Value).ownBlock ∧ some k_ ≠ (.slice Ao57 t442.length co57 : Value).ownBlock ∧ some k_ ≠ (.slice Ao70 t459.length co70 : Value).ownBlock ∧ some k_ ≠ (.slice Ao72 t462.length co72 : Value).ownBlock ∧ some k_ ≠ (.slice Ao162 t515.length co162 : Value).ownBlock ∧ some k_ ≠ (.slice Ao169 t518.length co169 : Value).ownBlock ∧ some k_ ≠ (v522 : Value).ownBlock) v483 t482) := ⟨by (with_reducible repeat (first | apply ra | apply rn | apply rd_)); exact rm (Kd.R_far (p := ⟨gb524, 1, none⟩) (Kd.R_far (p := ⟨gb524, 0, none⟩) (Kd.R_types HO_12.out BK524.out (by decide)) (fun _ hk => hk.2) (.slice Ao162 t515.length co162)) (fun _ hk => hk.2) (.slice Ao169 t518.length co169)) (fun _ hk => ⟨hk.1.1.1.1.1, ⟨hk.1.1.1.1.2.1, ⟨hk.1.1.1.1.2.2.1, ⟨hk.1.1.1.1.2.2.2.1, ⟨hk.1.1.1.1.2.2.2.2, ⟨hk.1.1.1.2, ⟨hk.1.1.2, hk.1.2⟩⟩⟩⟩⟩⟩⟩)⟩
       have n2_ : Aside0 (Kd.R (Kd.int .i64) 3 ((w161.setCell ⟨gb524, 0, none⟩ (.slice Ao162 t515.length co162)).setCell ⟨gb524, 1, none⟩ (.slice Ao169 t518.length co169)) w.heap.size (fun k_ => some k_ ≠ (v466 : Value).ownBlock ∧ some k_ ≠ (v483 : Value).ownBlock ∧ some k_ ≠ (.slice Ao57 t442.length co57 : Value).ownBlock ∧ some k_ ≠ (.slice Ao70 t459.length co70 : Value).ownBlock ∧ some k_ ≠ (.slice Ao72 t462.length co72 : Value).ownBlock ∧ some k_ ≠ (.slice Ao162 t515.length co162 : Value).ownBlock ∧ some k_ ≠ (.slice Ao169 t518.length co169 : Value).ownBlock ∧ some k_ ≠ (v522 : Value).ownBlock) (.slice Ao55 t439.length co55) t439) := ⟨by (with_reducible repeat (first | apply ra | apply rn | apply rd_)); exact rm (Kd.R_far (p := ⟨gb524, 1, none⟩) (Kd.R_far (p := ⟨gb524, 0, none⟩) (Kd.R_types HO_447000.out BK524.out (by decide)) (fun _ hk => hk.2) (.slice Ao162 t515.length co162)) (fun _ hk => hk.2) (.slice Ao169 t518.length co169)) (fun _ hk => ⟨hk.1.1.1.1.1, ⟨hk.1.1.1.1.2.1, ⟨hk.1.1.1.1.2.2.1, ⟨hk.1.1.1.1.2.2.2.1, ⟨hk.1.1.1.1.2.2.2.2, ⟨hk.1.1.1.2, ⟨hk.1.1.2, hk.1.2⟩⟩⟩⟩⟩⟩⟩)⟩
       have n3_ : Aside0 (Kd.R (Kd.int .i64) 3 ((w161.setCell ⟨gb524, 0, none⟩ (.slice Ao162 t515.length co162)).setCell ⟨gb524, 1, none⟩ (.slice Ao169 t518.length co169)) w.heap.size (fun k_ => some k_ ≠ (v466 : Value).ownBlock ∧ some k_ ≠ (v483 : Value).ownBlock ∧ some k_ ≠ (.slice Ao55 t439.length co55 : Value).ownBlock ∧ some k_ ≠ (.slice Ao70 t459.length co70 : Value).ownBlock ∧ some k_ ≠ (.slice Ao72 t462.length co72 : Value).ownBlock ∧ some k_ ≠ (.slice Ao162 t515.length co162 : Value).ownBlock ∧ some k_ ≠ (.slice Ao169 t518.length co169 : Value).ownBlock ∧ some k_ ≠ (v522 : Value).ownBlock) (.slice Ao57 t442.length co57) t442) := ⟨by (with_reducible repeat (first | apply ra | apply rn | apply rd_)); exact rm (Kd.R_far (p := ⟨gb524, 1, none⟩) (Kd.R_far (p := ⟨gb524, 0, none⟩) (Kd.R_types HO_447001.out BK524.out (by decide)) (fun _ hk => hk.2) (.slice Ao162 t515.length co162)) (fun _ hk => hk.2) (.slice Ao169 t518.length co169)) (fun _ hk => ⟨hk.1.1.1.1.1, ⟨hk.1.1.1.1.2.1, ⟨hk.1.1.1.1.2.2.1, ⟨hk.1.1.1.1.2.2.2.1, ⟨hk.1.1.1.1.2.2.2.2, ⟨hk.1.1.1.2, ⟨hk.1.1.2, hk.1.2⟩⟩⟩⟩⟩⟩⟩)⟩
       have n4_ : Aside0 (Kd.R (Kd.int .i64) 3 ((w161.setCell ⟨gb524, 0, none⟩ (.slice Ao162 t515.length co162)).setCell ⟨gb524, 1, none⟩ (.slice Ao169 t518.length co169)) w.heap.size (fun k_ => some k_ ≠ (v466 : Value).ownBlock ∧ some k_ ≠ (v483 : Value).ownBlock ∧ some k_ ≠ (.slice Ao55 t439.length co55 : Value).ownBlock ∧ some k_ ≠ (.slice Ao57 t442.length co57 : Value).ownBlock ∧ some k_ ≠ (.slice Ao72 t462.length co72 : Value).ownBlock ∧ some k_ ≠ (.slice Ao162 t515.length co162 : Value).ownBlock ∧ some k_ ≠ (.slice Ao169 t518.length co169 : Value).ownBlock ∧ some k_ ≠ (v522 : Value).ownBlock) (.slice Ao70 t459.length co70) t459) := ⟨by (with_reducible repeat (first | apply ra | apply rn | apply rd_)); exact rm (Kd.R_far (p := ⟨gb524, 1, none⟩) (Kd.R_far (p := ⟨gb524, 0, none⟩) (Kd.R_types HO_470000.out BK524.out (by decide)) (fun _ hk => hk.2) (.slice Ao162 t515.length co162)) (fun _ hk => hk.2) (.slice Ao169 t518.length co169)) (fun _ hk => ⟨hk.1.1.1.1.1, ⟨hk.1.1.1.1.2.1, ⟨hk.1.1.1.1.2.2.1, ⟨hk.1.1.1.1.2.2.2.1, ⟨hk.1.1.1.1.2.2.2.2, ⟨hk.1.1.1.2, ⟨hk.1.1.2, hk.1.2⟩⟩⟩⟩⟩⟩⟩)⟩
       have n5_ : Aside0 (Kd.R (Kd.int .i64) 3 ((w161.setCell ⟨gb524, 0, none⟩ (.slice Ao162 t515.length co162)).setCell ⟨gb524, 1, none⟩ (.slice Ao169 t518.length co169)) w.heap.size (fun k_ => some k_ ≠ (v466 : Value).ownBlock ∧ some k_ ≠ (v483 : Value).ownBlock ∧ some k_ ≠ (.slice Ao55 t439.length co55 : Value).ownBlock ∧ some k_ ≠ (.slice Ao57 t442.length co57 : Value).ownBlock ∧ some k_ ≠ (.slice Ao70 t459.length co70 : Value).ownBlock ∧ some k_ ≠ (.slice Ao162 t515.length co162 : Value).ownBlock ∧ some k_ ≠ (.slice Ao169 t518.length co169 : Value).ownBlock ∧ some k_ ≠ (v522 : Value).ownBlock) (.slice Ao72 t462.length co72) t462) := ⟨by (with_reducible repeat (first | apply ra | apply rn | apply rd_)); exact rm (Kd.R_far (p := ⟨gb524, 1, none⟩) (Kd.R_far (p := ⟨gb524, 0, none⟩) (Kd.R_types HO_470001.out BK524.out (by decide)) (fun _ hk => hk.2) (.slice Ao162 t515.length co162)) (fun _ hk => hk.2) (.slice Ao169 t518.length co169)) (fun _ hk => ⟨hk.1.1.1.1.1, ⟨hk.1.1.1.1.2.1, ⟨hk.1.1.1.1.2.2.1, ⟨hk.1.1.1.1.2.2.2.1, ⟨hk.1.1.1.1.2.2.2.2, ⟨hk.1.1.1.2, ⟨hk.1.1.2, hk.1.2⟩⟩⟩⟩⟩⟩⟩)⟩
       have n6_ : Aside0 (Kd.R (Kd.int .i64) 3 ((w161.setCell ⟨gb524, 0, none⟩ (.slice Ao162 t515.length co162)).setCell ⟨gb524, 1, none⟩ (.slice Ao169 t518.length co169)) w.heap.size (fun k_ => some k_ ≠ (v466 : Value).ownBlock ∧ some k_ ≠ (v483 : Value).ownBlock ∧ some k_ ≠ (.slice Ao55 t439.length co55 : Value).ownBlock ∧ some k_ ≠ (.slice Ao57 t442.length co57 : Value).ownBlock ∧ some k_ ≠ (.slice Ao70 t459.length co70 : Value).ownBlock ∧ some k_ ≠ (.slice Ao72 t462.length co72 : Value).ownBlock ∧ some k_ ≠ (.slice Ao169 t518.length co169 : Value).ownBlock ∧ some k_ ≠ (v522 : Value).ownBlock) (.slice Ao162 t515.length co162) t515) := ⟨by (with_reducible repeat (first | apply ra | apply rn | apply rd_)); exact rm (Kd.R_far (p := ⟨gb524, 1, none⟩) (Kd.R_far (p := ⟨gb524, 0, none⟩) (Kd.R_types HO517.out BK524.out (by decide)) (fun _ hk => hk.2) (.slice Ao162 t515.length co162)) (fun _ hk => hk.2) (.slice Ao169 t518.length co169)) (fun _ hk => ⟨hk.1.1.1.1.1.1.2, ⟨hk.1.1.1.1.1.2, ⟨hk.1.1.1.1.2, ⟨hk.1.1.1.2, ⟨hk.1.1.2, ⟨hk.1.2, ⟨hk.1.1.1.1.1.1.1.1, hk.1.1.1.1.1.1.1.2⟩⟩⟩⟩⟩⟩⟩)⟩
       have n7_ : Aside0 (Kd.R (Kd.int .i64) 3 ((w161.setCell ⟨gb524, 0, none⟩ (.slice Ao162 t515.length co162)).setCell ⟨gb524, 1, none⟩ (.slice Ao169 t518.length co169)) w.heap.size (fun k_ => some k_ ≠ (v466 : Value).ownBlock ∧ some k_ ≠ (v483 : Value).ownBlock ∧ some k_ ≠ (.slice Ao55 t439.length co55 : Value).ownBlock ∧ some k_ ≠ (.slice Ao57 t442.length co57 : Value).ownBlock ∧ some k_ ≠ (.slice Ao70 t459.length co70 : Value).ownBlock ∧ some k_ ≠ (.slice Ao72 t462.length co72 : Value).ownBlock ∧ some k_ ≠ (.slice Ao162 t515.length co162 : Value).ownBlock ∧ some k_ ≠ (v522 : Value).ownBlock) (.slice Ao169 t518.length co169) t518) := ⟨by (with_reducible repeat (first | apply ra | apply rn | apply rd_)); exact rm (Kd.R_far (p := ⟨gb524, 1, none⟩) (Kd.R_far (p := ⟨gb524, 0, none⟩) (Kd.R_types HO520.out BK524.out (by decide)) (fun _ hk => hk.2) (.slice Ao162 t515.length co162)) (fun _ hk => hk.2) (.slice Ao169 t518.length co169)) (fun _ hk => ⟨hk.1.1.1.1.1.1.2, ⟨hk.1.1.1.1.1.2, ⟨hk.1.1.1.1.2, ⟨hk.1.1.1.2, ⟨hk.1.1.2, ⟨hk.1.2, ⟨hk.1.1.1.1.1.1.1.1, hk.1.1.1.1.1.1.1.2⟩⟩⟩⟩⟩⟩⟩)⟩
       have n8_ : Aside0 (Kd.R (Kd.int .i64) 3 ((w161.setCell ⟨gb524, 0, none⟩ (.slice Ao162 t515.length co162)).setCell ⟨gb524, 1, none⟩ (.slice Ao169 t518.length co169)) w.heap.size (fun k_ => some k_ ≠ (v466 : Value).ownBlock ∧ some k_ ≠ (v483 : Value).ownBlock ∧ some k_ ≠ (.slice Ao55 t439.length co55 : Value).ownBlock ∧ some k_ ≠ (.slice Ao57 t442.length co57 : Value).ownBlock ∧ some k_ ≠ (.slice Ao70 t459.length co70 : Value).ownBlock ∧ some k_ ≠ (.slice Ao72 t462.length co72 : Value).ownBlock ∧ some k_ ≠ (.slice Ao162 t515.length co162 : Value).ownBlock ∧ some k_ ≠ (.slice Ao169 t518.length co169 : Value).ownBlock) v522 t521) := ⟨by (with_reducible repeat (first | apply ra | apply rn | apply rd_)); exact rm (Kd.R_far (p := ⟨gb524, 1, none⟩) (Kd.R_far (p := ⟨gb524, 0, none⟩) (Kd.R_types HO523.out BK524.out (by decide)) (fun _ hk => hk.2) (.slice Ao162 t515.length co162)) (fun _ hk => hk.2) (.slice Ao169 t518.length co169)) (fun _ hk => ⟨hk.1.1.1.1.1.1.2, ⟨hk.1.1.1.1.1.2, ⟨hk.1.1.1.1.2, ⟨hk.1.1.1.2, ⟨hk.1.1.2, ⟨hk.1.2, ⟨hk.1.1.1.1.1.1.1.1, hk.1.1.1.1.1.1.1.2⟩⟩⟩⟩⟩⟩⟩)⟩
       have n9_ := zfw BK420 NB420_524 (.slice Ao162 t515.length co162) (.slice Ao169 t518.length co169)
       have n10_ := zfw BK421 NB421_524 (.slice Ao162 t515.length co162) (.slice Ao169 t518.length co169)
       have n11_ := zfw BK422 NB422_524 (.slice Ao162 t515.length co162) (.slice Ao169 t518.length co169)
       have n12_ := zfw BK446 NB446_524 (.slice Ao162 t515.length co162) (.slice Ao169 t518.length co169)
       have n13_ := zfw BK469 NB469_524 (.slice Ao162 t515.length co162) (.slice Ao169 t518.length co169)
       have n14_ := zpw BK524 (.slice Ao162 t515.length co162) (.slice Ao169 t518.length co169)
       have n15_ : Aside0 (Below w.heap.size w ((w161.setCell ⟨gb524, 0, none⟩ (.slice Ao162 t515.length co162)).setCell ⟨gb524, 1, none⟩ (.slice Ao169 t518.length co169))) := ⟨zb HB⟩
       (try clear HO_10)
       (try clear HO_12)
       (try clear HO_447000)
       (try clear HO_447001)
       (try clear HO_470000)
       (try clear HO_470001)
       (try clear HO517)
       (try clear HO520)
       (try clear HO523)
       (try clear BK420)
       (try clear BK421)
       (try clear BK422)
       (try clear BK446)
       (try clear BK469)
       (try clear BK524)
       (try clear HB)
       generalize ((w161.setCell ⟨gb524, 0, none⟩ (.slice Ao162 t515.length co162)).setCell ⟨gb524, 1, none⟩ (.slice Ao169 t518.length co169)) = w170 at n0_ n1_ n2_ n3_ n4_ n5_ n6_ n7_ n8_ n9_ n10_ n11_ n12_ n13_ n14_ n15_ ⊢
       have HO_10 := n0_
       have HO_12 := n1_
       have HO_447000 := n2_
       have HO_447001 := n3_
       have HO_470000 := n4_
       have HO_470001 := n5_
       have HO517 := n6_
       have HO520 := n7_
       have HO523 := n8_
       have BK420 := n9_
       have BK421 := n10_
       have BK422 := n11_
       have BK446 := n12_
       have BK469 := n13_
       have BK524 := n14_
       have HB := n15_
       clear n0_ n1_ n2_ n3_ n4_ n5_ n6_ n7_ n8_ n9_ n10_ n11_ n12_ n13_ n14_ n15_
       replace HO_10 := Z0 (rd_ HO_10.out)
       replace HO_12 := Z0 (rd_ HO_12.out)
       replace HO_447000 := Z0 (rd_ HO_447000.out)
       replace HO_447001 := Z0 (rd_ HO_447001.out)
       replace HO_470000 := Z0 (rd_ HO_470000.out)
       replace HO_470001 := Z0 (rd_ HO_470001.out)
       replace HO517 := Z0 (rd_ HO517.out)
       replace HO520 := Z0 (rd_ HO520.out)
       replace HO523 := Z0 (rd_ HO523.out)
       replace BK420 := Z0 (kd_ BK420.out)
       replace BK421 := Z0 (kd_ BK421.out)
       replace BK422 := Z0 (kd_ BK422.out)
       replace BK446 := Z0 (kd_ BK446.out)
       replace BK469 := Z0 (kd_ BK469.out)
       replace BK524 := Z0 (kd_ BK524.out)
       replace HB := Z0 (wd HB.out)
       as_aux_lemma =>
       refine start_ (n := 23) (S := fun w' => w'.cell? ⟨gb446, 0, none⟩ = some (.slice Ao55 t439.length co55) ∧ w'.cell? ⟨gb446, 1, none⟩ = some (.slice Ao57 t442.length co57) ∧ w'.cell? ⟨gb420, 0, none⟩ = some (.slice A0_0 l0_0.length c0_0) ∧ w'.cell? ⟨gb420, 1, none⟩ = some (.slice A0_1 l0_1.length c0_1) ∧ w'.cell? ⟨gb421, 0, none⟩ = some (.slice A1_0 l1_0.length c1_0) ∧ w'.cell? ⟨gb421, 1, none⟩ = some (.slice A1_1 l1_1.length c1_1) ∧ w'.cell? ⟨gb469, 0, none⟩ = some (.slice Ao70 t459.length co70) ∧ w'.cell? ⟨gb469, 1, none⟩ = some (.slice Ao72 t462.length co72) ∧ w'.cell? ⟨gb524, 0, none⟩ = some (.slice Ao162 t515.length co162) ∧ w'.cell? ⟨gb524, 1, none⟩ = some (.slice Ao169 t518.length co169)) (ds := []) (bz 23 0) (by kernel_rfl) rfl rfl ⟨kz0 BK446, kz1 BK446, kz0 BK420, kz1 BK420, kz0 BK421, kz1 BK421, kz0 BK469, kz1 BK469, kz0 BK524, kz1 BK524⟩ (fun hHeld => ?_); refine with_tabW trefoillaw11_ListSteps.tab12 trefoillaw11_ListSteps.bits12 (fun HT_ HW_ => ?_)
       generalize w170.drew = w171 at HO_10 HO_12 HO_447000 HO_447001 HO_470000 HO_470001 HO517 HO520 HO523 BK420 BK421 BK422 BK446 BK469 BK524 HB hHeld ⊢
       refine tk10 0 (some 109) (bz 23 1) HT_ HW_ hHeld ?_
       refine tk10 1 (some 110) (bz 23 3) HT_ HW_ hHeld ?_
       refine tk10 2 (some 111) (bz 23 7) HT_ HW_ hHeld ?_
       refine one_ (i := 3) (N := some 112) (bz 23 15) rfl rfl (one_of HT_.out (by kernel_rfl)) (by decide) (fun K hK => ?_)
       refine zg Try.func21 #[.agg #[.slice A0_0 l0_0.length c0_0, .slice A0_1 l0_1.length c0_1], .agg #[.slice A1_0 l1_0.length c1_0, .slice A1_1 l1_1.length c1_1]] ?_
       with_reducible refine (trefoilref11_Fill.calls kj43 _ _ l0_0 _ _ l0_1 _ _ l1_0 _ _ l1_1 t525 t528 _ ?side1 ?side2 ?side3 ?side4 ?side5 ?side6 ?side7 ?side8 A146.out).mono ?_
       (case side1 => exact zc (Kd.C_below HR0_0.out HB.out))
       (case side2 => exact HC0_0.out)
       (case side3 => exact zc (Kd.C_below HR0_1.out HB.out))
       (case side4 => exact HC0_1.out)
       (case side5 => exact zc (Kd.C_below HR1_0.out HB.out))
       (case side6 => exact HC1_0.out)
       (case side7 => exact zc (Kd.C_below HR1_1.out HB.out))
       (case side8 => exact HC1_1.out)
       rintro e w172 ⟨v526, v529, rfl, ho0, ho1, hb⟩
       refine ⟨_, rfl, ?_⟩
       have n0_ := Z0 (rm (rt (rt (ro (zr HO_10) hb) (rb ho0)) (rb ho1)) (fun _ h_ => h_.1))
       have n1_ := Z0 (rm (rt (rt (ro (zr HO_12) hb) (rb ho0)) (rb ho1)) (fun _ h_ => h_.1))
       have n2_ := Z0 (rm (rt (rt (ro (zr HO_447000) hb) (rb ho0)) (rb ho1)) (fun _ h_ => h_.1))
       have n3_ := Z0 (rm (rt (rt (ro (zr HO_447001) hb) (rb ho0)) (rb ho1)) (fun _ h_ => h_.1))
       have n4_ := Z0 (rm (rt (rt (ro (zr HO_470000) hb) (rb ho0)) (rb ho1)) (fun _ h_ => h_.1))
       have n5_ := Z0 (rm (rt (rt (ro (zr HO_470001) hb) (rb ho0)) (rb ho1)) (fun _ h_ => h_.1))
       have n6_ := Z0 (rmt HO517 hb ho0 ho1)
       have n7_ := Z0 (rmt HO520 hb ho0 ho1)
       have n8_ := Z0 (rmt HO523 hb ho0 ho1)
       have n9_ := Z0 (rl (rw_ (rw_ (rw_ (rw_ (rw_ (rw_ (rw_ (rw_ (rw_ ho0 (rlt (zr HO_10))) (rlt (zr HO_12))) (rlt (zr HO_447000))) (rlt (zr HO_447001))) (rlt (zr HO_470000))) (rlt (zr HO_470001))) (rlt (zr HO517))) (rlt (zr HO520))) (rlt (zr HO523))) (below_size (zb HB)))
       have n10_ := Z0 (rl (rw_ (rw_ (rw_ (rw_ (rw_ (rw_ (rw_ (rw_ (rw_ ho1 (rlt (zr HO_10))) (rlt (zr HO_12))) (rlt (zr HO_447000))) (rlt (zr HO_447001))) (rlt (zr HO_470000))) (rlt (zr HO_470001))) (rlt (zr HO517))) (rlt (zr HO520))) (rlt (zr HO523))) (below_size (zb HB)))
       have n11_ := Z0 (zkb BK420 hb)
       have n12_ := Z0 (zkb BK421 hb)
       have n13_ := Z0 (zkb BK422 hb)
       have n14_ := Z0 (zkb BK446 hb)
       have n15_ := Z0 (zkb BK469 hb)
       have n16_ := Z0 (zkb BK524 hb)
       have n17_ := Z0 (below_step (zb HB) hb)
       clear HO_10
       clear HO_12
       clear HO_447000
       clear HO_447001
       clear HO_470000
       clear HO_470001
       clear HO517
       clear HO520
       clear HO523
       clear BK420
       clear BK421
       clear BK422
       clear BK446
       clear BK469
       clear BK524
       clear HB
       have HO_10 := n0_
       have HO_12 := n1_
       have HO_447000 := n2_
       have HO_447001 := n3_
       have HO_470000 := n4_
       have HO_470001 := n5_
       have HO517 := n6_
       have HO520 := n7_
       have HO523 := n8_
       have HO527 := n9_
       have HO530 := n10_
       have BK420 := n11_
       have BK421 := n12_
       have BK422 := n13_
       have BK446 := n14_
       have BK469 := n15_
       have BK524 := n16_
       have HB := n17_
       clear n0_ n1_ n2_ n3_ n4_ n5_ n6_ n7_ n8_ n9_ n10_ n11_ n12_ n13_ n14_ n15_ n16_ n17_
       (try clear hb)
       (try clear hb2)
       (try clear hk)
       (try clear hi)
       (try clear ho0)
       (try clear ho1)
       obtain ⟨Ao173, co173, eo173⟩ := Kd.R_slice HO527.out
       subst eo173
       obtain ⟨Ao174, co174, eo174⟩ := Kd.R_slice HO530.out
       subst eo174
       refine hK.out _ _ ⟨kz0 BK446, kz1 BK446, kz0 BK420, kz1 BK420, kz0 BK421, kz1 BK421, kz0 BK469, kz1 BK469, kz0 BK524, kz1 BK524⟩ (fun hHeld => ?_)
       clear hK K
       refine norm_ (a' := ?_) ?_ ?_
       rotate_left
       ·show Act.put _ (some 112) _ = _
        simp only [Act.put, y0, y1, y2, i64_w, i32_w]
        rfl
       refine one_ (i := 4) (N := some 113) (bz 23 31) rfl rfl (one_of HT_.out (by kernel_rfl)) (by decide) (fun K hK => ?_)
       refine zg Try.func19 #[.agg #[.slice Ao55 t439.length co55, .slice Ao57 t442.length co57], .agg #[.slice Ao173 t525.length co173, .slice Ao174 t528.length co174]] ?_
       with_reducible refine (trefoilref11_Same.calls kj43 _ _ t439 _ _ t442 _ _ t525 _ _ t528 true _ ?side1 ?side2 ?side3 ?side4 ?side5 ?side6 ?side7 ?side8 A147.out).mono ?_
       (case side1 => exact zc (rr HO_447000.out).2.2)
       (case side2 => exact (rr HO_447000.out).2.1)
       (case side3 => exact zc (rr HO_447001.out).2.2)
       (case side4 => exact (rr HO_447001.out).2.1)
       (case side5 => exact zc (rr HO527.out).2.2)
       (case side6 => exact (rr HO527.out).2.1)
       (case side7 => exact zc (rr HO530.out).2.2)
       (case side8 => exact (rr HO530.out).2.1)
       rintro e w175 ⟨rfl, hb⟩
       refine ⟨_, rfl, ?_⟩
       replace HO_10 := Z0 (rbe (zr HO_10) hb)
       replace HO_12 := Z0 (rbe (zr HO_12) hb)
       replace HO_447000 := Z0 (rbe (zr HO_447000) hb)
       replace HO_447001 := Z0 (rbe (zr HO_447001) hb)
       replace HO_470000 := Z0 (rbe (zr HO_470000) hb)
       replace HO_470001 := Z0 (rbe (zr HO_470001) hb)
       replace HO517 := Z0 (rbe (zr HO517) hb)
       replace HO520 := Z0 (rbe (zr HO520) hb)
       replace HO523 := Z0 (rbe (zr HO523) hb)
       replace HO527 := Z0 (rbe (zr HO527) hb)
       replace HO530 := Z0 (rbe (zr HO530) hb)
       replace BK420 := Z0 (zkb BK420 hb)
       replace BK421 := Z0 (zkb BK421 hb)
       replace BK422 := Z0 (zkb BK422 hb)
       replace BK446 := Z0 (zkb BK446 hb)
       replace BK469 := Z0 (zkb BK469 hb)
       replace BK524 := Z0 (zkb BK524 hb)
       replace HB := Z0 (below_step (zb HB) hb)
       (try clear hb)
       (try clear hb2)
       (try clear hk)
       (try clear hi)
       refine hK.out _ _ ⟨kz0 BK446, kz1 BK446, kz0 BK420, kz1 BK420, kz0 BK421, kz1 BK421, kz0 BK469, kz1 BK469, kz0 BK524, kz1 BK524⟩ (fun hHeld => ?_)
       clear hK K
       refine norm_ (a' := ?_) ?_ ?_
       rotate_left
       ·show Act.put _ (some 113) _ = _
        simp only [Act.put, y0, y1, y2, i64_w, i32_w]
        rfl
       refine pu 5 (some 114) (bz 23 63) HT_ ?_
       refine tk10 6 (some 115) (bz 23 127) HT_ HW_ hHeld ?_
       refine tk10 7 (some 116) (bz 23 255) HT_ HW_ hHeld ?_
       refine one_ (i := 8) (N := some 117) (bz 23 511) rfl rfl (one_of HT_.out (by kernel_rfl)) (by decide) (fun K hK => ?_)
       refine zg Try.func19 #[.agg #[.slice Ao70 t459.length co70, .slice Ao72 t462.length co72], .agg #[.slice Ao162 t515.length co162, .slice Ao169 t518.length co169]] ?_
       with_reducible refine (trefoilref11_Same.calls kj43 _ _ t459 _ _ t462 _ _ t515 _ _ t518 true _ ?side1 ?side2 ?side3 ?side4 ?side5 ?side6 ?side7 ?side8 A149.out).mono ?_
       (case side1 => exact zc (rr HO_470000.out).2.2)
       (case side2 => exact (rr HO_470000.out).2.1)
       (case side3 => exact zc (rr HO_470001.out).2.2)
       (case side4 => exact (rr HO_470001.out).2.1)
       (case side5 => exact zc (rr HO517.out).2.2)
       (case side6 => exact (rr HO517.out).2.1)
       (case side7 => exact zc (rr HO520.out).2.2)
       (case side8 => exact (rr HO520.out).2.1)
       rintro e w176 ⟨rfl, hb⟩
       refine ⟨_, rfl, ?_⟩
       replace HO_10 := Z0 (rbe (zr HO_10) hb)
       replace HO_12 := Z0 (rbe (zr HO_12) hb)
       replace HO_447000 := Z0 (rbe (zr HO_447000) hb)
       replace HO_447001 := Z0 (rbe (zr HO_447001) hb)
       replace HO_470000 := Z0 (rbe (zr HO_470000) hb)
       replace HO_470001 := Z0 (rbe (zr HO_470001) hb)
       replace HO517 := Z0 (rbe (zr HO517) hb)
       replace HO520 := Z0 (rbe (zr HO520) hb)
       replace HO523 := Z0 (rbe (zr HO523) hb)
       replace HO527 := Z0 (rbe (zr HO527) hb)
       replace HO530 := Z0 (rbe (zr HO530) hb)
       replace BK420 := Z0 (zkb BK420 hb)
       replace BK421 := Z0 (zkb BK421 hb)
       replace BK422 := Z0 (zkb BK422 hb)
       replace BK446 := Z0 (zkb BK446 hb)
       replace BK469 := Z0 (zkb BK469 hb)
       replace BK524 := Z0 (zkb BK524 hb)
       replace HB := Z0 (below_step (zb HB) hb)
       (try clear hb)
       (try clear hb2)
       (try clear hk)
       (try clear hi)
       obtain ⟨Ao177, co177, eo177⟩ := Kd.R_slice HO_10.out
       (first | subst eo177 | (injection eo177 with f1_ f2_ f3_; have f4_ := f1_.symm; have f5_ := f3_.symm; clear f1_ f2_ f3_; subst f4_; subst f5_))
       obtain ⟨Ao178, co178, eo178⟩ := Kd.R_slice HO523.out
       subst eo178
       refine hK.out _ _ ⟨kz0 BK446, kz1 BK446, kz0 BK420, kz1 BK420, kz0 BK421, kz1 BK421, kz0 BK469, kz1 BK469, kz0 BK524, kz1 BK524⟩ (fun hHeld => ?_)
       clear hK K
       refine norm_ (a' := ?_) ?_ ?_
       rotate_left
       ·show Act.put _ (some 117) _ = _
        simp only [Act.put, y0, y1, y2, i64_w, i32_w]
        rfl
       refine pu 9 (some 118) (bz 23 1023) HT_ ?_
       refine pu 10 (some 119) (bz 23 2047) HT_ ?_
       refine pu 11 (some 120) (bz 23 4095) HT_ ?_
       refine pu 12 (some 121) (bz 23 8191) HT_ ?_
       refine one_ (i := 13) (N := some 122) (bz 23 16383) rfl rfl (one_of HT_.out (by kernel_rfl)) (by decide) (fun K hK => ?_)
       refine zg Try.func22 #[.slice Ao177 t465.length co177, .slice Ao178 t521.length co178] ?_
       with_reducible refine (trefoilref02_Ints.calls kj43 _ _ t465 _ _ t521 true _ ?side1 ?side2 ?side3 ?side4 A151.out).mono ?_
       (case side1 => exact zc (rr HO_10.out).2.2)
       (case side2 => exact (rr HO_10.out).2.1)
       (case side3 => exact zc (rr HO523.out).2.2)
       (case side4 => exact (rr HO523.out).2.1)
       rintro e w' ⟨rfl, ⟨nd, rfl⟩⟩
       refine ⟨_, rfl, ?_⟩
       refine hK.out _ _ ⟨kz0 BK446, kz1 BK446, kz0 BK420, kz1 BK420, kz0 BK421, kz1 BK421, kz0 BK469, kz1 BK469, kz0 BK524, kz1 BK524⟩ (fun hHeld => ?_)
       clear hK K
       refine norm_ (a' := ?_) ?_ ?_
       rotate_left
       ·show Act.put _ (some 122) _ = _
        simp only [Act.put, y0, y1, y2, i64_w, i32_w]
        rfl
       refine pu 14 (some 123) (bz 23 32767) HT_ ?_
       refine pu 15 (some 124) (bz 23 65535) HT_ ?_
       refine pu 16 (some 125) (bz 23 131071) HT_ ?_
       refine tk10 17 (some 126) (bz 23 262143) HT_ HW_ hHeld ?_
       refine tk10 18 (some 127) (bz 23 524287) HT_ HW_ hHeld ?_
       refine one_ (i := 19) (N := some 128) (bz 23 0xfffff) rfl rfl (one_of HT_.out (by kernel_rfl)) (by decide) (fun K hK => ?_)
       refine zg Try.func23 #[.agg #[.slice A0_0 l0_0.length c0_0, .slice A0_1 l0_1.length c0_1], .agg #[.slice A1_0 l1_0.length c1_0, .slice A1_1 l1_1.length c1_1]] ?_
       with_reducible refine (trefoilref11_Ready.calls kj43 _ _ l0_0 _ _ l0_1 _ _ l1_0 _ _ l1_1 t534 _ ?side1 ?side2 ?side3 ?side4 ?side5 ?side6 ?side7 ?side8 A153.out).mono ?_
       (case side1 => repeat (first | exact (Kd.C_below HR0_0.out (zb HB)) | (with_reducible refine Kd.C_alloc ?_ _) | (with_reducible refine Kd.C_drewN ?_ _) | (with_reducible refine Kd.C_drew ?_)))
       (case side2 => exact HC0_0.out)
       (case side3 => repeat (first | exact (Kd.C_below HR0_1.out (zb HB)) | (with_reducible refine Kd.C_alloc ?_ _) | (with_reducible refine Kd.C_drewN ?_ _) | (with_reducible refine Kd.C_drew ?_)))
       (case side4 => exact HC0_1.out)
       (case side5 => repeat (first | exact (Kd.C_below HR1_0.out (zb HB)) | (with_reducible refine Kd.C_alloc ?_ _) | (with_reducible refine Kd.C_drewN ?_ _) | (with_reducible refine Kd.C_drew ?_)))
       (case side6 => exact HC1_0.out)
       (case side7 => repeat (first | exact (Kd.C_below HR1_1.out (zb HB)) | (with_reducible refine Kd.C_alloc ?_ _) | (with_reducible refine Kd.C_drewN ?_ _) | (with_reducible refine Kd.C_drew ?_)))
       (case side8 => exact HC1_1.out)
       rintro e w179 ⟨v535, rfl, ho0, hb⟩
       refine ⟨_, rfl, ?_⟩
       have n0_ := Z0 (Kd.R_elder' (zr HO_10) (rb ho0) hb)
       have n1_ := Z0 (Kd.R_elder' (zr HO_12) (rb ho0) hb)
       have n2_ := Z0 (Kd.R_elder' (zr HO_447000) (rb ho0) hb)
       have n3_ := Z0 (Kd.R_elder' (zr HO_447001) (rb ho0) hb)
       have n4_ := Z0 (Kd.R_elder' (zr HO_470000) (rb ho0) hb)
       have n5_ := Z0 (Kd.R_elder' (zr HO_470001) (rb ho0) hb)
       have n6_ := Z0 (Kd.R_elder' (zr HO517) (rb ho0) hb)
       have n7_ := Z0 (Kd.R_elder' (zr HO520) (rb ho0) hb)
       have n8_ := Z0 (Kd.R_elder' (zr HO523) (rb ho0) hb)
       have n9_ := Z0 (Kd.R_elder' (zr HO527) (rb ho0) hb)
       have n10_ := Z0 (Kd.R_elder' (zr HO530) (rb ho0) hb)
       have n11_ := Z0 (rl (rw_ (rw_ (rw_ (rw_ (rw_ (rw_ (rw_ (rw_ (rw_ (rw_ (rw_ ho0 (rlt (zr HO_10))) (rlt (zr HO_12))) (rlt (zr HO_447000))) (rlt (zr HO_447001))) (rlt (zr HO_470000))) (rlt (zr HO_470001))) (rlt (zr HO517))) (rlt (zr HO520))) (rlt (zr HO523))) (rlt (zr HO527))) (rlt (zr HO530))) (below_size (zb HB)))
       have n12_ := Z0 (zkb BK420 hb)
       have n13_ := Z0 (zkb BK421 hb)
       have n14_ := Z0 (zkb BK422 hb)
       have n15_ := Z0 (zkb BK446 hb)
       have n16_ := Z0 (zkb BK469 hb)
       have n17_ := Z0 (zkb BK524 hb)
       have n18_ := Z0 (below_step (zb HB) hb)
       clear HO_10
       clear HO_12
       clear HO_447000
       clear HO_447001
       clear HO_470000
       clear HO_470001
       clear HO517
       clear HO520
       clear HO523
       clear HO527
       clear HO530
       clear BK420
       clear BK421
       clear BK422
       clear BK446
       clear BK469
       clear BK524
       clear HB
       have HO_10 := n0_
       have HO_12 := n1_
       have HO_447000 := n2_
       have HO_447001 := n3_
       have HO_470000 := n4_
       have HO_470001 := n5_
       have HO517 := n6_
       have HO520 := n7_
       have HO523 := n8_
       have HO527 := n9_
       have HO530 := n10_
       have HO536 := n11_
       have BK420 := n12_
       have BK421 := n13_
       have BK422 := n14_
       have BK446 := n15_
       have BK469 := n16_
       have BK524 := n17_
       have HB := n18_
       clear n0_ n1_ n2_ n3_ n4_ n5_ n6_ n7_ n8_ n9_ n10_ n11_ n12_ n13_ n14_ n15_ n16_ n17_ n18_
       (try clear hb)
       (try clear hb2)
       (try clear hk)
       (try clear hi)
       (try clear ho0)
       obtain ⟨Ao180, co180, eo180⟩ := Kd.R_slice HO_12.out
       (first | subst eo180 | (injection eo180 with f1_ f2_ f3_; have f4_ := f1_.symm; have f5_ := f3_.symm; clear f1_ f2_ f3_; subst f4_; subst f5_))
       obtain ⟨Ao181, co181, eo181⟩ := Kd.R_slice HO536.out
       subst eo181
       refine hK.out _ _ ⟨kz0 BK446, kz1 BK446, kz0 BK420, kz1 BK420, kz0 BK421, kz1 BK421, kz0 BK469, kz1 BK469, kz0 BK524, kz1 BK524⟩ (fun hHeld => ?_)
       clear hK K
       refine norm_ (a' := ?_) ?_ ?_
       rotate_left
       ·show Act.put _ (some 128) _ = _
        simp only [Act.put, y0, y1, y2, i64_w, i32_w]
        rfl
       refine one_ (i := 20) (N := some 129) (bz 23 0x1fffff) rfl rfl (one_of HT_.out (by kernel_rfl)) (by decide) (fun K hK => ?_)
       refine zg Try.func22 #[.slice Ao180 t482.length co180, .slice Ao181 t534.length co181] ?_
       with_reducible refine (trefoilref02_Ints.calls kj43 _ _ t482 _ _ t534 t537 _ ?side1 ?side2 ?side3 ?side4 A154.out).mono ?_
       (case side1 => exact zc (rr HO_12.out).2.2)
       (case side2 => exact (rr HO_12.out).2.1)
       (case side3 => exact zc (rr HO536.out).2.2)
       (case side4 => exact (rr HO536.out).2.1)
       rintro e w' ⟨rfl, ⟨nd, rfl⟩⟩
       refine ⟨_, rfl, ?_⟩
       refine hK.out _ _ ⟨kz0 BK446, kz1 BK446, kz0 BK420, kz1 BK420, kz0 BK421, kz1 BK421, kz0 BK469, kz1 BK469, kz0 BK524, kz1 BK524⟩ (fun hHeld => ?_)
       clear hK K
       refine norm_ (a' := ?_) ?_ ?_
       rotate_left
       ·show Act.put _ (some 129) _ = _
        simp only [Act.put, y0, y1, y2, i64_w, i32_w]
        rfl
       refine pu 21 (some 130) (bz 23 0x3fffff) HT_ ?_
       refine pu 22 (some 6) (bz 23 0x7fffff) HT_ ?_
       refine done_ (done_of HT_.out (by kernel_rfl)) ?_
       try go_wp2
       go_ret
       exact ⟨ze, zb HB⟩
end Go.Proofs.Ytmbhjhanafmidaa.PListSteps
