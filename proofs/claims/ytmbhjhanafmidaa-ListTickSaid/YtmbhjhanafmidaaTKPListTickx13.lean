/- Written by a program of this work: each theorem says that a call of the Go function comes to what the Lean function beside it tells, under the conditions that it names; Lean checks it. -/
import Derived.Test.YtmbhjhanafmidaaTKPListTickx0
import Derived.Test.YtmbhjhanafmidaaTKPListTickx2
import Derived.Test.YtmbhjhanafmidaaTKPListTickx10
import Derived.Test.YtmbhjhanafmidaaTKPListTickx11
import Derived.Test.YtmbhjhanafmidaaTKPListTickx12
import Derived.Test.YtmbhjhanafmidaaTKZq
namespace Go.Proofs.Ytmbhjhanafmidaa.PListTick
open Go.Proofs.Ytmbhjhanafmidaa.Zq Go.RowKit Go.Proofs.YtmbhjhanafmidaaW.PrintWords Go.Proofs.YtmbhjhanafmidaaW.PrintLast Go.Proofs.YtmbhjhanafmidaaW.PrintMore
attribute [local go_sem] max2_int min2_int max_two min_two max_three min_three max_four min_four   -- for this text's walks alone
set_option linter.unusedVariables false
set_option linter.unusedSimpArgs false

/-! ### trefoillaw11_ListTick: function 6 -/
mutual
def trefoillaw11_ListTick.j0 : Nat → Bool → List Int → List (S85) → List Int → List Int → Option (Bool)
 | 0, _, _, _, _, _ => none
 | k + 1, x18, x304000, x304001, x305000, x305001 => if x18 = true then ((trefoillaw11_awake.f).bind fun t307 => (some t307)) else ((trefoillaw04_Own.f x304000 x304001).bind fun bt308 => ((trefoillaw11_Own.f x305000 x305001).bind fun bt314 => ((list_Tick.f bt308.1 bt308.2 bt314.1 bt314.2).bind fun bt320 => (if bt320.2.2.2 = 0 then (trefoillaw11_ListTick.l0 k bt320.2.2.1 0 x304000 x304001 x305000 x305001 bt320.1 bt320.2.1) else (some ((bt320.2.2.1.length : Int) == 0))))))
def trefoillaw11_ListTick.l0 : Nat → List Int → Int → List Int → List (S85) → List Int → List Int → List Int → List Int → Option (Bool)
 | 0, _, _, _, _, _, _, _, _ => none
 | k + 1, x6, x8, x304000, x304001, x305000, x305001, x331000, x331001 => if x8 < (x305001.length : Int) then ((trefoilref04_Has.f k x305000 x8).bind fun t331 => (if t331 = true then (if x8 ≥ (x331001.length : Int) then (some false) else (if 0 ≤ x8 then (if x8 < (x331001.length : Int) then (if (rd x331001 x8) = (wrap64 ((rd x305001 x8) - 1)) then ((trefoilref04_Has.f k x6 x8).bind fun t334 => (if 1 = 1 then (if (t334 != ((rd x305001 x8) == 1)) = true then (some false) else (trefoillaw11_ListTick.l0 k x6 (wrap64 (x8 + 1)) x304000 x304001 x305000 x305001 x331000 x331001)) else (if (t334 != false) = true then (some false) else (trefoillaw11_ListTick.l0 k x6 (wrap64 (x8 + 1)) x304000 x304001 x305000 x305001 x331000 x331001)))) else (some false)) else (none)) else (none))) else (if x8 ≥ (x331001.length : Int) then (some false) else (if 0 ≤ x8 then (if x8 < (x331001.length : Int) then (if (rd x331001 x8) = (wrap64 ((rd x305001 x8) - 0)) then ((trefoilref04_Has.f k x6 x8).bind fun t338 => (if 0 = 1 then (if (t338 != ((rd x305001 x8) == 1)) = true then (some false) else (trefoillaw11_ListTick.l0 k x6 (wrap64 (x8 + 1)) x304000 x304001 x305000 x305001 x331000 x331001)) else (if (t338 != false) = true then (some false) else (trefoillaw11_ListTick.l0 k x6 (wrap64 (x8 + 1)) x304000 x304001 x305000 x305001 x331000 x331001)))) else (some false)) else (none)) else (none))))) else (trefoillaw11_ListTick.l1 k x6 0 x304000 x304001 x305000 x305001 x331000 x331001)
def trefoillaw11_ListTick.l1 : Nat → List Int → Int → List Int → List (S85) → List Int → List Int → List Int → List Int → Option (Bool)
 | 0, _, _, _, _, _, _, _, _ => none
 | k + 1, x6, x10, x304000, x304001, x305000, x305001, x331000, x331001 => if x10 < (x305000.length : Int) then (if x10 ≥ (x331000.length : Int) then (some false) else (if 0 ≤ x10 then (if x10 < (x331000.length : Int) then (if (rd x331000 x10) = (rd x305000 x10) then (if (rd x305000 x10) ≥ 0 then ((trefoilref04_Has.f k x6 (rd x305000 x10)).bind fun t359 => (if t359 = true then (some false) else (trefoillaw11_ListTick.l1 k x6 (wrap64 (x10 + 1)) x304000 x304001 x305000 x305001 x331000 x331001))) else (trefoillaw11_ListTick.l1 k x6 (wrap64 (x10 + 1)) x304000 x304001 x305000 x305001 x331000 x331001)) else (if (rd x331000 x10) = (-1) then ((trefoilref04_Has.f k x6 (rd x305000 x10)).bind fun t362 => (if t362 = true then (trefoillaw11_ListTick.l1 k x6 (wrap64 (x10 + 1)) x304000 x304001 x305000 x305001 x331000 x331001) else (some false))) else (some false))) else (none)) else (none))) else ((trefoillaw04_Own.f x304000 x304001).bind fun bt340 => ((trefoillaw11_Own.f x331000 x331001).bind fun bt346 => ((list_Check.f bt340.1 bt340.2 bt346.1 bt346.2).bind fun t352 => (some (t352 == 0)))))
end
def trefoillaw11_ListTick.f (k : Nat) (l0_0 : List Int) (l0_1 : List (S85)) (l1_0 : List Int) (l1_1 : List Int) : Option (Bool) := (trefoillaw11_awake.f).bind fun t305 => (if t305 = true then ((trefoillaw11_few.f l0_0 l0_1 l1_0 l1_1).bind fun t306 => (trefoillaw11_ListTick.j0 k (!t306) l0_0 l0_1 l1_0 l1_1)) else (trefoillaw11_ListTick.j0 k true l0_0 l0_1 l1_0 l1_1))
def trefoillaw11_ListTick.T3 : Bool × List (List Nat × List Nat) := (true, [([], []), ([0], [0]), ([], []), ([2, 1], [2]), ([1, 3, 3], [1, 3]), ([4], [4]), ([5], [5]), ([5], [5]), ([5], [5]), ([], []), ([9, 6, 4, 0, 1, 2, 3, 4, 5, 6, 9], [6, 9]), ([7, 10, 0, 1, 2, 3, 4, 5, 6, 7, 9, 10], [7]), ([8, 11, 0, 1, 2, 3, 4, 5, 6, 7, 8, 9, 10, 11], [8])])
def trefoillaw11_ListTick.B3 : List Nat := [0, 1, 0, 7, 15, 31, 63, 63, 63, 0, 639, 1791, 4095]
theorem trefoillaw11_ListTick.tab3 : rtab .any (opsOf Try.f6 3) = trefoillaw11_ListTick.T3 := by kernel_rfl
theorem trefoillaw11_ListTick.bits3 : waitsOk trefoillaw11_ListTick.T3.2 trefoillaw11_ListTick.B3 = true := by kernel_rfl
def trefoillaw11_ListTick.T12 : Bool × List (List Nat × List Nat) := (true, [([], []), ([], []), ([1], [1]), ([2], [2]), ([0, 3], [0, 3]), ([4], [4]), ([5], [5]), ([6, 5], [5, 6]), ([5], [5]), ([7, 8, 5], [5, 7, 8]), ([9, 5], [5, 9]), ([5], [5]), ([11, 5], [5, 11]), ([5], [5]), ([12, 13, 5], [5, 12, 13]), ([14, 5], [5, 14]), ([5], [5]), ([15, 16, 5], [5, 15, 16]), ([10, 17, 5], [5, 10, 17]), ([5, 18], [5, 18]), ([19, 5], [19]), ([20], [20]), ([20], [20]), ([21, 22, 20, 20], [20, 21, 22]), ([20], [20]), ([24, 20], [20, 24]), ([25, 23, 20], [20, 25]), ([26], [26]), ([27, 26], [26, 27]), ([26], [26]), ([28, 29, 26], [26, 28, 29]), ([30, 26], [26, 30]), ([31, 26], [26, 31]), ([26, 32, 20], [20, 26, 32]), ([23, 33, 20], [20, 23, 33]), ([20, 34], [20, 34])])
def trefoillaw11_ListTick.B12 : List Nat := [0, 0, 2, 6, 15, 31, 63, 127, 63, 511, 1023, 63, 2111, 63, 14399, 30783, 63, 129087, 262143, 524287, 1048575, 2097151, 2097151, 8388607, 2097151, 18874367, 67108863, 134217727, 268435455, 134217727, 1073741823, 2147483647, 4294967295, 8589934591, 17179869183, 34359738367]
theorem trefoillaw11_ListTick.tab12 : rtab .any (opsOf Try.f6 12) = trefoillaw11_ListTick.T12 := by kernel_rfl
theorem trefoillaw11_ListTick.bits12 : waitsOk trefoillaw11_ListTick.T12.2 trefoillaw11_ListTick.B12 = true := by kernel_rfl
def trefoillaw11_ListTick.T17 : Bool × List (List Nat × List Nat) := (true, [([], []), ([], []), ([1], [1]), ([2], [2]), ([0, 3], [0, 3]), ([4], [4]), ([5], [5]), ([6, 5], [5, 6]), ([5], [5]), ([7, 8, 5], [5, 7, 8]), ([9, 5], [5, 9]), ([5], [5]), ([11, 5], [5, 11]), ([5], [5]), ([12, 13, 5], [5, 12, 13]), ([14, 5], [5, 14]), ([10, 15, 5], [5, 10, 15]), ([16, 5, 5], [5, 16]), ([17], [17]), ([18, 17], [17, 18]), ([17], [17]), ([19, 20, 17], [17, 19, 20]), ([21, 17], [17, 21]), ([22, 17], [17, 22]), ([23, 17, 17], [17, 23]), ([24], [24]), ([24], [24]), ([26, 24], [24, 26]), ([24], [24]), ([27, 28, 24], [24, 27, 28]), ([29, 24], [24, 29]), ([25, 30, 24, 24], [24, 25, 30]), ([31, 24], [24, 31]), ([24, 32, 17], [17, 24, 32]), ([17, 33, 5], [5, 17, 33]), ([5, 34], [5, 34]), ([35, 31], [35]), ([36], [36]), ([37, 36], [36, 37]), ([36], [36]), ([38, 39, 36], [36, 38, 39]), ([40, 36], [36, 40]), ([36], [36]), ([42, 36], [36, 42]), ([36], [36]), ([43, 44, 36], [36, 43, 44]), ([45, 36], [36, 45]), ([41, 46, 36], [36, 41, 46]), ([47, 36, 36], [36, 47]), ([48], [48]), ([49, 48], [48, 49]), ([48], [48]), ([50, 51, 48], [48, 50, 51]), ([52, 48], [48, 52]), ([53, 48], [48, 53]), ([48, 54, 36], [36, 48, 54]), ([55, 48, 36], [36, 55]), ([56], [56]), ([56], [56]), ([58, 56], [56, 58]), ([56], [56]), ([59, 60, 56], [56, 59, 60]), ([61, 56], [56, 61]), ([57, 62, 56, 56], [56, 57, 62]), ([56, 63, 36], [36, 56, 63]), ([36, 64], [36, 64])])
def trefoillaw11_ListTick.B17 : List Nat := [0, 0, 2, 6, 15, 31, 63, 127, 63, 511, 1023, 63, 2111, 63, 14399, 30783, 65535, 131071, 262143, 524287, 262143, 2097151, 4194303, 8388607, 16777215, 33554431, 33554431, 100663295, 33554431, 503316479, 1040187391, 2147483647, 4294967295, 8589934591, 17179869183, 34359738367, 68719476735, 137438953471, 274877906943, 137438953471, 1099511627775, 2199023255551, 137438953471, 4535485464575, 137438953471, 30923764531199, 66108136620031, 140737488355327, 281474976710655, 562949953421311, 1125899906842623, 562949953421311, 4503599627370495, 9007199254740991, 18014398509481983, 36028797018963967, 72057594037927935, 144115188075855871, 144115188075855871, 432345564227567615, 144115188075855871, 2161727821137838079, 4467570830351532031, 9223372036854775807, 18446744073709551615, 36893488147419103231]
theorem trefoillaw11_ListTick.tab17 : rtab .any (opsOf Try.f6 17) = trefoillaw11_ListTick.T17 := by kernel_rfl
theorem trefoillaw11_ListTick.bits17 : waitsOk trefoillaw11_ListTick.T17.2 trefoillaw11_ListTick.B17 = true := by kernel_rfl
set_option maxHeartbeats 8000000 in
set_option maxRecDepth 100000 in
theorem trefoillaw11_ListTick.calls (k : Nat) (A0_0 : Option Addr) (c0_0 : Nat) (l0_0 : List Int) (A0_1 : Option Addr) (c0_1 : Nat) (l0_1 : List (S85)) (A1_0 : Option Addr) (c1_0 : Nat) (l1_0 : List Int) (A1_1 : Option Addr) (c1_1 : Nat) (l1_1 : List Int) (r : Bool) (w : World) (hr0_0 : Kd.C (Kd.int .i64) w A0_0 l0_0.length l0_0) (hc0_0 : l0_0.length ≤ c0_0) (hr0_1 : Kd.C k85 w A0_1 l0_1.length l0_1) (hc0_1 : l0_1.length ≤ c0_1) (hr1_0 : Kd.C (Kd.int .i64) w A1_0 l1_0.length l1_0) (hc1_0 : l1_0.length ≤ c1_0) (hr1_1 : Kd.C (Kd.int .i64) w A1_1 l1_1.length l1_1) (hc1_1 : l1_1.length ≤ c1_1) (h : trefoillaw11_ListTick.f k l0_0 l0_1 l1_0 l1_1 = some r) (hrt0 : r = true) :
  Calls Try.prog 6 #[.agg #[.slice A0_0 l0_0.length c0_0, .slice A0_1 l0_1.length c0_1], .agg #[.slice A1_0 l1_0.length c1_0, .slice A1_1 l1_1.length c1_1]] w fun e w' => e = .returned (.bool r) ∧ Below w.heap.size w w' := by
 have hrt := Z0 hrt0
 clear hrt0
 have hu25 := Try.underlying25
 have hu27 := Try.underlying27
 have HR0_0 := Z0 hr0_0
 have HC0_0 := Z0 hc0_0
 clear hr0_0 hc0_0
 have HR0_1 := Z0 hr0_1
 have HC0_1 := Z0 hc0_1
 clear hr0_1 hc0_1
 have HR1_0 := Z0 hr1_0
 have HC1_0 := Z0 hc1_0
 clear hr1_0 hc1_0
 have HR1_1 := Z0 hr1_1
 have HC1_1 := Z0 hc1_1
 clear hr1_1 hc1_1
 have HB := Z0 (Below.refl w.heap.size w)
 have H : ((trefoillaw11_awake.f).bind fun t305 => (if t305 = true then ((trefoillaw11_few.f l0_0 l0_1 l1_0 l1_1).bind fun t306 => (trefoillaw11_ListTick.j0 k (!t306) l0_0 l0_1 l1_0 l1_1)) else (trefoillaw11_ListTick.j0 k true l0_0 l0_1 l1_0 l1_1))) = some r := h
 clear h
 have HC3 := Z0 H
 clear H
 go_enter Try.func6, Try.ntmps6
 go_upto_region 1 with (first | ((with_reducible refine gate_dst (N := 2) rfl ?_); refine box_event ?hg (N := 2) ?hd (cs := #[.slice A0_0 l0_0.length c0_0, .slice A0_1 l0_1.length c0_1]) (t := 25) ?hr ?_; (case hd => rfl); (case hg => rfl); (case hr => first | (go_simp; done) | (go_simp; rfl)); intro gb303 hg w4 hbox hb; have n0_ := Z0 (below_step (by repeat (first | (with_reducible first | exact HB.out | apply wa | apply wn | apply wd) | exact HB.out)) hb); have n1_ := Z0 (hbox); have n2_ := Z0 ((by rw [hg]; exact (below_size (by repeat (first | (with_reducible first | exact HB.out | apply wa | apply wn | apply wd) | exact HB.out))) : w.heap.size ≤ gb303)); have n3_ := Z0 ((by rw [hg]; exact (below_size (by repeat (first | (with_reducible first | exact HB.out | apply wa | apply wn | apply wd) | exact HB.out))) : w.heap.size ≤ gb303)); clear HB; have HB := n0_; have BK303 := n1_; have GW303 := n2_; have GE303 := n3_; clear n0_ n1_ n2_ n3_; clear hb hbox hg) | ((with_reducible refine gate_dst (N := 3) rfl ?_); refine box_event ?hg (N := 3) ?hd (cs := #[.slice A1_0 l1_0.length c1_0, .slice A1_1 l1_1.length c1_1]) (t := 27) ?hr ?_; (case hd => rfl); (case hg => rfl); (case hr => first | (go_simp; done) | (go_simp; rfl)); intro gb304 hg w5 hbox hb; have n0_ := Z0 (kb (g := gb303) (o := .cells #[.slice A0_0 l0_0.length c0_0, .slice A0_1 l0_1.length c0_1] 25 (0, 0)) (zk BK303) hb); have n1_ := Z0 (below_step (by repeat (first | (with_reducible first | exact HB.out | apply wa | apply wn | apply wd | refine ws ?_ GE303.out) | exact HB.out)) hb); have n2_ := Z0 (hbox); have n3_ := Z0 ((by rw [hg]; exact (below_size (by repeat (first | (with_reducible first | exact HB.out | apply wa | apply wn | apply wd | refine ws ?_ GE303.out) | exact HB.out))) : w.heap.size ≤ gb304)); have n4_ := Z0 ((by rw [hg]; exact (below_size (by repeat (first | (with_reducible first | exact HB.out | apply wa | apply wn | apply wd | refine ws ?_ GE303.out) | exact HB.out))) : w.heap.size ≤ gb304)); have n5_ := Z0 ((by rw [hg]; exact Nat.ne_of_lt (blk_lt (g := gb303) (o := .cells #[.slice A0_0 l0_0.length c0_0, .slice A0_1 l0_1.length c0_1] 25 (0, 0)) (zk BK303)) : gb303 ≠ gb304)); have n6_ := Z0 ((by rw [hg]; exact Nat.ne_of_gt (blk_lt (g := gb303) (o := .cells #[.slice A0_0 l0_0.length c0_0, .slice A0_1 l0_1.length c0_1] 25 (0, 0)) (zk BK303)) : gb304 ≠ gb303)); clear BK303; clear HB; have BK303 := n0_; have HB := n1_; have BK304 := n2_; have GW304 := n3_; have GE304 := n4_; have NB303_304 := n5_; have NB304_303 := n6_; clear n0_ n1_ n2_ n3_ n4_ n5_ n6_; clear hb hbox hg))
 (try simp only [Act.put, y0, y1, y2])
 go_cut [18] (fun v18 wc => ∃ (kq : Nat) (x18_2 : Bool), v18 = .bool x18_2 ∧ Aside0 (trefoillaw11_ListTick.j0 kq x18_2 l0_0 l0_1 l1_0 l1_1 = some r) ∧ Aside0 (kq ≤ k) ∧ Aside0 (wc.heap[gb303]? = some (.cells #[(.slice A0_0 l0_0.length c0_0), (.slice A0_1 l0_1.length c0_1)] 25 (0, 0))) ∧ Aside0 (wc.heap[gb304]? = some (.cells #[(.slice A1_0 l1_0.length c1_0), (.slice A1_1 l1_1.length c1_1)] 27 (0, 0))) ∧ Aside0 (Below w.heap.size w wc))
 case first =>
  have H := HC3.out
  clear HC3
  replace H := Option.bind_eq_some_iff.mp H
  obtain ⟨t305, A60, H⟩ := H
  replace H : (if t305 = true then ((trefoillaw11_few.f l0_0 l0_1 l1_0 l1_1).bind fun t306 => (trefoillaw11_ListTick.j0 k (!t306) l0_0 l0_1 l1_0 l1_1)) else (trefoillaw11_ListTick.j0 k true l0_0 l0_1 l1_0 l1_1)) = some r := H
  have A6 := Z0 A60
  clear A60
  by_cases c7 : t305 = true
  ·subst c7
   have H1 : ((trefoillaw11_few.f l0_0 l0_1 l1_0 l1_1).bind fun t306 => (trefoillaw11_ListTick.j0 k (!t306) l0_0 l0_1 l1_0 l1_1)) = some r := by rw [if_pos rfl] at H; exact H
   clear H
   have H := H1
   clear H1
   replace H := Option.bind_eq_some_iff.mp H
   obtain ⟨t306, A80, H⟩ := H
   replace H : (trefoillaw11_ListTick.j0 k (!t306) l0_0 l0_1 l1_0 l1_1) = some r := H
   have A8 := Z0 A80
   clear A80
   have H' := Z0 H
   clear H
   go_wp2_with (first | ((with_reducible refine gate_callee (f := 9) rfl ?_); refine goesL_ (some 11) rfl rfl Try.func9 (by kernel_rfl) rfl #[] rfl (by (try simp only [List.map_toArray, List.map_cons, List.map_nil]); first | done | rfl | (simp only [List.length_drop, List.length_take]; rfl)) ?_; (with_reducible refine (trefoillaw11_awake.calls  true _ A6.out).mono ?_); rintro e w9 ⟨rfl, hb⟩; refine ⟨_, rfl, ?_⟩; have n0_ := Z0 (kb (g := gb303) (o := .cells #[.slice A0_0 l0_0.length c0_0, .slice A0_1 l0_1.length c0_1] 25 (0, 0)) (zk BK303) hb); have n1_ := Z0 (kb (g := gb304) (o := .cells #[.slice A1_0 l1_0.length c1_0, .slice A1_1 l1_1.length c1_1] 27 (0, 0)) (zk BK304) hb); have n2_ := Z0 (below_step (by repeat (first | (with_reducible first | exact HB.out | apply wa | apply wn | apply wd | refine ws ?_ GE303.out | refine ws ?_ GE304.out) | exact HB.out)) hb); clear BK303; clear BK304; clear HB; have BK303 := n0_; have BK304 := n1_; have HB := n2_; clear n0_ n1_ n2_; (try clear hb); (try clear hb2); (try clear hk); (try clear hi); have hnb10 := NB303_304.out; have hnc10 := NB304_303.out; have hcz11_0 : w9.cell? ⟨gb303, 0, none⟩ = some (.slice A0_0 l0_0.length c0_0) := (kc BK303.out 0).trans rfl; have hcz11_1 : w9.cell? ⟨gb303, 1, none⟩ = some (.slice A0_1 l0_1.length c0_1) := (kc BK303.out 1).trans rfl; have hfz11_0 := blk_frozen BK303.out 0; have hfz11_1 := blk_frozen BK303.out 1; have hcz12_0 : w9.cell? ⟨gb304, 0, none⟩ = some (.slice A1_0 l1_0.length c1_0) := (kc BK304.out 0).trans rfl; have hcz12_1 : w9.cell? ⟨gb304, 1, none⟩ = some (.slice A1_1 l1_1.length c1_1) := (kc BK304.out 1).trans rfl; have hfz12_0 := blk_frozen BK304.out 0; have hfz12_1 := blk_frozen BK304.out 1) | (go_at_call 10; (with_reducible refine (trefoillaw11_few.calls _ _ l0_0 _ _ l0_1 _ _ l1_0 _ _ l1_1 t306 _ ?side1 ?side2 ?side3 ?side4 ?side5 ?side6 ?side7 ?side8 A8.out).mono ?_); (case side1 => repeat (first | exact (Kd.C_below HR0_0.out HB.out) | (with_reducible refine Kd.C_alloc ?_ _) | (with_reducible refine Kd.C_drewN ?_ _) | (with_reducible refine Kd.C_drew ?_))); (case side2 => exact HC0_0.out); (case side3 => repeat (first | exact (Kd.C_below HR0_1.out HB.out) | (with_reducible refine Kd.C_alloc ?_ _) | (with_reducible refine Kd.C_drewN ?_ _) | (with_reducible refine Kd.C_drew ?_))); (case side4 => exact HC0_1.out); (case side5 => repeat (first | exact (Kd.C_below HR1_0.out HB.out) | (with_reducible refine Kd.C_alloc ?_ _) | (with_reducible refine Kd.C_drewN ?_ _) | (with_reducible refine Kd.C_drew ?_))); (case side6 => exact HC1_0.out); (case side7 => repeat (first | exact (Kd.C_below HR1_1.out HB.out) | (with_reducible refine Kd.C_alloc ?_ _) | (with_reducible refine Kd.C_drewN ?_ _) | (with_reducible refine Kd.C_drew ?_))); (case side8 => exact HC1_1.out); rintro e w13 ⟨rfl, hb⟩; have n0_ := Z0 (kb (g := gb303) (o := .cells #[.slice A0_0 l0_0.length c0_0, .slice A0_1 l0_1.length c0_1] 25 (0, 0)) (zk BK303) hb); have n1_ := Z0 (kb (g := gb304) (o := .cells #[.slice A1_0 l1_0.length c1_0, .slice A1_1 l1_1.length c1_1] 27 (0, 0)) (zk BK304) hb); have n2_ := Z0 (below_step (by repeat (first | (with_reducible first | exact HB.out | apply wa | apply wn | apply wd | refine ws ?_ GE303.out | refine ws ?_ GE304.out) | exact HB.out)) hb); clear BK303; clear BK304; clear HB; have BK303 := n0_; have BK304 := n1_; have HB := n2_; clear n0_ n1_ n2_; (try clear hb); (try clear hb2); (try clear hk); (try clear hi)))
   go_meet
   case rel => exact ⟨_, (!t306), (by first | rfl | (simp; done) | (simp [*]; done)), H', ⟨by first | omega | exact Nat.le_refl _⟩, ⟨by (with_reducible repeat (first | refine kn ?_ _ | refine kd_ ?_ | refine ka ?_ _)); exact BK303.out⟩, ⟨by (with_reducible repeat (first | refine kn ?_ _ | refine kd_ ?_ | refine ka ?_ _)); exact BK304.out⟩, ⟨by repeat (first | (with_reducible first | exact HB.out | apply wa | apply wn | apply wd | refine ws ?_ GE303.out | refine ws ?_ GE304.out) | exact HB.out)⟩⟩
  ·replace c7 := Bool.eq_false_iff.mpr c7
   subst c7
   have H1 : (trefoillaw11_ListTick.j0 k true l0_0 l0_1 l1_0 l1_1) = some r := by rw [if_neg (show ¬ (false = true) by decide)] at H; exact H
   clear H
   have H := H1
   clear H1
   have H' := Z0 H
   clear H
   go_wp2_with (first | ((with_reducible refine gate_callee (f := 9) rfl ?_); refine goesL_ (some 11) rfl rfl Try.func9 (by kernel_rfl) rfl #[] rfl (by (try simp only [List.map_toArray, List.map_cons, List.map_nil]); first | done | rfl | (simp only [List.length_drop, List.length_take]; rfl)) ?_; (with_reducible refine (trefoillaw11_awake.calls  false _ A6.out).mono ?_); rintro e w14 ⟨rfl, hb⟩; refine ⟨_, rfl, ?_⟩; have n0_ := Z0 (kb (g := gb303) (o := .cells #[.slice A0_0 l0_0.length c0_0, .slice A0_1 l0_1.length c0_1] 25 (0, 0)) (zk BK303) hb); have n1_ := Z0 (kb (g := gb304) (o := .cells #[.slice A1_0 l1_0.length c1_0, .slice A1_1 l1_1.length c1_1] 27 (0, 0)) (zk BK304) hb); have n2_ := Z0 (below_step (by repeat (first | (with_reducible first | exact HB.out | apply wa | apply wn | apply wd | refine ws ?_ GE303.out | refine ws ?_ GE304.out) | exact HB.out)) hb); clear BK303; clear BK304; clear HB; have BK303 := n0_; have BK304 := n1_; have HB := n2_; clear n0_ n1_ n2_; (try clear hb); (try clear hb2); (try clear hk); (try clear hi)))
   go_meet
   case rel => exact ⟨_, (true), (by first | rfl | (simp; done) | (simp [*]; done)), H', ⟨by first | omega | exact Nat.le_refl _⟩, ⟨by (with_reducible repeat (first | refine kn ?_ _ | refine kd_ ?_ | refine ka ?_ _)); exact BK303.out⟩, ⟨by (with_reducible repeat (first | refine kn ?_ _ | refine kd_ ?_ | refine ka ?_ _)); exact BK304.out⟩, ⟨by repeat (first | (with_reducible first | exact HB.out | apply wa | apply wn | apply wd | refine ws ?_ GE303.out | refine ws ?_ GE304.out) | exact HB.out)⟩⟩
 case rest =>
  clear HC3
  try clear c1
  try clear p2
  try clear c6
  try clear c7
  try clear c9
  try clear c10
  try clear hcz11_0
  try clear hcz11_1
  try clear hcz12_0
  try clear hcz12_1
  try clear hfz11_0
  try clear hfz11_1
  try clear hfz12_0
  try clear hfz12_1
  obtain ⟨kq, x18_2, rfl, HA, HJ2, BK303, BK304, HB⟩ := hcut
  cases kq with
  | zero => exact absurd HA.out (by simp [trefoillaw11_ListTick.j0])
  | succ kj2 =>
   have H := HA.out
   clear HA
   simp only [trefoillaw11_ListTick.j0] at H
   by_cases c15 : x18_2 = true
   ·subst c15
    have H1 : ((trefoillaw11_awake.f).bind fun t307 => (some t307)) = some r := by rw [if_pos rfl] at H; exact H
    clear H
    have H := H1
    clear H1
    replace H := Option.bind_eq_some_iff.mp H
    obtain ⟨t307, A160, H⟩ := H
    replace H : (some t307) = some r := H
    have A16 := Z0 A160
    clear A160
    obtain rfl := Option.some.inj H
    go_wp2_with (first | ((with_reducible refine gate_callee (f := 9) rfl ?_); refine goesL_ (some 19) rfl rfl Try.func9 (by kernel_rfl) rfl #[] rfl (by (try simp only [List.map_toArray, List.map_cons, List.map_nil]); first | done | rfl | (simp only [List.length_drop, List.length_take]; rfl)) ?_; (with_reducible refine (trefoillaw11_awake.calls  t307 _ A16.out).mono ?_); rintro e w17 ⟨rfl, hb⟩; refine ⟨_, rfl, ?_⟩; have n0_ := Z0 (kb (g := gb303) (o := .cells #[.slice A0_0 l0_0.length c0_0, .slice A0_1 l0_1.length c0_1] 25 (0, 0)) (zk BK303) hb); have n1_ := Z0 (kb (g := gb304) (o := .cells #[.slice A1_0 l1_0.length c1_0, .slice A1_1 l1_1.length c1_1] 27 (0, 0)) (zk BK304) hb); have n2_ := Z0 (below_step (by repeat (first | (with_reducible first | exact HB.out | apply wa | apply wn | apply wd | refine ws ?_ GE303.out | refine ws ?_ GE304.out) | exact HB.out)) hb); clear BK303; clear BK304; clear HB; have BK303 := n0_; have BK304 := n1_; have HB := n2_; clear n0_ n1_ n2_; (try clear hb); (try clear hb2); (try clear hk); (try clear hi)))
    go_ret
    exact ⟨by first | rfl | (simp [errW_none, errW_some] <;> rfl) | (simp [*, errW_none, errW_some] <;> rfl), by repeat (first | (with_reducible first | exact HB.out | apply wa | apply wn | apply wd | refine ws ?_ GE303.out | refine ws ?_ GE304.out) | exact HB.out)⟩
   ·replace c15 := Bool.eq_false_iff.mpr c15
    subst c15
    have H1 : ((trefoillaw04_Own.f l0_0 l0_1).bind fun bt308 => ((trefoillaw11_Own.f l1_0 l1_1).bind fun bt314 => ((list_Tick.f bt308.1 bt308.2 bt314.1 bt314.2).bind fun bt320 => (if bt320.2.2.2 = 0 then (trefoillaw11_ListTick.l0 kj2 bt320.2.2.1 0 l0_0 l0_1 l1_0 l1_1 bt320.1 bt320.2.1) else (some ((bt320.2.2.1.length : Int) == 0)))))) = some r := by rw [if_neg (show ¬ (false = true) by decide)] at H; exact H
    clear H
    have H := H1
    clear H1
    replace H := Option.bind_eq_some_iff.mp H
    obtain ⟨⟨t308, t311⟩, A180, H⟩ := H
    replace H : ((trefoillaw11_Own.f l1_0 l1_1).bind fun bt314 => ((list_Tick.f t308 t311 bt314.1 bt314.2).bind fun bt320 => (if bt320.2.2.2 = 0 then (trefoillaw11_ListTick.l0 kj2 bt320.2.2.1 0 l0_0 l0_1 l1_0 l1_1 bt320.1 bt320.2.1) else (some ((bt320.2.2.1.length : Int) == 0))))) = some r := H
    have A18 := Z0 A180
    clear A180
    replace H := Option.bind_eq_some_iff.mp H
    obtain ⟨⟨t314, t317⟩, A190, H⟩ := H
    replace H : ((list_Tick.f t308 t311 t314 t317).bind fun bt320 => (if bt320.2.2.2 = 0 then (trefoillaw11_ListTick.l0 kj2 bt320.2.2.1 0 l0_0 l0_1 l1_0 l1_1 bt320.1 bt320.2.1) else (some ((bt320.2.2.1.length : Int) == 0)))) = some r := H
    have A19 := Z0 A190
    clear A190
    replace H := Option.bind_eq_some_iff.mp H
    obtain ⟨⟨t320, t323, t326, t329⟩, A200, H⟩ := H
    replace H : (if t329 = 0 then (trefoillaw11_ListTick.l0 kj2 t326 0 l0_0 l0_1 l1_0 l1_1 t320 t323) else (some ((t326.length : Int) == 0))) = some r := H
    have A20 := Z0 A200
    clear A200
    by_cases c21 : t329 = 0
    ·rw [if_pos c21] at H
     have c21b0 : (t329 == 0) = true := beq_iff_eq.mpr c21
     have c21b1 : (t329 != 0) = false := bne_eq_false_iff_eq.mpr c21
     clear c21
     have H' := Z0 H
     clear H
     try go_wp2
     have n0_ := Z0 (kd_ BK303.out)
     have n1_ := Z0 (kd_ BK304.out)
     have n2_ := Z0 (wd HB.out)
     clear BK303
     clear BK304
     clear HB
     have BK303 := n0_
     have BK304 := n1_
     have HB := n2_
     clear n0_ n1_ n2_
     as_aux_lemma =>
     refine start_ (n := 13) (S := fun w' => w'.cell? ⟨gb303, 0, none⟩ = some (.slice A0_0 l0_0.length c0_0) ∧ w'.cell? ⟨gb303, 1, none⟩ = some (.slice A0_1 l0_1.length c0_1) ∧ w'.cell? ⟨gb304, 0, none⟩ = some (.slice A1_0 l1_0.length c1_0) ∧ w'.cell? ⟨gb304, 1, none⟩ = some (.slice A1_1 l1_1.length c1_1)) (ds := []) (bz 13 0) (by kernel_rfl) rfl rfl ⟨(kc BK303.out 0).trans rfl, (kc BK303.out 1).trans rfl, (kc BK304.out 0).trans rfl, (kc BK304.out 1).trans rfl⟩ (fun hHeld => ?_); refine with_tabW trefoillaw11_ListTick.tab3 trefoillaw11_ListTick.bits3 (fun HT_ HW_ => ?_)
     generalize wc.drew = w22 at BK303 BK304 HB hHeld ⊢
     refine tk4 0 (some 21) (bz 13 1) HT_ HW_ hHeld ?_
     refine tk4 2 (some 23) (bz 13 5) HT_ HW_ hHeld ?_
     refine join_ (σ := Value × Value × Value × Value × Value × Value × Value × Nat) 3 (bz 13 1023) (fun s_ => [(22, .agg #[s_.1, s_.2.1]), (24, .agg #[s_.2.2.1, s_.2.2.2.1]), (25, .tuple #[.agg #[s_.2.2.2.2.1, s_.2.2.2.2.2.1], s_.2.2.2.2.2.2.1, .int .i64 t329]), (5, .pointer (some ⟨s_.2.2.2.2.2.2.2, 0, none⟩)), (20, .tuple #[.agg #[s_.2.2.2.2.1, s_.2.2.2.2.2.1], s_.2.2.2.2.2.2.1, .int .i64 t329]), (26, .agg #[s_.2.2.2.2.1, s_.2.2.2.2.2.1]), (27, s_.2.2.2.2.2.2.1), (28, .int .i64 t329)]) (fun s_ w' => (w'.cell? ⟨gb303, 0, none⟩ = some (.slice A0_0 l0_0.length c0_0) ∧ w'.cell? ⟨gb303, 1, none⟩ = some (.slice A0_1 l0_1.length c0_1) ∧ w'.cell? ⟨gb304, 0, none⟩ = some (.slice A1_0 l1_0.length c1_0) ∧ w'.cell? ⟨gb304, 1, none⟩ = some (.slice A1_1 l1_1.length c1_1)) ∧ (Kd.R (Kd.int .i64) 3 w' w.heap.size (fun k_ => some k_ ≠ (s_.2.2.1 : Value).ownBlock ∧ some k_ ≠ (s_.2.2.2.1 : Value).ownBlock ∧ some k_ ≠ (s_.2.2.2.2.1 : Value).ownBlock ∧ some k_ ≠ (s_.2.2.2.2.2.1 : Value).ownBlock ∧ some k_ ≠ (s_.2.2.2.2.2.2.1 : Value).ownBlock) s_.1 t308) ∧ (Kd.R k85 85 w' w.heap.size (fun _ => True) s_.2.1 t311) ∧ (Kd.R (Kd.int .i64) 3 w' w.heap.size (fun k_ => some k_ ≠ (s_.1 : Value).ownBlock ∧ some k_ ≠ (s_.2.2.2.1 : Value).ownBlock ∧ some k_ ≠ (s_.2.2.2.2.1 : Value).ownBlock ∧ some k_ ≠ (s_.2.2.2.2.2.1 : Value).ownBlock ∧ some k_ ≠ (s_.2.2.2.2.2.2.1 : Value).ownBlock) s_.2.2.1 t314) ∧ (Kd.R (Kd.int .i64) 3 w' w.heap.size (fun k_ => some k_ ≠ (s_.1 : Value).ownBlock ∧ some k_ ≠ (s_.2.2.1 : Value).ownBlock ∧ some k_ ≠ (s_.2.2.2.2.1 : Value).ownBlock ∧ some k_ ≠ (s_.2.2.2.2.2.1 : Value).ownBlock ∧ some k_ ≠ (s_.2.2.2.2.2.2.1 : Value).ownBlock) s_.2.2.2.1 t317) ∧ (Kd.R (Kd.int .i64) 3 w' w.heap.size (fun k_ => some k_ ≠ (s_.1 : Value).ownBlock ∧ some k_ ≠ (s_.2.2.1 : Value).ownBlock ∧ some k_ ≠ (s_.2.2.2.1 : Value).ownBlock ∧ some k_ ≠ (s_.2.2.2.2.2.1 : Value).ownBlock ∧ some k_ ≠ (s_.2.2.2.2.2.2.1 : Value).ownBlock) s_.2.2.2.2.1 t320) ∧ (Kd.R (Kd.int .i64) 3 w' w.heap.size (fun k_ => some k_ ≠ (s_.1 : Value).ownBlock ∧ some k_ ≠ (s_.2.2.1 : Value).ownBlock ∧ some k_ ≠ (s_.2.2.2.1 : Value).ownBlock ∧ some k_ ≠ (s_.2.2.2.2.1 : Value).ownBlock ∧ some k_ ≠ (s_.2.2.2.2.2.2.1 : Value).ownBlock) s_.2.2.2.2.2.1 t323) ∧ (Kd.R (Kd.int .i64) 3 w' w.heap.size (fun k_ => some k_ ≠ (s_.1 : Value).ownBlock ∧ some k_ ≠ (s_.2.2.1 : Value).ownBlock ∧ some k_ ≠ (s_.2.2.2.1 : Value).ownBlock ∧ some k_ ≠ (s_.2.2.2.2.1 : Value).ownBlock ∧ some k_ ≠ (s_.2.2.2.2.2.1 : Value).ownBlock) s_.2.2.2.2.2.2.1 t326) ∧ (w'.heap[gb303]? = some (.cells #[.slice A0_0 l0_0.length c0_0, .slice A0_1 l0_1.length c0_1] 25 (0, 0))) ∧ (w'.heap[gb304]? = some (.cells #[.slice A1_0 l1_0.length c1_0, .slice A1_1 l1_1.length c1_1] 27 (0, 0))) ∧ (w'.heap[s_.2.2.2.2.2.2.2]? = some (.cells #[.slice none 0 0, .slice none 0 0] 27 (0, 0))) ∧ (w.heap.size ≤ s_.2.2.2.2.2.2.2) ∧ (w.heap.size ≤ s_.2.2.2.2.2.2.2) ∧ (gb303 ≠ s_.2.2.2.2.2.2.2) ∧ (s_.2.2.2.2.2.2.2 ≠ gb303) ∧ (gb304 ≠ s_.2.2.2.2.2.2.2) ∧ (s_.2.2.2.2.2.2.2 ≠ gb304) ∧ (Below w.heap.size w w')) ?_ ?_
     rotate_left
     ·intro hCont
      refine two_ (i := 1) (j := 9) (Ni := some 22) (Nj := some 5) (bz 13 7) (bz 13 517) rfl rfl rfl rfl (two_of HT_.out (by kernel_rfl)) (by decide) (by decide) (fun K hK => ?_) (fun K hK => ?_)
      ·skip
       refine goes_ Try.func12 (by kernel_rfl) rfl #[.agg #[.slice A0_0 l0_0.length c0_0, .slice A0_1 l0_1.length c0_1]] (by rfl) rfl rfl (by (try simp only [List.map_toArray, List.map_cons, List.map_nil]); first | done | rfl | (simp only [List.length_drop, List.length_take]; rfl)) ?_
       with_reducible refine (trefoillaw04_Own.calls _ _ l0_0 _ _ l0_1 t308 t311 _ ?side1 ?side2 ?side3 ?side4 A18.out).mono ?_
       (case side1 => repeat (first | exact (Kd.C_below HR0_0.out HB.out) | (with_reducible refine Kd.C_alloc ?_ _) | (with_reducible refine Kd.C_drewN ?_ _) | (with_reducible refine Kd.C_drew ?_)))
       (case side2 => exact HC0_0.out)
       (case side3 => repeat (first | exact (Kd.C_below HR0_1.out HB.out) | (with_reducible refine Kd.C_alloc ?_ _) | (with_reducible refine Kd.C_drewN ?_ _) | (with_reducible refine Kd.C_drew ?_)))
       (case side4 => exact HC0_1.out)
       rintro e w23 ⟨v309, v312, rfl, ho0, ho1, hb⟩
       refine ⟨_, rfl, ?_⟩
       have n0_ := Z0 (rl ho0 (below_size (by repeat (first | (with_reducible first | exact HB.out | apply wa | apply wn | apply wd | refine ws ?_ GE303.out | refine ws ?_ GE304.out) | exact HB.out))))
       have n1_ := Z0 (rl ho1 (below_size (by repeat (first | (with_reducible first | exact HB.out | apply wa | apply wn | apply wd | refine ws ?_ GE303.out | refine ws ?_ GE304.out) | exact HB.out))))
       have n2_ := Z0 (kb (g := gb303) (o := .cells #[.slice A0_0 l0_0.length c0_0, .slice A0_1 l0_1.length c0_1] 25 (0, 0)) (zk BK303) hb)
       have n3_ := Z0 (kb (g := gb304) (o := .cells #[.slice A1_0 l1_0.length c1_0, .slice A1_1 l1_1.length c1_1] 27 (0, 0)) (zk BK304) hb)
       have n4_ := Z0 (below_step (by repeat (first | (with_reducible first | exact HB.out | apply wa | apply wn | apply wd | refine ws ?_ GE303.out | refine ws ?_ GE304.out) | exact HB.out)) hb)
       clear BK303
       clear BK304
       clear HB
       have HO310 := n0_
       have HO313 := n1_
       have BK303 := n2_
       have BK304 := n3_
       have HB := n4_
       clear n0_ n1_ n2_ n3_ n4_
       (try clear hb)
       (try clear hb2)
       (try clear hk)
       (try clear hi)
       (try clear ho0)
       (try clear ho1)
       refine hK.out _ _ ⟨(kc BK303.out 0).trans rfl, (kc BK303.out 1).trans rfl, (kc BK304.out 0).trans rfl, (kc BK304.out 1).trans rfl⟩ (fun hHeld => ?_)
       clear hK K
       refine norm_ (a' := ?_) ?_ ?_
       rotate_left
       ·show Act.put _ (some 22) _ = _
        simp only [Act.put, y0, y1, y2, i64_w, i32_w]
        rfl
       refine two_ (i := 3) (j := 9) (Ni := some 24) (Nj := some 5) (bz 13 15) (bz 13 519) rfl rfl rfl rfl (two_of HT_.out (by kernel_rfl)) (by decide) (by decide) (fun K hK => ?_) (fun K hK => ?_)
       ·skip
        refine goes_ Try.func13 (by kernel_rfl) rfl #[.agg #[.slice A1_0 l1_0.length c1_0, .slice A1_1 l1_1.length c1_1]] (by rfl) rfl rfl (by (try simp only [List.map_toArray, List.map_cons, List.map_nil]); first | done | rfl | (simp only [List.length_drop, List.length_take]; rfl)) ?_
        with_reducible refine (trefoillaw11_Own.calls _ _ l1_0 _ _ l1_1 t314 t317 _ ?side1 ?side2 ?side3 ?side4 A19.out).mono ?_
        (case side1 => repeat (first | exact (Kd.C_below HR1_0.out HB.out) | (with_reducible refine Kd.C_alloc ?_ _) | (with_reducible refine Kd.C_drewN ?_ _) | (with_reducible refine Kd.C_drew ?_)))
        (case side2 => exact HC1_0.out)
        (case side3 => repeat (first | exact (Kd.C_below HR1_1.out HB.out) | (with_reducible refine Kd.C_alloc ?_ _) | (with_reducible refine Kd.C_drewN ?_ _) | (with_reducible refine Kd.C_drew ?_)))
        (case side4 => exact HC1_1.out)
        rintro e w24 ⟨v315, v318, rfl, ho0, ho1, hb⟩
        refine ⟨_, rfl, ?_⟩
        have n0_ := Z0 (rm (rt (rt (ro (zr HO310) hb) (rb ho0)) (rb ho1)) (fun _ h_ => h_.1))
        have n1_ := Z0 (rbe (zr HO313) hb)
        have n2_ := Z0 (rl (rw_ ho0 (rlt (zr HO310))) (below_size (by repeat (first | (with_reducible first | exact HB.out | apply wa | apply wn | apply wd | refine ws ?_ GE303.out | refine ws ?_ GE304.out) | exact HB.out))))
        have n3_ := Z0 (rl (rw_ ho1 (rlt (zr HO310))) (below_size (by repeat (first | (with_reducible first | exact HB.out | apply wa | apply wn | apply wd | refine ws ?_ GE303.out | refine ws ?_ GE304.out) | exact HB.out))))
        have n4_ := Z0 (kb (g := gb303) (o := .cells #[.slice A0_0 l0_0.length c0_0, .slice A0_1 l0_1.length c0_1] 25 (0, 0)) (zk BK303) hb)
        have n5_ := Z0 (kb (g := gb304) (o := .cells #[.slice A1_0 l1_0.length c1_0, .slice A1_1 l1_1.length c1_1] 27 (0, 0)) (zk BK304) hb)
        have n6_ := Z0 (below_step (by repeat (first | (with_reducible first | exact HB.out | apply wa | apply wn | apply wd | refine ws ?_ GE303.out | refine ws ?_ GE304.out) | exact HB.out)) hb)
        clear HO310
        clear HO313
        clear BK303
        clear BK304
        clear HB
        have HO310 := n0_
        have HO313 := n1_
        have HO316 := n2_
        have HO319 := n3_
        have BK303 := n4_
        have BK304 := n5_
        have HB := n6_
        clear n0_ n1_ n2_ n3_ n4_ n5_ n6_
        (try clear hb)
        (try clear hb2)
        (try clear hk)
        (try clear hi)
        (try clear ho0)
        (try clear ho1)
        obtain ⟨Ao25, co25, eo25⟩ := Kd.R_slice HO310.out
        (first | subst eo25 | (injection eo25 with f1_ f2_ f3_; have f4_ := f1_.symm; have f5_ := f3_.symm; clear f1_ f2_ f3_; subst f4_; subst f5_))
        obtain ⟨Ao26, co26, eo26⟩ := Kd.R_slice HO313.out
        (first | subst eo26 | (injection eo26 with f1_ f2_ f3_; have f4_ := f1_.symm; have f5_ := f3_.symm; clear f1_ f2_ f3_; subst f4_; subst f5_))
        obtain ⟨Ao27, co27, eo27⟩ := Kd.R_slice HO316.out
        (first | subst eo27 | (injection eo27 with f1_ f2_ f3_; have f4_ := f1_.symm; have f5_ := f3_.symm; clear f1_ f2_ f3_; subst f4_; subst f5_))
        obtain ⟨Ao28, co28, eo28⟩ := Kd.R_slice HO319.out
        (first | subst eo28 | (injection eo28 with f1_ f2_ f3_; have f4_ := f1_.symm; have f5_ := f3_.symm; clear f1_ f2_ f3_; subst f4_; subst f5_))
        refine hK.out _ _ ⟨(kc BK303.out 0).trans rfl, (kc BK303.out 1).trans rfl, (kc BK304.out 0).trans rfl, (kc BK304.out 1).trans rfl⟩ (fun hHeld => ?_)
        clear hK K
        refine norm_ (a' := ?_) ?_ ?_
        rotate_left
        ·show Act.put _ (some 24) _ = _
         simp only [Act.put, y0, y1, y2, i64_w, i32_w]
         rfl
        refine two_ (i := 4) (j := 9) (Ni := some 25) (Nj := some 5) (bz 13 31) (bz 13 527) rfl rfl rfl rfl (two_of HT_.out (by kernel_rfl)) (by decide) (by decide) (fun K hK => ?_) (fun K hK => ?_)
        ·skip
         refine goes_ Try.func14 (by kernel_rfl) rfl #[.agg #[.slice Ao25 t308.length co25, .slice Ao26 t311.length co26], .agg #[.slice Ao27 t314.length co27, .slice Ao28 t317.length co28]] (by rfl) rfl rfl (by (try simp only [List.map_toArray, List.map_cons, List.map_nil]); first | done | rfl | (simp only [List.length_drop, List.length_take]; rfl)) ?_
         with_reducible refine (list_Tick.calls _ _ t308 _ _ t311 _ _ t314 _ _ t317 t320 t323 t326 t329 _ ?side1 ?side2 ?side3 ?side4 ?side5 ?side6 ?side7 ?side8 A20.out).mono ?_
         (case side1 => repeat (first | exact (rr HO310.out).2.2 | (with_reducible refine Kd.C_alloc ?_ _) | (with_reducible refine Kd.C_drewN ?_ _) | (with_reducible refine Kd.C_drew ?_)))
         (case side2 => exact (rr HO310.out).2.1)
         (case side3 => repeat (first | exact (rr HO313.out).2.2 | (with_reducible refine Kd.C_alloc ?_ _) | (with_reducible refine Kd.C_drewN ?_ _) | (with_reducible refine Kd.C_drew ?_)))
         (case side4 => exact (rr HO313.out).2.1)
         (case side5 => repeat (first | exact (rr HO316.out).2.2 | (with_reducible refine Kd.C_alloc ?_ _) | (with_reducible refine Kd.C_drewN ?_ _) | (with_reducible refine Kd.C_drew ?_)))
         (case side6 => exact (rr HO316.out).2.1)
         (case side7 => repeat (first | exact (rr HO319.out).2.2 | (with_reducible refine Kd.C_alloc ?_ _) | (with_reducible refine Kd.C_drewN ?_ _) | (with_reducible refine Kd.C_drew ?_)))
         (case side8 => exact (rr HO319.out).2.1)
         rintro e w29 ⟨v321, v324, v327, rfl, ho0, ho1, ho2, hb⟩
         refine ⟨_, rfl, ?_⟩
         have n0_ := Z0 (rm (rt (rt (rt (ro (zr HO310) hb) (rb ho0)) (rb ho1)) (rb ho2)) (fun _ h_ => h_.1))
         have n1_ := Z0 (rbe (zr HO313) hb)
         have n2_ := Z0 (rm (rt (rt (rt (ro (zr HO316) hb) (rb ho0)) (rb ho1)) (rb ho2)) (fun _ h_ => h_.1))
         have n3_ := Z0 (rm (rt (rt (rt (ro (zr HO319) hb) (rb ho0)) (rb ho1)) (rb ho2)) (fun _ h_ => h_.1))
         have n4_ := Z0 (rl (rw_ (rw_ (rw_ ho0 (rlt (zr HO310))) (rlt (zr HO316))) (rlt (zr HO319))) (below_size (by repeat (first | (with_reducible first | exact HB.out | apply wa | apply wn | apply wd | refine ws ?_ GE303.out | refine ws ?_ GE304.out) | exact HB.out))))
         have n5_ := Z0 (rl (rw_ (rw_ (rw_ ho1 (rlt (zr HO310))) (rlt (zr HO316))) (rlt (zr HO319))) (below_size (by repeat (first | (with_reducible first | exact HB.out | apply wa | apply wn | apply wd | refine ws ?_ GE303.out | refine ws ?_ GE304.out) | exact HB.out))))
         have n6_ := Z0 (rl (rw_ (rw_ (rw_ ho2 (rlt (zr HO310))) (rlt (zr HO316))) (rlt (zr HO319))) (below_size (by repeat (first | (with_reducible first | exact HB.out | apply wa | apply wn | apply wd | refine ws ?_ GE303.out | refine ws ?_ GE304.out) | exact HB.out))))
         have n7_ := Z0 (kb (g := gb303) (o := .cells #[.slice A0_0 l0_0.length c0_0, .slice A0_1 l0_1.length c0_1] 25 (0, 0)) (zk BK303) hb)
         have n8_ := Z0 (kb (g := gb304) (o := .cells #[.slice A1_0 l1_0.length c1_0, .slice A1_1 l1_1.length c1_1] 27 (0, 0)) (zk BK304) hb)
         have n9_ := Z0 (below_step (by repeat (first | (with_reducible first | exact HB.out | apply wa | apply wn | apply wd | refine ws ?_ GE303.out | refine ws ?_ GE304.out) | exact HB.out)) hb)
         clear HO310
         clear HO313
         clear HO316
         clear HO319
         clear BK303
         clear BK304
         clear HB
         have HO310 := n0_
         have HO313 := n1_
         have HO316 := n2_
         have HO319 := n3_
         have HO322 := n4_
         have HO325 := n5_
         have HO328 := n6_
         have BK303 := n7_
         have BK304 := n8_
         have HB := n9_
         clear n0_ n1_ n2_ n3_ n4_ n5_ n6_ n7_ n8_ n9_
         (try clear hb)
         (try clear hb2)
         (try clear hk)
         (try clear hi)
         (try clear ho0)
         (try clear ho1)
         (try clear ho2)
         refine hK.out _ _ ⟨(kc BK303.out 0).trans rfl, (kc BK303.out 1).trans rfl, (kc BK304.out 0).trans rfl, (kc BK304.out 1).trans rfl⟩ (fun hHeld => ?_)
         clear hK K
         refine norm_ (a' := ?_) ?_ ?_
         rotate_left
         ·show Act.put _ (some 25) _ = _
          simp only [Act.put, y0, y1, y2, i64_w, i32_w]
          rfl
         refine pu 5 (some 20) (bz 13 63) HT_ ?_
         refine pu 6 (some 26) (bz 13 127) HT_ ?_
         refine pu 7 (some 27) (bz 13 255) HT_ ?_
         refine pu 8 (some 28) (bz 13 511) HT_ ?_
         refine one_ (i := 9) (N := some 5) (bz 13 1023) rfl rfl (one_of HT_.out (by kernel_rfl)) (by decide) (fun K hK => ?_)
         refine box_step ?hg (N := 5) ?hd (cs := #[.slice none 0 0, .slice none 0 0]) (t := 27) ?hr ?_; (case hd => rfl); (case hg => rfl); (case hr => first | (go_simp; done) | (go_simp; rfl))
         intro gb330 hg w30 hbox hb
         have n0_ := Z0 (rbe (zr HO310) hb)
         have n1_ := Z0 (rbe (zr HO313) hb)
         have n2_ := Z0 (rbe (zr HO316) hb)
         have n3_ := Z0 (rbe (zr HO319) hb)
         have n4_ := Z0 (rbe (zr HO322) hb)
         have n5_ := Z0 (rbe (zr HO325) hb)
         have n6_ := Z0 (rbe (zr HO328) hb)
         have n7_ := Z0 (kb (g := gb303) (o := .cells #[.slice A0_0 l0_0.length c0_0, .slice A0_1 l0_1.length c0_1] 25 (0, 0)) (zk BK303) hb)
         have n8_ := Z0 (kb (g := gb304) (o := .cells #[.slice A1_0 l1_0.length c1_0, .slice A1_1 l1_1.length c1_1] 27 (0, 0)) (zk BK304) hb)
         have n9_ := Z0 (below_step (by repeat (first | (with_reducible first | exact HB.out | apply wa | apply wn | apply wd | refine ws ?_ GE303.out | refine ws ?_ GE304.out) | exact HB.out)) hb)
         have n10_ := Z0 (hbox)
         have n11_ := Z0 ((by rw [hg]; exact (below_size (by repeat (first | (with_reducible first | exact HB.out | apply wa | apply wn | apply wd | refine ws ?_ GE303.out | refine ws ?_ GE304.out) | exact HB.out))) : w.heap.size ≤ gb330))
         have n12_ := Z0 ((by rw [hg]; exact (below_size (by repeat (first | (with_reducible first | exact HB.out | apply wa | apply wn | apply wd | refine ws ?_ GE303.out | refine ws ?_ GE304.out) | exact HB.out))) : w.heap.size ≤ gb330))
         have n13_ := Z0 ((by rw [hg]; exact Nat.ne_of_lt (blk_lt (g := gb303) (o := .cells #[.slice A0_0 l0_0.length c0_0, .slice A0_1 l0_1.length c0_1] 25 (0, 0)) (zk BK303)) : gb303 ≠ gb330))
         have n14_ := Z0 ((by rw [hg]; exact Nat.ne_of_gt (blk_lt (g := gb303) (o := .cells #[.slice A0_0 l0_0.length c0_0, .slice A0_1 l0_1.length c0_1] 25 (0, 0)) (zk BK303)) : gb330 ≠ gb303))
         have n15_ := Z0 ((by rw [hg]; exact Nat.ne_of_lt (blk_lt (g := gb304) (o := .cells #[.slice A1_0 l1_0.length c1_0, .slice A1_1 l1_1.length c1_1] 27 (0, 0)) (zk BK304)) : gb304 ≠ gb330))
         have n16_ := Z0 ((by rw [hg]; exact Nat.ne_of_gt (blk_lt (g := gb304) (o := .cells #[.slice A1_0 l1_0.length c1_0, .slice A1_1 l1_1.length c1_1] 27 (0, 0)) (zk BK304)) : gb330 ≠ gb304))
         clear HO310
         clear HO313
         clear HO316
         clear HO319
         clear HO322
         clear HO325
         clear HO328
         clear BK303
         clear BK304
         clear HB
         have HO310 := n0_
         have HO313 := n1_
         have HO316 := n2_
         have HO319 := n3_
         have HO322 := n4_
         have HO325 := n5_
         have HO328 := n6_
         have BK303 := n7_
         have BK304 := n8_
         have HB := n9_
         have BK330 := n10_
         have GW330 := n11_
         have GE330 := n12_
         have NB303_330 := n13_
         have NB330_303 := n14_
         have NB304_330 := n15_
         have NB330_304 := n16_
         clear n0_ n1_ n2_ n3_ n4_ n5_ n6_ n7_ n8_ n9_ n10_ n11_ n12_ n13_ n14_ n15_ n16_
         clear hb hbox hg
         refine hK.out _ _ ⟨(kc BK303.out 0).trans rfl, (kc BK303.out 1).trans rfl, (kc BK304.out 0).trans rfl, (kc BK304.out 1).trans rfl⟩ (fun hHeld => ?_)
         clear hK K
         refine norm_ (a' := ?_) ?_ ?_
         rotate_left
         ·show Act.put _ (some 5) _ = _
          simp only [Act.put, y0, y1, y2, i64_w, i32_w]
          rfl
         exact norm_ (by simp only [putAll, Act.put, y0, y1, y2]) (hCont (.slice Ao25 t308.length co25, .slice Ao26 t311.length co26, .slice Ao27 t314.length co27, .slice Ao28 t317.length co28, v321, v324, v327, gb330) _ ⟨hHeld, (by (with_reducible repeat (first | apply ra | apply rn | apply rd_)); exact rm HO310.out (fun _ hk => ⟨hk.1.1.1.1.2, ⟨hk.1.1.1.2, ⟨hk.1.1.2, ⟨hk.1.2, hk.2⟩⟩⟩⟩)), (zr HO313), (by (with_reducible repeat (first | apply ra | apply rn | apply rd_)); exact rm HO316.out (fun _ hk => ⟨hk.1.1.1.2, ⟨hk.1.1.1.1, ⟨hk.1.1.2, ⟨hk.1.2, hk.2⟩⟩⟩⟩)), (by (with_reducible repeat (first | apply ra | apply rn | apply rd_)); exact rm HO319.out (fun _ hk => ⟨hk.1.1.1.2, ⟨hk.1.1.1.1, ⟨hk.1.1.2, ⟨hk.1.2, hk.2⟩⟩⟩⟩)), (by (with_reducible repeat (first | apply ra | apply rn | apply rd_)); exact rm HO322.out (fun _ hk => ⟨hk.1.1.2, ⟨hk.1.2, ⟨hk.2, ⟨hk.1.1.1.1, hk.1.1.1.2⟩⟩⟩⟩)), (by (with_reducible repeat (first | apply ra | apply rn | apply rd_)); exact rm HO325.out (fun _ hk => ⟨hk.1.1.2, ⟨hk.1.2, ⟨hk.2, ⟨hk.1.1.1.1, hk.1.1.1.2⟩⟩⟩⟩)), (by (with_reducible repeat (first | apply ra | apply rn | apply rd_)); exact rm HO328.out (fun _ hk => ⟨hk.1.1.2, ⟨hk.1.2, ⟨hk.2, ⟨hk.1.1.1.1, hk.1.1.1.2⟩⟩⟩⟩)), (zk BK303), (zk BK304), (zk BK330), GW330.out, GE330.out, NB303_330.out, NB330_303.out, NB304_330.out, NB330_304.out, (by repeat (first | (with_reducible first | exact HB.out | apply wa | apply wn | apply wd | refine ws ?_ GE303.out | refine ws ?_ GE304.out | refine ws ?_ GE330.out) | exact HB.out))⟩)
        ·skip
         refine box_step ?hg (N := 5) ?hd (cs := #[.slice none 0 0, .slice none 0 0]) (t := 27) ?hr ?_; (case hd => rfl); (case hg => rfl); (case hr => first | (go_simp; done) | (go_simp; rfl))
         intro gb330 hg w25 hbox hb
         have n0_ := Z0 (rbe (zr HO310) hb)
         have n1_ := Z0 (rbe (zr HO313) hb)
         have n2_ := Z0 (rbe (zr HO316) hb)
         have n3_ := Z0 (rbe (zr HO319) hb)
         have n4_ := Z0 (kb (g := gb303) (o := .cells #[.slice A0_0 l0_0.length c0_0, .slice A0_1 l0_1.length c0_1] 25 (0, 0)) (zk BK303) hb)
         have n5_ := Z0 (kb (g := gb304) (o := .cells #[.slice A1_0 l1_0.length c1_0, .slice A1_1 l1_1.length c1_1] 27 (0, 0)) (zk BK304) hb)
         have n6_ := Z0 (below_step (by repeat (first | (with_reducible first | exact HB.out | apply wa | apply wn | apply wd | refine ws ?_ GE303.out | refine ws ?_ GE304.out) | exact HB.out)) hb)
         have n7_ := Z0 (hbox)
         have n8_ := Z0 ((by rw [hg]; exact (below_size (by repeat (first | (with_reducible first | exact HB.out | apply wa | apply wn | apply wd | refine ws ?_ GE303.out | refine ws ?_ GE304.out) | exact HB.out))) : w.heap.size ≤ gb330))
         have n9_ := Z0 ((by rw [hg]; exact (below_size (by repeat (first | (with_reducible first | exact HB.out | apply wa | apply wn | apply wd | refine ws ?_ GE303.out | refine ws ?_ GE304.out) | exact HB.out))) : w.heap.size ≤ gb330))
         have n10_ := Z0 ((by rw [hg]; exact Nat.ne_of_lt (blk_lt (g := gb303) (o := .cells #[.slice A0_0 l0_0.length c0_0, .slice A0_1 l0_1.length c0_1] 25 (0, 0)) (zk BK303)) : gb303 ≠ gb330))
         have n11_ := Z0 ((by rw [hg]; exact Nat.ne_of_gt (blk_lt (g := gb303) (o := .cells #[.slice A0_0 l0_0.length c0_0, .slice A0_1 l0_1.length c0_1] 25 (0, 0)) (zk BK303)) : gb330 ≠ gb303))
         have n12_ := Z0 ((by rw [hg]; exact Nat.ne_of_lt (blk_lt (g := gb304) (o := .cells #[.slice A1_0 l1_0.length c1_0, .slice A1_1 l1_1.length c1_1] 27 (0, 0)) (zk BK304)) : gb304 ≠ gb330))
         have n13_ := Z0 ((by rw [hg]; exact Nat.ne_of_gt (blk_lt (g := gb304) (o := .cells #[.slice A1_0 l1_0.length c1_0, .slice A1_1 l1_1.length c1_1] 27 (0, 0)) (zk BK304)) : gb330 ≠ gb304))
         clear HO310
         clear HO313
         clear HO316
         clear HO319
         clear BK303
         clear BK304
         clear HB
         have HO310 := n0_
         have HO313 := n1_
         have HO316 := n2_
         have HO319 := n3_
         have BK303 := n4_
         have BK304 := n5_
         have HB := n6_
         have BK330 := n7_
         have GW330 := n8_
         have GE330 := n9_
         have NB303_330 := n10_
         have NB330_303 := n11_
         have NB304_330 := n12_
         have NB330_304 := n13_
         clear n0_ n1_ n2_ n3_ n4_ n5_ n6_ n7_ n8_ n9_ n10_ n11_ n12_ n13_
         clear hb hbox hg
         obtain ⟨Ao26, co26, eo26⟩ := Kd.R_slice HO310.out
         (first | subst eo26 | (injection eo26 with f1_ f2_ f3_; have f4_ := f1_.symm; have f5_ := f3_.symm; clear f1_ f2_ f3_; subst f4_; subst f5_))
         obtain ⟨Ao27, co27, eo27⟩ := Kd.R_slice HO313.out
         (first | subst eo27 | (injection eo27 with f1_ f2_ f3_; have f4_ := f1_.symm; have f5_ := f3_.symm; clear f1_ f2_ f3_; subst f4_; subst f5_))
         obtain ⟨Ao28, co28, eo28⟩ := Kd.R_slice HO316.out
         (first | subst eo28 | (injection eo28 with f1_ f2_ f3_; have f4_ := f1_.symm; have f5_ := f3_.symm; clear f1_ f2_ f3_; subst f4_; subst f5_))
         obtain ⟨Ao29, co29, eo29⟩ := Kd.R_slice HO319.out
         (first | subst eo29 | (injection eo29 with f1_ f2_ f3_; have f4_ := f1_.symm; have f5_ := f3_.symm; clear f1_ f2_ f3_; subst f4_; subst f5_))
         refine hK.out _ _ ⟨(kc BK303.out 0).trans rfl, (kc BK303.out 1).trans rfl, (kc BK304.out 0).trans rfl, (kc BK304.out 1).trans rfl⟩ (fun hHeld => ?_)
         clear hK K
         refine norm_ (a' := ?_) ?_ ?_
         rotate_left
         ·show Act.put _ (some 5) _ = _
          simp only [Act.put, y0, y1, y2, i64_w, i32_w]
          rfl
         refine one_ (i := 4) (N := some 25) (bz 13 543) rfl rfl (one_of HT_.out (by kernel_rfl)) (by decide) (fun K hK => ?_)
         refine goes_ Try.func14 (by kernel_rfl) rfl #[.agg #[.slice Ao26 t308.length co26, .slice Ao27 t311.length co27], .agg #[.slice Ao28 t314.length co28, .slice Ao29 t317.length co29]] (by rfl) rfl rfl (by (try simp only [List.map_toArray, List.map_cons, List.map_nil]); first | done | rfl | (simp only [List.length_drop, List.length_take]; rfl)) ?_
         with_reducible refine (list_Tick.calls _ _ t308 _ _ t311 _ _ t314 _ _ t317 t320 t323 t326 t329 _ ?side1 ?side2 ?side3 ?side4 ?side5 ?side6 ?side7 ?side8 A20.out).mono ?_
         (case side1 => repeat (first | exact (rr HO310.out).2.2 | (with_reducible refine Kd.C_alloc ?_ _) | (with_reducible refine Kd.C_drewN ?_ _) | (with_reducible refine Kd.C_drew ?_)))
         (case side2 => exact (rr HO310.out).2.1)
         (case side3 => repeat (first | exact (rr HO313.out).2.2 | (with_reducible refine Kd.C_alloc ?_ _) | (with_reducible refine Kd.C_drewN ?_ _) | (with_reducible refine Kd.C_drew ?_)))
         (case side4 => exact (rr HO313.out).2.1)
         (case side5 => repeat (first | exact (rr HO316.out).2.2 | (with_reducible refine Kd.C_alloc ?_ _) | (with_reducible refine Kd.C_drewN ?_ _) | (with_reducible refine Kd.C_drew ?_)))
         (case side6 => exact (rr HO316.out).2.1)
         (case side7 => repeat (first | exact (rr HO319.out).2.2 | (with_reducible refine Kd.C_alloc ?_ _) | (with_reducible refine Kd.C_drewN ?_ _) | (with_reducible refine Kd.C_drew ?_)))
         (case side8 => exact (rr HO319.out).2.1)
         rintro e w30 ⟨v321, v324, v327, rfl, ho0, ho1, ho2, hb⟩
         refine ⟨_, rfl, ?_⟩
         have n0_ := Z0 (rm (rt (rt (rt (ro (zr HO310) hb) (rb ho0)) (rb ho1)) (rb ho2)) (fun _ h_ => h_.1))
         have n1_ := Z0 (rbe (zr HO313) hb)
         have n2_ := Z0 (rm (rt (rt (rt (ro (zr HO316) hb) (rb ho0)) (rb ho1)) (rb ho2)) (fun _ h_ => h_.1))
         have n3_ := Z0 (rm (rt (rt (rt (ro (zr HO319) hb) (rb ho0)) (rb ho1)) (rb ho2)) (fun _ h_ => h_.1))
         have n4_ := Z0 (rl (rw_ (rw_ (rw_ ho0 (rlt (zr HO310))) (rlt (zr HO316))) (rlt (zr HO319))) (below_size (by repeat (first | (with_reducible first | exact HB.out | apply wa | apply wn | apply wd | refine ws ?_ GE303.out | refine ws ?_ GE304.out | refine ws ?_ GE330.out) | exact HB.out))))
         have n5_ := Z0 (rl (rw_ (rw_ (rw_ ho1 (rlt (zr HO310))) (rlt (zr HO316))) (rlt (zr HO319))) (below_size (by repeat (first | (with_reducible first | exact HB.out | apply wa | apply wn | apply wd | refine ws ?_ GE303.out | refine ws ?_ GE304.out | refine ws ?_ GE330.out) | exact HB.out))))
         have n6_ := Z0 (rl (rw_ (rw_ (rw_ ho2 (rlt (zr HO310))) (rlt (zr HO316))) (rlt (zr HO319))) (below_size (by repeat (first | (with_reducible first | exact HB.out | apply wa | apply wn | apply wd | refine ws ?_ GE303.out | refine ws ?_ GE304.out | refine ws ?_ GE330.out) | exact HB.out))))
         have n7_ := Z0 (kb (g := gb303) (o := .cells #[.slice A0_0 l0_0.length c0_0, .slice A0_1 l0_1.length c0_1] 25 (0, 0)) (zk BK303) hb)
         have n8_ := Z0 (kb (g := gb304) (o := .cells #[.slice A1_0 l1_0.length c1_0, .slice A1_1 l1_1.length c1_1] 27 (0, 0)) (zk BK304) hb)
         have n9_ := Z0 (kb (g := gb330) (o := .cells #[.slice none 0 0, .slice none 0 0] 27 (0, 0)) (zk BK330) hb)
         have n10_ := Z0 (below_step (by repeat (first | (with_reducible first | exact HB.out | apply wa | apply wn | apply wd | refine ws ?_ GE303.out | refine ws ?_ GE304.out | refine ws ?_ GE330.out) | exact HB.out)) hb)
         clear HO310
         clear HO313
         clear HO316
         clear HO319
         clear BK303
         clear BK304
         clear BK330
         clear HB
         have HO310 := n0_
         have HO313 := n1_
         have HO316 := n2_
         have HO319 := n3_
         have HO322 := n4_
         have HO325 := n5_
         have HO328 := n6_
         have BK303 := n7_
         have BK304 := n8_
         have BK330 := n9_
         have HB := n10_
         clear n0_ n1_ n2_ n3_ n4_ n5_ n6_ n7_ n8_ n9_ n10_
         (try clear hb)
         (try clear hb2)
         (try clear hk)
         (try clear hi)
         (try clear ho0)
         (try clear ho1)
         (try clear ho2)
         refine hK.out _ _ ⟨(kc BK303.out 0).trans rfl, (kc BK303.out 1).trans rfl, (kc BK304.out 0).trans rfl, (kc BK304.out 1).trans rfl⟩ (fun hHeld => ?_)
         clear hK K
         refine norm_ (a' := ?_) ?_ ?_
         rotate_left
         ·show Act.put _ (some 25) _ = _
          simp only [Act.put, y0, y1, y2, i64_w, i32_w]
          rfl
         refine pu 5 (some 20) (bz 13 575) HT_ ?_
         refine pu 6 (some 26) (bz 13 639) HT_ ?_
         refine pu 7 (some 27) (bz 13 767) HT_ ?_
         refine pu 8 (some 28) (bz 13 1023) HT_ ?_
         exact norm_ (by simp only [putAll, Act.put, y0, y1, y2]) (hCont (.slice Ao26 t308.length co26, .slice Ao27 t311.length co27, .slice Ao28 t314.length co28, .slice Ao29 t317.length co29, v321, v324, v327, gb330) _ ⟨hHeld, (by (with_reducible repeat (first | apply ra | apply rn | apply rd_)); exact rm HO310.out (fun _ hk => ⟨hk.1.1.1.1.2, ⟨hk.1.1.1.2, ⟨hk.1.1.2, ⟨hk.1.2, hk.2⟩⟩⟩⟩)), (zr HO313), (by (with_reducible repeat (first | apply ra | apply rn | apply rd_)); exact rm HO316.out (fun _ hk => ⟨hk.1.1.1.2, ⟨hk.1.1.1.1, ⟨hk.1.1.2, ⟨hk.1.2, hk.2⟩⟩⟩⟩)), (by (with_reducible repeat (first | apply ra | apply rn | apply rd_)); exact rm HO319.out (fun _ hk => ⟨hk.1.1.1.2, ⟨hk.1.1.1.1, ⟨hk.1.1.2, ⟨hk.1.2, hk.2⟩⟩⟩⟩)), (by (with_reducible repeat (first | apply ra | apply rn | apply rd_)); exact rm HO322.out (fun _ hk => ⟨hk.1.1.2, ⟨hk.1.2, ⟨hk.2, ⟨hk.1.1.1.1, hk.1.1.1.2⟩⟩⟩⟩)), (by (with_reducible repeat (first | apply ra | apply rn | apply rd_)); exact rm HO325.out (fun _ hk => ⟨hk.1.1.2, ⟨hk.1.2, ⟨hk.2, ⟨hk.1.1.1.1, hk.1.1.1.2⟩⟩⟩⟩)), (by (with_reducible repeat (first | apply ra | apply rn | apply rd_)); exact rm HO328.out (fun _ hk => ⟨hk.1.1.2, ⟨hk.1.2, ⟨hk.2, ⟨hk.1.1.1.1, hk.1.1.1.2⟩⟩⟩⟩)), (zk BK303), (zk BK304), (zk BK330), GW330.out, GE330.out, NB303_330.out, NB330_303.out, NB304_330.out, NB330_304.out, (by repeat (first | (with_reducible first | exact HB.out | apply wa | apply wn | apply wd | refine ws ?_ GE303.out | refine ws ?_ GE304.out | refine ws ?_ GE330.out) | exact HB.out))⟩)
       ·skip
        refine box_step ?hg (N := 5) ?hd (cs := #[.slice none 0 0, .slice none 0 0]) (t := 27) ?hr ?_; (case hd => rfl); (case hg => rfl); (case hr => first | (go_simp; done) | (go_simp; rfl))
        intro gb330 hg w24 hbox hb
        have n0_ := Z0 (rbe (zr HO310) hb)
        have n1_ := Z0 (rbe (zr HO313) hb)
        have n2_ := Z0 (kb (g := gb303) (o := .cells #[.slice A0_0 l0_0.length c0_0, .slice A0_1 l0_1.length c0_1] 25 (0, 0)) (zk BK303) hb)
        have n3_ := Z0 (kb (g := gb304) (o := .cells #[.slice A1_0 l1_0.length c1_0, .slice A1_1 l1_1.length c1_1] 27 (0, 0)) (zk BK304) hb)
        have n4_ := Z0 (below_step (by repeat (first | (with_reducible first | exact HB.out | apply wa | apply wn | apply wd | refine ws ?_ GE303.out | refine ws ?_ GE304.out) | exact HB.out)) hb)
        have n5_ := Z0 (hbox)
        have n6_ := Z0 ((by rw [hg]; exact (below_size (by repeat (first | (with_reducible first | exact HB.out | apply wa | apply wn | apply wd | refine ws ?_ GE303.out | refine ws ?_ GE304.out) | exact HB.out))) : w.heap.size ≤ gb330))
        have n7_ := Z0 ((by rw [hg]; exact (below_size (by repeat (first | (with_reducible first | exact HB.out | apply wa | apply wn | apply wd | refine ws ?_ GE303.out | refine ws ?_ GE304.out) | exact HB.out))) : w.heap.size ≤ gb330))
        have n8_ := Z0 ((by rw [hg]; exact Nat.ne_of_lt (blk_lt (g := gb303) (o := .cells #[.slice A0_0 l0_0.length c0_0, .slice A0_1 l0_1.length c0_1] 25 (0, 0)) (zk BK303)) : gb303 ≠ gb330))
        have n9_ := Z0 ((by rw [hg]; exact Nat.ne_of_gt (blk_lt (g := gb303) (o := .cells #[.slice A0_0 l0_0.length c0_0, .slice A0_1 l0_1.length c0_1] 25 (0, 0)) (zk BK303)) : gb330 ≠ gb303))
        have n10_ := Z0 ((by rw [hg]; exact Nat.ne_of_lt (blk_lt (g := gb304) (o := .cells #[.slice A1_0 l1_0.length c1_0, .slice A1_1 l1_1.length c1_1] 27 (0, 0)) (zk BK304)) : gb304 ≠ gb330))
        have n11_ := Z0 ((by rw [hg]; exact Nat.ne_of_gt (blk_lt (g := gb304) (o := .cells #[.slice A1_0 l1_0.length c1_0, .slice A1_1 l1_1.length c1_1] 27 (0, 0)) (zk BK304)) : gb330 ≠ gb304))
        clear HO310
        clear HO313
        clear BK303
        clear BK304
        clear HB
        have HO310 := n0_
        have HO313 := n1_
        have BK303 := n2_
        have BK304 := n3_
        have HB := n4_
        have BK330 := n5_
        have GW330 := n6_
        have GE330 := n7_
        have NB303_330 := n8_
        have NB330_303 := n9_
        have NB304_330 := n10_
        have NB330_304 := n11_
        clear n0_ n1_ n2_ n3_ n4_ n5_ n6_ n7_ n8_ n9_ n10_ n11_
        clear hb hbox hg
        refine hK.out _ _ ⟨(kc BK303.out 0).trans rfl, (kc BK303.out 1).trans rfl, (kc BK304.out 0).trans rfl, (kc BK304.out 1).trans rfl⟩ (fun hHeld => ?_)
        clear hK K
        refine norm_ (a' := ?_) ?_ ?_
        rotate_left
        ·show Act.put _ (some 5) _ = _
         simp only [Act.put, y0, y1, y2, i64_w, i32_w]
         rfl
        refine one_ (i := 3) (N := some 24) (bz 13 527) rfl rfl (one_of HT_.out (by kernel_rfl)) (by decide) (fun K hK => ?_)
        refine goes_ Try.func13 (by kernel_rfl) rfl #[.agg #[.slice A1_0 l1_0.length c1_0, .slice A1_1 l1_1.length c1_1]] (by rfl) rfl rfl (by (try simp only [List.map_toArray, List.map_cons, List.map_nil]); first | done | rfl | (simp only [List.length_drop, List.length_take]; rfl)) ?_
        with_reducible refine (trefoillaw11_Own.calls _ _ l1_0 _ _ l1_1 t314 t317 _ ?side1 ?side2 ?side3 ?side4 A19.out).mono ?_
        (case side1 => repeat (first | exact (Kd.C_below HR1_0.out HB.out) | (with_reducible refine Kd.C_alloc ?_ _) | (with_reducible refine Kd.C_drewN ?_ _) | (with_reducible refine Kd.C_drew ?_)))
        (case side2 => exact HC1_0.out)
        (case side3 => repeat (first | exact (Kd.C_below HR1_1.out HB.out) | (with_reducible refine Kd.C_alloc ?_ _) | (with_reducible refine Kd.C_drewN ?_ _) | (with_reducible refine Kd.C_drew ?_)))
        (case side4 => exact HC1_1.out)
        rintro e w25 ⟨v315, v318, rfl, ho0, ho1, hb⟩
        refine ⟨_, rfl, ?_⟩
        have n0_ := Z0 (rm (rt (rt (ro (zr HO310) hb) (rb ho0)) (rb ho1)) (fun _ h_ => h_.1))
        have n1_ := Z0 (rbe (zr HO313) hb)
        have n2_ := Z0 (rl (rw_ ho0 (rlt (zr HO310))) (below_size (by repeat (first | (with_reducible first | exact HB.out | apply wa | apply wn | apply wd | refine ws ?_ GE303.out | refine ws ?_ GE304.out | refine ws ?_ GE330.out) | exact HB.out))))
        have n3_ := Z0 (rl (rw_ ho1 (rlt (zr HO310))) (below_size (by repeat (first | (with_reducible first | exact HB.out | apply wa | apply wn | apply wd | refine ws ?_ GE303.out | refine ws ?_ GE304.out | refine ws ?_ GE330.out) | exact HB.out))))
        have n4_ := Z0 (kb (g := gb303) (o := .cells #[.slice A0_0 l0_0.length c0_0, .slice A0_1 l0_1.length c0_1] 25 (0, 0)) (zk BK303) hb)
        have n5_ := Z0 (kb (g := gb304) (o := .cells #[.slice A1_0 l1_0.length c1_0, .slice A1_1 l1_1.length c1_1] 27 (0, 0)) (zk BK304) hb)
        have n6_ := Z0 (kb (g := gb330) (o := .cells #[.slice none 0 0, .slice none 0 0] 27 (0, 0)) (zk BK330) hb)
        have n7_ := Z0 (below_step (by repeat (first | (with_reducible first | exact HB.out | apply wa | apply wn | apply wd | refine ws ?_ GE303.out | refine ws ?_ GE304.out | refine ws ?_ GE330.out) | exact HB.out)) hb)
        clear HO310
        clear HO313
        clear BK303
        clear BK304
        clear BK330
        clear HB
        have HO310 := n0_
        have HO313 := n1_
        have HO316 := n2_
        have HO319 := n3_
        have BK303 := n4_
        have BK304 := n5_
        have BK330 := n6_
        have HB := n7_
        clear n0_ n1_ n2_ n3_ n4_ n5_ n6_ n7_
        (try clear hb)
        (try clear hb2)
        (try clear hk)
        (try clear hi)
        (try clear ho0)
        (try clear ho1)
        obtain ⟨Ao26, co26, eo26⟩ := Kd.R_slice HO310.out
        (first | subst eo26 | (injection eo26 with f1_ f2_ f3_; have f4_ := f1_.symm; have f5_ := f3_.symm; clear f1_ f2_ f3_; subst f4_; subst f5_))
        obtain ⟨Ao27, co27, eo27⟩ := Kd.R_slice HO313.out
        (first | subst eo27 | (injection eo27 with f1_ f2_ f3_; have f4_ := f1_.symm; have f5_ := f3_.symm; clear f1_ f2_ f3_; subst f4_; subst f5_))
        obtain ⟨Ao28, co28, eo28⟩ := Kd.R_slice HO316.out
        (first | subst eo28 | (injection eo28 with f1_ f2_ f3_; have f4_ := f1_.symm; have f5_ := f3_.symm; clear f1_ f2_ f3_; subst f4_; subst f5_))
        obtain ⟨Ao29, co29, eo29⟩ := Kd.R_slice HO319.out
        (first | subst eo29 | (injection eo29 with f1_ f2_ f3_; have f4_ := f1_.symm; have f5_ := f3_.symm; clear f1_ f2_ f3_; subst f4_; subst f5_))
        refine hK.out _ _ ⟨(kc BK303.out 0).trans rfl, (kc BK303.out 1).trans rfl, (kc BK304.out 0).trans rfl, (kc BK304.out 1).trans rfl⟩ (fun hHeld => ?_)
        clear hK K
        refine norm_ (a' := ?_) ?_ ?_
        rotate_left
        ·show Act.put _ (some 24) _ = _
         simp only [Act.put, y0, y1, y2, i64_w, i32_w]
         rfl
        refine one_ (i := 4) (N := some 25) (bz 13 543) rfl rfl (one_of HT_.out (by kernel_rfl)) (by decide) (fun K hK => ?_)
        refine goes_ Try.func14 (by kernel_rfl) rfl #[.agg #[.slice Ao26 t308.length co26, .slice Ao27 t311.length co27], .agg #[.slice Ao28 t314.length co28, .slice Ao29 t317.length co29]] (by rfl) rfl rfl (by (try simp only [List.map_toArray, List.map_cons, List.map_nil]); first | done | rfl | (simp only [List.length_drop, List.length_take]; rfl)) ?_
        with_reducible refine (list_Tick.calls _ _ t308 _ _ t311 _ _ t314 _ _ t317 t320 t323 t326 t329 _ ?side1 ?side2 ?side3 ?side4 ?side5 ?side6 ?side7 ?side8 A20.out).mono ?_
        (case side1 => repeat (first | exact (rr HO310.out).2.2 | (with_reducible refine Kd.C_alloc ?_ _) | (with_reducible refine Kd.C_drewN ?_ _) | (with_reducible refine Kd.C_drew ?_)))
        (case side2 => exact (rr HO310.out).2.1)
        (case side3 => repeat (first | exact (rr HO313.out).2.2 | (with_reducible refine Kd.C_alloc ?_ _) | (with_reducible refine Kd.C_drewN ?_ _) | (with_reducible refine Kd.C_drew ?_)))
        (case side4 => exact (rr HO313.out).2.1)
        (case side5 => repeat (first | exact (rr HO316.out).2.2 | (with_reducible refine Kd.C_alloc ?_ _) | (with_reducible refine Kd.C_drewN ?_ _) | (with_reducible refine Kd.C_drew ?_)))
        (case side6 => exact (rr HO316.out).2.1)
        (case side7 => repeat (first | exact (rr HO319.out).2.2 | (with_reducible refine Kd.C_alloc ?_ _) | (with_reducible refine Kd.C_drewN ?_ _) | (with_reducible refine Kd.C_drew ?_)))
        (case side8 => exact (rr HO319.out).2.1)
        rintro e w30 ⟨v321, v324, v327, rfl, ho0, ho1, ho2, hb⟩
        refine ⟨_, rfl, ?_⟩
        have n0_ := Z0 (rm (rt (rt (rt (ro (zr HO310) hb) (rb ho0)) (rb ho1)) (rb ho2)) (fun _ h_ => h_.1))
        have n1_ := Z0 (rbe (zr HO313) hb)
        have n2_ := Z0 (rm (rt (rt (rt (ro (zr HO316) hb) (rb ho0)) (rb ho1)) (rb ho2)) (fun _ h_ => h_.1))
        have n3_ := Z0 (rm (rt (rt (rt (ro (zr HO319) hb) (rb ho0)) (rb ho1)) (rb ho2)) (fun _ h_ => h_.1))
        have n4_ := Z0 (rl (rw_ (rw_ (rw_ ho0 (rlt (zr HO310))) (rlt (zr HO316))) (rlt (zr HO319))) (below_size (by repeat (first | (with_reducible first | exact HB.out | apply wa | apply wn | apply wd | refine ws ?_ GE303.out | refine ws ?_ GE304.out | refine ws ?_ GE330.out) | exact HB.out))))
        have n5_ := Z0 (rl (rw_ (rw_ (rw_ ho1 (rlt (zr HO310))) (rlt (zr HO316))) (rlt (zr HO319))) (below_size (by repeat (first | (with_reducible first | exact HB.out | apply wa | apply wn | apply wd | refine ws ?_ GE303.out | refine ws ?_ GE304.out | refine ws ?_ GE330.out) | exact HB.out))))
        have n6_ := Z0 (rl (rw_ (rw_ (rw_ ho2 (rlt (zr HO310))) (rlt (zr HO316))) (rlt (zr HO319))) (below_size (by repeat (first | (with_reducible first | exact HB.out | apply wa | apply wn | apply wd | refine ws ?_ GE303.out | refine ws ?_ GE304.out | refine ws ?_ GE330.out) | exact HB.out))))
        have n7_ := Z0 (kb (g := gb303) (o := .cells #[.slice A0_0 l0_0.length c0_0, .slice A0_1 l0_1.length c0_1] 25 (0, 0)) (zk BK303) hb)
        have n8_ := Z0 (kb (g := gb304) (o := .cells #[.slice A1_0 l1_0.length c1_0, .slice A1_1 l1_1.length c1_1] 27 (0, 0)) (zk BK304) hb)
        have n9_ := Z0 (kb (g := gb330) (o := .cells #[.slice none 0 0, .slice none 0 0] 27 (0, 0)) (zk BK330) hb)
        have n10_ := Z0 (below_step (by repeat (first | (with_reducible first | exact HB.out | apply wa | apply wn | apply wd | refine ws ?_ GE303.out | refine ws ?_ GE304.out | refine ws ?_ GE330.out) | exact HB.out)) hb)
        clear HO310
        clear HO313
        clear HO316
        clear HO319
        clear BK303
        clear BK304
        clear BK330
        clear HB
        have HO310 := n0_
        have HO313 := n1_
        have HO316 := n2_
        have HO319 := n3_
        have HO322 := n4_
        have HO325 := n5_
        have HO328 := n6_
        have BK303 := n7_
        have BK304 := n8_
        have BK330 := n9_
        have HB := n10_
        clear n0_ n1_ n2_ n3_ n4_ n5_ n6_ n7_ n8_ n9_ n10_
        (try clear hb)
        (try clear hb2)
        (try clear hk)
        (try clear hi)
        (try clear ho0)
        (try clear ho1)
        (try clear ho2)
        refine hK.out _ _ ⟨(kc BK303.out 0).trans rfl, (kc BK303.out 1).trans rfl, (kc BK304.out 0).trans rfl, (kc BK304.out 1).trans rfl⟩ (fun hHeld => ?_)
        clear hK K
        refine norm_ (a' := ?_) ?_ ?_
        rotate_left
        ·show Act.put _ (some 25) _ = _
         simp only [Act.put, y0, y1, y2, i64_w, i32_w]
         rfl
        refine pu 5 (some 20) (bz 13 575) HT_ ?_
        refine pu 6 (some 26) (bz 13 639) HT_ ?_
        refine pu 7 (some 27) (bz 13 767) HT_ ?_
        refine pu 8 (some 28) (bz 13 1023) HT_ ?_
        exact norm_ (by simp only [putAll, Act.put, y0, y1, y2]) (hCont (.slice Ao26 t308.length co26, .slice Ao27 t311.length co27, .slice Ao28 t314.length co28, .slice Ao29 t317.length co29, v321, v324, v327, gb330) _ ⟨hHeld, (by (with_reducible repeat (first | apply ra | apply rn | apply rd_)); exact rm HO310.out (fun _ hk => ⟨hk.1.1.1.1.2, ⟨hk.1.1.1.2, ⟨hk.1.1.2, ⟨hk.1.2, hk.2⟩⟩⟩⟩)), (zr HO313), (by (with_reducible repeat (first | apply ra | apply rn | apply rd_)); exact rm HO316.out (fun _ hk => ⟨hk.1.1.1.2, ⟨hk.1.1.1.1, ⟨hk.1.1.2, ⟨hk.1.2, hk.2⟩⟩⟩⟩)), (by (with_reducible repeat (first | apply ra | apply rn | apply rd_)); exact rm HO319.out (fun _ hk => ⟨hk.1.1.1.2, ⟨hk.1.1.1.1, ⟨hk.1.1.2, ⟨hk.1.2, hk.2⟩⟩⟩⟩)), (by (with_reducible repeat (first | apply ra | apply rn | apply rd_)); exact rm HO322.out (fun _ hk => ⟨hk.1.1.2, ⟨hk.1.2, ⟨hk.2, ⟨hk.1.1.1.1, hk.1.1.1.2⟩⟩⟩⟩)), (by (with_reducible repeat (first | apply ra | apply rn | apply rd_)); exact rm HO325.out (fun _ hk => ⟨hk.1.1.2, ⟨hk.1.2, ⟨hk.2, ⟨hk.1.1.1.1, hk.1.1.1.2⟩⟩⟩⟩)), (by (with_reducible repeat (first | apply ra | apply rn | apply rd_)); exact rm HO328.out (fun _ hk => ⟨hk.1.1.2, ⟨hk.1.2, ⟨hk.2, ⟨hk.1.1.1.1, hk.1.1.1.2⟩⟩⟩⟩)), (zk BK303), (zk BK304), (zk BK330), GW330.out, GE330.out, NB303_330.out, NB330_303.out, NB304_330.out, NB330_304.out, (by repeat (first | (with_reducible first | exact HB.out | apply wa | apply wn | apply wd | refine ws ?_ GE303.out | refine ws ?_ GE304.out | refine ws ?_ GE330.out) | exact HB.out))⟩)
      ·skip
       refine box_step ?hg (N := 5) ?hd (cs := #[.slice none 0 0, .slice none 0 0]) (t := 27) ?hr ?_; (case hd => rfl); (case hg => rfl); (case hr => first | (go_simp; done) | (go_simp; rfl))
       intro gb330 hg w23 hbox hb
       have n0_ := Z0 (kb (g := gb303) (o := .cells #[.slice A0_0 l0_0.length c0_0, .slice A0_1 l0_1.length c0_1] 25 (0, 0)) (zk BK303) hb)
       have n1_ := Z0 (kb (g := gb304) (o := .cells #[.slice A1_0 l1_0.length c1_0, .slice A1_1 l1_1.length c1_1] 27 (0, 0)) (zk BK304) hb)
       have n2_ := Z0 (below_step (by repeat (first | (with_reducible first | exact HB.out | apply wa | apply wn | apply wd | refine ws ?_ GE303.out | refine ws ?_ GE304.out) | exact HB.out)) hb)
       have n3_ := Z0 (hbox)
       have n4_ := Z0 ((by rw [hg]; exact (below_size (by repeat (first | (with_reducible first | exact HB.out | apply wa | apply wn | apply wd | refine ws ?_ GE303.out | refine ws ?_ GE304.out) | exact HB.out))) : w.heap.size ≤ gb330))
       have n5_ := Z0 ((by rw [hg]; exact (below_size (by repeat (first | (with_reducible first | exact HB.out | apply wa | apply wn | apply wd | refine ws ?_ GE303.out | refine ws ?_ GE304.out) | exact HB.out))) : w.heap.size ≤ gb330))
       have n6_ := Z0 ((by rw [hg]; exact Nat.ne_of_lt (blk_lt (g := gb303) (o := .cells #[.slice A0_0 l0_0.length c0_0, .slice A0_1 l0_1.length c0_1] 25 (0, 0)) (zk BK303)) : gb303 ≠ gb330))
       have n7_ := Z0 ((by rw [hg]; exact Nat.ne_of_gt (blk_lt (g := gb303) (o := .cells #[.slice A0_0 l0_0.length c0_0, .slice A0_1 l0_1.length c0_1] 25 (0, 0)) (zk BK303)) : gb330 ≠ gb303))
       have n8_ := Z0 ((by rw [hg]; exact Nat.ne_of_lt (blk_lt (g := gb304) (o := .cells #[.slice A1_0 l1_0.length c1_0, .slice A1_1 l1_1.length c1_1] 27 (0, 0)) (zk BK304)) : gb304 ≠ gb330))
       have n9_ := Z0 ((by rw [hg]; exact Nat.ne_of_gt (blk_lt (g := gb304) (o := .cells #[.slice A1_0 l1_0.length c1_0, .slice A1_1 l1_1.length c1_1] 27 (0, 0)) (zk BK304)) : gb330 ≠ gb304))
       clear BK303
       clear BK304
       clear HB
       have BK303 := n0_
       have BK304 := n1_
       have HB := n2_
       have BK330 := n3_
       have GW330 := n4_
       have GE330 := n5_
       have NB303_330 := n6_
       have NB330_303 := n7_
       have NB304_330 := n8_
       have NB330_304 := n9_
       clear n0_ n1_ n2_ n3_ n4_ n5_ n6_ n7_ n8_ n9_
       clear hb hbox hg
       refine hK.out _ _ ⟨(kc BK303.out 0).trans rfl, (kc BK303.out 1).trans rfl, (kc BK304.out 0).trans rfl, (kc BK304.out 1).trans rfl⟩ (fun hHeld => ?_)
       clear hK K
       refine norm_ (a' := ?_) ?_ ?_
       rotate_left
       ·show Act.put _ (some 5) _ = _
        simp only [Act.put, y0, y1, y2, i64_w, i32_w]
        rfl
       refine one_ (i := 1) (N := some 22) (bz 13 519) rfl rfl (one_of HT_.out (by kernel_rfl)) (by decide) (fun K hK => ?_)
       refine goes_ Try.func12 (by kernel_rfl) rfl #[.agg #[.slice A0_0 l0_0.length c0_0, .slice A0_1 l0_1.length c0_1]] (by rfl) rfl rfl (by (try simp only [List.map_toArray, List.map_cons, List.map_nil]); first | done | rfl | (simp only [List.length_drop, List.length_take]; rfl)) ?_
       with_reducible refine (trefoillaw04_Own.calls _ _ l0_0 _ _ l0_1 t308 t311 _ ?side1 ?side2 ?side3 ?side4 A18.out).mono ?_
       (case side1 => repeat (first | exact (Kd.C_below HR0_0.out HB.out) | (with_reducible refine Kd.C_alloc ?_ _) | (with_reducible refine Kd.C_drewN ?_ _) | (with_reducible refine Kd.C_drew ?_)))
       (case side2 => exact HC0_0.out)
       (case side3 => repeat (first | exact (Kd.C_below HR0_1.out HB.out) | (with_reducible refine Kd.C_alloc ?_ _) | (with_reducible refine Kd.C_drewN ?_ _) | (with_reducible refine Kd.C_drew ?_)))
       (case side4 => exact HC0_1.out)
       rintro e w24 ⟨v309, v312, rfl, ho0, ho1, hb⟩
       refine ⟨_, rfl, ?_⟩
       have n0_ := Z0 (rl ho0 (below_size (by repeat (first | (with_reducible first | exact HB.out | apply wa | apply wn | apply wd | refine ws ?_ GE303.out | refine ws ?_ GE304.out | refine ws ?_ GE330.out) | exact HB.out))))
       have n1_ := Z0 (rl ho1 (below_size (by repeat (first | (with_reducible first | exact HB.out | apply wa | apply wn | apply wd | refine ws ?_ GE303.out | refine ws ?_ GE304.out | refine ws ?_ GE330.out) | exact HB.out))))
       have n2_ := Z0 (kb (g := gb303) (o := .cells #[.slice A0_0 l0_0.length c0_0, .slice A0_1 l0_1.length c0_1] 25 (0, 0)) (zk BK303) hb)
       have n3_ := Z0 (kb (g := gb304) (o := .cells #[.slice A1_0 l1_0.length c1_0, .slice A1_1 l1_1.length c1_1] 27 (0, 0)) (zk BK304) hb)
       have n4_ := Z0 (kb (g := gb330) (o := .cells #[.slice none 0 0, .slice none 0 0] 27 (0, 0)) (zk BK330) hb)
       have n5_ := Z0 (below_step (by repeat (first | (with_reducible first | exact HB.out | apply wa | apply wn | apply wd | refine ws ?_ GE303.out | refine ws ?_ GE304.out | refine ws ?_ GE330.out) | exact HB.out)) hb)
       clear BK303
       clear BK304
       clear BK330
       clear HB
       have HO310 := n0_
       have HO313 := n1_
       have BK303 := n2_
       have BK304 := n3_
       have BK330 := n4_
       have HB := n5_
       clear n0_ n1_ n2_ n3_ n4_ n5_
       (try clear hb)
       (try clear hb2)
       (try clear hk)
       (try clear hi)
       (try clear ho0)
       (try clear ho1)
       refine hK.out _ _ ⟨(kc BK303.out 0).trans rfl, (kc BK303.out 1).trans rfl, (kc BK304.out 0).trans rfl, (kc BK304.out 1).trans rfl⟩ (fun hHeld => ?_)
       clear hK K
       refine norm_ (a' := ?_) ?_ ?_
       rotate_left
       ·show Act.put _ (some 22) _ = _
        simp only [Act.put, y0, y1, y2, i64_w, i32_w]
        rfl
       refine one_ (i := 3) (N := some 24) (bz 13 527) rfl rfl (one_of HT_.out (by kernel_rfl)) (by decide) (fun K hK => ?_)
       refine goes_ Try.func13 (by kernel_rfl) rfl #[.agg #[.slice A1_0 l1_0.length c1_0, .slice A1_1 l1_1.length c1_1]] (by rfl) rfl rfl (by (try simp only [List.map_toArray, List.map_cons, List.map_nil]); first | done | rfl | (simp only [List.length_drop, List.length_take]; rfl)) ?_
       with_reducible refine (trefoillaw11_Own.calls _ _ l1_0 _ _ l1_1 t314 t317 _ ?side1 ?side2 ?side3 ?side4 A19.out).mono ?_
       (case side1 => repeat (first | exact (Kd.C_below HR1_0.out HB.out) | (with_reducible refine Kd.C_alloc ?_ _) | (with_reducible refine Kd.C_drewN ?_ _) | (with_reducible refine Kd.C_drew ?_)))
       (case side2 => exact HC1_0.out)
       (case side3 => repeat (first | exact (Kd.C_below HR1_1.out HB.out) | (with_reducible refine Kd.C_alloc ?_ _) | (with_reducible refine Kd.C_drewN ?_ _) | (with_reducible refine Kd.C_drew ?_)))
       (case side4 => exact HC1_1.out)
       rintro e w25 ⟨v315, v318, rfl, ho0, ho1, hb⟩
       refine ⟨_, rfl, ?_⟩
       have n0_ := Z0 (rm (rt (rt (ro (zr HO310) hb) (rb ho0)) (rb ho1)) (fun _ h_ => h_.1))
       have n1_ := Z0 (rbe (zr HO313) hb)
       have n2_ := Z0 (rl (rw_ ho0 (rlt (zr HO310))) (below_size (by repeat (first | (with_reducible first | exact HB.out | apply wa | apply wn | apply wd | refine ws ?_ GE303.out | refine ws ?_ GE304.out | refine ws ?_ GE330.out) | exact HB.out))))
       have n3_ := Z0 (rl (rw_ ho1 (rlt (zr HO310))) (below_size (by repeat (first | (with_reducible first | exact HB.out | apply wa | apply wn | apply wd | refine ws ?_ GE303.out | refine ws ?_ GE304.out | refine ws ?_ GE330.out) | exact HB.out))))
       have n4_ := Z0 (kb (g := gb303) (o := .cells #[.slice A0_0 l0_0.length c0_0, .slice A0_1 l0_1.length c0_1] 25 (0, 0)) (zk BK303) hb)
       have n5_ := Z0 (kb (g := gb304) (o := .cells #[.slice A1_0 l1_0.length c1_0, .slice A1_1 l1_1.length c1_1] 27 (0, 0)) (zk BK304) hb)
       have n6_ := Z0 (kb (g := gb330) (o := .cells #[.slice none 0 0, .slice none 0 0] 27 (0, 0)) (zk BK330) hb)
       have n7_ := Z0 (below_step (by repeat (first | (with_reducible first | exact HB.out | apply wa | apply wn | apply wd | refine ws ?_ GE303.out | refine ws ?_ GE304.out | refine ws ?_ GE330.out) | exact HB.out)) hb)
       clear HO310
       clear HO313
       clear BK303
       clear BK304
       clear BK330
       clear HB
       have HO310 := n0_
       have HO313 := n1_
       have HO316 := n2_
       have HO319 := n3_
       have BK303 := n4_
       have BK304 := n5_
       have BK330 := n6_
       have HB := n7_
       clear n0_ n1_ n2_ n3_ n4_ n5_ n6_ n7_
       (try clear hb)
       (try clear hb2)
       (try clear hk)
       (try clear hi)
       (try clear ho0)
       (try clear ho1)
       obtain ⟨Ao26, co26, eo26⟩ := Kd.R_slice HO310.out
       (first | subst eo26 | (injection eo26 with f1_ f2_ f3_; have f4_ := f1_.symm; have f5_ := f3_.symm; clear f1_ f2_ f3_; subst f4_; subst f5_))
       obtain ⟨Ao27, co27, eo27⟩ := Kd.R_slice HO313.out
       (first | subst eo27 | (injection eo27 with f1_ f2_ f3_; have f4_ := f1_.symm; have f5_ := f3_.symm; clear f1_ f2_ f3_; subst f4_; subst f5_))
       obtain ⟨Ao28, co28, eo28⟩ := Kd.R_slice HO316.out
       (first | subst eo28 | (injection eo28 with f1_ f2_ f3_; have f4_ := f1_.symm; have f5_ := f3_.symm; clear f1_ f2_ f3_; subst f4_; subst f5_))
       obtain ⟨Ao29, co29, eo29⟩ := Kd.R_slice HO319.out
       (first | subst eo29 | (injection eo29 with f1_ f2_ f3_; have f4_ := f1_.symm; have f5_ := f3_.symm; clear f1_ f2_ f3_; subst f4_; subst f5_))
       refine hK.out _ _ ⟨(kc BK303.out 0).trans rfl, (kc BK303.out 1).trans rfl, (kc BK304.out 0).trans rfl, (kc BK304.out 1).trans rfl⟩ (fun hHeld => ?_)
       clear hK K
       refine norm_ (a' := ?_) ?_ ?_
       rotate_left
       ·show Act.put _ (some 24) _ = _
        simp only [Act.put, y0, y1, y2, i64_w, i32_w]
        rfl
       refine one_ (i := 4) (N := some 25) (bz 13 543) rfl rfl (one_of HT_.out (by kernel_rfl)) (by decide) (fun K hK => ?_)
       refine goes_ Try.func14 (by kernel_rfl) rfl #[.agg #[.slice Ao26 t308.length co26, .slice Ao27 t311.length co27], .agg #[.slice Ao28 t314.length co28, .slice Ao29 t317.length co29]] (by rfl) rfl rfl (by (try simp only [List.map_toArray, List.map_cons, List.map_nil]); first | done | rfl | (simp only [List.length_drop, List.length_take]; rfl)) ?_
       with_reducible refine (list_Tick.calls _ _ t308 _ _ t311 _ _ t314 _ _ t317 t320 t323 t326 t329 _ ?side1 ?side2 ?side3 ?side4 ?side5 ?side6 ?side7 ?side8 A20.out).mono ?_
       (case side1 => repeat (first | exact (rr HO310.out).2.2 | (with_reducible refine Kd.C_alloc ?_ _) | (with_reducible refine Kd.C_drewN ?_ _) | (with_reducible refine Kd.C_drew ?_)))
       (case side2 => exact (rr HO310.out).2.1)
       (case side3 => repeat (first | exact (rr HO313.out).2.2 | (with_reducible refine Kd.C_alloc ?_ _) | (with_reducible refine Kd.C_drewN ?_ _) | (with_reducible refine Kd.C_drew ?_)))
       (case side4 => exact (rr HO313.out).2.1)
       (case side5 => repeat (first | exact (rr HO316.out).2.2 | (with_reducible refine Kd.C_alloc ?_ _) | (with_reducible refine Kd.C_drewN ?_ _) | (with_reducible refine Kd.C_drew ?_)))
       (case side6 => exact (rr HO316.out).2.1)
       (case side7 => repeat (first | exact (rr HO319.out).2.2 | (with_reducible refine Kd.C_alloc ?_ _) | (with_reducible refine Kd.C_drewN ?_ _) | (with_reducible refine Kd.C_drew ?_)))
       (case side8 => exact (rr HO319.out).2.1)
       rintro e w30 ⟨v321, v324, v327, rfl, ho0, ho1, ho2, hb⟩
       refine ⟨_, rfl, ?_⟩
       have n0_ := Z0 (rm (rt (rt (rt (ro (zr HO310) hb) (rb ho0)) (rb ho1)) (rb ho2)) (fun _ h_ => h_.1))
       have n1_ := Z0 (rbe (zr HO313) hb)
       have n2_ := Z0 (rm (rt (rt (rt (ro (zr HO316) hb) (rb ho0)) (rb ho1)) (rb ho2)) (fun _ h_ => h_.1))
       have n3_ := Z0 (rm (rt (rt (rt (ro (zr HO319) hb) (rb ho0)) (rb ho1)) (rb ho2)) (fun _ h_ => h_.1))
       have n4_ := Z0 (rl (rw_ (rw_ (rw_ ho0 (rlt (zr HO310))) (rlt (zr HO316))) (rlt (zr HO319))) (below_size (by repeat (first | (with_reducible first | exact HB.out | apply wa | apply wn | apply wd | refine ws ?_ GE303.out | refine ws ?_ GE304.out | refine ws ?_ GE330.out) | exact HB.out))))
       have n5_ := Z0 (rl (rw_ (rw_ (rw_ ho1 (rlt (zr HO310))) (rlt (zr HO316))) (rlt (zr HO319))) (below_size (by repeat (first | (with_reducible first | exact HB.out | apply wa | apply wn | apply wd | refine ws ?_ GE303.out | refine ws ?_ GE304.out | refine ws ?_ GE330.out) | exact HB.out))))
       have n6_ := Z0 (rl (rw_ (rw_ (rw_ ho2 (rlt (zr HO310))) (rlt (zr HO316))) (rlt (zr HO319))) (below_size (by repeat (first | (with_reducible first | exact HB.out | apply wa | apply wn | apply wd | refine ws ?_ GE303.out | refine ws ?_ GE304.out | refine ws ?_ GE330.out) | exact HB.out))))
       have n7_ := Z0 (kb (g := gb303) (o := .cells #[.slice A0_0 l0_0.length c0_0, .slice A0_1 l0_1.length c0_1] 25 (0, 0)) (zk BK303) hb)
       have n8_ := Z0 (kb (g := gb304) (o := .cells #[.slice A1_0 l1_0.length c1_0, .slice A1_1 l1_1.length c1_1] 27 (0, 0)) (zk BK304) hb)
       have n9_ := Z0 (kb (g := gb330) (o := .cells #[.slice none 0 0, .slice none 0 0] 27 (0, 0)) (zk BK330) hb)
       have n10_ := Z0 (below_step (by repeat (first | (with_reducible first | exact HB.out | apply wa | apply wn | apply wd | refine ws ?_ GE303.out | refine ws ?_ GE304.out | refine ws ?_ GE330.out) | exact HB.out)) hb)
       clear HO310
       clear HO313
       clear HO316
       clear HO319
       clear BK303
       clear BK304
       clear BK330
       clear HB
       have HO310 := n0_
       have HO313 := n1_
       have HO316 := n2_
       have HO319 := n3_
       have HO322 := n4_
       have HO325 := n5_
       have HO328 := n6_
       have BK303 := n7_
       have BK304 := n8_
       have BK330 := n9_
       have HB := n10_
       clear n0_ n1_ n2_ n3_ n4_ n5_ n6_ n7_ n8_ n9_ n10_
       (try clear hb)
       (try clear hb2)
       (try clear hk)
       (try clear hi)
       (try clear ho0)
       (try clear ho1)
       (try clear ho2)
       refine hK.out _ _ ⟨(kc BK303.out 0).trans rfl, (kc BK303.out 1).trans rfl, (kc BK304.out 0).trans rfl, (kc BK304.out 1).trans rfl⟩ (fun hHeld => ?_)
       clear hK K
       refine norm_ (a' := ?_) ?_ ?_
       rotate_left
       ·show Act.put _ (some 25) _ = _
        simp only [Act.put, y0, y1, y2, i64_w, i32_w]
        rfl
       refine pu 5 (some 20) (bz 13 575) HT_ ?_
       refine pu 6 (some 26) (bz 13 639) HT_ ?_
       refine pu 7 (some 27) (bz 13 767) HT_ ?_
       refine pu 8 (some 28) (bz 13 1023) HT_ ?_
       exact norm_ (by simp only [putAll, Act.put, y0, y1, y2]) (hCont (.slice Ao26 t308.length co26, .slice Ao27 t311.length co27, .slice Ao28 t314.length co28, .slice Ao29 t317.length co29, v321, v324, v327, gb330) _ ⟨hHeld, (by (with_reducible repeat (first | apply ra | apply rn | apply rd_)); exact rm HO310.out (fun _ hk => ⟨hk.1.1.1.1.2, ⟨hk.1.1.1.2, ⟨hk.1.1.2, ⟨hk.1.2, hk.2⟩⟩⟩⟩)), (zr HO313), (by (with_reducible repeat (first | apply ra | apply rn | apply rd_)); exact rm HO316.out (fun _ hk => ⟨hk.1.1.1.2, ⟨hk.1.1.1.1, ⟨hk.1.1.2, ⟨hk.1.2, hk.2⟩⟩⟩⟩)), (by (with_reducible repeat (first | apply ra | apply rn | apply rd_)); exact rm HO319.out (fun _ hk => ⟨hk.1.1.1.2, ⟨hk.1.1.1.1, ⟨hk.1.1.2, ⟨hk.1.2, hk.2⟩⟩⟩⟩)), (by (with_reducible repeat (first | apply ra | apply rn | apply rd_)); exact rm HO322.out (fun _ hk => ⟨hk.1.1.2, ⟨hk.1.2, ⟨hk.2, ⟨hk.1.1.1.1, hk.1.1.1.2⟩⟩⟩⟩)), (by (with_reducible repeat (first | apply ra | apply rn | apply rd_)); exact rm HO325.out (fun _ hk => ⟨hk.1.1.2, ⟨hk.1.2, ⟨hk.2, ⟨hk.1.1.1.1, hk.1.1.1.2⟩⟩⟩⟩)), (by (with_reducible repeat (first | apply ra | apply rn | apply rd_)); exact rm HO328.out (fun _ hk => ⟨hk.1.1.2, ⟨hk.1.2, ⟨hk.2, ⟨hk.1.1.1.1, hk.1.1.1.2⟩⟩⟩⟩)), (zk BK303), (zk BK304), (zk BK330), GW330.out, GE330.out, NB303_330.out, NB330_303.out, NB304_330.out, NB330_304.out, (by repeat (first | (with_reducible first | exact HB.out | apply wa | apply wn | apply wd | refine ws ?_ GE303.out | refine ws ?_ GE304.out | refine ws ?_ GE330.out) | exact HB.out))⟩)
     rintro ⟨v309, v312, v315, v318, v321, v324, v327, gb330⟩ w31 ⟨hS_, h0_, h1_, h2_, h3_, h4_, h5_, h6_, h7_, h8_, h9_, h10_, h11_, h12_, h13_, h14_, h15_, h16_⟩
     have n0_ : Aside0 (Kd.R (Kd.int .i64) 3 w31 w.heap.size (fun k_ => some k_ ≠ (v315 : Value).ownBlock ∧ some k_ ≠ (v318 : Value).ownBlock ∧ some k_ ≠ (v321 : Value).ownBlock ∧ some k_ ≠ (v324 : Value).ownBlock ∧ some k_ ≠ (v327 : Value).ownBlock) v309 t308) := ⟨h0_⟩
     have n1_ : Aside0 (Kd.R k85 85 w31 w.heap.size (fun _ => True) v312 t311) := ⟨h1_⟩
     have n2_ : Aside0 (Kd.R (Kd.int .i64) 3 w31 w.heap.size (fun k_ => some k_ ≠ (v309 : Value).ownBlock ∧ some k_ ≠ (v318 : Value).ownBlock ∧ some k_ ≠ (v321 : Value).ownBlock ∧ some k_ ≠ (v324 : Value).ownBlock ∧ some k_ ≠ (v327 : Value).ownBlock) v315 t314) := ⟨h2_⟩
     have n3_ : Aside0 (Kd.R (Kd.int .i64) 3 w31 w.heap.size (fun k_ => some k_ ≠ (v309 : Value).ownBlock ∧ some k_ ≠ (v315 : Value).ownBlock ∧ some k_ ≠ (v321 : Value).ownBlock ∧ some k_ ≠ (v324 : Value).ownBlock ∧ some k_ ≠ (v327 : Value).ownBlock) v318 t317) := ⟨h3_⟩
     have n4_ : Aside0 (Kd.R (Kd.int .i64) 3 w31 w.heap.size (fun k_ => some k_ ≠ (v309 : Value).ownBlock ∧ some k_ ≠ (v315 : Value).ownBlock ∧ some k_ ≠ (v318 : Value).ownBlock ∧ some k_ ≠ (v324 : Value).ownBlock ∧ some k_ ≠ (v327 : Value).ownBlock) v321 t320) := ⟨h4_⟩
     have n5_ : Aside0 (Kd.R (Kd.int .i64) 3 w31 w.heap.size (fun k_ => some k_ ≠ (v309 : Value).ownBlock ∧ some k_ ≠ (v315 : Value).ownBlock ∧ some k_ ≠ (v318 : Value).ownBlock ∧ some k_ ≠ (v321 : Value).ownBlock ∧ some k_ ≠ (v327 : Value).ownBlock) v324 t323) := ⟨h5_⟩
     have n6_ : Aside0 (Kd.R (Kd.int .i64) 3 w31 w.heap.size (fun k_ => some k_ ≠ (v309 : Value).ownBlock ∧ some k_ ≠ (v315 : Value).ownBlock ∧ some k_ ≠ (v318 : Value).ownBlock ∧ some k_ ≠ (v321 : Value).ownBlock ∧ some k_ ≠ (v324 : Value).ownBlock) v327 t326) := ⟨h6_⟩
     have n7_ : Aside0 (w31.heap[gb303]? = some (.cells #[.slice A0_0 l0_0.length c0_0, .slice A0_1 l0_1.length c0_1] 25 (0, 0))) := ⟨h7_⟩
     have n8_ : Aside0 (w31.heap[gb304]? = some (.cells #[.slice A1_0 l1_0.length c1_0, .slice A1_1 l1_1.length c1_1] 27 (0, 0))) := ⟨h8_⟩
     have n9_ : Aside0 (w31.heap[gb330]? = some (.cells #[.slice none 0 0, .slice none 0 0] 27 (0, 0))) := ⟨h9_⟩
     have n10_ : Aside0 (w.heap.size ≤ gb330) := ⟨h10_⟩
     have n11_ : Aside0 (w.heap.size ≤ gb330) := ⟨h11_⟩
     have n12_ : Aside0 (gb303 ≠ gb330) := ⟨h12_⟩
     have n13_ : Aside0 (gb330 ≠ gb303) := ⟨h13_⟩
     have n14_ : Aside0 (gb304 ≠ gb330) := ⟨h14_⟩
     have n15_ : Aside0 (gb330 ≠ gb304) := ⟨h15_⟩
     have n16_ : Aside0 (Below w.heap.size w w31) := ⟨h16_⟩
     clear BK303
     clear BK304
     clear HB
     clear h0_ h1_ h2_ h3_ h4_ h5_ h6_ h7_ h8_ h9_ h10_ h11_ h12_ h13_ h14_ h15_ h16_
     have HO310 := n0_
     have HO313 := n1_
     have HO316 := n2_
     have HO319 := n3_
     have HO322 := n4_
     have HO325 := n5_
     have HO328 := n6_
     have BK303 := n7_
     have BK304 := n8_
     have BK330 := n9_
     have GW330 := n10_
     have GE330 := n11_
     have NB303_330 := n12_
     have NB330_303 := n13_
     have NB304_330 := n14_
     have NB330_304 := n15_
     have HB := n16_
     clear n0_ n1_ n2_ n3_ n4_ n5_ n6_ n7_ n8_ n9_ n10_ n11_ n12_ n13_ n14_ n15_ n16_
     have hHeld : w31.cell? ⟨gb303, 0, none⟩ = some (.slice A0_0 l0_0.length c0_0) ∧ w31.cell? ⟨gb303, 1, none⟩ = some (.slice A0_1 l0_1.length c0_1) ∧ w31.cell? ⟨gb304, 0, none⟩ = some (.slice A1_0 l1_0.length c1_0) ∧ w31.cell? ⟨gb304, 1, none⟩ = some (.slice A1_1 l1_1.length c1_1) := hS_
     obtain ⟨Ao32, co32, eo32⟩ := Kd.R_slice HO322.out
     (first | subst eo32 | (injection eo32 with f1_ f2_ f3_; have f4_ := f1_.symm; have f5_ := f3_.symm; clear f1_ f2_ f3_; subst f4_; subst f5_))
     obtain ⟨Ao34, co34, eo34⟩ := Kd.R_slice HO325.out
     (first | subst eo34 | (injection eo34 with f1_ f2_ f3_; have f4_ := f1_.symm; have f5_ := f3_.symm; clear f1_ f2_ f3_; subst f4_; subst f5_))
     refine norm_ (a' := ?_) ?_ ?_; rotate_left; simp only [putAll, Act.put, y0, y1, y2]; rfl
     refine one_ (i := 10) (N := none) (bz 13 2047) rfl rfl (one_of HT_.out (by kernel_rfl)) (by decide) (fun K hK => ?_)
     have hs33 : w31.cell? ⟨gb330, 0, none⟩ = some (.slice none 0 0) := (kc BK330.out 0).trans rfl
     have hfs33 := blk_frozen BK330.out 0
     have hns33_0 := NB303_330.out
     have hns33_1 := NB304_330.out
     have hms33_0 := NB330_303.out
     have hms33_1 := NB330_304.out
     have hs35 : w31.cell? ⟨gb330, 1, none⟩ = some (.slice none 0 0) := (kc BK330.out 1).trans rfl
     have hfs35 := blk_frozen BK330.out 1
     have hns35_0 := NB303_330.out
     have hns35_1 := NB304_330.out
     have hms35_0 := NB330_303.out
     have hms35_1 := NB330_304.out
     refine skip_ (w1 := ?_) (by rfl) rfl ?_ ?_; rotate_left; go_simp; rfl
     refine hK.out _ _ ⟨((cell_far (p := ⟨gb330, _, none⟩) NB303_330.out _).trans (((cell_far (p := ⟨gb330, _, none⟩) NB303_330.out _).trans (hHeld.1)))), ((cell_far (p := ⟨gb330, _, none⟩) NB303_330.out _).trans (((cell_far (p := ⟨gb330, _, none⟩) NB303_330.out _).trans (hHeld.2.1)))), ((cell_far (p := ⟨gb330, _, none⟩) NB304_330.out _).trans (((cell_far (p := ⟨gb330, _, none⟩) NB304_330.out _).trans (hHeld.2.2.1)))), ((cell_far (p := ⟨gb330, _, none⟩) NB304_330.out _).trans (((cell_far (p := ⟨gb330, _, none⟩) NB304_330.out _).trans (hHeld.2.2.2))))⟩ (fun hHeld => ?_)
     clear hK K
     refine pu 11 (some 6) (bz 13 4095) HT_ ?_
     refine pu 12 (some 7) (bz 13 8191) HT_ ?_
     refine done_ (done_of HT_.out (by kernel_rfl)) ?_
     try go_wp2
     go_loopg [8] kj2 (fun kq v8 w' => ∃ (x8_2 : Int), v8 = .int .i64 x8_2 ∧ Aside0 (trefoillaw11_ListTick.l0 kq t326 x8_2 l0_0 l0_1 l1_0 l1_1 t320 t323 = some r) ∧ Aside0 (kq ≤ kj2) ∧ Aside0 (Kd.R (Kd.int .i64) 3 w' w.heap.size (fun k_ => some k_ ≠ ((.slice Ao32 t320.length co32) : Value).ownBlock ∧ some k_ ≠ ((.slice Ao34 t323.length co34) : Value).ownBlock) v327 t326) ∧ Aside0 (Kd.R (Kd.int .i64) 3 w' w.heap.size (fun k_ => some k_ ≠ (v327 : Value).ownBlock ∧ some k_ ≠ ((.slice Ao34 t323.length co34) : Value).ownBlock) (.slice Ao32 t320.length co32) t320) ∧ Aside0 (Kd.R (Kd.int .i64) 3 w' w.heap.size (fun k_ => some k_ ≠ (v327 : Value).ownBlock ∧ some k_ ≠ ((.slice Ao32 t320.length co32) : Value).ownBlock) (.slice Ao34 t323.length co34) t323) ∧ Aside0 (w'.heap[gb303]? = some (.cells #[(.slice A0_0 l0_0.length c0_0), (.slice A0_1 l0_1.length c0_1)] 25 (0, 0))) ∧ Aside0 (w'.heap[gb304]? = some (.cells #[(.slice A1_0 l1_0.length c1_0), (.slice A1_1 l1_1.length c1_1)] 27 (0, 0))) ∧ Aside0 (w'.heap[gb330]? = some (.cells #[(.slice Ao32 t320.length co32), (.slice Ao34 t323.length co34)] 27 (0, 0))) ∧ Aside0 (Below w.heap.size w w'))
     case atStart => exact ⟨(0), (by first | rfl | (simp; done) | (simp [*]; done)), H', ⟨Nat.le_refl _⟩, ⟨by (with_reducible repeat (first | apply ra | apply rn | apply rd_)); exact rm (Kd.R_far (p := ⟨gb330, 1, none⟩) (Kd.R_far (p := ⟨gb330, 0, none⟩) (Kd.R_types HO328.out BK330.out (by decide)) (fun _ hk => hk.2) (.slice Ao32 t320.length co32)) (fun _ hk => hk.2) (.slice Ao34 t323.length co34)) (fun _ hk => ⟨hk.1.2.2.2.1, hk.1.2.2.2.2⟩)⟩, ⟨by (with_reducible repeat (first | apply ra | apply rn | apply rd_)); exact rm (Kd.R_far (p := ⟨gb330, 1, none⟩) (Kd.R_far (p := ⟨gb330, 0, none⟩) (Kd.R_types HO322.out BK330.out (by decide)) (fun _ hk => hk.2) (.slice Ao32 t320.length co32)) (fun _ hk => hk.2) (.slice Ao34 t323.length co34)) (fun _ hk => ⟨hk.1.2.2.2.2, hk.1.2.2.2.1⟩)⟩, ⟨by (with_reducible repeat (first | apply ra | apply rn | apply rd_)); exact rm (Kd.R_far (p := ⟨gb330, 1, none⟩) (Kd.R_far (p := ⟨gb330, 0, none⟩) (Kd.R_types HO325.out BK330.out (by decide)) (fun _ hk => hk.2) (.slice Ao32 t320.length co32)) (fun _ hk => hk.2) (.slice Ao34 t323.length co34)) (fun _ hk => ⟨hk.1.2.2.2.2, hk.1.2.2.2.1⟩)⟩, ⟨by (with_reducible repeat (first | refine kn ?_ _ | refine kd_ ?_ | refine ka ?_ _)); refine blk_far ?_ NB303_330.out _; (with_reducible repeat (first | refine kn ?_ _ | refine kd_ ?_ | refine ka ?_ _)); refine blk_far ?_ NB303_330.out _; (with_reducible repeat (first | refine kn ?_ _ | refine kd_ ?_ | refine ka ?_ _)); exact BK303.out⟩, ⟨by (with_reducible repeat (first | refine kn ?_ _ | refine kd_ ?_ | refine ka ?_ _)); refine blk_far ?_ NB304_330.out _; (with_reducible repeat (first | refine kn ?_ _ | refine kd_ ?_ | refine ka ?_ _)); refine blk_far ?_ NB304_330.out _; (with_reducible repeat (first | refine kn ?_ _ | refine kd_ ?_ | refine ka ?_ _)); exact BK304.out⟩, ⟨by (with_reducible repeat (first | refine kn ?_ _ | refine kd_ ?_ | refine ka ?_ _)); refine blk_put (cs := #[.slice Ao32 t320.length co32, .slice none 0 0]) ?_ 1 _ rfl; (with_reducible repeat (first | refine kn ?_ _ | refine kd_ ?_ | refine ka ?_ _)); refine blk_put (cs := #[.slice none 0 0, .slice none 0 0]) ?_ 0 _ rfl; (with_reducible repeat (first | refine kn ?_ _ | refine kd_ ?_ | refine ka ?_ _)); exact BK330.out⟩, ⟨by repeat (first | (with_reducible first | exact HB.out | apply wa | apply wn | apply wd | refine ws ?_ GE303.out | refine ws ?_ GE304.out | refine ws ?_ GE330.out) | exact HB.out)⟩⟩
     case round =>
      as_aux_lemma =>
      clear H'
      try clear c1
      try clear p2
      try clear c12
      try clear c13
      try clear c14
      obtain ⟨x8_2, rfl, HA, HK2, HO_6, HO_331000, HO_331001, BK303, BK304, BK330, HB⟩ := hrel
      cases gk with
      | zero => exact absurd HA.out (by simp [trefoillaw11_ListTick.l0])
      | succ k2 =>
       have H := HA.out
       clear HA
       simp only [trefoillaw11_ListTick.l0] at H
       by_cases c36 : x8_2 < (l1_1.length : Int)
       ·rw [if_pos c36] at H
        have c36b0 : decide (x8_2 < (l1_1.length : Int)) = true := decide_eq_true c36
        clear c36
        replace H := Option.bind_eq_some_iff.mp H
        obtain ⟨t331, A370, H⟩ := H
        replace H : (if t331 = true then (if x8_2 ≥ (t323.length : Int) then (some false) else (if 0 ≤ x8_2 then (if x8_2 < (t323.length : Int) then (if (rd t323 x8_2) = (wrap64 ((rd l1_1 x8_2) - 1)) then ((trefoilref04_Has.f k2 t326 x8_2).bind fun t334 => (if 1 = 1 then (if (t334 != ((rd l1_1 x8_2) == 1)) = true then (some false) else (trefoillaw11_ListTick.l0 k2 t326 (wrap64 (x8_2 + 1)) l0_0 l0_1 l1_0 l1_1 t320 t323)) else (if (t334 != false) = true then (some false) else (trefoillaw11_ListTick.l0 k2 t326 (wrap64 (x8_2 + 1)) l0_0 l0_1 l1_0 l1_1 t320 t323)))) else (some false)) else (none)) else (none))) else (if x8_2 ≥ (t323.length : Int) then (some false) else (if 0 ≤ x8_2 then (if x8_2 < (t323.length : Int) then (if (rd t323 x8_2) = (wrap64 ((rd l1_1 x8_2) - 0)) then ((trefoilref04_Has.f k2 t326 x8_2).bind fun t338 => (if 0 = 1 then (if (t338 != ((rd l1_1 x8_2) == 1)) = true then (some false) else (trefoillaw11_ListTick.l0 k2 t326 (wrap64 (x8_2 + 1)) l0_0 l0_1 l1_0 l1_1 t320 t323)) else (if (t338 != false) = true then (some false) else (trefoillaw11_ListTick.l0 k2 t326 (wrap64 (x8_2 + 1)) l0_0 l0_1 l1_0 l1_1 t320 t323)))) else (some false)) else (none)) else (none)))) = some r := H
        have A37 := Z0 A370
        clear A370
        by_cases c38 : t331 = true
        ·subst c38
         have H1 : (if x8_2 ≥ (t323.length : Int) then (some false) else (if 0 ≤ x8_2 then (if x8_2 < (t323.length : Int) then (if (rd t323 x8_2) = (wrap64 ((rd l1_1 x8_2) - 1)) then ((trefoilref04_Has.f k2 t326 x8_2).bind fun t334 => (if 1 = 1 then (if (t334 != ((rd l1_1 x8_2) == 1)) = true then (some false) else (trefoillaw11_ListTick.l0 k2 t326 (wrap64 (x8_2 + 1)) l0_0 l0_1 l1_0 l1_1 t320 t323)) else (if (t334 != false) = true then (some false) else (trefoillaw11_ListTick.l0 k2 t326 (wrap64 (x8_2 + 1)) l0_0 l0_1 l1_0 l1_1 t320 t323)))) else (some false)) else (none)) else (none))) = some r := by rw [if_pos rfl] at H; exact H
         clear H
         have H := H1
         clear H1
         by_cases c39 : x8_2 ≥ (t323.length : Int)
         ·rw [if_pos c39] at H
          have c39b0 : decide ((t323.length : Int) ≤ x8_2) = true := decide_eq_true c39
          clear c39
          exact absurd ((Option.some.inj H).trans hrt.out) (by decide)
         ·rw [if_neg c39] at H
          have c39b0 : decide ((t323.length : Int) ≤ x8_2) = false := decide_eq_false c39
          clear c39
          by_cases c44 : 0 ≤ x8_2
          ·rw [if_pos c44] at H
           have c44b0 : decide (0 ≤ x8_2) = true := decide_eq_true c44
           clear c44
           by_cases c45 : x8_2 < (t323.length : Int)
           ·rw [if_pos c45] at H
            have c45b0 : decide (x8_2 < (t323.length : Int)) = true := decide_eq_true c45
            clear c45
            by_cases c46 : (rd t323 x8_2) = (wrap64 ((rd l1_1 x8_2) - 1))
            ·rw [if_pos c46] at H
             have c46b0 : ((rd t323 x8_2) == (wrap64 ((rd l1_1 x8_2) - 1))) = true := beq_iff_eq.mpr c46
             have c46b1 : ((rd t323 x8_2) != (wrap64 ((rd l1_1 x8_2) - 1))) = false := bne_eq_false_iff_eq.mpr c46
             clear c46
             replace H := Option.bind_eq_some_iff.mp H
             obtain ⟨t334, A470, H⟩ := H
             replace H : (if 1 = 1 then (if (t334 != ((rd l1_1 x8_2) == 1)) = true then (some false) else (trefoillaw11_ListTick.l0 k2 t326 (wrap64 (x8_2 + 1)) l0_0 l0_1 l1_0 l1_1 t320 t323)) else (if (t334 != false) = true then (some false) else (trefoillaw11_ListTick.l0 k2 t326 (wrap64 (x8_2 + 1)) l0_0 l0_1 l1_0 l1_1 t320 t323))) = some r := H
             have A47 := Z0 A470
             clear A470
             by_cases c48 : 1 = 1
             ·rw [if_pos c48] at H
              have c48b0 : (1 == 1) = true := beq_iff_eq.mpr c48
              have c48b1 : (1 != 1) = false := bne_eq_false_iff_eq.mpr c48
              clear c48
              by_cases c49 : (t334 != ((rd l1_1 x8_2) == 1)) = true
              ·rw [if_pos c49] at H
               have c49b0 : (t334 != ((rd l1_1 x8_2) == 1)) = true := c49
               (try (have c49b1 : decide (t334 = ((rd l1_1 x8_2) == 1)) = false := by simpa using c49))
               (try (have c49b2 : (t334 == ((rd l1_1 x8_2) == 1)) = false := by simpa using c49))
               (try (have c49b3 : ¬ (t334 = ((rd l1_1 x8_2) == 1)) := by simpa using c49))
               clear c49
               exact absurd ((Option.some.inj H).trans hrt.out) (by decide)
              ·rw [if_neg c49] at H
               have c49b0 : (t334 != ((rd l1_1 x8_2) == 1)) = false := by simpa using c49
               (try (have c49b1 : decide (t334 = ((rd l1_1 x8_2) == 1)) = true := by simpa using c49))
               (try (have c49b2 : (t334 == ((rd l1_1 x8_2) == 1)) = true := by simpa using c49))
               clear c49
               have H' := Z0 H
               clear H
               have hnb55 := NB304_303.out
               have hnc55 := NB303_304.out
               have hnb56 := NB304_330.out
               have hnc56 := NB330_304.out
               have hcz57_0 : wr.cell? ⟨gb304, 0, none⟩ = some (.slice A1_0 l1_0.length c1_0) := (kc BK304.out 0).trans rfl
               have hcz57_1 : wr.cell? ⟨gb304, 1, none⟩ = some (.slice A1_1 l1_1.length c1_1) := (kc BK304.out 1).trans rfl
               have hfz57_0 := blk_frozen BK304.out 0
               have hfz57_1 := blk_frozen BK304.out 1
               try go_wp2_with (first | ((with_reducible refine gate_callee (f := 31) rfl ?_); refine goesL_ (some 44) rfl rfl Try.func31 (by kernel_rfl) rfl #[.slice A1_0 l1_0.length c1_0, .int .i64 x8_2] rfl (by (try simp only [List.map_toArray, List.map_cons, List.map_nil]); first | done | rfl | (simp only [List.length_drop, List.length_take]; rfl)) ?_; (with_reducible refine (trefoilref04_Has.calls k2 _ _ l1_0 x8_2 true _ ?side1 ?side2 A37.out).mono ?_); (case side1 => repeat (first | exact (Kd.C_below HR1_0.out HB.out) | (with_reducible refine Kd.C_alloc ?_ _) | (with_reducible refine Kd.C_drewN ?_ _) | (with_reducible refine Kd.C_drew ?_))); (case side2 => exact HC1_0.out); rintro e w' ⟨rfl, ⟨nd, rfl⟩⟩; refine ⟨_, rfl, ?_⟩))
               (try (rw [drewN_self wr]; generalize hq_ : World.drewN wr _ = wr; have n0_ : Aside0 (Kd.R (Kd.int .i64) 3 wr w.heap.size (fun k_ => some k_ ≠ (.slice Ao34 t323.length co34 : Value).ownBlock ∧ some k_ ≠ (v327 : Value).ownBlock) (.slice Ao32 t320.length co32) t320) := ⟨by rw [← hq_]; exact (by (with_reducible repeat (first | apply ra | apply rn | apply rd_)); exact rm HO_331000.out (fun _ hk => ⟨hk.2, hk.1⟩))⟩; have n1_ : Aside0 (Kd.R (Kd.int .i64) 3 wr w.heap.size (fun k_ => some k_ ≠ (.slice Ao32 t320.length co32 : Value).ownBlock ∧ some k_ ≠ (v327 : Value).ownBlock) (.slice Ao34 t323.length co34) t323) := ⟨by rw [← hq_]; exact (by (with_reducible repeat (first | apply ra | apply rn | apply rd_)); exact rm HO_331001.out (fun _ hk => ⟨hk.2, hk.1⟩))⟩; have n2_ : Aside0 (Kd.R (Kd.int .i64) 3 wr w.heap.size (fun k_ => some k_ ≠ (.slice Ao32 t320.length co32 : Value).ownBlock ∧ some k_ ≠ (.slice Ao34 t323.length co34 : Value).ownBlock) v327 t326) := ⟨by rw [← hq_]; exact (zr HO_6)⟩; have n3_ : Aside0 (wr.heap[gb303]? = some (.cells #[.slice A0_0 l0_0.length c0_0, .slice A0_1 l0_1.length c0_1] 25 (0, 0))) := ⟨by rw [← hq_]; exact (zk BK303)⟩; have n4_ : Aside0 (wr.heap[gb304]? = some (.cells #[.slice A1_0 l1_0.length c1_0, .slice A1_1 l1_1.length c1_1] 27 (0, 0))) := ⟨by rw [← hq_]; exact (zk BK304)⟩; have n5_ : Aside0 (wr.heap[gb330]? = some (.cells #[.slice Ao32 t320.length co32, .slice Ao34 t323.length co34] 27 (0, 0))) := ⟨by rw [← hq_]; exact (zk BK330)⟩; have n6_ : Aside0 (Below w.heap.size w wr) := ⟨by rw [← hq_]; exact (by repeat (first | (with_reducible first | exact HB.out | apply wa | apply wn | apply wd | refine ws ?_ GE303.out | refine ws ?_ GE304.out | refine ws ?_ GE330.out) | exact HB.out))⟩; clear HO_331000 HO_331001 HO_6 BK303 BK304 BK330 HB hq_; have HO_331000 := n0_; have HO_331001 := n1_; have HO_6 := n2_; have BK303 := n3_; have BK304 := n4_; have BK330 := n5_; have HB := n6_; clear n0_ n1_ n2_ n3_ n4_ n5_ n6_))
               have n0_ := Z0 (rd_ HO_6.out)
               have n1_ := Z0 (rd_ HO_331000.out)
               have n2_ := Z0 (rd_ HO_331001.out)
               have n3_ := Z0 (kd_ BK303.out)
               have n4_ := Z0 (kd_ BK304.out)
               have n5_ := Z0 (kd_ BK330.out)
               have n6_ := Z0 (wd HB.out)
               clear HO_6
               clear HO_331000
               clear HO_331001
               clear BK303
               clear BK304
               clear BK330
               clear HB
               have HO_6 := n0_
               have HO_331000 := n1_
               have HO_331001 := n2_
               have BK303 := n3_
               have BK304 := n4_
               have BK330 := n5_
               have HB := n6_
               clear n0_ n1_ n2_ n3_ n4_ n5_ n6_
               have p332 : 0 ≤ (x8_2 : Int) := of_decide_eq_true (by first | (with_reducible assumption) | assumption)
               have q332 : x8_2 < (t323.length : Int) := of_decide_eq_true (by first | (with_reducible assumption) | assumption)
               obtain ⟨ad332, e332, hx332_0⟩ := Kd.at_int (rr HO_331001.out).2.2 x8_2 p332 q332
               cases e332
               replace p332 := eq_true p332
               replace q332 := eq_true q332
               have p333 : 0 ≤ (x8_2 : Int) := of_decide_eq_true (by first | (with_reducible assumption) | assumption)
               have q333 : x8_2 < (l1_1.length : Int) := of_decide_eq_true (by first | (with_reducible assumption) | assumption)
               obtain ⟨ad333, e333, hx333_0⟩ := Kd.at_int HR1_1.out x8_2 p333 q333
               have hw333_0 := hx333_0
               cases e333
               replace hx333_0 := (HB.out.cell (bl w _ hx333_0)).trans hx333_0
               replace p333 := eq_true p333
               replace q333 := eq_true q333
               obtain ⟨Ao59, co59, eo59⟩ := Kd.R_slice HO_6.out
               (first | subst eo59 | (injection eo59 with f1_ f2_ f3_; have f4_ := f1_.symm; have f5_ := f3_.symm; clear f1_ f2_ f3_; subst f4_; subst f5_))
               have p335 : 0 ≤ (x8_2 : Int) := of_decide_eq_true (by first | (with_reducible assumption) | assumption)
               have q335 : x8_2 < (l1_1.length : Int) := of_decide_eq_true (by first | (with_reducible assumption) | assumption)
               obtain ⟨ad335, e335, hx335_0⟩ := Kd.at_int HR1_1.out x8_2 p335 q335
               have hw335_0 := hx335_0
               obtain rfl : ad333 = ad335 := (by injection e335)
               replace hx335_0 := (HB.out.cell (bl w _ hx335_0)).trans hx335_0
               replace p335 := eq_true p335
               replace q335 := eq_true q335
               as_aux_lemma =>
               refine start_ (n := 36) (S := fun w' => w'.cell? ⟨gb330, 0, none⟩ = some (.slice Ao32 t320.length co32) ∧ w'.cell? ⟨gb330, 1, none⟩ = some (.slice (some ad332) t323.length co34) ∧ w'.cell? ⟨gb304, 0, none⟩ = some (.slice A1_0 l1_0.length c1_0) ∧ w'.cell? ⟨gb304, 1, none⟩ = some (.slice (some ad333) l1_1.length c1_1) ∧ w'.cell? (ad332.add (x8_2).toNat) = some (.int .i64 (rd t323 x8_2)) ∧ w'.cell? (ad333.add (x8_2).toNat) = some (.int .i64 (rd l1_1 x8_2)) ∧ w'.cell? (ad333.add (x8_2).toNat) = some (.int .i64 (rd l1_1 x8_2))) (ds := []) (bz 36 0) (by kernel_rfl) rfl rfl ⟨(kc BK330.out 0).trans rfl, (kc BK330.out 1).trans rfl, (kc BK304.out 0).trans rfl, (kc BK304.out 1).trans rfl, hx332_0, ((HB.out.cell (bl w _ hw333_0)).trans hw333_0), ((HB.out.cell (bl w _ hw335_0)).trans hw335_0)⟩ (fun hHeld => ?_); refine with_tabW trefoillaw11_ListTick.tab12 trefoillaw11_ListTick.bits12 (fun HT_ HW_ => ?_)
               generalize wr.drew = w58 at HO_6 HO_331000 HO_331001 BK303 BK304 BK330 HB hx332_0 hx333_0 hx335_0 hHeld ⊢
               refine pu 0 (some 45) (bz 36 1) HT_ ?_
               refine pu 1 (some 46) (bz 36 3) HT_ ?_
               refine tk7 2 (some 47) (bz 36 7) HT_ HW_ hHeld ?_
               refine pu 3 (some 48) (bz 36 15) HT_ ?_
               refine pu 4 (some 49) (bz 36 31) HT_ ?_
               refine pu 5 (some 50) (bz 36 63) HT_ ?_
               refine pu 6 (some 51) (bz 36 127) HT_ ?_
               refine pu 8 (some 53) (bz 36 383) HT_ ?_
               refine pu 11 (some 56) (bz 36 2431) HT_ ?_
               refine pu 13 (some 58) (bz 36 10623) HT_ ?_
               refine pu 16 (some 61) (bz 36 76159) HT_ ?_
               refine tk7 7 (some 52) (bz 36 76287) HT_ HW_ hHeld ?_
               refine pu 9 (some 54) (bz 36 76799) HT_ ?_
               refine tk7 10 (some 55) (bz 36 77823) HT_ HW_ hHeld ?_
               refine tk7 12 (some 57) (bz 36 81919) HT_ HW_ hHeld ?_
               refine pu 14 (some 59) (bz 36 98303) HT_ ?_
               refine tk7 15 (some 60) (bz 36 131071) HT_ HW_ hHeld ?_
               refine pu 17 (some 62) (bz 36 262143) HT_ ?_
               refine pu 18 (some 63) (bz 36 524287) HT_ ?_
               refine pu 19 (some 64) (bz 36 0xfffff) HT_ ?_
               refine pu 20 (some 65) (bz 36 0x1fffff) HT_ ?_
               refine pu 21 (some 66) (bz 36 0x3fffff) HT_ ?_
               refine pu 22 (some 67) (bz 36 0x7fffff) HT_ ?_
               refine pu 24 (some 69) (bz 36 0x17fffff) HT_ ?_
               refine pu 25 (some 70) (bz 36 0x37fffff) HT_ ?_
               refine one_ (i := 23) (N := some 68) (bz 36 0x3ffffff) rfl rfl (one_of HT_.out (by kernel_rfl)) (by decide) (fun K hK => ?_)
               refine goes_ Try.func31 (by kernel_rfl) rfl #[.slice Ao59 t326.length co59, .int .i64 x8_2] (by rfl) rfl rfl (by (try simp only [List.map_toArray, List.map_cons, List.map_nil]); first | done | rfl | (simp only [List.length_drop, List.length_take]; rfl)) ?_
               with_reducible refine (trefoilref04_Has.calls k2 _ _ t326 x8_2 t334 _ ?side1 ?side2 A47.out).mono ?_
               (case side1 => repeat (first | exact (rr HO_6.out).2.2 | (with_reducible refine Kd.C_alloc ?_ _) | (with_reducible refine Kd.C_drewN ?_ _) | (with_reducible refine Kd.C_drew ?_)))
               (case side2 => exact (rr HO_6.out).2.1)
               rintro e w' ⟨rfl, ⟨nd, rfl⟩⟩
               refine ⟨_, rfl, ?_⟩
               refine hK.out _ _ ⟨(kc BK330.out 0).trans rfl, (kc BK330.out 1).trans rfl, (kc BK304.out 0).trans rfl, (kc BK304.out 1).trans rfl, hHeld.2.2.2.2.1, ((HB.out.cell (bl w _ hw333_0)).trans hw333_0), ((HB.out.cell (bl w _ hw335_0)).trans hw335_0)⟩ (fun hHeld => ?_)
               clear hK K
               refine norm_ (a' := ?_) ?_ ?_
               rotate_left
               ·show Act.put _ (some 68) _ = _
                simp only [Act.put, y0, y1, y2, i64_w, i32_w]
                rfl
               refine pu 26 (some 71) (bz 36 0x7ffffff) HT_ ?_
               refine pu 27 (some 72) (bz 36 0xfffffff) HT_ ?_
               refine pu 29 (some 74) (bz 36 0x2fffffff) HT_ ?_
               refine tk7 28 (some 73) (bz 36 0x3fffffff) HT_ HW_ hHeld ?_
               refine pu 30 (some 75) (bz 36 0x7fffffff) HT_ ?_
               refine tk7 31 (some 76) (bz 36 0xffffffff) HT_ HW_ hHeld ?_
               refine pu 32 (some 77) (bz 36 0x1ffffffff) HT_ ?_
               refine pu 33 (some 78) (bz 36 0x3ffffffff) HT_ ?_
               refine pu 34 (some 79) (bz 36 0x7ffffffff) HT_ ?_
               refine pu 35 (some 80) (bz 36 0xfffffffff) HT_ ?_
               refine done_ (done_of HT_.out (by kernel_rfl)) ?_
               try go_wp2
               go_roundg k2
               case measure => have := HJ2.out; have := HK2.out; omega
               case rel => exact ⟨(wrap64 (x8_2 + 1)), (by first | rfl | (simp; done) | (simp [*]; done)), H', ⟨by have := HJ2.out; have := HK2.out; omega⟩, ⟨by (with_reducible repeat (first | apply ra | apply rn | apply rd_)); exact HO_6.out⟩, ⟨by (with_reducible repeat (first | apply ra | apply rn | apply rd_)); first | exact HO_331000.out | exact rm HO_331000.out (fun _ h_ => ⟨h_.2, h_.1⟩)⟩, ⟨by (with_reducible repeat (first | apply ra | apply rn | apply rd_)); first | exact HO_331001.out | exact rm HO_331001.out (fun _ h_ => ⟨h_.2, h_.1⟩)⟩, ⟨by (with_reducible repeat (first | refine kn ?_ _ | refine kd_ ?_ | refine ka ?_ _)); exact BK303.out⟩, ⟨by (with_reducible repeat (first | refine kn ?_ _ | refine kd_ ?_ | refine ka ?_ _)); exact BK304.out⟩, ⟨by (with_reducible repeat (first | refine kn ?_ _ | refine kd_ ?_ | refine ka ?_ _)); exact BK330.out⟩, ⟨by repeat (first | (with_reducible first | exact HB.out | apply wa | apply wn | apply wd | refine ws ?_ GE303.out | refine ws ?_ GE304.out | refine ws ?_ GE330.out) | exact HB.out)⟩⟩
             ·exact absurd rfl c48
            ·rw [if_neg c46] at H
             have c46b0 : ((rd t323 x8_2) == (wrap64 ((rd l1_1 x8_2) - 1))) = false := beq_eq_false_iff_ne.mpr c46
             have c46b1 : ((rd t323 x8_2) != (wrap64 ((rd l1_1 x8_2) - 1))) = true := bne_iff_ne.mpr c46
             exact absurd ((Option.some.inj H).trans hrt.out) (by decide)
           ·rw [if_neg c45] at H
            exact absurd H (by simp)
          ·rw [if_neg c44] at H
           exact absurd H (by simp)
        ·replace c38 := Bool.eq_false_iff.mpr c38
         subst c38
         have H1 : (if x8_2 ≥ (t323.length : Int) then (some false) else (if 0 ≤ x8_2 then (if x8_2 < (t323.length : Int) then (if (rd t323 x8_2) = (wrap64 ((rd l1_1 x8_2) - 0)) then ((trefoilref04_Has.f k2 t326 x8_2).bind fun t338 => (if 0 = 1 then (if (t338 != ((rd l1_1 x8_2) == 1)) = true then (some false) else (trefoillaw11_ListTick.l0 k2 t326 (wrap64 (x8_2 + 1)) l0_0 l0_1 l1_0 l1_1 t320 t323)) else (if (t338 != false) = true then (some false) else (trefoillaw11_ListTick.l0 k2 t326 (wrap64 (x8_2 + 1)) l0_0 l0_1 l1_0 l1_1 t320 t323)))) else (some false)) else (none)) else (none))) = some r := by rw [if_neg (show ¬ (false = true) by decide)] at H; exact H
         clear H
         have H := H1
         clear H1
         by_cases c75 : x8_2 ≥ (t323.length : Int)
         ·rw [if_pos c75] at H
          have c75b0 : decide ((t323.length : Int) ≤ x8_2) = true := decide_eq_true c75
          clear c75
          exact absurd ((Option.some.inj H).trans hrt.out) (by decide)
         ·rw [if_neg c75] at H
          have c75b0 : decide ((t323.length : Int) ≤ x8_2) = false := decide_eq_false c75
          clear c75
          by_cases c80 : 0 ≤ x8_2
          ·rw [if_pos c80] at H
           have c80b0 : decide (0 ≤ x8_2) = true := decide_eq_true c80
           clear c80
           by_cases c81 : x8_2 < (t323.length : Int)
           ·rw [if_pos c81] at H
            have c81b0 : decide (x8_2 < (t323.length : Int)) = true := decide_eq_true c81
            clear c81
            by_cases c82 : (rd t323 x8_2) = (wrap64 ((rd l1_1 x8_2) - 0))
            ·rw [if_pos c82] at H
             have c82b0 : ((rd t323 x8_2) == (wrap64 ((rd l1_1 x8_2) - 0))) = true := beq_iff_eq.mpr c82
             have c82b0z := c82b0; rw [Int.sub_zero] at c82b0z
             have c82b1 : ((rd t323 x8_2) != (wrap64 ((rd l1_1 x8_2) - 0))) = false := bne_eq_false_iff_eq.mpr c82
             have c82b1z := c82b1; rw [Int.sub_zero] at c82b1z
             clear c82
             replace H := Option.bind_eq_some_iff.mp H
             obtain ⟨t338, A830, H⟩ := H
             replace H : (if 0 = 1 then (if (t338 != ((rd l1_1 x8_2) == 1)) = true then (some false) else (trefoillaw11_ListTick.l0 k2 t326 (wrap64 (x8_2 + 1)) l0_0 l0_1 l1_0 l1_1 t320 t323)) else (if (t338 != false) = true then (some false) else (trefoillaw11_ListTick.l0 k2 t326 (wrap64 (x8_2 + 1)) l0_0 l0_1 l1_0 l1_1 t320 t323))) = some r := H
             have A83 := Z0 A830
             clear A830
             by_cases c84 : 0 = 1
             ·exact absurd c84 (by decide)
             ·rw [if_neg c84] at H
              have c84b0 : (0 == 1) = false := beq_eq_false_iff_ne.mpr c84
              have c84b1 : (0 != 1) = true := bne_iff_ne.mpr c84
              by_cases c96 : (t338 != false) = true
              ·rw [if_pos c96] at H
               have c96b0 : (t338 != false) = true := c96
               (try (have c96b1 : decide (t338 = false) = false := by simpa using c96))
               (try (have c96b2 : (t338 == false) = false := by simpa using c96))
               (try (have c96b3 : ¬ (t338 = false) := by simpa using c96))
               clear c96
               exact absurd ((Option.some.inj H).trans hrt.out) (by decide)
              ·rw [if_neg c96] at H
               have c96b0 : (t338 != false) = false := by simpa using c96
               (try (have c96b1 : decide (t338 = false) = true := by simpa using c96))
               (try (have c96b2 : (t338 == false) = true := by simpa using c96))
               clear c96
               have H' := Z0 H
               clear H
               have hnb102 := NB304_303.out
               have hnc102 := NB303_304.out
               have hnb103 := NB304_330.out
               have hnc103 := NB330_304.out
               have hcz104_0 : wr.cell? ⟨gb304, 0, none⟩ = some (.slice A1_0 l1_0.length c1_0) := (kc BK304.out 0).trans rfl
               have hcz104_1 : wr.cell? ⟨gb304, 1, none⟩ = some (.slice A1_1 l1_1.length c1_1) := (kc BK304.out 1).trans rfl
               have hfz104_0 := blk_frozen BK304.out 0
               have hfz104_1 := blk_frozen BK304.out 1
               try go_wp2_with (first | ((with_reducible refine gate_callee (f := 31) rfl ?_); refine goesL_ (some 44) rfl rfl Try.func31 (by kernel_rfl) rfl #[.slice A1_0 l1_0.length c1_0, .int .i64 x8_2] rfl (by (try simp only [List.map_toArray, List.map_cons, List.map_nil]); first | done | rfl | (simp only [List.length_drop, List.length_take]; rfl)) ?_; (with_reducible refine (trefoilref04_Has.calls k2 _ _ l1_0 x8_2 false _ ?side1 ?side2 A37.out).mono ?_); (case side1 => repeat (first | exact (Kd.C_below HR1_0.out HB.out) | (with_reducible refine Kd.C_alloc ?_ _) | (with_reducible refine Kd.C_drewN ?_ _) | (with_reducible refine Kd.C_drew ?_))); (case side2 => exact HC1_0.out); rintro e w' ⟨rfl, ⟨nd, rfl⟩⟩; refine ⟨_, rfl, ?_⟩))
               (try (rw [drewN_self wr]; generalize hq_ : World.drewN wr _ = wr; have n0_ : Aside0 (Kd.R (Kd.int .i64) 3 wr w.heap.size (fun k_ => some k_ ≠ (.slice Ao34 t323.length co34 : Value).ownBlock ∧ some k_ ≠ (v327 : Value).ownBlock) (.slice Ao32 t320.length co32) t320) := ⟨by rw [← hq_]; exact (by (with_reducible repeat (first | apply ra | apply rn | apply rd_)); exact rm HO_331000.out (fun _ hk => ⟨hk.2, hk.1⟩))⟩; have n1_ : Aside0 (Kd.R (Kd.int .i64) 3 wr w.heap.size (fun k_ => some k_ ≠ (.slice Ao32 t320.length co32 : Value).ownBlock ∧ some k_ ≠ (v327 : Value).ownBlock) (.slice Ao34 t323.length co34) t323) := ⟨by rw [← hq_]; exact (by (with_reducible repeat (first | apply ra | apply rn | apply rd_)); exact rm HO_331001.out (fun _ hk => ⟨hk.2, hk.1⟩))⟩; have n2_ : Aside0 (Kd.R (Kd.int .i64) 3 wr w.heap.size (fun k_ => some k_ ≠ (.slice Ao32 t320.length co32 : Value).ownBlock ∧ some k_ ≠ (.slice Ao34 t323.length co34 : Value).ownBlock) v327 t326) := ⟨by rw [← hq_]; exact (zr HO_6)⟩; have n3_ : Aside0 (wr.heap[gb303]? = some (.cells #[.slice A0_0 l0_0.length c0_0, .slice A0_1 l0_1.length c0_1] 25 (0, 0))) := ⟨by rw [← hq_]; exact (zk BK303)⟩; have n4_ : Aside0 (wr.heap[gb304]? = some (.cells #[.slice A1_0 l1_0.length c1_0, .slice A1_1 l1_1.length c1_1] 27 (0, 0))) := ⟨by rw [← hq_]; exact (zk BK304)⟩; have n5_ : Aside0 (wr.heap[gb330]? = some (.cells #[.slice Ao32 t320.length co32, .slice Ao34 t323.length co34] 27 (0, 0))) := ⟨by rw [← hq_]; exact (zk BK330)⟩; have n6_ : Aside0 (Below w.heap.size w wr) := ⟨by rw [← hq_]; exact (by repeat (first | (with_reducible first | exact HB.out | apply wa | apply wn | apply wd | refine ws ?_ GE303.out | refine ws ?_ GE304.out | refine ws ?_ GE330.out) | exact HB.out))⟩; clear HO_331000 HO_331001 HO_6 BK303 BK304 BK330 HB hq_; have HO_331000 := n0_; have HO_331001 := n1_; have HO_6 := n2_; have BK303 := n3_; have BK304 := n4_; have BK330 := n5_; have HB := n6_; clear n0_ n1_ n2_ n3_ n4_ n5_ n6_))
               have n0_ := Z0 (rd_ HO_6.out)
               have n1_ := Z0 (rd_ HO_331000.out)
               have n2_ := Z0 (rd_ HO_331001.out)
               have n3_ := Z0 (kd_ BK303.out)
               have n4_ := Z0 (kd_ BK304.out)
               have n5_ := Z0 (kd_ BK330.out)
               have n6_ := Z0 (wd HB.out)
               clear HO_6
               clear HO_331000
               clear HO_331001
               clear BK303
               clear BK304
               clear BK330
               clear HB
               have HO_6 := n0_
               have HO_331000 := n1_
               have HO_331001 := n2_
               have BK303 := n3_
               have BK304 := n4_
               have BK330 := n5_
               have HB := n6_
               clear n0_ n1_ n2_ n3_ n4_ n5_ n6_
               have p336 : 0 ≤ (x8_2 : Int) := of_decide_eq_true (by first | (with_reducible assumption) | assumption)
               have q336 : x8_2 < (t323.length : Int) := of_decide_eq_true (by first | (with_reducible assumption) | assumption)
               obtain ⟨ad336, e336, hx336_0⟩ := Kd.at_int (rr HO_331001.out).2.2 x8_2 p336 q336
               cases e336
               replace p336 := eq_true p336
               replace q336 := eq_true q336
               have p337 : 0 ≤ (x8_2 : Int) := of_decide_eq_true (by first | (with_reducible assumption) | assumption)
               have q337 : x8_2 < (l1_1.length : Int) := of_decide_eq_true (by first | (with_reducible assumption) | assumption)
               obtain ⟨ad337, e337, hx337_0⟩ := Kd.at_int HR1_1.out x8_2 p337 q337
               have hw337_0 := hx337_0
               cases e337
               replace hx337_0 := (HB.out.cell (bl w _ hx337_0)).trans hx337_0
               replace p337 := eq_true p337
               replace q337 := eq_true q337
               obtain ⟨Ao106, co106, eo106⟩ := Kd.R_slice HO_6.out
               (first | subst eo106 | (injection eo106 with f1_ f2_ f3_; have f4_ := f1_.symm; have f5_ := f3_.symm; clear f1_ f2_ f3_; subst f4_; subst f5_))
               as_aux_lemma =>
               refine start_ (n := 36) (S := fun w' => w'.cell? ⟨gb330, 0, none⟩ = some (.slice Ao32 t320.length co32) ∧ w'.cell? ⟨gb330, 1, none⟩ = some (.slice (some ad336) t323.length co34) ∧ w'.cell? ⟨gb304, 0, none⟩ = some (.slice A1_0 l1_0.length c1_0) ∧ w'.cell? ⟨gb304, 1, none⟩ = some (.slice (some ad337) l1_1.length c1_1) ∧ w'.cell? (ad336.add (x8_2).toNat) = some (.int .i64 (rd t323 x8_2)) ∧ w'.cell? (ad337.add (x8_2).toNat) = some (.int .i64 (rd l1_1 x8_2))) (ds := []) (bz 36 0) (by kernel_rfl) rfl rfl ⟨(kc BK330.out 0).trans rfl, (kc BK330.out 1).trans rfl, (kc BK304.out 0).trans rfl, (kc BK304.out 1).trans rfl, hx336_0, ((HB.out.cell (bl w _ hw337_0)).trans hw337_0)⟩ (fun hHeld => ?_); refine with_tabW trefoillaw11_ListTick.tab12 trefoillaw11_ListTick.bits12 (fun HT_ HW_ => ?_)
               generalize wr.drew = w105 at HO_6 HO_331000 HO_331001 BK303 BK304 BK330 HB hx336_0 hx337_0 hHeld ⊢
               refine pu 0 (some 45) (bz 36 1) HT_ ?_
               refine pu 1 (some 46) (bz 36 3) HT_ ?_
               refine tk6 2 (some 47) (bz 36 7) HT_ HW_ hHeld ?_
               refine pu 3 (some 48) (bz 36 15) HT_ ?_
               refine pu 4 (some 49) (bz 36 31) HT_ ?_
               refine pu 5 (some 50) (bz 36 63) HT_ ?_
               refine pu 6 (some 51) (bz 36 127) HT_ ?_
               refine pu 8 (some 53) (bz 36 383) HT_ ?_
               refine pu 11 (some 56) (bz 36 2431) HT_ ?_
               refine pu 13 (some 58) (bz 36 10623) HT_ ?_
               refine pu 16 (some 61) (bz 36 76159) HT_ ?_
               refine tk6 7 (some 52) (bz 36 76287) HT_ HW_ hHeld ?_
               refine pu 9 (some 54) (bz 36 76799) HT_ ?_
               refine tk6 10 (some 55) (bz 36 77823) HT_ HW_ hHeld ?_
               refine tk6 12 (some 57) (bz 36 81919) HT_ HW_ hHeld ?_
               refine pu 14 (some 59) (bz 36 98303) HT_ ?_
               refine tk6 15 (some 60) (bz 36 131071) HT_ HW_ hHeld ?_
               refine pu 17 (some 62) (bz 36 262143) HT_ ?_
               refine pu 18 (some 63) (bz 36 524287) HT_ ?_
               refine pu 19 (some 64) (bz 36 0xfffff) HT_ ?_
               refine pu 20 (some 65) (bz 36 0x1fffff) HT_ ?_
               refine pu 21 (some 66) (bz 36 0x3fffff) HT_ ?_
               refine pu 22 (some 67) (bz 36 0x7fffff) HT_ ?_
               refine pu 24 (some 69) (bz 36 0x17fffff) HT_ ?_
               refine pu 25 (some 70) (bz 36 0x37fffff) HT_ ?_
               refine one_ (i := 23) (N := some 68) (bz 36 0x3ffffff) rfl rfl (one_of HT_.out (by kernel_rfl)) (by decide) (fun K hK => ?_)
               refine goes_ Try.func31 (by kernel_rfl) rfl #[.slice Ao106 t326.length co106, .int .i64 x8_2] (by rfl) rfl rfl (by (try simp only [List.map_toArray, List.map_cons, List.map_nil]); first | done | rfl | (simp only [List.length_drop, List.length_take]; rfl)) ?_
               with_reducible refine (trefoilref04_Has.calls k2 _ _ t326 x8_2 t338 _ ?side1 ?side2 A83.out).mono ?_
               (case side1 => repeat (first | exact (rr HO_6.out).2.2 | (with_reducible refine Kd.C_alloc ?_ _) | (with_reducible refine Kd.C_drewN ?_ _) | (with_reducible refine Kd.C_drew ?_)))
               (case side2 => exact (rr HO_6.out).2.1)
               rintro e w' ⟨rfl, ⟨nd, rfl⟩⟩
               refine ⟨_, rfl, ?_⟩
               refine hK.out _ _ ⟨(kc BK330.out 0).trans rfl, (kc BK330.out 1).trans rfl, (kc BK304.out 0).trans rfl, (kc BK304.out 1).trans rfl, hHeld.2.2.2.2.1, ((HB.out.cell (bl w _ hw337_0)).trans hw337_0)⟩ (fun hHeld => ?_)
               clear hK K
               refine norm_ (a' := ?_) ?_ ?_
               rotate_left
               ·show Act.put _ (some 68) _ = _
                simp only [Act.put, y0, y1, y2, i64_w, i32_w]
                rfl
               refine pu 26 (some 71) (bz 36 0x7ffffff) HT_ ?_
               refine pv 27 (some 72) (bz 36 0xfffffff) HT_ ?_
               refine pv 28 (some 73) (bz 36 0x1fffffff) HT_ ?_
               refine pv 29 (some 74) (bz 36 0x3fffffff) HT_ ?_
               refine pv 30 (some 75) (bz 36 0x7fffffff) HT_ ?_
               refine pv 31 (some 76) (bz 36 0xffffffff) HT_ ?_
               refine pv 32 (some 77) (bz 36 0x1ffffffff) HT_ ?_
               refine pu 33 (some 78) (bz 36 0x3ffffffff) HT_ ?_
               refine pu 34 (some 79) (bz 36 0x7ffffffff) HT_ ?_
               refine pu 35 (some 80) (bz 36 0xfffffffff) HT_ ?_
               refine done_ (done_of HT_.out (by kernel_rfl)) ?_
               try go_wp2
               go_roundg k2
               case measure => have := HJ2.out; have := HK2.out; omega
               case rel => exact ⟨(wrap64 (x8_2 + 1)), (by first | rfl | (simp; done) | (simp [*]; done)), H', ⟨by have := HJ2.out; have := HK2.out; omega⟩, ⟨by (with_reducible repeat (first | apply ra | apply rn | apply rd_)); exact HO_6.out⟩, ⟨by (with_reducible repeat (first | apply ra | apply rn | apply rd_)); first | exact HO_331000.out | exact rm HO_331000.out (fun _ h_ => ⟨h_.2, h_.1⟩)⟩, ⟨by (with_reducible repeat (first | apply ra | apply rn | apply rd_)); first | exact HO_331001.out | exact rm HO_331001.out (fun _ h_ => ⟨h_.2, h_.1⟩)⟩, ⟨by (with_reducible repeat (first | refine kn ?_ _ | refine kd_ ?_ | refine ka ?_ _)); exact BK303.out⟩, ⟨by (with_reducible repeat (first | refine kn ?_ _ | refine kd_ ?_ | refine ka ?_ _)); exact BK304.out⟩, ⟨by (with_reducible repeat (first | refine kn ?_ _ | refine kd_ ?_ | refine ka ?_ _)); exact BK330.out⟩, ⟨by repeat (first | (with_reducible first | exact HB.out | apply wa | apply wn | apply wd | refine ws ?_ GE303.out | refine ws ?_ GE304.out | refine ws ?_ GE330.out) | exact HB.out)⟩⟩
            ·rw [if_neg c82] at H
             have c82b0 : ((rd t323 x8_2) == (wrap64 ((rd l1_1 x8_2) - 0))) = false := beq_eq_false_iff_ne.mpr c82
             have c82b0z := c82b0; rw [Int.sub_zero] at c82b0z
             have c82b1 : ((rd t323 x8_2) != (wrap64 ((rd l1_1 x8_2) - 0))) = true := bne_iff_ne.mpr c82
             have c82b1z := c82b1; rw [Int.sub_zero] at c82b1z
             exact absurd ((Option.some.inj H).trans hrt.out) (by decide)
           ·rw [if_neg c81] at H
            exact absurd H (by simp)
          ·rw [if_neg c80] at H
           exact absurd H (by simp)
       ·rw [if_neg c36] at H
        have c36b0 : decide (x8_2 < (l1_1.length : Int)) = false := decide_eq_false c36
        clear c36
        have H' := Z0 H
        clear H
        have hnb111 := NB304_303.out
        have hnc111 := NB303_304.out
        have hnb112 := NB304_330.out
        have hnc112 := NB330_304.out
        have hcz113_0 : wr.cell? ⟨gb304, 0, none⟩ = some (.slice A1_0 l1_0.length c1_0) := (kc BK304.out 0).trans rfl
        have hcz113_1 : wr.cell? ⟨gb304, 1, none⟩ = some (.slice A1_1 l1_1.length c1_1) := (kc BK304.out 1).trans rfl
        have hfz113_0 := blk_frozen BK304.out 0
        have hfz113_1 := blk_frozen BK304.out 1
        go_wp2
        go_loopg [10] k2 (fun kq v10 w' => ∃ (x10_3 : Int), v10 = .int .i64 x10_3 ∧ Aside0 (trefoillaw11_ListTick.l1 kq t326 x10_3 l0_0 l0_1 l1_0 l1_1 t320 t323 = some r) ∧ Aside0 (kq ≤ k2) ∧ Aside0 (Kd.R (Kd.int .i64) 3 w' w.heap.size (fun k_ => some k_ ≠ ((.slice Ao32 t320.length co32) : Value).ownBlock ∧ some k_ ≠ ((.slice Ao34 t323.length co34) : Value).ownBlock) v327 t326) ∧ Aside0 (Kd.R (Kd.int .i64) 3 w' w.heap.size (fun k_ => some k_ ≠ (v327 : Value).ownBlock ∧ some k_ ≠ ((.slice Ao34 t323.length co34) : Value).ownBlock) (.slice Ao32 t320.length co32) t320) ∧ Aside0 (Kd.R (Kd.int .i64) 3 w' w.heap.size (fun k_ => some k_ ≠ (v327 : Value).ownBlock ∧ some k_ ≠ ((.slice Ao32 t320.length co32) : Value).ownBlock) (.slice Ao34 t323.length co34) t323) ∧ Aside0 (w'.heap[gb303]? = some (.cells #[(.slice A0_0 l0_0.length c0_0), (.slice A0_1 l0_1.length c0_1)] 25 (0, 0))) ∧ Aside0 (w'.heap[gb304]? = some (.cells #[(.slice A1_0 l1_0.length c1_0), (.slice A1_1 l1_1.length c1_1)] 27 (0, 0))) ∧ Aside0 (w'.heap[gb330]? = some (.cells #[(.slice Ao32 t320.length co32), (.slice Ao34 t323.length co34)] 27 (0, 0))) ∧ Aside0 (Below w.heap.size w w'))
        case atStart => exact ⟨(0), (by first | rfl | (simp; done) | (simp [*]; done)), H', ⟨Nat.le_refl _⟩, ⟨by (with_reducible repeat (first | apply ra | apply rn | apply rd_)); exact HO_6.out⟩, ⟨by (with_reducible repeat (first | apply ra | apply rn | apply rd_)); exact HO_331000.out⟩, ⟨by (with_reducible repeat (first | apply ra | apply rn | apply rd_)); exact HO_331001.out⟩, ⟨by (with_reducible repeat (first | refine kn ?_ _ | refine kd_ ?_ | refine ka ?_ _)); exact BK303.out⟩, ⟨by (with_reducible repeat (first | refine kn ?_ _ | refine kd_ ?_ | refine ka ?_ _)); exact BK304.out⟩, ⟨by (with_reducible repeat (first | refine kn ?_ _ | refine kd_ ?_ | refine ka ?_ _)); exact BK330.out⟩, ⟨by repeat (first | (with_reducible first | exact HB.out | apply wa | apply wn | apply wd | refine ws ?_ GE303.out | refine ws ?_ GE304.out | refine ws ?_ GE330.out) | exact HB.out)⟩⟩
        case round =>
         as_aux_lemma =>
         clear H'
         try clear c1
         try clear p2
         try clear c3
         try clear p3
         try clear q3
         try clear hx3
         try clear p6
         try clear c8
         try clear c10
         try clear c11
         try clear c31
         try clear p33
         try clear q33
         try clear hx33
         try clear c36
         try clear c36b0
         try clear p64
         try clear c80
         try clear c81
         try clear c82
         try clear c82b0
         try clear c82b1
         try clear c107
         try clear c108
         try clear c111
         try clear c112
         try clear hcz109_0
         try clear hcz109_1
         try clear hcz113_0
         try clear hcz113_1
         try clear hfz109_0
         try clear hfz109_1
         try clear hfz113_0
         try clear hfz113_1
         try clear hx336_0
         try clear hx337_0
         try clear p336
         try clear p337
         try clear q336
         try clear q337
         obtain ⟨x10_3, rfl, HA, HK3, HO_6, HO_331000, HO_331001, BK303, BK304, BK330, HB⟩ := hrel
         cases gk with
         | zero => exact absurd HA.out (by simp [trefoillaw11_ListTick.l1])
         | succ k3 =>
          have H := HA.out
          clear HA
          simp only [trefoillaw11_ListTick.l1] at H
          by_cases c114 : x10_3 < (l1_0.length : Int)
          ·rw [if_pos c114] at H
           have c114b0 : decide (x10_3 < (l1_0.length : Int)) = true := decide_eq_true c114
           clear c114
           by_cases c115 : x10_3 ≥ (t320.length : Int)
           ·rw [if_pos c115] at H
            have c115b0 : decide ((t320.length : Int) ≤ x10_3) = true := decide_eq_true c115
            clear c115
            exact absurd ((Option.some.inj H).trans hrt.out) (by decide)
           ·rw [if_neg c115] at H
            have c115b0 : decide ((t320.length : Int) ≤ x10_3) = false := decide_eq_false c115
            clear c115
            by_cases c120 : 0 ≤ x10_3
            ·rw [if_pos c120] at H
             have c120b0 : decide (0 ≤ x10_3) = true := decide_eq_true c120
             clear c120
             by_cases c121 : x10_3 < (t320.length : Int)
             ·rw [if_pos c121] at H
              have c121b0 : decide (x10_3 < (t320.length : Int)) = true := decide_eq_true c121
              clear c121
              by_cases c122 : (rd t320 x10_3) = (rd l1_0 x10_3)
              ·rw [if_pos c122] at H
               have c122b0 : ((rd t320 x10_3) == (rd l1_0 x10_3)) = true := beq_iff_eq.mpr c122
               have c122b1 : ((rd t320 x10_3) != (rd l1_0 x10_3)) = false := bne_eq_false_iff_eq.mpr c122
               clear c122
               by_cases c123 : (rd l1_0 x10_3) ≥ 0
               ·rw [if_pos c123] at H
                have c123b0 : decide (0 ≤ (rd l1_0 x10_3)) = true := decide_eq_true c123
                clear c123
                replace H := Option.bind_eq_some_iff.mp H
                obtain ⟨t359, A1240, H⟩ := H
                replace H : (if t359 = true then (some false) else (trefoillaw11_ListTick.l1 k3 t326 (wrap64 (x10_3 + 1)) l0_0 l0_1 l1_0 l1_1 t320 t323)) = some r := H
                have A124 := Z0 A1240
                clear A1240
                by_cases c125 : t359 = true
                ·subst c125
                 have H1 : (some false) = some r := by rw [if_pos rfl] at H; exact H
                 clear H
                 have H := H1
                 clear H1
                 exact absurd ((Option.some.inj H).trans hrt.out) (by decide)
                ·replace c125 := Bool.eq_false_iff.mpr c125
                 subst c125
                 have H1 : (trefoillaw11_ListTick.l1 k3 t326 (wrap64 (x10_3 + 1)) l0_0 l0_1 l1_0 l1_1 t320 t323) = some r := by rw [if_neg (show ¬ (false = true) by decide)] at H; exact H
                 clear H
                 have H := H1
                 clear H1
                 have H' := Z0 H
                 clear H
                 have hnb131 := NB304_303.out
                 have hnc131 := NB303_304.out
                 have hnb132 := NB304_330.out
                 have hnc132 := NB330_304.out
                 have hcz133_0 : wr.cell? ⟨gb304, 0, none⟩ = some (.slice A1_0 l1_0.length c1_0) := (kc BK304.out 0).trans rfl
                 have hcz133_1 : wr.cell? ⟨gb304, 1, none⟩ = some (.slice A1_1 l1_1.length c1_1) := (kc BK304.out 1).trans rfl
                 have hfz133_0 := blk_frozen BK304.out 0
                 have hfz133_1 := blk_frozen BK304.out 1
                 try go_wp2
                 have n0_ := Z0 (rd_ HO_6.out)
                 have n1_ := Z0 (rd_ HO_331000.out)
                 have n2_ := Z0 (rd_ HO_331001.out)
                 have n3_ := Z0 (kd_ BK303.out)
                 have n4_ := Z0 (kd_ BK304.out)
                 have n5_ := Z0 (kd_ BK330.out)
                 have n6_ := Z0 (wd HB.out)
                 clear HO_6
                 clear HO_331000
                 clear HO_331001
                 clear BK303
                 clear BK304
                 clear BK330
                 clear HB
                 have HO_6 := n0_
                 have HO_331000 := n1_
                 have HO_331001 := n2_
                 have BK303 := n3_
                 have BK304 := n4_
                 have BK330 := n5_
                 have HB := n6_
                 clear n0_ n1_ n2_ n3_ n4_ n5_ n6_
                 have p353 : 0 ≤ (x10_3 : Int) := of_decide_eq_true (by first | (with_reducible assumption) | assumption)
                 have q353 : x10_3 < (t320.length : Int) := of_decide_eq_true (by first | (with_reducible assumption) | assumption)
                 obtain ⟨ad353, e353, hx353_0⟩ := Kd.at_int (rr HO_331000.out).2.2 x10_3 p353 q353
                 cases e353
                 replace p353 := eq_true p353
                 replace q353 := eq_true q353
                 have p354 : 0 ≤ (x10_3 : Int) := of_decide_eq_true (by first | (with_reducible assumption) | assumption)
                 have q354 : x10_3 < (l1_0.length : Int) := of_decide_eq_true (by first | (with_reducible assumption) | assumption)
                 obtain ⟨ad354, e354, hx354_0⟩ := Kd.at_int HR1_0.out x10_3 p354 q354
                 have hw354_0 := hx354_0
                 cases e354
                 replace hx354_0 := (HB.out.cell (bl w _ hx354_0)).trans hx354_0
                 replace p354 := eq_true p354
                 replace q354 := eq_true q354
                 have p355 : 0 ≤ (x10_3 : Int) := of_decide_eq_true (by first | (with_reducible assumption) | assumption)
                 have q355 : x10_3 < (t320.length : Int) := of_decide_eq_true (by first | (with_reducible assumption) | assumption)
                 obtain ⟨ad355, e355, hx355_0⟩ := Kd.at_int (rr HO_331000.out).2.2 x10_3 p355 q355
                 obtain rfl : ad353 = ad355 := (by injection e355)
                 replace p355 := eq_true p355
                 replace q355 := eq_true q355
                 have p356 : 0 ≤ (x10_3 : Int) := of_decide_eq_true (by first | (with_reducible assumption) | assumption)
                 have q356 : x10_3 < (l1_0.length : Int) := of_decide_eq_true (by first | (with_reducible assumption) | assumption)
                 obtain ⟨ad356, e356, hx356_0⟩ := Kd.at_int HR1_0.out x10_3 p356 q356
                 have hw356_0 := hx356_0
                 obtain rfl : ad354 = ad356 := (by injection e356)
                 replace hx356_0 := (HB.out.cell (bl w _ hx356_0)).trans hx356_0
                 replace p356 := eq_true p356
                 replace q356 := eq_true q356
                 have p357 : 0 ≤ (x10_3 : Int) := of_decide_eq_true (by first | (with_reducible assumption) | assumption)
                 have q357 : x10_3 < (l1_0.length : Int) := of_decide_eq_true (by first | (with_reducible assumption) | assumption)
                 obtain ⟨ad357, e357, hx357_0⟩ := Kd.at_int HR1_0.out x10_3 p357 q357
                 have hw357_0 := hx357_0
                 obtain rfl : ad354 = ad357 := (by injection e357)
                 replace hx357_0 := (HB.out.cell (bl w _ hx357_0)).trans hx357_0
                 replace p357 := eq_true p357
                 replace q357 := eq_true q357
                 have p358 : 0 ≤ (x10_3 : Int) := of_decide_eq_true (by first | (with_reducible assumption) | assumption)
                 have q358 : x10_3 < (l1_0.length : Int) := of_decide_eq_true (by first | (with_reducible assumption) | assumption)
                 obtain ⟨ad358, e358, hx358_0⟩ := Kd.at_int HR1_0.out x10_3 p358 q358
                 have hw358_0 := hx358_0
                 obtain rfl : ad354 = ad358 := (by injection e358)
                 replace hx358_0 := (HB.out.cell (bl w _ hx358_0)).trans hx358_0
                 replace p358 := eq_true p358
                 replace q358 := eq_true q358
                 obtain ⟨Ao135, co135, eo135⟩ := Kd.R_slice HO_6.out
                 (first | subst eo135 | (injection eo135 with f1_ f2_ f3_; have f4_ := f1_.symm; have f5_ := f3_.symm; clear f1_ f2_ f3_; subst f4_; subst f5_))
                 as_aux_lemma =>
                 refine start_ (n := 66) (S := fun w' => w'.cell? ⟨gb330, 0, none⟩ = some (.slice (some ad353) t320.length co32) ∧ w'.cell? ⟨gb330, 1, none⟩ = some (.slice Ao34 t323.length co34) ∧ w'.cell? ⟨gb304, 0, none⟩ = some (.slice (some ad354) l1_0.length c1_0) ∧ w'.cell? ⟨gb304, 1, none⟩ = some (.slice A1_1 l1_1.length c1_1) ∧ w'.cell? (ad353.add (x10_3).toNat) = some (.int .i64 (rd t320 x10_3)) ∧ w'.cell? (ad354.add (x10_3).toNat) = some (.int .i64 (rd l1_0 x10_3)) ∧ w'.cell? (ad353.add (x10_3).toNat) = some (.int .i64 (rd t320 x10_3)) ∧ w'.cell? (ad354.add (x10_3).toNat) = some (.int .i64 (rd l1_0 x10_3)) ∧ w'.cell? (ad354.add (x10_3).toNat) = some (.int .i64 (rd l1_0 x10_3)) ∧ w'.cell? (ad354.add (x10_3).toNat) = some (.int .i64 (rd l1_0 x10_3))) (ds := []) (bz 66 0) (by kernel_rfl) rfl rfl ⟨(kc BK330.out 0).trans rfl, (kc BK330.out 1).trans rfl, (kc BK304.out 0).trans rfl, (kc BK304.out 1).trans rfl, hx353_0, ((HB.out.cell (bl w _ hw354_0)).trans hw354_0), hx355_0, ((HB.out.cell (bl w _ hw356_0)).trans hw356_0), ((HB.out.cell (bl w _ hw357_0)).trans hw357_0), ((HB.out.cell (bl w _ hw358_0)).trans hw358_0)⟩ (fun hHeld => ?_); refine with_tabW trefoillaw11_ListTick.tab17 trefoillaw11_ListTick.bits17 (fun HT_ HW_ => ?_)
                 generalize wr.drew = w134 at HO_6 HO_331000 HO_331001 BK303 BK304 BK330 HB hx353_0 hx354_0 hx355_0 hx356_0 hx357_0 hx358_0 hHeld ⊢
                 refine pu 0 (some 88) (bz 66 1) HT_ ?_
                 refine pu 1 (some 89) (bz 66 3) HT_ ?_
                 refine tk10 2 (some 90) (bz 66 7) HT_ HW_ hHeld ?_
                 refine pu 3 (some 91) (bz 66 15) HT_ ?_
                 refine pu 4 (some 92) (bz 66 31) HT_ ?_
                 refine pu 5 (some 93) (bz 66 63) HT_ ?_
                 refine pu 6 (some 94) (bz 66 127) HT_ ?_
                 refine pu 8 (some 96) (bz 66 383) HT_ ?_
                 refine pu 11 (some 99) (bz 66 2431) HT_ ?_
                 refine pu 13 (some 101) (bz 66 10623) HT_ ?_
                 refine tk10 7 (some 95) (bz 66 10751) HT_ HW_ hHeld ?_
                 refine pu 9 (some 97) (bz 66 11263) HT_ ?_
                 refine tk10 10 (some 98) (bz 66 12287) HT_ HW_ hHeld ?_
                 refine tk10 12 (some 100) (bz 66 16383) HT_ HW_ hHeld ?_
                 refine pu 14 (some 102) (bz 66 32767) HT_ ?_
                 refine tk10 15 (some 103) (bz 66 65535) HT_ HW_ hHeld ?_
                 refine pu 16 (some 104) (bz 66 131071) HT_ ?_
                 refine pu 17 (some 105) (bz 66 262143) HT_ ?_
                 refine pv 18 (some 106) (bz 66 524287) HT_ ?_
                 refine pv 19 (some 107) (bz 66 0xfffff) HT_ ?_
                 refine pv 20 (some 108) (bz 66 0x1fffff) HT_ ?_
                 refine pv 21 (some 109) (bz 66 0x3fffff) HT_ ?_
                 refine pv 22 (some 110) (bz 66 0x7fffff) HT_ ?_
                 refine pv 23 (some 111) (bz 66 0xffffff) HT_ ?_
                 refine pv 24 (some 112) (bz 66 0x1ffffff) HT_ ?_
                 refine pv 25 (some 113) (bz 66 0x3ffffff) HT_ ?_
                 refine pv 26 (some 114) (bz 66 0x7ffffff) HT_ ?_
                 refine pv 27 (some 115) (bz 66 0xfffffff) HT_ ?_
                 refine pv 28 (some 116) (bz 66 0x1fffffff) HT_ ?_
                 refine pv 29 (some 117) (bz 66 0x3fffffff) HT_ ?_
                 refine pv 30 (some 118) (bz 66 0x7fffffff) HT_ ?_
                 refine pv 31 (some 119) (bz 66 0xffffffff) HT_ ?_
                 refine pv 32 (some 120) (bz 66 0x1ffffffff) HT_ ?_
                 refine pv 33 (some 121) (bz 66 0x3ffffffff) HT_ ?_
                 refine pu 34 (some 122) (bz 66 0x7ffffffff) HT_ ?_
                 refine pu 35 (some 123) (bz 66 0xfffffffff) HT_ ?_
                 refine pu 36 (some 124) (bz 66 0x1fffffffff) HT_ ?_
                 refine pu 37 (some 125) (bz 66 0x3fffffffff) HT_ ?_
                 refine pu 39 (some 127) (bz 66 0xbfffffffff) HT_ ?_
                 refine pu 42 (some 130) (bz 66 0x4bfffffffff) HT_ ?_
                 refine pu 44 (some 132) (bz 66 0x14bfffffffff) HT_ ?_
                 refine tk10 38 (some 126) (bz 66 0x14ffffffffff) HT_ HW_ hHeld ?_
                 refine pu 40 (some 128) (bz 66 0x15ffffffffff) HT_ ?_
                 refine tk10 41 (some 129) (bz 66 0x17ffffffffff) HT_ HW_ hHeld ?_
                 refine tk10 43 (some 131) (bz 66 0x1fffffffffff) HT_ HW_ hHeld ?_
                 refine pu 45 (some 133) (bz 66 0x3fffffffffff) HT_ ?_
                 refine tk10 46 (some 134) (bz 66 0x7fffffffffff) HT_ HW_ hHeld ?_
                 refine pu 47 (some 135) (bz 66 0xffffffffffff) HT_ ?_
                 refine pu 48 (some 136) (bz 66 0x1ffffffffffff) HT_ ?_
                 refine pu 49 (some 137) (bz 66 0x3ffffffffffff) HT_ ?_
                 refine pu 51 (some 139) (bz 66 0xbffffffffffff) HT_ ?_
                 refine tk10 50 (some 138) (bz 66 0xfffffffffffff) HT_ HW_ hHeld ?_
                 refine pu 52 (some 140) (bz 66 0x1fffffffffffff) HT_ ?_
                 refine tk10 53 (some 141) (bz 66 0x3fffffffffffff) HT_ HW_ hHeld ?_
                 refine pu 54 (some 142) (bz 66 0x7fffffffffffff) HT_ ?_
                 refine pu 55 (some 143) (bz 66 0xffffffffffffff) HT_ ?_
                 refine pu 56 (some 144) (bz 66 0x1ffffffffffffff) HT_ ?_
                 refine pu 57 (some 145) (bz 66 0x3ffffffffffffff) HT_ ?_
                 refine pu 58 (some 146) (bz 66 0x7ffffffffffffff) HT_ ?_
                 refine pu 60 (some 148) (bz 66 0x17ffffffffffffff) HT_ ?_
                 refine tk10 59 (some 147) (bz 66 0x1fffffffffffffff) HT_ HW_ hHeld ?_
                 refine pu 61 (some 149) (bz 66 0x3fffffffffffffff) HT_ ?_
                 refine tk10 62 (some 150) (bz 66 0x7fffffffffffffff) HT_ HW_ hHeld ?_
                 refine one_ (i := 63) (N := some 151) (bz 66 0xffffffffffffffff) rfl rfl (one_of HT_.out (by kernel_rfl)) (by decide) (fun K hK => ?_)
                 refine goes_ Try.func31 (by kernel_rfl) rfl #[.slice Ao135 t326.length co135, .int .i64 (rd l1_0 x10_3)] (by rfl) rfl rfl (by (try simp only [List.map_toArray, List.map_cons, List.map_nil]); first | done | rfl | (simp only [List.length_drop, List.length_take]; rfl)) ?_
                 with_reducible refine (trefoilref04_Has.calls k3 _ _ t326 (rd l1_0 x10_3) false _ ?side1 ?side2 A124.out).mono ?_
                 (case side1 => repeat (first | exact (rr HO_6.out).2.2 | (with_reducible refine Kd.C_alloc ?_ _) | (with_reducible refine Kd.C_drewN ?_ _) | (with_reducible refine Kd.C_drew ?_)))
                 (case side2 => exact (rr HO_6.out).2.1)
                 rintro e w' ⟨rfl, ⟨nd, rfl⟩⟩
                 refine ⟨_, rfl, ?_⟩
                 refine hK.out _ _ ⟨(kc BK330.out 0).trans rfl, (kc BK330.out 1).trans rfl, (kc BK304.out 0).trans rfl, (kc BK304.out 1).trans rfl, hHeld.2.2.2.2.1, ((HB.out.cell (bl w _ hw354_0)).trans hw354_0), hHeld.2.2.2.2.2.2.1, ((HB.out.cell (bl w _ hw356_0)).trans hw356_0), ((HB.out.cell (bl w _ hw357_0)).trans hw357_0), ((HB.out.cell (bl w _ hw358_0)).trans hw358_0)⟩ (fun hHeld => ?_)
                 clear hK K
                 refine norm_ (a' := ?_) ?_ ?_
                 rotate_left
                 ·show Act.put _ (some 151) _ = _
                  simp only [Act.put, y0, y1, y2, i64_w, i32_w]
                  rfl
                 refine pu 64 (some 152) (bz 66 0x1ffffffffffffffff) HT_ ?_
                 refine pu 65 (some 153) (bz 66 0x3ffffffffffffffff) HT_ ?_
                 refine done_ (done_of HT_.out (by kernel_rfl)) ?_
                 try go_wp2
                 go_roundg k3
                 case measure => have := HJ2.out; have := HK2.out; have := HK3.out; omega
                 case rel => exact ⟨(wrap64 (x10_3 + 1)), (by first | rfl | (simp; done) | (simp [*]; done)), H', ⟨by have := HJ2.out; have := HK2.out; have := HK3.out; omega⟩, ⟨by (with_reducible repeat (first | apply ra | apply rn | apply rd_)); exact HO_6.out⟩, ⟨by (with_reducible repeat (first | apply ra | apply rn | apply rd_)); first | exact HO_331000.out | exact rm HO_331000.out (fun _ h_ => ⟨h_.2, h_.1⟩)⟩, ⟨by (with_reducible repeat (first | apply ra | apply rn | apply rd_)); first | exact HO_331001.out | exact rm HO_331001.out (fun _ h_ => ⟨h_.2, h_.1⟩)⟩, ⟨by (with_reducible repeat (first | refine kn ?_ _ | refine kd_ ?_ | refine ka ?_ _)); exact BK303.out⟩, ⟨by (with_reducible repeat (first | refine kn ?_ _ | refine kd_ ?_ | refine ka ?_ _)); exact BK304.out⟩, ⟨by (with_reducible repeat (first | refine kn ?_ _ | refine kd_ ?_ | refine ka ?_ _)); exact BK330.out⟩, ⟨by repeat (first | (with_reducible first | exact HB.out | apply wa | apply wn | apply wd | refine ws ?_ GE303.out | refine ws ?_ GE304.out | refine ws ?_ GE330.out) | exact HB.out)⟩⟩
               ·rw [if_neg c123] at H
                have c123b0 : decide (0 ≤ (rd l1_0 x10_3)) = false := decide_eq_false c123
                clear c123
                have H' := Z0 H
                clear H
                have hnb136 := NB304_303.out
                have hnc136 := NB303_304.out
                have hnb137 := NB304_330.out
                have hnc137 := NB330_304.out
                have hcz138_0 : wr.cell? ⟨gb304, 0, none⟩ = some (.slice A1_0 l1_0.length c1_0) := (kc BK304.out 0).trans rfl
                have hcz138_1 : wr.cell? ⟨gb304, 1, none⟩ = some (.slice A1_1 l1_1.length c1_1) := (kc BK304.out 1).trans rfl
                have hfz138_0 := blk_frozen BK304.out 0
                have hfz138_1 := blk_frozen BK304.out 1
                try go_wp2
                have n0_ := Z0 (rd_ HO_6.out)
                have n1_ := Z0 (rd_ HO_331000.out)
                have n2_ := Z0 (rd_ HO_331001.out)
                have n3_ := Z0 (kd_ BK303.out)
                have n4_ := Z0 (kd_ BK304.out)
                have n5_ := Z0 (kd_ BK330.out)
                have n6_ := Z0 (wd HB.out)
                clear HO_6
                clear HO_331000
                clear HO_331001
                clear BK303
                clear BK304
                clear BK330
                clear HB
                have HO_6 := n0_
                have HO_331000 := n1_
                have HO_331001 := n2_
                have BK303 := n3_
                have BK304 := n4_
                have BK330 := n5_
                have HB := n6_
                clear n0_ n1_ n2_ n3_ n4_ n5_ n6_
                have p353 : 0 ≤ (x10_3 : Int) := of_decide_eq_true (by first | (with_reducible assumption) | assumption)
                have q353 : x10_3 < (t320.length : Int) := of_decide_eq_true (by first | (with_reducible assumption) | assumption)
                obtain ⟨ad353, e353, hx353_0⟩ := Kd.at_int (rr HO_331000.out).2.2 x10_3 p353 q353
                cases e353
                replace p353 := eq_true p353
                replace q353 := eq_true q353
                have p354 : 0 ≤ (x10_3 : Int) := of_decide_eq_true (by first | (with_reducible assumption) | assumption)
                have q354 : x10_3 < (l1_0.length : Int) := of_decide_eq_true (by first | (with_reducible assumption) | assumption)
                obtain ⟨ad354, e354, hx354_0⟩ := Kd.at_int HR1_0.out x10_3 p354 q354
                have hw354_0 := hx354_0
                cases e354
                replace hx354_0 := (HB.out.cell (bl w _ hx354_0)).trans hx354_0
                replace p354 := eq_true p354
                replace q354 := eq_true q354
                have p355 : 0 ≤ (x10_3 : Int) := of_decide_eq_true (by first | (with_reducible assumption) | assumption)
                have q355 : x10_3 < (t320.length : Int) := of_decide_eq_true (by first | (with_reducible assumption) | assumption)
                obtain ⟨ad355, e355, hx355_0⟩ := Kd.at_int (rr HO_331000.out).2.2 x10_3 p355 q355
                obtain rfl : ad353 = ad355 := (by injection e355)
                replace p355 := eq_true p355
                replace q355 := eq_true q355
                have p356 : 0 ≤ (x10_3 : Int) := of_decide_eq_true (by first | (with_reducible assumption) | assumption)
                have q356 : x10_3 < (l1_0.length : Int) := of_decide_eq_true (by first | (with_reducible assumption) | assumption)
                obtain ⟨ad356, e356, hx356_0⟩ := Kd.at_int HR1_0.out x10_3 p356 q356
                have hw356_0 := hx356_0
                obtain rfl : ad354 = ad356 := (by injection e356)
                replace hx356_0 := (HB.out.cell (bl w _ hx356_0)).trans hx356_0
                replace p356 := eq_true p356
                replace q356 := eq_true q356
                have p357 : 0 ≤ (x10_3 : Int) := of_decide_eq_true (by first | (with_reducible assumption) | assumption)
                have q357 : x10_3 < (l1_0.length : Int) := of_decide_eq_true (by first | (with_reducible assumption) | assumption)
                obtain ⟨ad357, e357, hx357_0⟩ := Kd.at_int HR1_0.out x10_3 p357 q357
                have hw357_0 := hx357_0
                obtain rfl : ad354 = ad357 := (by injection e357)
                replace hx357_0 := (HB.out.cell (bl w _ hx357_0)).trans hx357_0
                replace p357 := eq_true p357
                replace q357 := eq_true q357
                as_aux_lemma =>
                refine start_ (n := 66) (S := fun w' => w'.cell? ⟨gb330, 0, none⟩ = some (.slice (some ad353) t320.length co32) ∧ w'.cell? ⟨gb330, 1, none⟩ = some (.slice Ao34 t323.length co34) ∧ w'.cell? ⟨gb304, 0, none⟩ = some (.slice (some ad354) l1_0.length c1_0) ∧ w'.cell? ⟨gb304, 1, none⟩ = some (.slice A1_1 l1_1.length c1_1) ∧ w'.cell? (ad353.add (x10_3).toNat) = some (.int .i64 (rd t320 x10_3)) ∧ w'.cell? (ad354.add (x10_3).toNat) = some (.int .i64 (rd l1_0 x10_3)) ∧ w'.cell? (ad353.add (x10_3).toNat) = some (.int .i64 (rd t320 x10_3)) ∧ w'.cell? (ad354.add (x10_3).toNat) = some (.int .i64 (rd l1_0 x10_3)) ∧ w'.cell? (ad354.add (x10_3).toNat) = some (.int .i64 (rd l1_0 x10_3))) (ds := []) (bz 66 0) (by kernel_rfl) rfl rfl ⟨(kc BK330.out 0).trans rfl, (kc BK330.out 1).trans rfl, (kc BK304.out 0).trans rfl, (kc BK304.out 1).trans rfl, hx353_0, ((HB.out.cell (bl w _ hw354_0)).trans hw354_0), hx355_0, ((HB.out.cell (bl w _ hw356_0)).trans hw356_0), ((HB.out.cell (bl w _ hw357_0)).trans hw357_0)⟩ (fun hHeld => ?_); refine with_tabW trefoillaw11_ListTick.tab17 trefoillaw11_ListTick.bits17 (fun HT_ HW_ => ?_)
                generalize wr.drew = w139 at HO_6 HO_331000 HO_331001 BK303 BK304 BK330 HB hx353_0 hx354_0 hx355_0 hx356_0 hx357_0 hHeld ⊢
                refine pu 0 (some 88) (bz 66 1) HT_ ?_
                refine pu 1 (some 89) (bz 66 3) HT_ ?_
                refine tk9 2 (some 90) (bz 66 7) HT_ HW_ hHeld ?_
                refine pu 3 (some 91) (bz 66 15) HT_ ?_
                refine pu 4 (some 92) (bz 66 31) HT_ ?_
                refine pu 5 (some 93) (bz 66 63) HT_ ?_
                refine pu 6 (some 94) (bz 66 127) HT_ ?_
                refine pu 8 (some 96) (bz 66 383) HT_ ?_
                refine pu 11 (some 99) (bz 66 2431) HT_ ?_
                refine pu 13 (some 101) (bz 66 10623) HT_ ?_
                refine tk9 7 (some 95) (bz 66 10751) HT_ HW_ hHeld ?_
                refine pu 9 (some 97) (bz 66 11263) HT_ ?_
                refine tk9 10 (some 98) (bz 66 12287) HT_ HW_ hHeld ?_
                refine tk9 12 (some 100) (bz 66 16383) HT_ HW_ hHeld ?_
                refine pu 14 (some 102) (bz 66 32767) HT_ ?_
                refine tk9 15 (some 103) (bz 66 65535) HT_ HW_ hHeld ?_
                refine pu 16 (some 104) (bz 66 131071) HT_ ?_
                refine pu 17 (some 105) (bz 66 262143) HT_ ?_
                refine pv 18 (some 106) (bz 66 524287) HT_ ?_
                refine pv 19 (some 107) (bz 66 0xfffff) HT_ ?_
                refine pv 20 (some 108) (bz 66 0x1fffff) HT_ ?_
                refine pv 21 (some 109) (bz 66 0x3fffff) HT_ ?_
                refine pv 22 (some 110) (bz 66 0x7fffff) HT_ ?_
                refine pv 23 (some 111) (bz 66 0xffffff) HT_ ?_
                refine pv 24 (some 112) (bz 66 0x1ffffff) HT_ ?_
                refine pv 25 (some 113) (bz 66 0x3ffffff) HT_ ?_
                refine pv 26 (some 114) (bz 66 0x7ffffff) HT_ ?_
                refine pv 27 (some 115) (bz 66 0xfffffff) HT_ ?_
                refine pv 28 (some 116) (bz 66 0x1fffffff) HT_ ?_
                refine pv 29 (some 117) (bz 66 0x3fffffff) HT_ ?_
                refine pv 30 (some 118) (bz 66 0x7fffffff) HT_ ?_
                refine pv 31 (some 119) (bz 66 0xffffffff) HT_ ?_
                refine pv 32 (some 120) (bz 66 0x1ffffffff) HT_ ?_
                refine pv 33 (some 121) (bz 66 0x3ffffffff) HT_ ?_
                refine pu 34 (some 122) (bz 66 0x7ffffffff) HT_ ?_
                refine pu 35 (some 123) (bz 66 0xfffffffff) HT_ ?_
                refine pu 36 (some 124) (bz 66 0x1fffffffff) HT_ ?_
                refine pu 37 (some 125) (bz 66 0x3fffffffff) HT_ ?_
                refine pu 39 (some 127) (bz 66 0xbfffffffff) HT_ ?_
                refine pu 42 (some 130) (bz 66 0x4bfffffffff) HT_ ?_
                refine pu 44 (some 132) (bz 66 0x14bfffffffff) HT_ ?_
                refine tk9 38 (some 126) (bz 66 0x14ffffffffff) HT_ HW_ hHeld ?_
                refine pu 40 (some 128) (bz 66 0x15ffffffffff) HT_ ?_
                refine tk9 41 (some 129) (bz 66 0x17ffffffffff) HT_ HW_ hHeld ?_
                refine tk9 43 (some 131) (bz 66 0x1fffffffffff) HT_ HW_ hHeld ?_
                refine pu 45 (some 133) (bz 66 0x3fffffffffff) HT_ ?_
                refine tk9 46 (some 134) (bz 66 0x7fffffffffff) HT_ HW_ hHeld ?_
                refine pu 47 (some 135) (bz 66 0xffffffffffff) HT_ ?_
                refine pu 48 (some 136) (bz 66 0x1ffffffffffff) HT_ ?_
                refine pu 49 (some 137) (bz 66 0x3ffffffffffff) HT_ ?_
                refine pu 51 (some 139) (bz 66 0xbffffffffffff) HT_ ?_
                refine tk9 50 (some 138) (bz 66 0xfffffffffffff) HT_ HW_ hHeld ?_
                refine pu 52 (some 140) (bz 66 0x1fffffffffffff) HT_ ?_
                refine tk9 53 (some 141) (bz 66 0x3fffffffffffff) HT_ HW_ hHeld ?_
                refine pu 54 (some 142) (bz 66 0x7fffffffffffff) HT_ ?_
                refine pu 55 (some 143) (bz 66 0xffffffffffffff) HT_ ?_
                refine pu 56 (some 144) (bz 66 0x1ffffffffffffff) HT_ ?_
                refine pv 57 (some 145) (bz 66 0x3ffffffffffffff) HT_ ?_
                refine pv 58 (some 146) (bz 66 0x7ffffffffffffff) HT_ ?_
                refine pv 59 (some 147) (bz 66 0xfffffffffffffff) HT_ ?_
                refine pv 60 (some 148) (bz 66 0x1fffffffffffffff) HT_ ?_
                refine pv 61 (some 149) (bz 66 0x3fffffffffffffff) HT_ ?_
                refine pv 62 (some 150) (bz 66 0x7fffffffffffffff) HT_ ?_
                refine pv 63 (some 151) (bz 66 0xffffffffffffffff) HT_ ?_
                refine pu 64 (some 152) (bz 66 0x1ffffffffffffffff) HT_ ?_
                refine pu 65 (some 153) (bz 66 0x3ffffffffffffffff) HT_ ?_
                refine done_ (done_of HT_.out (by kernel_rfl)) ?_
                try go_wp2
                go_roundg k3
                case measure => have := HJ2.out; have := HK2.out; have := HK3.out; omega
                case rel => exact ⟨(wrap64 (x10_3 + 1)), (by first | rfl | (simp; done) | (simp [*]; done)), H', ⟨by have := HJ2.out; have := HK2.out; have := HK3.out; omega⟩, ⟨by (with_reducible repeat (first | apply ra | apply rn | apply rd_)); exact HO_6.out⟩, ⟨by (with_reducible repeat (first | apply ra | apply rn | apply rd_)); first | exact HO_331000.out | exact rm HO_331000.out (fun _ h_ => ⟨h_.2, h_.1⟩)⟩, ⟨by (with_reducible repeat (first | apply ra | apply rn | apply rd_)); first | exact HO_331001.out | exact rm HO_331001.out (fun _ h_ => ⟨h_.2, h_.1⟩)⟩, ⟨by (with_reducible repeat (first | refine kn ?_ _ | refine kd_ ?_ | refine ka ?_ _)); exact BK303.out⟩, ⟨by (with_reducible repeat (first | refine kn ?_ _ | refine kd_ ?_ | refine ka ?_ _)); exact BK304.out⟩, ⟨by (with_reducible repeat (first | refine kn ?_ _ | refine kd_ ?_ | refine ka ?_ _)); exact BK330.out⟩, ⟨by repeat (first | (with_reducible first | exact HB.out | apply wa | apply wn | apply wd | refine ws ?_ GE303.out | refine ws ?_ GE304.out | refine ws ?_ GE330.out) | exact HB.out)⟩⟩
              ·rw [if_neg c122] at H
               have c122b0 : ((rd t320 x10_3) == (rd l1_0 x10_3)) = false := beq_eq_false_iff_ne.mpr c122
               have c122b1 : ((rd t320 x10_3) != (rd l1_0 x10_3)) = true := bne_iff_ne.mpr c122
               by_cases c140 : (rd t320 x10_3) = (-1)
               ·rw [if_pos c140] at H
                have c140b0 : ((rd t320 x10_3) == (-1)) = true := beq_iff_eq.mpr c140
                have c140b1 : ((rd t320 x10_3) != (-1)) = false := bne_eq_false_iff_eq.mpr c140
                clear c140
                replace H := Option.bind_eq_some_iff.mp H
                obtain ⟨t362, A1410, H⟩ := H
                replace H : (if t362 = true then (trefoillaw11_ListTick.l1 k3 t326 (wrap64 (x10_3 + 1)) l0_0 l0_1 l1_0 l1_1 t320 t323) else (some false)) = some r := H
                have A141 := Z0 A1410
                clear A1410
                by_cases c142 : t362 = true
                ·subst c142
                 have H1 : (trefoillaw11_ListTick.l1 k3 t326 (wrap64 (x10_3 + 1)) l0_0 l0_1 l1_0 l1_1 t320 t323) = some r := by rw [if_pos rfl] at H; exact H
                 clear H
                 have H := H1
                 clear H1
                 have H' := Z0 H
                 clear H
                 have hnb143 := NB304_303.out
                 have hnc143 := NB303_304.out
                 have hnb144 := NB304_330.out
                 have hnc144 := NB330_304.out
                 have hcz145_0 : wr.cell? ⟨gb304, 0, none⟩ = some (.slice A1_0 l1_0.length c1_0) := (kc BK304.out 0).trans rfl
                 have hcz145_1 : wr.cell? ⟨gb304, 1, none⟩ = some (.slice A1_1 l1_1.length c1_1) := (kc BK304.out 1).trans rfl
                 have hfz145_0 := blk_frozen BK304.out 0
                 have hfz145_1 := blk_frozen BK304.out 1
                 try go_wp2
                 have n0_ := Z0 (rd_ HO_6.out)
                 have n1_ := Z0 (rd_ HO_331000.out)
                 have n2_ := Z0 (rd_ HO_331001.out)
                 have n3_ := Z0 (kd_ BK303.out)
                 have n4_ := Z0 (kd_ BK304.out)
                 have n5_ := Z0 (kd_ BK330.out)
                 have n6_ := Z0 (wd HB.out)
                 clear HO_6
                 clear HO_331000
                 clear HO_331001
                 clear BK303
                 clear BK304
                 clear BK330
                 clear HB
                 have HO_6 := n0_
                 have HO_331000 := n1_
                 have HO_331001 := n2_
                 have BK303 := n3_
                 have BK304 := n4_
                 have BK330 := n5_
                 have HB := n6_
                 clear n0_ n1_ n2_ n3_ n4_ n5_ n6_
                 have p353 : 0 ≤ (x10_3 : Int) := of_decide_eq_true (by first | (with_reducible assumption) | assumption)
                 have q353 : x10_3 < (t320.length : Int) := of_decide_eq_true (by first | (with_reducible assumption) | assumption)
                 obtain ⟨ad353, e353, hx353_0⟩ := Kd.at_int (rr HO_331000.out).2.2 x10_3 p353 q353
                 cases e353
                 replace p353 := eq_true p353
                 replace q353 := eq_true q353
                 have p354 : 0 ≤ (x10_3 : Int) := of_decide_eq_true (by first | (with_reducible assumption) | assumption)
                 have q354 : x10_3 < (l1_0.length : Int) := of_decide_eq_true (by first | (with_reducible assumption) | assumption)
                 obtain ⟨ad354, e354, hx354_0⟩ := Kd.at_int HR1_0.out x10_3 p354 q354
                 have hw354_0 := hx354_0
                 cases e354
                 replace hx354_0 := (HB.out.cell (bl w _ hx354_0)).trans hx354_0
                 replace p354 := eq_true p354
                 replace q354 := eq_true q354
                 have p360 : 0 ≤ (x10_3 : Int) := of_decide_eq_true (by first | (with_reducible assumption) | assumption)
                 have q360 : x10_3 < (t320.length : Int) := of_decide_eq_true (by first | (with_reducible assumption) | assumption)
                 obtain ⟨ad360, e360, hx360_0⟩ := Kd.at_int (rr HO_331000.out).2.2 x10_3 p360 q360
                 obtain rfl : ad353 = ad360 := (by injection e360)
                 replace p360 := eq_true p360
                 replace q360 := eq_true q360
                 have p361 : 0 ≤ (x10_3 : Int) := of_decide_eq_true (by first | (with_reducible assumption) | assumption)
                 have q361 : x10_3 < (l1_0.length : Int) := of_decide_eq_true (by first | (with_reducible assumption) | assumption)
                 obtain ⟨ad361, e361, hx361_0⟩ := Kd.at_int HR1_0.out x10_3 p361 q361
                 have hw361_0 := hx361_0
                 obtain rfl : ad354 = ad361 := (by injection e361)
                 replace hx361_0 := (HB.out.cell (bl w _ hx361_0)).trans hx361_0
                 replace p361 := eq_true p361
                 replace q361 := eq_true q361
                 obtain ⟨Ao147, co147, eo147⟩ := Kd.R_slice HO_6.out
                 (first | subst eo147 | (injection eo147 with f1_ f2_ f3_; have f4_ := f1_.symm; have f5_ := f3_.symm; clear f1_ f2_ f3_; subst f4_; subst f5_))
                 have p363 : 0 ≤ (x10_3 : Int) := of_decide_eq_true (by first | (with_reducible assumption) | assumption)
                 have q363 : x10_3 < (t320.length : Int) := of_decide_eq_true (by first | (with_reducible assumption) | assumption)
                 obtain ⟨ad363, e363, hx363_0⟩ := Kd.at_int (rr HO_331000.out).2.2 x10_3 p363 q363
                 obtain rfl : ad353 = ad363 := (by injection e363)
                 replace p363 := eq_true p363
                 replace q363 := eq_true q363
                 have p364 : 0 ≤ (x10_3 : Int) := of_decide_eq_true (by first | (with_reducible assumption) | assumption)
                 have q364 : x10_3 < (l1_0.length : Int) := of_decide_eq_true (by first | (with_reducible assumption) | assumption)
                 obtain ⟨ad364, e364, hx364_0⟩ := Kd.at_int HR1_0.out x10_3 p364 q364
                 have hw364_0 := hx364_0
                 obtain rfl : ad354 = ad364 := (by injection e364)
                 replace hx364_0 := (HB.out.cell (bl w _ hx364_0)).trans hx364_0
                 replace p364 := eq_true p364
                 replace q364 := eq_true q364
                 as_aux_lemma =>
                 refine start_ (n := 66) (S := fun w' => w'.cell? ⟨gb330, 0, none⟩ = some (.slice (some ad353) t320.length co32) ∧ w'.cell? ⟨gb330, 1, none⟩ = some (.slice Ao34 t323.length co34) ∧ w'.cell? ⟨gb304, 0, none⟩ = some (.slice (some ad354) l1_0.length c1_0) ∧ w'.cell? ⟨gb304, 1, none⟩ = some (.slice A1_1 l1_1.length c1_1) ∧ w'.cell? (ad353.add (x10_3).toNat) = some (.int .i64 (rd t320 x10_3)) ∧ w'.cell? (ad354.add (x10_3).toNat) = some (.int .i64 (rd l1_0 x10_3)) ∧ w'.cell? (ad353.add (x10_3).toNat) = some (.int .i64 (rd t320 x10_3)) ∧ w'.cell? (ad354.add (x10_3).toNat) = some (.int .i64 (rd l1_0 x10_3)) ∧ w'.cell? (ad353.add (x10_3).toNat) = some (.int .i64 (rd t320 x10_3)) ∧ w'.cell? (ad354.add (x10_3).toNat) = some (.int .i64 (rd l1_0 x10_3))) (ds := []) (bz 66 0) (by kernel_rfl) rfl rfl ⟨(kc BK330.out 0).trans rfl, (kc BK330.out 1).trans rfl, (kc BK304.out 0).trans rfl, (kc BK304.out 1).trans rfl, hx353_0, ((HB.out.cell (bl w _ hw354_0)).trans hw354_0), hx360_0, ((HB.out.cell (bl w _ hw361_0)).trans hw361_0), hx363_0, ((HB.out.cell (bl w _ hw364_0)).trans hw364_0)⟩ (fun hHeld => ?_); refine with_tabW trefoillaw11_ListTick.tab17 trefoillaw11_ListTick.bits17 (fun HT_ HW_ => ?_)
                 generalize wr.drew = w146 at HO_6 HO_331000 HO_331001 BK303 BK304 BK330 HB hx353_0 hx354_0 hx360_0 hx361_0 hx363_0 hx364_0 hHeld ⊢
                 refine pu 0 (some 88) (bz 66 1) HT_ ?_
                 refine pu 1 (some 89) (bz 66 3) HT_ ?_
                 refine tk10 2 (some 90) (bz 66 7) HT_ HW_ hHeld ?_
                 refine pu 3 (some 91) (bz 66 15) HT_ ?_
                 refine pu 4 (some 92) (bz 66 31) HT_ ?_
                 refine pu 5 (some 93) (bz 66 63) HT_ ?_
                 refine pu 6 (some 94) (bz 66 127) HT_ ?_
                 refine pu 8 (some 96) (bz 66 383) HT_ ?_
                 refine pu 11 (some 99) (bz 66 2431) HT_ ?_
                 refine pu 13 (some 101) (bz 66 10623) HT_ ?_
                 refine tk10 7 (some 95) (bz 66 10751) HT_ HW_ hHeld ?_
                 refine pu 9 (some 97) (bz 66 11263) HT_ ?_
                 refine tk10 10 (some 98) (bz 66 12287) HT_ HW_ hHeld ?_
                 refine tk10 12 (some 100) (bz 66 16383) HT_ HW_ hHeld ?_
                 refine pu 14 (some 102) (bz 66 32767) HT_ ?_
                 refine tk10 15 (some 103) (bz 66 65535) HT_ HW_ hHeld ?_
                 refine pu 16 (some 104) (bz 66 131071) HT_ ?_
                 refine pu 17 (some 105) (bz 66 262143) HT_ ?_
                 refine pu 18 (some 106) (bz 66 524287) HT_ ?_
                 refine pu 20 (some 108) (bz 66 0x17ffff) HT_ ?_
                 refine tk10 19 (some 107) (bz 66 0x1fffff) HT_ HW_ hHeld ?_
                 refine pu 21 (some 109) (bz 66 0x3fffff) HT_ ?_
                 refine tk10 22 (some 110) (bz 66 0x7fffff) HT_ HW_ hHeld ?_
                 refine pu 23 (some 111) (bz 66 0xffffff) HT_ ?_
                 refine pu 24 (some 112) (bz 66 0x1ffffff) HT_ ?_
                 refine pu 25 (some 113) (bz 66 0x3ffffff) HT_ ?_
                 refine pu 26 (some 114) (bz 66 0x7ffffff) HT_ ?_
                 refine pu 28 (some 116) (bz 66 0x17ffffff) HT_ ?_
                 refine tk10 27 (some 115) (bz 66 0x1fffffff) HT_ HW_ hHeld ?_
                 refine pu 29 (some 117) (bz 66 0x3fffffff) HT_ ?_
                 refine tk10 30 (some 118) (bz 66 0x7fffffff) HT_ HW_ hHeld ?_
                 refine one_ (i := 31) (N := some 119) (bz 66 0xffffffff) rfl rfl (one_of HT_.out (by kernel_rfl)) (by decide) (fun K hK => ?_)
                 refine goes_ Try.func31 (by kernel_rfl) rfl #[.slice Ao147 t326.length co147, .int .i64 (rd l1_0 x10_3)] (by rfl) rfl rfl (by (try simp only [List.map_toArray, List.map_cons, List.map_nil]); first | done | rfl | (simp only [List.length_drop, List.length_take]; rfl)) ?_
                 with_reducible refine (trefoilref04_Has.calls k3 _ _ t326 (rd l1_0 x10_3) true _ ?side1 ?side2 A141.out).mono ?_
                 (case side1 => repeat (first | exact (rr HO_6.out).2.2 | (with_reducible refine Kd.C_alloc ?_ _) | (with_reducible refine Kd.C_drewN ?_ _) | (with_reducible refine Kd.C_drew ?_)))
                 (case side2 => exact (rr HO_6.out).2.1)
                 rintro e w' ⟨rfl, ⟨nd, rfl⟩⟩
                 refine ⟨_, rfl, ?_⟩
                 refine hK.out _ _ ⟨(kc BK330.out 0).trans rfl, (kc BK330.out 1).trans rfl, (kc BK304.out 0).trans rfl, (kc BK304.out 1).trans rfl, hHeld.2.2.2.2.1, ((HB.out.cell (bl w _ hw354_0)).trans hw354_0), hHeld.2.2.2.2.2.2.1, ((HB.out.cell (bl w _ hw361_0)).trans hw361_0), hHeld.2.2.2.2.2.2.2.2.1, ((HB.out.cell (bl w _ hw364_0)).trans hw364_0)⟩ (fun hHeld => ?_)
                 clear hK K
                 refine norm_ (a' := ?_) ?_ ?_
                 rotate_left
                 ·show Act.put _ (some 119) _ = _
                  simp only [Act.put, y0, y1, y2, i64_w, i32_w]
                  rfl
                 refine pu 32 (some 120) (bz 66 0x1ffffffff) HT_ ?_
                 refine pu 33 (some 121) (bz 66 0x3ffffffff) HT_ ?_
                 refine pu 34 (some 122) (bz 66 0x7ffffffff) HT_ ?_
                 refine pu 35 (some 123) (bz 66 0xfffffffff) HT_ ?_
                 refine pu 36 (some 124) (bz 66 0x1fffffffff) HT_ ?_
                 refine pu 37 (some 125) (bz 66 0x3fffffffff) HT_ ?_
                 refine pu 39 (some 127) (bz 66 0xbfffffffff) HT_ ?_
                 refine pu 42 (some 130) (bz 66 0x4bfffffffff) HT_ ?_
                 refine pu 44 (some 132) (bz 66 0x14bfffffffff) HT_ ?_
                 refine tk10 38 (some 126) (bz 66 0x14ffffffffff) HT_ HW_ hHeld ?_
                 refine pu 40 (some 128) (bz 66 0x15ffffffffff) HT_ ?_
                 refine tk10 41 (some 129) (bz 66 0x17ffffffffff) HT_ HW_ hHeld ?_
                 refine tk10 43 (some 131) (bz 66 0x1fffffffffff) HT_ HW_ hHeld ?_
                 refine pu 45 (some 133) (bz 66 0x3fffffffffff) HT_ ?_
                 refine tk10 46 (some 134) (bz 66 0x7fffffffffff) HT_ HW_ hHeld ?_
                 refine pu 47 (some 135) (bz 66 0xffffffffffff) HT_ ?_
                 refine pu 48 (some 136) (bz 66 0x1ffffffffffff) HT_ ?_
                 refine pv 49 (some 137) (bz 66 0x3ffffffffffff) HT_ ?_
                 refine pv 50 (some 138) (bz 66 0x7ffffffffffff) HT_ ?_
                 refine pv 51 (some 139) (bz 66 0xfffffffffffff) HT_ ?_
                 refine pv 52 (some 140) (bz 66 0x1fffffffffffff) HT_ ?_
                 refine pv 53 (some 141) (bz 66 0x3fffffffffffff) HT_ ?_
                 refine pv 54 (some 142) (bz 66 0x7fffffffffffff) HT_ ?_
                 refine pu 55 (some 143) (bz 66 0xffffffffffffff) HT_ ?_
                 refine pu 56 (some 144) (bz 66 0x1ffffffffffffff) HT_ ?_
                 refine pv 57 (some 145) (bz 66 0x3ffffffffffffff) HT_ ?_
                 refine pv 58 (some 146) (bz 66 0x7ffffffffffffff) HT_ ?_
                 refine pv 59 (some 147) (bz 66 0xfffffffffffffff) HT_ ?_
                 refine pv 60 (some 148) (bz 66 0x1fffffffffffffff) HT_ ?_
                 refine pv 61 (some 149) (bz 66 0x3fffffffffffffff) HT_ ?_
                 refine pv 62 (some 150) (bz 66 0x7fffffffffffffff) HT_ ?_
                 refine pv 63 (some 151) (bz 66 0xffffffffffffffff) HT_ ?_
                 refine pu 64 (some 152) (bz 66 0x1ffffffffffffffff) HT_ ?_
                 refine pu 65 (some 153) (bz 66 0x3ffffffffffffffff) HT_ ?_
                 refine done_ (done_of HT_.out (by kernel_rfl)) ?_
                 try go_wp2
                 go_roundg k3
                 case measure => have := HJ2.out; have := HK2.out; have := HK3.out; omega
                 case rel => exact ⟨(wrap64 (x10_3 + 1)), (by first | rfl | (simp; done) | (simp [*]; done)), H', ⟨by have := HJ2.out; have := HK2.out; have := HK3.out; omega⟩, ⟨by (with_reducible repeat (first | apply ra | apply rn | apply rd_)); exact HO_6.out⟩, ⟨by (with_reducible repeat (first | apply ra | apply rn | apply rd_)); first | exact HO_331000.out | exact rm HO_331000.out (fun _ h_ => ⟨h_.2, h_.1⟩)⟩, ⟨by (with_reducible repeat (first | apply ra | apply rn | apply rd_)); first | exact HO_331001.out | exact rm HO_331001.out (fun _ h_ => ⟨h_.2, h_.1⟩)⟩, ⟨by (with_reducible repeat (first | refine kn ?_ _ | refine kd_ ?_ | refine ka ?_ _)); exact BK303.out⟩, ⟨by (with_reducible repeat (first | refine kn ?_ _ | refine kd_ ?_ | refine ka ?_ _)); exact BK304.out⟩, ⟨by (with_reducible repeat (first | refine kn ?_ _ | refine kd_ ?_ | refine ka ?_ _)); exact BK330.out⟩, ⟨by repeat (first | (with_reducible first | exact HB.out | apply wa | apply wn | apply wd | refine ws ?_ GE303.out | refine ws ?_ GE304.out | refine ws ?_ GE330.out) | exact HB.out)⟩⟩
                ·replace c142 := Bool.eq_false_iff.mpr c142
                 subst c142
                 have H1 : (some false) = some r := by rw [if_neg (show ¬ (false = true) by decide)] at H; exact H
                 clear H
                 have H := H1
                 clear H1
                 exact absurd ((Option.some.inj H).trans hrt.out) (by decide)
               ·rw [if_neg c140] at H
                have c140b0 : ((rd t320 x10_3) == (-1)) = false := beq_eq_false_iff_ne.mpr c140
                have c140b1 : ((rd t320 x10_3) != (-1)) = true := bne_iff_ne.mpr c140
                exact absurd ((Option.some.inj H).trans hrt.out) (by decide)
             ·rw [if_neg c121] at H
              exact absurd H (by simp)
            ·rw [if_neg c120] at H
             exact absurd H (by simp)
          ·rw [if_neg c114] at H
           have c114b0 : decide (x10_3 < (l1_0.length : Int)) = false := decide_eq_false c114
           clear c114
           replace H := Option.bind_eq_some_iff.mp H
           obtain ⟨⟨t340, t343⟩, A1570, H⟩ := H
           replace H : ((trefoillaw11_Own.f t320 t323).bind fun bt346 => ((list_Check.f t340 t343 bt346.1 bt346.2).bind fun t352 => (some (t352 == 0)))) = some r := H
           have A157 := Z0 A1570
           clear A1570
           replace H := Option.bind_eq_some_iff.mp H
           obtain ⟨⟨t346, t349⟩, A1580, H⟩ := H
           replace H : ((list_Check.f t340 t343 t346 t349).bind fun t352 => (some (t352 == 0))) = some r := H
           have A158 := Z0 A1580
           clear A1580
           replace H := Option.bind_eq_some_iff.mp H
           obtain ⟨t352, A1590, H⟩ := H
           replace H : (some (t352 == 0)) = some r := H
           have A159 := Z0 A1590
           clear A1590
           obtain rfl := Option.some.inj H
           have hnb160 := NB304_303.out
           have hnc160 := NB303_304.out
           have hnb161 := NB304_330.out
           have hnc161 := NB330_304.out
           have hcz162_0 : wr.cell? ⟨gb304, 0, none⟩ = some (.slice A1_0 l1_0.length c1_0) := (kc BK304.out 0).trans rfl
           have hcz162_1 : wr.cell? ⟨gb304, 1, none⟩ = some (.slice A1_1 l1_1.length c1_1) := (kc BK304.out 1).trans rfl
           have hfz162_0 := blk_frozen BK304.out 0
           have hfz162_1 := blk_frozen BK304.out 1
           try go_wp2
           have n0_ := Z0 (rd_ HO_6.out)
           have n1_ := Z0 (rd_ HO_331000.out)
           have n2_ := Z0 (rd_ HO_331001.out)
           have n3_ := Z0 (kd_ BK303.out)
           have n4_ := Z0 (kd_ BK304.out)
           have n5_ := Z0 (kd_ BK330.out)
           have n6_ := Z0 (wd HB.out)
           clear HO_6
           clear HO_331000
           clear HO_331001
           clear BK303
           clear BK304
           clear BK330
           clear HB
           have HO_6 := n0_
           have HO_331000 := n1_
           have HO_331001 := n2_
           have BK303 := n3_
           have BK304 := n4_
           have BK330 := n5_
           have HB := n6_
           clear n0_ n1_ n2_ n3_ n4_ n5_ n6_
           as_aux_lemma =>
           refine start_ (n := 7) (S := fun w' => w'.cell? ⟨gb303, 0, none⟩ = some (.slice A0_0 l0_0.length c0_0) ∧ w'.cell? ⟨gb303, 1, none⟩ = some (.slice A0_1 l0_1.length c0_1) ∧ w'.cell? ⟨gb330, 0, none⟩ = some (.slice Ao32 t320.length co32) ∧ w'.cell? ⟨gb330, 1, none⟩ = some (.slice Ao34 t323.length co34)) (ds := []) (bz 7 0) (by kernel_rfl) rfl rfl ⟨(kc BK303.out 0).trans rfl, (kc BK303.out 1).trans rfl, (kc BK330.out 0).trans rfl, (kc BK330.out 1).trans rfl⟩ (fun hHeld => ?_)
           generalize wr.drew = w163 at HO_6 HO_331000 HO_331001 BK303 BK304 BK330 HB hHeld ⊢
           refine take_ (i := 0) (N := some 154) (v := ?_) (a' := ?_) (bz 7 1) rfl rfl (by kernel_rfl) (fun _ _ _ h => h) (Or.inl ⟨by rfl, ?_⟩) hHeld ?_ ?_; rotate_left; rintro w' ⟨s0, s1, s2, s3⟩; go_simp; with_reducible rfl; rotate_left; simp only [Act.put, y0, y1, y2, i64_w, i32_w]; rfl
           refine take_ (i := 2) (N := some 156) (v := ?_) (a' := ?_) (bz 7 5) rfl rfl (by kernel_rfl) (fun _ _ _ h => h) (Or.inl ⟨by rfl, ?_⟩) hHeld ?_ ?_; rotate_left; rintro w' ⟨s0, s1, s2, s3⟩; go_simp; with_reducible rfl; rotate_left; simp only [Act.put, y0, y1, y2, i64_w, i32_w]; rfl
           refine one_ (i := 1) (N := some 155) (bz 7 7) rfl rfl (by kernel_rfl) (by decide) (fun K hK => ?_)
           refine goes_ Try.func12 (by kernel_rfl) rfl #[.agg #[.slice A0_0 l0_0.length c0_0, .slice A0_1 l0_1.length c0_1]] (by rfl) rfl rfl (by (try simp only [List.map_toArray, List.map_cons, List.map_nil]); first | done | rfl | (simp only [List.length_drop, List.length_take]; rfl)) ?_
           with_reducible refine (trefoillaw04_Own.calls _ _ l0_0 _ _ l0_1 t340 t343 _ ?side1 ?side2 ?side3 ?side4 A157.out).mono ?_
           (case side1 => repeat (first | exact (Kd.C_below HR0_0.out HB.out) | (with_reducible refine Kd.C_alloc ?_ _) | (with_reducible refine Kd.C_drewN ?_ _) | (with_reducible refine Kd.C_drew ?_)))
           (case side2 => exact HC0_0.out)
           (case side3 => repeat (first | exact (Kd.C_below HR0_1.out HB.out) | (with_reducible refine Kd.C_alloc ?_ _) | (with_reducible refine Kd.C_drewN ?_ _) | (with_reducible refine Kd.C_drew ?_)))
           (case side4 => exact HC0_1.out)
           rintro e w164 ⟨v341, v344, rfl, ho0, ho1, hb⟩
           refine ⟨_, rfl, ?_⟩
           have n0_ := Z0 (Kd.R_elder' (zr HO_6) (rb ho0) hb)
           have n1_ := Z0 (Kd.R_elder' (zr HO_331000) (rb ho0) hb)
           have n2_ := Z0 (Kd.R_elder' (zr HO_331001) (rb ho0) hb)
           have n3_ := Z0 (rl (rw_ (rw_ (rw_ ho0 (rlt (zr HO_6))) (rlt (zr HO_331000))) (rlt (zr HO_331001))) (below_size (by repeat (first | (with_reducible first | exact HB.out | apply wa | apply wn | apply wd | refine ws ?_ GE303.out | refine ws ?_ GE304.out | refine ws ?_ GE330.out) | exact HB.out))))
           have n4_ := Z0 (rl ho1 (below_size (by repeat (first | (with_reducible first | exact HB.out | apply wa | apply wn | apply wd | refine ws ?_ GE303.out | refine ws ?_ GE304.out | refine ws ?_ GE330.out) | exact HB.out))))
           have n5_ := Z0 (kb (g := gb303) (o := .cells #[.slice A0_0 l0_0.length c0_0, .slice A0_1 l0_1.length c0_1] 25 (0, 0)) (zk BK303) hb)
           have n6_ := Z0 (kb (g := gb304) (o := .cells #[.slice A1_0 l1_0.length c1_0, .slice A1_1 l1_1.length c1_1] 27 (0, 0)) (zk BK304) hb)
           have n7_ := Z0 (kb (g := gb330) (o := .cells #[.slice Ao32 t320.length co32, .slice Ao34 t323.length co34] 27 (0, 0)) (zk BK330) hb)
           have n8_ := Z0 (below_step (by repeat (first | (with_reducible first | exact HB.out | apply wa | apply wn | apply wd | refine ws ?_ GE303.out | refine ws ?_ GE304.out | refine ws ?_ GE330.out) | exact HB.out)) hb)
           clear HO_6
           clear HO_331000
           clear HO_331001
           clear BK303
           clear BK304
           clear BK330
           clear HB
           have HO_6 := n0_
           have HO_331000 := n1_
           have HO_331001 := n2_
           have HO342 := n3_
           have HO345 := n4_
           have BK303 := n5_
           have BK304 := n6_
           have BK330 := n7_
           have HB := n8_
           clear n0_ n1_ n2_ n3_ n4_ n5_ n6_ n7_ n8_
           (try clear hb)
           (try clear hb2)
           (try clear hk)
           (try clear hi)
           (try clear ho0)
           (try clear ho1)
           refine hK.out _ _ ⟨(kc BK303.out 0).trans rfl, (kc BK303.out 1).trans rfl, (kc BK330.out 0).trans rfl, (kc BK330.out 1).trans rfl⟩ (fun hHeld => ?_)
           clear hK K
           refine norm_ (a' := ?_) ?_ ?_
           rotate_left
           ·show Act.put _ (some 155) _ = _
            simp only [Act.put, y0, y1, y2, i64_w, i32_w]
            rfl
           refine one_ (i := 3) (N := some 157) (bz 7 15) rfl rfl (by kernel_rfl) (by decide) (fun K hK => ?_)
           refine goes_ Try.func13 (by kernel_rfl) rfl #[.agg #[.slice Ao32 t320.length co32, .slice Ao34 t323.length co34]] (by rfl) rfl rfl (by (try simp only [List.map_toArray, List.map_cons, List.map_nil]); first | done | rfl | (simp only [List.length_drop, List.length_take]; rfl)) ?_
           with_reducible refine (trefoillaw11_Own.calls _ _ t320 _ _ t323 t346 t349 _ ?side1 ?side2 ?side3 ?side4 A158.out).mono ?_
           (case side1 => repeat (first | exact (rr HO_331000.out).2.2 | (with_reducible refine Kd.C_alloc ?_ _) | (with_reducible refine Kd.C_drewN ?_ _) | (with_reducible refine Kd.C_drew ?_)))
           (case side2 => exact (rr HO_331000.out).2.1)
           (case side3 => repeat (first | exact (rr HO_331001.out).2.2 | (with_reducible refine Kd.C_alloc ?_ _) | (with_reducible refine Kd.C_drewN ?_ _) | (with_reducible refine Kd.C_drew ?_)))
           (case side4 => exact (rr HO_331001.out).2.1)
           rintro e w165 ⟨v347, v350, rfl, ho0, ho1, hb⟩
           refine ⟨_, rfl, ?_⟩
           have n0_ := Z0 (rm (rt (rt (ro (zr HO_6) hb) (rb ho0)) (rb ho1)) (fun _ h_ => h_.1))
           have n1_ := Z0 (rm (rt (rt (ro (zr HO_331000) hb) (rb ho0)) (rb ho1)) (fun _ h_ => h_.1))
           have n2_ := Z0 (rm (rt (rt (ro (zr HO_331001) hb) (rb ho0)) (rb ho1)) (fun _ h_ => h_.1))
           have n3_ := Z0 (rm (rt (rt (ro (zr HO342) hb) (rb ho0)) (rb ho1)) (fun _ h_ => h_.1))
           have n4_ := Z0 (rbe (zr HO345) hb)
           have n5_ := Z0 (rl (rw_ (rw_ (rw_ (rw_ ho0 (rlt (zr HO_6))) (rlt (zr HO_331000))) (rlt (zr HO_331001))) (rlt (zr HO342))) (below_size (by repeat (first | (with_reducible first | exact HB.out | apply wa | apply wn | apply wd | refine ws ?_ GE303.out | refine ws ?_ GE304.out | refine ws ?_ GE330.out) | exact HB.out))))
           have n6_ := Z0 (rl (rw_ (rw_ (rw_ (rw_ ho1 (rlt (zr HO_6))) (rlt (zr HO_331000))) (rlt (zr HO_331001))) (rlt (zr HO342))) (below_size (by repeat (first | (with_reducible first | exact HB.out | apply wa | apply wn | apply wd | refine ws ?_ GE303.out | refine ws ?_ GE304.out | refine ws ?_ GE330.out) | exact HB.out))))
           have n7_ := Z0 (kb (g := gb303) (o := .cells #[.slice A0_0 l0_0.length c0_0, .slice A0_1 l0_1.length c0_1] 25 (0, 0)) (zk BK303) hb)
           have n8_ := Z0 (kb (g := gb304) (o := .cells #[.slice A1_0 l1_0.length c1_0, .slice A1_1 l1_1.length c1_1] 27 (0, 0)) (zk BK304) hb)
           have n9_ := Z0 (kb (g := gb330) (o := .cells #[.slice Ao32 t320.length co32, .slice Ao34 t323.length co34] 27 (0, 0)) (zk BK330) hb)
           have n10_ := Z0 (below_step (by repeat (first | (with_reducible first | exact HB.out | apply wa | apply wn | apply wd | refine ws ?_ GE303.out | refine ws ?_ GE304.out | refine ws ?_ GE330.out) | exact HB.out)) hb)
           clear HO_6
           clear HO_331000
           clear HO_331001
           clear HO342
           clear HO345
           clear BK303
           clear BK304
           clear BK330
           clear HB
           have HO_6 := n0_
           have HO_331000 := n1_
           have HO_331001 := n2_
           have HO342 := n3_
           have HO345 := n4_
           have HO348 := n5_
           have HO351 := n6_
           have BK303 := n7_
           have BK304 := n8_
           have BK330 := n9_
           have HB := n10_
           clear n0_ n1_ n2_ n3_ n4_ n5_ n6_ n7_ n8_ n9_ n10_
           (try clear hb)
           (try clear hb2)
           (try clear hk)
           (try clear hi)
           (try clear ho0)
           (try clear ho1)
           obtain ⟨Ao166, co166, eo166⟩ := Kd.R_slice HO342.out
           (first | subst eo166 | (injection eo166 with f1_ f2_ f3_; have f4_ := f1_.symm; have f5_ := f3_.symm; clear f1_ f2_ f3_; subst f4_; subst f5_))
           obtain ⟨Ao167, co167, eo167⟩ := Kd.R_slice HO345.out
           (first | subst eo167 | (injection eo167 with f1_ f2_ f3_; have f4_ := f1_.symm; have f5_ := f3_.symm; clear f1_ f2_ f3_; subst f4_; subst f5_))
           obtain ⟨Ao168, co168, eo168⟩ := Kd.R_slice HO348.out
           (first | subst eo168 | (injection eo168 with f1_ f2_ f3_; have f4_ := f1_.symm; have f5_ := f3_.symm; clear f1_ f2_ f3_; subst f4_; subst f5_))
           obtain ⟨Ao169, co169, eo169⟩ := Kd.R_slice HO351.out
           (first | subst eo169 | (injection eo169 with f1_ f2_ f3_; have f4_ := f1_.symm; have f5_ := f3_.symm; clear f1_ f2_ f3_; subst f4_; subst f5_))
           refine hK.out _ _ ⟨(kc BK303.out 0).trans rfl, (kc BK303.out 1).trans rfl, (kc BK330.out 0).trans rfl, (kc BK330.out 1).trans rfl⟩ (fun hHeld => ?_)
           clear hK K
           refine norm_ (a' := ?_) ?_ ?_
           rotate_left
           ·show Act.put _ (some 157) _ = _
            simp only [Act.put, y0, y1, y2, i64_w, i32_w]
            rfl
           refine one_ (i := 4) (N := some 158) (bz 7 31) rfl rfl (by kernel_rfl) (by decide) (fun K hK => ?_)
           refine goes_ Try.func17 (by kernel_rfl) rfl #[.agg #[.slice Ao166 t340.length co166, .slice Ao167 t343.length co167], .agg #[.slice Ao168 t346.length co168, .slice Ao169 t349.length co169]] (by rfl) rfl rfl (by (try simp only [List.map_toArray, List.map_cons, List.map_nil]); first | done | rfl | (simp only [List.length_drop, List.length_take]; rfl)) ?_
           with_reducible refine (list_Check.calls _ _ t340 _ _ t343 _ _ t346 _ _ t349 t352 _ ?side1 ?side2 ?side3 ?side4 ?side5 ?side6 ?side7 ?side8 A159.out).mono ?_
           (case side1 => repeat (first | exact (rr HO342.out).2.2 | (with_reducible refine Kd.C_alloc ?_ _) | (with_reducible refine Kd.C_drewN ?_ _) | (with_reducible refine Kd.C_drew ?_)))
           (case side2 => exact (rr HO342.out).2.1)
           (case side3 => repeat (first | exact (rr HO345.out).2.2 | (with_reducible refine Kd.C_alloc ?_ _) | (with_reducible refine Kd.C_drewN ?_ _) | (with_reducible refine Kd.C_drew ?_)))
           (case side4 => exact (rr HO345.out).2.1)
           (case side5 => repeat (first | exact (rr HO348.out).2.2 | (with_reducible refine Kd.C_alloc ?_ _) | (with_reducible refine Kd.C_drewN ?_ _) | (with_reducible refine Kd.C_drew ?_)))
           (case side6 => exact (rr HO348.out).2.1)
           (case side7 => repeat (first | exact (rr HO351.out).2.2 | (with_reducible refine Kd.C_alloc ?_ _) | (with_reducible refine Kd.C_drewN ?_ _) | (with_reducible refine Kd.C_drew ?_)))
           (case side8 => exact (rr HO351.out).2.1)
           rintro e w170 ⟨rfl, hb⟩
           refine ⟨_, rfl, ?_⟩
           have n0_ := Z0 (rbe (zr HO_6) hb)
           have n1_ := Z0 (rbe (zr HO_331000) hb)
           have n2_ := Z0 (rbe (zr HO_331001) hb)
           have n3_ := Z0 (rbe (zr HO342) hb)
           have n4_ := Z0 (rbe (zr HO345) hb)
           have n5_ := Z0 (rbe (zr HO348) hb)
           have n6_ := Z0 (rbe (zr HO351) hb)
           have n7_ := Z0 (kb (g := gb303) (o := .cells #[.slice A0_0 l0_0.length c0_0, .slice A0_1 l0_1.length c0_1] 25 (0, 0)) (zk BK303) hb)
           have n8_ := Z0 (kb (g := gb304) (o := .cells #[.slice A1_0 l1_0.length c1_0, .slice A1_1 l1_1.length c1_1] 27 (0, 0)) (zk BK304) hb)
           have n9_ := Z0 (kb (g := gb330) (o := .cells #[.slice Ao32 t320.length co32, .slice Ao34 t323.length co34] 27 (0, 0)) (zk BK330) hb)
           have n10_ := Z0 (below_step (by repeat (first | (with_reducible first | exact HB.out | apply wa | apply wn | apply wd | refine ws ?_ GE303.out | refine ws ?_ GE304.out | refine ws ?_ GE330.out) | exact HB.out)) hb)
           clear HO_6
           clear HO_331000
           clear HO_331001
           clear HO342
           clear HO345
           clear HO348
           clear HO351
           clear BK303
           clear BK304
           clear BK330
           clear HB
           have HO_6 := n0_
           have HO_331000 := n1_
           have HO_331001 := n2_
           have HO342 := n3_
           have HO345 := n4_
           have HO348 := n5_
           have HO351 := n6_
           have BK303 := n7_
           have BK304 := n8_
           have BK330 := n9_
           have HB := n10_
           clear n0_ n1_ n2_ n3_ n4_ n5_ n6_ n7_ n8_ n9_ n10_
           (try clear hb)
           (try clear hb2)
           (try clear hk)
           (try clear hi)
           refine hK.out _ _ ⟨(kc BK303.out 0).trans rfl, (kc BK303.out 1).trans rfl, (kc BK330.out 0).trans rfl, (kc BK330.out 1).trans rfl⟩ (fun hHeld => ?_)
           clear hK K
           refine norm_ (a' := ?_) ?_ ?_
           rotate_left
           ·show Act.put _ (some 158) _ = _
            simp only [Act.put, y0, y1, y2, i64_w, i32_w]
            rfl
           refine pure_ (i := 5) (N := some 159) (v := ?_) (a' := ?_) (bz 7 63) rfl rfl (by kernel_rfl) (fun _ _ _ h => h) (Or.inl ⟨by rfl, ?_⟩) ?_ ?_; rotate_left; intro w'; go_simp; with_reducible rfl; rotate_left; simp only [Act.put, y0, y1, y2, i64_w, i32_w]; rfl
           refine pure_ (i := 6) (N := some 4) (v := ?_) (a' := ?_) (bz 7 127) rfl rfl (by kernel_rfl) (fun _ _ _ h => h) (Or.inl ⟨by rfl, ?_⟩) ?_ ?_; rotate_left; intro w'; go_simp; with_reducible rfl; rotate_left; simp only [Act.put, y0, y1, y2, i64_w, i32_w]; rfl
           refine done_ (by kernel_rfl) ?_
           try go_wp2
           go_ret
           exact ⟨by first | rfl | (simp [errW_none, errW_some] <;> rfl) | (simp [*, errW_none, errW_some] <;> rfl), by repeat (first | (with_reducible first | exact HB.out | apply wa | apply wn | apply wd | refine ws ?_ GE303.out | refine ws ?_ GE304.out | refine ws ?_ GE330.out) | exact HB.out)⟩
    ·rw [if_neg c21] at H
     have c21b0 : (t329 == 0) = false := beq_eq_false_iff_ne.mpr c21
     have c21b1 : (t329 != 0) = true := bne_iff_ne.mpr c21
     obtain rfl := Option.some.inj H
     try go_wp2
     have n0_ := Z0 (kd_ BK303.out)
     have n1_ := Z0 (kd_ BK304.out)
     have n2_ := Z0 (wd HB.out)
     clear BK303
     clear BK304
     clear HB
     have BK303 := n0_
     have BK304 := n1_
     have HB := n2_
     clear n0_ n1_ n2_
     as_aux_lemma =>
     refine start_ (n := 13) (S := fun w' => w'.cell? ⟨gb303, 0, none⟩ = some (.slice A0_0 l0_0.length c0_0) ∧ w'.cell? ⟨gb303, 1, none⟩ = some (.slice A0_1 l0_1.length c0_1) ∧ w'.cell? ⟨gb304, 0, none⟩ = some (.slice A1_0 l1_0.length c1_0) ∧ w'.cell? ⟨gb304, 1, none⟩ = some (.slice A1_1 l1_1.length c1_1)) (ds := []) (bz 13 0) (by kernel_rfl) rfl rfl ⟨(kc BK303.out 0).trans rfl, (kc BK303.out 1).trans rfl, (kc BK304.out 0).trans rfl, (kc BK304.out 1).trans rfl⟩ (fun hHeld => ?_); refine with_tabW trefoillaw11_ListTick.tab3 trefoillaw11_ListTick.bits3 (fun HT_ HW_ => ?_)
     generalize wc.drew = w171 at BK303 BK304 HB hHeld ⊢
     refine tk4 0 (some 21) (bz 13 1) HT_ HW_ hHeld ?_
     refine tk4 2 (some 23) (bz 13 5) HT_ HW_ hHeld ?_
     refine join_ (σ := Value × Value × Value × Value × Value × Value × Value × Nat) 3 (bz 13 1023) (fun s_ => [(22, .agg #[s_.1, s_.2.1]), (24, .agg #[s_.2.2.1, s_.2.2.2.1]), (25, .tuple #[.agg #[s_.2.2.2.2.1, s_.2.2.2.2.2.1], s_.2.2.2.2.2.2.1, .int .i64 t329]), (5, .pointer (some ⟨s_.2.2.2.2.2.2.2, 0, none⟩)), (20, .tuple #[.agg #[s_.2.2.2.2.1, s_.2.2.2.2.2.1], s_.2.2.2.2.2.2.1, .int .i64 t329]), (26, .agg #[s_.2.2.2.2.1, s_.2.2.2.2.2.1]), (27, s_.2.2.2.2.2.2.1), (28, .int .i64 t329)]) (fun s_ w' => (w'.cell? ⟨gb303, 0, none⟩ = some (.slice A0_0 l0_0.length c0_0) ∧ w'.cell? ⟨gb303, 1, none⟩ = some (.slice A0_1 l0_1.length c0_1) ∧ w'.cell? ⟨gb304, 0, none⟩ = some (.slice A1_0 l1_0.length c1_0) ∧ w'.cell? ⟨gb304, 1, none⟩ = some (.slice A1_1 l1_1.length c1_1)) ∧ (Kd.R (Kd.int .i64) 3 w' w.heap.size (fun k_ => some k_ ≠ (s_.2.2.1 : Value).ownBlock ∧ some k_ ≠ (s_.2.2.2.1 : Value).ownBlock ∧ some k_ ≠ (s_.2.2.2.2.1 : Value).ownBlock ∧ some k_ ≠ (s_.2.2.2.2.2.1 : Value).ownBlock ∧ some k_ ≠ (s_.2.2.2.2.2.2.1 : Value).ownBlock) s_.1 t308) ∧ (Kd.R k85 85 w' w.heap.size (fun _ => True) s_.2.1 t311) ∧ (Kd.R (Kd.int .i64) 3 w' w.heap.size (fun k_ => some k_ ≠ (s_.1 : Value).ownBlock ∧ some k_ ≠ (s_.2.2.2.1 : Value).ownBlock ∧ some k_ ≠ (s_.2.2.2.2.1 : Value).ownBlock ∧ some k_ ≠ (s_.2.2.2.2.2.1 : Value).ownBlock ∧ some k_ ≠ (s_.2.2.2.2.2.2.1 : Value).ownBlock) s_.2.2.1 t314) ∧ (Kd.R (Kd.int .i64) 3 w' w.heap.size (fun k_ => some k_ ≠ (s_.1 : Value).ownBlock ∧ some k_ ≠ (s_.2.2.1 : Value).ownBlock ∧ some k_ ≠ (s_.2.2.2.2.1 : Value).ownBlock ∧ some k_ ≠ (s_.2.2.2.2.2.1 : Value).ownBlock ∧ some k_ ≠ (s_.2.2.2.2.2.2.1 : Value).ownBlock) s_.2.2.2.1 t317) ∧ (Kd.R (Kd.int .i64) 3 w' w.heap.size (fun k_ => some k_ ≠ (s_.1 : Value).ownBlock ∧ some k_ ≠ (s_.2.2.1 : Value).ownBlock ∧ some k_ ≠ (s_.2.2.2.1 : Value).ownBlock ∧ some k_ ≠ (s_.2.2.2.2.2.1 : Value).ownBlock ∧ some k_ ≠ (s_.2.2.2.2.2.2.1 : Value).ownBlock) s_.2.2.2.2.1 t320) ∧ (Kd.R (Kd.int .i64) 3 w' w.heap.size (fun k_ => some k_ ≠ (s_.1 : Value).ownBlock ∧ some k_ ≠ (s_.2.2.1 : Value).ownBlock ∧ some k_ ≠ (s_.2.2.2.1 : Value).ownBlock ∧ some k_ ≠ (s_.2.2.2.2.1 : Value).ownBlock ∧ some k_ ≠ (s_.2.2.2.2.2.2.1 : Value).ownBlock) s_.2.2.2.2.2.1 t323) ∧ (Kd.R (Kd.int .i64) 3 w' w.heap.size (fun k_ => some k_ ≠ (s_.1 : Value).ownBlock ∧ some k_ ≠ (s_.2.2.1 : Value).ownBlock ∧ some k_ ≠ (s_.2.2.2.1 : Value).ownBlock ∧ some k_ ≠ (s_.2.2.2.2.1 : Value).ownBlock ∧ some k_ ≠ (s_.2.2.2.2.2.1 : Value).ownBlock) s_.2.2.2.2.2.2.1 t326) ∧ (w'.heap[gb303]? = some (.cells #[.slice A0_0 l0_0.length c0_0, .slice A0_1 l0_1.length c0_1] 25 (0, 0))) ∧ (w'.heap[gb304]? = some (.cells #[.slice A1_0 l1_0.length c1_0, .slice A1_1 l1_1.length c1_1] 27 (0, 0))) ∧ (w'.heap[s_.2.2.2.2.2.2.2]? = some (.cells #[.slice none 0 0, .slice none 0 0] 27 (0, 0))) ∧ (w.heap.size ≤ s_.2.2.2.2.2.2.2) ∧ (w.heap.size ≤ s_.2.2.2.2.2.2.2) ∧ (gb303 ≠ s_.2.2.2.2.2.2.2) ∧ (s_.2.2.2.2.2.2.2 ≠ gb303) ∧ (gb304 ≠ s_.2.2.2.2.2.2.2) ∧ (s_.2.2.2.2.2.2.2 ≠ gb304) ∧ (Below w.heap.size w w')) ?_ ?_
     rotate_left
     ·intro hCont
      refine two_ (i := 1) (j := 9) (Ni := some 22) (Nj := some 5) (bz 13 7) (bz 13 517) rfl rfl rfl rfl (two_of HT_.out (by kernel_rfl)) (by decide) (by decide) (fun K hK => ?_) (fun K hK => ?_)
      ·skip
       refine goes_ Try.func12 (by kernel_rfl) rfl #[.agg #[.slice A0_0 l0_0.length c0_0, .slice A0_1 l0_1.length c0_1]] (by rfl) rfl rfl (by (try simp only [List.map_toArray, List.map_cons, List.map_nil]); first | done | rfl | (simp only [List.length_drop, List.length_take]; rfl)) ?_
       with_reducible refine (trefoillaw04_Own.calls _ _ l0_0 _ _ l0_1 t308 t311 _ ?side1 ?side2 ?side3 ?side4 A18.out).mono ?_
       (case side1 => repeat (first | exact (Kd.C_below HR0_0.out HB.out) | (with_reducible refine Kd.C_alloc ?_ _) | (with_reducible refine Kd.C_drewN ?_ _) | (with_reducible refine Kd.C_drew ?_)))
       (case side2 => exact HC0_0.out)
       (case side3 => repeat (first | exact (Kd.C_below HR0_1.out HB.out) | (with_reducible refine Kd.C_alloc ?_ _) | (with_reducible refine Kd.C_drewN ?_ _) | (with_reducible refine Kd.C_drew ?_)))
       (case side4 => exact HC0_1.out)
       rintro e w172 ⟨v309, v312, rfl, ho0, ho1, hb⟩
       refine ⟨_, rfl, ?_⟩
       have n0_ := Z0 (rl ho0 (below_size (by repeat (first | (with_reducible first | exact HB.out | apply wa | apply wn | apply wd | refine ws ?_ GE303.out | refine ws ?_ GE304.out) | exact HB.out))))
       have n1_ := Z0 (rl ho1 (below_size (by repeat (first | (with_reducible first | exact HB.out | apply wa | apply wn | apply wd | refine ws ?_ GE303.out | refine ws ?_ GE304.out) | exact HB.out))))
       have n2_ := Z0 (kb (g := gb303) (o := .cells #[.slice A0_0 l0_0.length c0_0, .slice A0_1 l0_1.length c0_1] 25 (0, 0)) (zk BK303) hb)
       have n3_ := Z0 (kb (g := gb304) (o := .cells #[.slice A1_0 l1_0.length c1_0, .slice A1_1 l1_1.length c1_1] 27 (0, 0)) (zk BK304) hb)
       have n4_ := Z0 (below_step (by repeat (first | (with_reducible first | exact HB.out | apply wa | apply wn | apply wd | refine ws ?_ GE303.out | refine ws ?_ GE304.out) | exact HB.out)) hb)
       clear BK303
       clear BK304
       clear HB
       have HO310 := n0_
       have HO313 := n1_
       have BK303 := n2_
       have BK304 := n3_
       have HB := n4_
       clear n0_ n1_ n2_ n3_ n4_
       (try clear hb)
       (try clear hb2)
       (try clear hk)
       (try clear hi)
       (try clear ho0)
       (try clear ho1)
       refine hK.out _ _ ⟨(kc BK303.out 0).trans rfl, (kc BK303.out 1).trans rfl, (kc BK304.out 0).trans rfl, (kc BK304.out 1).trans rfl⟩ (fun hHeld => ?_)
       clear hK K
       refine norm_ (a' := ?_) ?_ ?_
       rotate_left
       ·show Act.put _ (some 22) _ = _
        simp only [Act.put, y0, y1, y2, i64_w, i32_w]
        rfl
       refine two_ (i := 3) (j := 9) (Ni := some 24) (Nj := some 5) (bz 13 15) (bz 13 519) rfl rfl rfl rfl (two_of HT_.out (by kernel_rfl)) (by decide) (by decide) (fun K hK => ?_) (fun K hK => ?_)
       ·skip
        refine goes_ Try.func13 (by kernel_rfl) rfl #[.agg #[.slice A1_0 l1_0.length c1_0, .slice A1_1 l1_1.length c1_1]] (by rfl) rfl rfl (by (try simp only [List.map_toArray, List.map_cons, List.map_nil]); first | done | rfl | (simp only [List.length_drop, List.length_take]; rfl)) ?_
        with_reducible refine (trefoillaw11_Own.calls _ _ l1_0 _ _ l1_1 t314 t317 _ ?side1 ?side2 ?side3 ?side4 A19.out).mono ?_
        (case side1 => repeat (first | exact (Kd.C_below HR1_0.out HB.out) | (with_reducible refine Kd.C_alloc ?_ _) | (with_reducible refine Kd.C_drewN ?_ _) | (with_reducible refine Kd.C_drew ?_)))
        (case side2 => exact HC1_0.out)
        (case side3 => repeat (first | exact (Kd.C_below HR1_1.out HB.out) | (with_reducible refine Kd.C_alloc ?_ _) | (with_reducible refine Kd.C_drewN ?_ _) | (with_reducible refine Kd.C_drew ?_)))
        (case side4 => exact HC1_1.out)
        rintro e w173 ⟨v315, v318, rfl, ho0, ho1, hb⟩
        refine ⟨_, rfl, ?_⟩
        have n0_ := Z0 (rm (rt (rt (ro (zr HO310) hb) (rb ho0)) (rb ho1)) (fun _ h_ => h_.1))
        have n1_ := Z0 (rbe (zr HO313) hb)
        have n2_ := Z0 (rl (rw_ ho0 (rlt (zr HO310))) (below_size (by repeat (first | (with_reducible first | exact HB.out | apply wa | apply wn | apply wd | refine ws ?_ GE303.out | refine ws ?_ GE304.out) | exact HB.out))))
        have n3_ := Z0 (rl (rw_ ho1 (rlt (zr HO310))) (below_size (by repeat (first | (with_reducible first | exact HB.out | apply wa | apply wn | apply wd | refine ws ?_ GE303.out | refine ws ?_ GE304.out) | exact HB.out))))
        have n4_ := Z0 (kb (g := gb303) (o := .cells #[.slice A0_0 l0_0.length c0_0, .slice A0_1 l0_1.length c0_1] 25 (0, 0)) (zk BK303) hb)
        have n5_ := Z0 (kb (g := gb304) (o := .cells #[.slice A1_0 l1_0.length c1_0, .slice A1_1 l1_1.length c1_1] 27 (0, 0)) (zk BK304) hb)
        have n6_ := Z0 (below_step (by repeat (first | (with_reducible first | exact HB.out | apply wa | apply wn | apply wd | refine ws ?_ GE303.out | refine ws ?_ GE304.out) | exact HB.out)) hb)
        clear HO310
        clear HO313
        clear BK303
        clear BK304
        clear HB
        have HO310 := n0_
        have HO313 := n1_
        have HO316 := n2_
        have HO319 := n3_
        have BK303 := n4_
        have BK304 := n5_
        have HB := n6_
        clear n0_ n1_ n2_ n3_ n4_ n5_ n6_
        (try clear hb)
        (try clear hb2)
        (try clear hk)
        (try clear hi)
        (try clear ho0)
        (try clear ho1)
        obtain ⟨Ao174, co174, eo174⟩ := Kd.R_slice HO310.out
        (first | subst eo174 | (injection eo174 with f1_ f2_ f3_; have f4_ := f1_.symm; have f5_ := f3_.symm; clear f1_ f2_ f3_; subst f4_; subst f5_))
        obtain ⟨Ao175, co175, eo175⟩ := Kd.R_slice HO313.out
        (first | subst eo175 | (injection eo175 with f1_ f2_ f3_; have f4_ := f1_.symm; have f5_ := f3_.symm; clear f1_ f2_ f3_; subst f4_; subst f5_))
        obtain ⟨Ao176, co176, eo176⟩ := Kd.R_slice HO316.out
        (first | subst eo176 | (injection eo176 with f1_ f2_ f3_; have f4_ := f1_.symm; have f5_ := f3_.symm; clear f1_ f2_ f3_; subst f4_; subst f5_))
        obtain ⟨Ao177, co177, eo177⟩ := Kd.R_slice HO319.out
        (first | subst eo177 | (injection eo177 with f1_ f2_ f3_; have f4_ := f1_.symm; have f5_ := f3_.symm; clear f1_ f2_ f3_; subst f4_; subst f5_))
        refine hK.out _ _ ⟨(kc BK303.out 0).trans rfl, (kc BK303.out 1).trans rfl, (kc BK304.out 0).trans rfl, (kc BK304.out 1).trans rfl⟩ (fun hHeld => ?_)
        clear hK K
        refine norm_ (a' := ?_) ?_ ?_
        rotate_left
        ·show Act.put _ (some 24) _ = _
         simp only [Act.put, y0, y1, y2, i64_w, i32_w]
         rfl
        refine two_ (i := 4) (j := 9) (Ni := some 25) (Nj := some 5) (bz 13 31) (bz 13 527) rfl rfl rfl rfl (two_of HT_.out (by kernel_rfl)) (by decide) (by decide) (fun K hK => ?_) (fun K hK => ?_)
        ·skip
         refine goes_ Try.func14 (by kernel_rfl) rfl #[.agg #[.slice Ao174 t308.length co174, .slice Ao175 t311.length co175], .agg #[.slice Ao176 t314.length co176, .slice Ao177 t317.length co177]] (by rfl) rfl rfl (by (try simp only [List.map_toArray, List.map_cons, List.map_nil]); first | done | rfl | (simp only [List.length_drop, List.length_take]; rfl)) ?_
         with_reducible refine (list_Tick.calls _ _ t308 _ _ t311 _ _ t314 _ _ t317 t320 t323 t326 t329 _ ?side1 ?side2 ?side3 ?side4 ?side5 ?side6 ?side7 ?side8 A20.out).mono ?_
         (case side1 => repeat (first | exact (rr HO310.out).2.2 | (with_reducible refine Kd.C_alloc ?_ _) | (with_reducible refine Kd.C_drewN ?_ _) | (with_reducible refine Kd.C_drew ?_)))
         (case side2 => exact (rr HO310.out).2.1)
         (case side3 => repeat (first | exact (rr HO313.out).2.2 | (with_reducible refine Kd.C_alloc ?_ _) | (with_reducible refine Kd.C_drewN ?_ _) | (with_reducible refine Kd.C_drew ?_)))
         (case side4 => exact (rr HO313.out).2.1)
         (case side5 => repeat (first | exact (rr HO316.out).2.2 | (with_reducible refine Kd.C_alloc ?_ _) | (with_reducible refine Kd.C_drewN ?_ _) | (with_reducible refine Kd.C_drew ?_)))
         (case side6 => exact (rr HO316.out).2.1)
         (case side7 => repeat (first | exact (rr HO319.out).2.2 | (with_reducible refine Kd.C_alloc ?_ _) | (with_reducible refine Kd.C_drewN ?_ _) | (with_reducible refine Kd.C_drew ?_)))
         (case side8 => exact (rr HO319.out).2.1)
         rintro e w178 ⟨v321, v324, v327, rfl, ho0, ho1, ho2, hb⟩
         refine ⟨_, rfl, ?_⟩
         have n0_ := Z0 (rm (rt (rt (rt (ro (zr HO310) hb) (rb ho0)) (rb ho1)) (rb ho2)) (fun _ h_ => h_.1))
         have n1_ := Z0 (rbe (zr HO313) hb)
         have n2_ := Z0 (rm (rt (rt (rt (ro (zr HO316) hb) (rb ho0)) (rb ho1)) (rb ho2)) (fun _ h_ => h_.1))
         have n3_ := Z0 (rm (rt (rt (rt (ro (zr HO319) hb) (rb ho0)) (rb ho1)) (rb ho2)) (fun _ h_ => h_.1))
         have n4_ := Z0 (rl (rw_ (rw_ (rw_ ho0 (rlt (zr HO310))) (rlt (zr HO316))) (rlt (zr HO319))) (below_size (by repeat (first | (with_reducible first | exact HB.out | apply wa | apply wn | apply wd | refine ws ?_ GE303.out | refine ws ?_ GE304.out) | exact HB.out))))
         have n5_ := Z0 (rl (rw_ (rw_ (rw_ ho1 (rlt (zr HO310))) (rlt (zr HO316))) (rlt (zr HO319))) (below_size (by repeat (first | (with_reducible first | exact HB.out | apply wa | apply wn | apply wd | refine ws ?_ GE303.out | refine ws ?_ GE304.out) | exact HB.out))))
         have n6_ := Z0 (rl (rw_ (rw_ (rw_ ho2 (rlt (zr HO310))) (rlt (zr HO316))) (rlt (zr HO319))) (below_size (by repeat (first | (with_reducible first | exact HB.out | apply wa | apply wn | apply wd | refine ws ?_ GE303.out | refine ws ?_ GE304.out) | exact HB.out))))
         have n7_ := Z0 (kb (g := gb303) (o := .cells #[.slice A0_0 l0_0.length c0_0, .slice A0_1 l0_1.length c0_1] 25 (0, 0)) (zk BK303) hb)
         have n8_ := Z0 (kb (g := gb304) (o := .cells #[.slice A1_0 l1_0.length c1_0, .slice A1_1 l1_1.length c1_1] 27 (0, 0)) (zk BK304) hb)
         have n9_ := Z0 (below_step (by repeat (first | (with_reducible first | exact HB.out | apply wa | apply wn | apply wd | refine ws ?_ GE303.out | refine ws ?_ GE304.out) | exact HB.out)) hb)
         clear HO310
         clear HO313
         clear HO316
         clear HO319
         clear BK303
         clear BK304
         clear HB
         have HO310 := n0_
         have HO313 := n1_
         have HO316 := n2_
         have HO319 := n3_
         have HO322 := n4_
         have HO325 := n5_
         have HO328 := n6_
         have BK303 := n7_
         have BK304 := n8_
         have HB := n9_
         clear n0_ n1_ n2_ n3_ n4_ n5_ n6_ n7_ n8_ n9_
         (try clear hb)
         (try clear hb2)
         (try clear hk)
         (try clear hi)
         (try clear ho0)
         (try clear ho1)
         (try clear ho2)
         refine hK.out _ _ ⟨(kc BK303.out 0).trans rfl, (kc BK303.out 1).trans rfl, (kc BK304.out 0).trans rfl, (kc BK304.out 1).trans rfl⟩ (fun hHeld => ?_)
         clear hK K
         refine norm_ (a' := ?_) ?_ ?_
         rotate_left
         ·show Act.put _ (some 25) _ = _
          simp only [Act.put, y0, y1, y2, i64_w, i32_w]
          rfl
         refine pu 5 (some 20) (bz 13 63) HT_ ?_
         refine pu 6 (some 26) (bz 13 127) HT_ ?_
         refine pu 7 (some 27) (bz 13 255) HT_ ?_
         refine pu 8 (some 28) (bz 13 511) HT_ ?_
         refine one_ (i := 9) (N := some 5) (bz 13 1023) rfl rfl (one_of HT_.out (by kernel_rfl)) (by decide) (fun K hK => ?_)
         refine box_step ?hg (N := 5) ?hd (cs := #[.slice none 0 0, .slice none 0 0]) (t := 27) ?hr ?_; (case hd => rfl); (case hg => rfl); (case hr => first | (go_simp; done) | (go_simp; rfl))
         intro gb330 hg w179 hbox hb
         have n0_ := Z0 (rbe (zr HO310) hb)
         have n1_ := Z0 (rbe (zr HO313) hb)
         have n2_ := Z0 (rbe (zr HO316) hb)
         have n3_ := Z0 (rbe (zr HO319) hb)
         have n4_ := Z0 (rbe (zr HO322) hb)
         have n5_ := Z0 (rbe (zr HO325) hb)
         have n6_ := Z0 (rbe (zr HO328) hb)
         have n7_ := Z0 (kb (g := gb303) (o := .cells #[.slice A0_0 l0_0.length c0_0, .slice A0_1 l0_1.length c0_1] 25 (0, 0)) (zk BK303) hb)
         have n8_ := Z0 (kb (g := gb304) (o := .cells #[.slice A1_0 l1_0.length c1_0, .slice A1_1 l1_1.length c1_1] 27 (0, 0)) (zk BK304) hb)
         have n9_ := Z0 (below_step (by repeat (first | (with_reducible first | exact HB.out | apply wa | apply wn | apply wd | refine ws ?_ GE303.out | refine ws ?_ GE304.out) | exact HB.out)) hb)
         have n10_ := Z0 (hbox)
         have n11_ := Z0 ((by rw [hg]; exact (below_size (by repeat (first | (with_reducible first | exact HB.out | apply wa | apply wn | apply wd | refine ws ?_ GE303.out | refine ws ?_ GE304.out) | exact HB.out))) : w.heap.size ≤ gb330))
         have n12_ := Z0 ((by rw [hg]; exact (below_size (by repeat (first | (with_reducible first | exact HB.out | apply wa | apply wn | apply wd | refine ws ?_ GE303.out | refine ws ?_ GE304.out) | exact HB.out))) : w.heap.size ≤ gb330))
         have n13_ := Z0 ((by rw [hg]; exact Nat.ne_of_lt (blk_lt (g := gb303) (o := .cells #[.slice A0_0 l0_0.length c0_0, .slice A0_1 l0_1.length c0_1] 25 (0, 0)) (zk BK303)) : gb303 ≠ gb330))
         have n14_ := Z0 ((by rw [hg]; exact Nat.ne_of_gt (blk_lt (g := gb303) (o := .cells #[.slice A0_0 l0_0.length c0_0, .slice A0_1 l0_1.length c0_1] 25 (0, 0)) (zk BK303)) : gb330 ≠ gb303))
         have n15_ := Z0 ((by rw [hg]; exact Nat.ne_of_lt (blk_lt (g := gb304) (o := .cells #[.slice A1_0 l1_0.length c1_0, .slice A1_1 l1_1.length c1_1] 27 (0, 0)) (zk BK304)) : gb304 ≠ gb330))
         have n16_ := Z0 ((by rw [hg]; exact Nat.ne_of_gt (blk_lt (g := gb304) (o := .cells #[.slice A1_0 l1_0.length c1_0, .slice A1_1 l1_1.length c1_1] 27 (0, 0)) (zk BK304)) : gb330 ≠ gb304))
         clear HO310
         clear HO313
         clear HO316
         clear HO319
         clear HO322
         clear HO325
         clear HO328
         clear BK303
         clear BK304
         clear HB
         have HO310 := n0_
         have HO313 := n1_
         have HO316 := n2_
         have HO319 := n3_
         have HO322 := n4_
         have HO325 := n5_
         have HO328 := n6_
         have BK303 := n7_
         have BK304 := n8_
         have HB := n9_
         have BK330 := n10_
         have GW330 := n11_
         have GE330 := n12_
         have NB303_330 := n13_
         have NB330_303 := n14_
         have NB304_330 := n15_
         have NB330_304 := n16_
         clear n0_ n1_ n2_ n3_ n4_ n5_ n6_ n7_ n8_ n9_ n10_ n11_ n12_ n13_ n14_ n15_ n16_
         clear hb hbox hg
         refine hK.out _ _ ⟨(kc BK303.out 0).trans rfl, (kc BK303.out 1).trans rfl, (kc BK304.out 0).trans rfl, (kc BK304.out 1).trans rfl⟩ (fun hHeld => ?_)
         clear hK K
         refine norm_ (a' := ?_) ?_ ?_
         rotate_left
         ·show Act.put _ (some 5) _ = _
          simp only [Act.put, y0, y1, y2, i64_w, i32_w]
          rfl
         exact norm_ (by simp only [putAll, Act.put, y0, y1, y2]) (hCont (.slice Ao174 t308.length co174, .slice Ao175 t311.length co175, .slice Ao176 t314.length co176, .slice Ao177 t317.length co177, v321, v324, v327, gb330) _ ⟨hHeld, (by (with_reducible repeat (first | apply ra | apply rn | apply rd_)); exact rm HO310.out (fun _ hk => ⟨hk.1.1.1.1.2, ⟨hk.1.1.1.2, ⟨hk.1.1.2, ⟨hk.1.2, hk.2⟩⟩⟩⟩)), (zr HO313), (by (with_reducible repeat (first | apply ra | apply rn | apply rd_)); exact rm HO316.out (fun _ hk => ⟨hk.1.1.1.2, ⟨hk.1.1.1.1, ⟨hk.1.1.2, ⟨hk.1.2, hk.2⟩⟩⟩⟩)), (by (with_reducible repeat (first | apply ra | apply rn | apply rd_)); exact rm HO319.out (fun _ hk => ⟨hk.1.1.1.2, ⟨hk.1.1.1.1, ⟨hk.1.1.2, ⟨hk.1.2, hk.2⟩⟩⟩⟩)), (by (with_reducible repeat (first | apply ra | apply rn | apply rd_)); exact rm HO322.out (fun _ hk => ⟨hk.1.1.2, ⟨hk.1.2, ⟨hk.2, ⟨hk.1.1.1.1, hk.1.1.1.2⟩⟩⟩⟩)), (by (with_reducible repeat (first | apply ra | apply rn | apply rd_)); exact rm HO325.out (fun _ hk => ⟨hk.1.1.2, ⟨hk.1.2, ⟨hk.2, ⟨hk.1.1.1.1, hk.1.1.1.2⟩⟩⟩⟩)), (by (with_reducible repeat (first | apply ra | apply rn | apply rd_)); exact rm HO328.out (fun _ hk => ⟨hk.1.1.2, ⟨hk.1.2, ⟨hk.2, ⟨hk.1.1.1.1, hk.1.1.1.2⟩⟩⟩⟩)), (zk BK303), (zk BK304), (zk BK330), GW330.out, GE330.out, NB303_330.out, NB330_303.out, NB304_330.out, NB330_304.out, (by repeat (first | (with_reducible first | exact HB.out | apply wa | apply wn | apply wd | refine ws ?_ GE303.out | refine ws ?_ GE304.out | refine ws ?_ GE330.out) | exact HB.out))⟩)
        ·skip
         refine box_step ?hg (N := 5) ?hd (cs := #[.slice none 0 0, .slice none 0 0]) (t := 27) ?hr ?_; (case hd => rfl); (case hg => rfl); (case hr => first | (go_simp; done) | (go_simp; rfl))
         intro gb330 hg w174 hbox hb
         have n0_ := Z0 (rbe (zr HO310) hb)
         have n1_ := Z0 (rbe (zr HO313) hb)
         have n2_ := Z0 (rbe (zr HO316) hb)
         have n3_ := Z0 (rbe (zr HO319) hb)
         have n4_ := Z0 (kb (g := gb303) (o := .cells #[.slice A0_0 l0_0.length c0_0, .slice A0_1 l0_1.length c0_1] 25 (0, 0)) (zk BK303) hb)
         have n5_ := Z0 (kb (g := gb304) (o := .cells #[.slice A1_0 l1_0.length c1_0, .slice A1_1 l1_1.length c1_1] 27 (0, 0)) (zk BK304) hb)
         have n6_ := Z0 (below_step (by repeat (first | (with_reducible first | exact HB.out | apply wa | apply wn | apply wd | refine ws ?_ GE303.out | refine ws ?_ GE304.out) | exact HB.out)) hb)
         have n7_ := Z0 (hbox)
         have n8_ := Z0 ((by rw [hg]; exact (below_size (by repeat (first | (with_reducible first | exact HB.out | apply wa | apply wn | apply wd | refine ws ?_ GE303.out | refine ws ?_ GE304.out) | exact HB.out))) : w.heap.size ≤ gb330))
         have n9_ := Z0 ((by rw [hg]; exact (below_size (by repeat (first | (with_reducible first | exact HB.out | apply wa | apply wn | apply wd | refine ws ?_ GE303.out | refine ws ?_ GE304.out) | exact HB.out))) : w.heap.size ≤ gb330))
         have n10_ := Z0 ((by rw [hg]; exact Nat.ne_of_lt (blk_lt (g := gb303) (o := .cells #[.slice A0_0 l0_0.length c0_0, .slice A0_1 l0_1.length c0_1] 25 (0, 0)) (zk BK303)) : gb303 ≠ gb330))
         have n11_ := Z0 ((by rw [hg]; exact Nat.ne_of_gt (blk_lt (g := gb303) (o := .cells #[.slice A0_0 l0_0.length c0_0, .slice A0_1 l0_1.length c0_1] 25 (0, 0)) (zk BK303)) : gb330 ≠ gb303))
         have n12_ := Z0 ((by rw [hg]; exact Nat.ne_of_lt (blk_lt (g := gb304) (o := .cells #[.slice A1_0 l1_0.length c1_0, .slice A1_1 l1_1.length c1_1] 27 (0, 0)) (zk BK304)) : gb304 ≠ gb330))
         have n13_ := Z0 ((by rw [hg]; exact Nat.ne_of_gt (blk_lt (g := gb304) (o := .cells #[.slice A1_0 l1_0.length c1_0, .slice A1_1 l1_1.length c1_1] 27 (0, 0)) (zk BK304)) : gb330 ≠ gb304))
         clear HO310
         clear HO313
         clear HO316
         clear HO319
         clear BK303
         clear BK304
         clear HB
         have HO310 := n0_
         have HO313 := n1_
         have HO316 := n2_
         have HO319 := n3_
         have BK303 := n4_
         have BK304 := n5_
         have HB := n6_
         have BK330 := n7_
         have GW330 := n8_
         have GE330 := n9_
         have NB303_330 := n10_
         have NB330_303 := n11_
         have NB304_330 := n12_
         have NB330_304 := n13_
         clear n0_ n1_ n2_ n3_ n4_ n5_ n6_ n7_ n8_ n9_ n10_ n11_ n12_ n13_
         clear hb hbox hg
         obtain ⟨Ao175, co175, eo175⟩ := Kd.R_slice HO310.out
         (first | subst eo175 | (injection eo175 with f1_ f2_ f3_; have f4_ := f1_.symm; have f5_ := f3_.symm; clear f1_ f2_ f3_; subst f4_; subst f5_))
         obtain ⟨Ao176, co176, eo176⟩ := Kd.R_slice HO313.out
         (first | subst eo176 | (injection eo176 with f1_ f2_ f3_; have f4_ := f1_.symm; have f5_ := f3_.symm; clear f1_ f2_ f3_; subst f4_; subst f5_))
         obtain ⟨Ao177, co177, eo177⟩ := Kd.R_slice HO316.out
         (first | subst eo177 | (injection eo177 with f1_ f2_ f3_; have f4_ := f1_.symm; have f5_ := f3_.symm; clear f1_ f2_ f3_; subst f4_; subst f5_))
         obtain ⟨Ao178, co178, eo178⟩ := Kd.R_slice HO319.out
         (first | subst eo178 | (injection eo178 with f1_ f2_ f3_; have f4_ := f1_.symm; have f5_ := f3_.symm; clear f1_ f2_ f3_; subst f4_; subst f5_))
         refine hK.out _ _ ⟨(kc BK303.out 0).trans rfl, (kc BK303.out 1).trans rfl, (kc BK304.out 0).trans rfl, (kc BK304.out 1).trans rfl⟩ (fun hHeld => ?_)
         clear hK K
         refine norm_ (a' := ?_) ?_ ?_
         rotate_left
         ·show Act.put _ (some 5) _ = _
          simp only [Act.put, y0, y1, y2, i64_w, i32_w]
          rfl
         refine one_ (i := 4) (N := some 25) (bz 13 543) rfl rfl (one_of HT_.out (by kernel_rfl)) (by decide) (fun K hK => ?_)
         refine goes_ Try.func14 (by kernel_rfl) rfl #[.agg #[.slice Ao175 t308.length co175, .slice Ao176 t311.length co176], .agg #[.slice Ao177 t314.length co177, .slice Ao178 t317.length co178]] (by rfl) rfl rfl (by (try simp only [List.map_toArray, List.map_cons, List.map_nil]); first | done | rfl | (simp only [List.length_drop, List.length_take]; rfl)) ?_
         with_reducible refine (list_Tick.calls _ _ t308 _ _ t311 _ _ t314 _ _ t317 t320 t323 t326 t329 _ ?side1 ?side2 ?side3 ?side4 ?side5 ?side6 ?side7 ?side8 A20.out).mono ?_
         (case side1 => repeat (first | exact (rr HO310.out).2.2 | (with_reducible refine Kd.C_alloc ?_ _) | (with_reducible refine Kd.C_drewN ?_ _) | (with_reducible refine Kd.C_drew ?_)))
         (case side2 => exact (rr HO310.out).2.1)
         (case side3 => repeat (first | exact (rr HO313.out).2.2 | (with_reducible refine Kd.C_alloc ?_ _) | (with_reducible refine Kd.C_drewN ?_ _) | (with_reducible refine Kd.C_drew ?_)))
         (case side4 => exact (rr HO313.out).2.1)
         (case side5 => repeat (first | exact (rr HO316.out).2.2 | (with_reducible refine Kd.C_alloc ?_ _) | (with_reducible refine Kd.C_drewN ?_ _) | (with_reducible refine Kd.C_drew ?_)))
         (case side6 => exact (rr HO316.out).2.1)
         (case side7 => repeat (first | exact (rr HO319.out).2.2 | (with_reducible refine Kd.C_alloc ?_ _) | (with_reducible refine Kd.C_drewN ?_ _) | (with_reducible refine Kd.C_drew ?_)))
         (case side8 => exact (rr HO319.out).2.1)
         rintro e w179 ⟨v321, v324, v327, rfl, ho0, ho1, ho2, hb⟩
         refine ⟨_, rfl, ?_⟩
         have n0_ := Z0 (rm (rt (rt (rt (ro (zr HO310) hb) (rb ho0)) (rb ho1)) (rb ho2)) (fun _ h_ => h_.1))
         have n1_ := Z0 (rbe (zr HO313) hb)
         have n2_ := Z0 (rm (rt (rt (rt (ro (zr HO316) hb) (rb ho0)) (rb ho1)) (rb ho2)) (fun _ h_ => h_.1))
         have n3_ := Z0 (rm (rt (rt (rt (ro (zr HO319) hb) (rb ho0)) (rb ho1)) (rb ho2)) (fun _ h_ => h_.1))
         have n4_ := Z0 (rl (rw_ (rw_ (rw_ ho0 (rlt (zr HO310))) (rlt (zr HO316))) (rlt (zr HO319))) (below_size (by repeat (first | (with_reducible first | exact HB.out | apply wa | apply wn | apply wd | refine ws ?_ GE303.out | refine ws ?_ GE304.out | refine ws ?_ GE330.out) | exact HB.out))))
         have n5_ := Z0 (rl (rw_ (rw_ (rw_ ho1 (rlt (zr HO310))) (rlt (zr HO316))) (rlt (zr HO319))) (below_size (by repeat (first | (with_reducible first | exact HB.out | apply wa | apply wn | apply wd | refine ws ?_ GE303.out | refine ws ?_ GE304.out | refine ws ?_ GE330.out) | exact HB.out))))
         have n6_ := Z0 (rl (rw_ (rw_ (rw_ ho2 (rlt (zr HO310))) (rlt (zr HO316))) (rlt (zr HO319))) (below_size (by repeat (first | (with_reducible first | exact HB.out | apply wa | apply wn | apply wd | refine ws ?_ GE303.out | refine ws ?_ GE304.out | refine ws ?_ GE330.out) | exact HB.out))))
         have n7_ := Z0 (kb (g := gb303) (o := .cells #[.slice A0_0 l0_0.length c0_0, .slice A0_1 l0_1.length c0_1] 25 (0, 0)) (zk BK303) hb)
         have n8_ := Z0 (kb (g := gb304) (o := .cells #[.slice A1_0 l1_0.length c1_0, .slice A1_1 l1_1.length c1_1] 27 (0, 0)) (zk BK304) hb)
         have n9_ := Z0 (kb (g := gb330) (o := .cells #[.slice none 0 0, .slice none 0 0] 27 (0, 0)) (zk BK330) hb)
         have n10_ := Z0 (below_step (by repeat (first | (with_reducible first | exact HB.out | apply wa | apply wn | apply wd | refine ws ?_ GE303.out | refine ws ?_ GE304.out | refine ws ?_ GE330.out) | exact HB.out)) hb)
         clear HO310
         clear HO313
         clear HO316
         clear HO319
         clear BK303
         clear BK304
         clear BK330
         clear HB
         have HO310 := n0_
         have HO313 := n1_
         have HO316 := n2_
         have HO319 := n3_
         have HO322 := n4_
         have HO325 := n5_
         have HO328 := n6_
         have BK303 := n7_
         have BK304 := n8_
         have BK330 := n9_
         have HB := n10_
         clear n0_ n1_ n2_ n3_ n4_ n5_ n6_ n7_ n8_ n9_ n10_
         (try clear hb)
         (try clear hb2)
         (try clear hk)
         (try clear hi)
         (try clear ho0)
         (try clear ho1)
         (try clear ho2)
         refine hK.out _ _ ⟨(kc BK303.out 0).trans rfl, (kc BK303.out 1).trans rfl, (kc BK304.out 0).trans rfl, (kc BK304.out 1).trans rfl⟩ (fun hHeld => ?_)
         clear hK K
         refine norm_ (a' := ?_) ?_ ?_
         rotate_left
         ·show Act.put _ (some 25) _ = _
          simp only [Act.put, y0, y1, y2, i64_w, i32_w]
          rfl
         refine pu 5 (some 20) (bz 13 575) HT_ ?_
         refine pu 6 (some 26) (bz 13 639) HT_ ?_
         refine pu 7 (some 27) (bz 13 767) HT_ ?_
         refine pu 8 (some 28) (bz 13 1023) HT_ ?_
         exact norm_ (by simp only [putAll, Act.put, y0, y1, y2]) (hCont (.slice Ao175 t308.length co175, .slice Ao176 t311.length co176, .slice Ao177 t314.length co177, .slice Ao178 t317.length co178, v321, v324, v327, gb330) _ ⟨hHeld, (by (with_reducible repeat (first | apply ra | apply rn | apply rd_)); exact rm HO310.out (fun _ hk => ⟨hk.1.1.1.1.2, ⟨hk.1.1.1.2, ⟨hk.1.1.2, ⟨hk.1.2, hk.2⟩⟩⟩⟩)), (zr HO313), (by (with_reducible repeat (first | apply ra | apply rn | apply rd_)); exact rm HO316.out (fun _ hk => ⟨hk.1.1.1.2, ⟨hk.1.1.1.1, ⟨hk.1.1.2, ⟨hk.1.2, hk.2⟩⟩⟩⟩)), (by (with_reducible repeat (first | apply ra | apply rn | apply rd_)); exact rm HO319.out (fun _ hk => ⟨hk.1.1.1.2, ⟨hk.1.1.1.1, ⟨hk.1.1.2, ⟨hk.1.2, hk.2⟩⟩⟩⟩)), (by (with_reducible repeat (first | apply ra | apply rn | apply rd_)); exact rm HO322.out (fun _ hk => ⟨hk.1.1.2, ⟨hk.1.2, ⟨hk.2, ⟨hk.1.1.1.1, hk.1.1.1.2⟩⟩⟩⟩)), (by (with_reducible repeat (first | apply ra | apply rn | apply rd_)); exact rm HO325.out (fun _ hk => ⟨hk.1.1.2, ⟨hk.1.2, ⟨hk.2, ⟨hk.1.1.1.1, hk.1.1.1.2⟩⟩⟩⟩)), (by (with_reducible repeat (first | apply ra | apply rn | apply rd_)); exact rm HO328.out (fun _ hk => ⟨hk.1.1.2, ⟨hk.1.2, ⟨hk.2, ⟨hk.1.1.1.1, hk.1.1.1.2⟩⟩⟩⟩)), (zk BK303), (zk BK304), (zk BK330), GW330.out, GE330.out, NB303_330.out, NB330_303.out, NB304_330.out, NB330_304.out, (by repeat (first | (with_reducible first | exact HB.out | apply wa | apply wn | apply wd | refine ws ?_ GE303.out | refine ws ?_ GE304.out | refine ws ?_ GE330.out) | exact HB.out))⟩)
       ·skip
        refine box_step ?hg (N := 5) ?hd (cs := #[.slice none 0 0, .slice none 0 0]) (t := 27) ?hr ?_; (case hd => rfl); (case hg => rfl); (case hr => first | (go_simp; done) | (go_simp; rfl))
        intro gb330 hg w173 hbox hb
        have n0_ := Z0 (rbe (zr HO310) hb)
        have n1_ := Z0 (rbe (zr HO313) hb)
        have n2_ := Z0 (kb (g := gb303) (o := .cells #[.slice A0_0 l0_0.length c0_0, .slice A0_1 l0_1.length c0_1] 25 (0, 0)) (zk BK303) hb)
        have n3_ := Z0 (kb (g := gb304) (o := .cells #[.slice A1_0 l1_0.length c1_0, .slice A1_1 l1_1.length c1_1] 27 (0, 0)) (zk BK304) hb)
        have n4_ := Z0 (below_step (by repeat (first | (with_reducible first | exact HB.out | apply wa | apply wn | apply wd | refine ws ?_ GE303.out | refine ws ?_ GE304.out) | exact HB.out)) hb)
        have n5_ := Z0 (hbox)
        have n6_ := Z0 ((by rw [hg]; exact (below_size (by repeat (first | (with_reducible first | exact HB.out | apply wa | apply wn | apply wd | refine ws ?_ GE303.out | refine ws ?_ GE304.out) | exact HB.out))) : w.heap.size ≤ gb330))
        have n7_ := Z0 ((by rw [hg]; exact (below_size (by repeat (first | (with_reducible first | exact HB.out | apply wa | apply wn | apply wd | refine ws ?_ GE303.out | refine ws ?_ GE304.out) | exact HB.out))) : w.heap.size ≤ gb330))
        have n8_ := Z0 ((by rw [hg]; exact Nat.ne_of_lt (blk_lt (g := gb303) (o := .cells #[.slice A0_0 l0_0.length c0_0, .slice A0_1 l0_1.length c0_1] 25 (0, 0)) (zk BK303)) : gb303 ≠ gb330))
        have n9_ := Z0 ((by rw [hg]; exact Nat.ne_of_gt (blk_lt (g := gb303) (o := .cells #[.slice A0_0 l0_0.length c0_0, .slice A0_1 l0_1.length c0_1] 25 (0, 0)) (zk BK303)) : gb330 ≠ gb303))
        have n10_ := Z0 ((by rw [hg]; exact Nat.ne_of_lt (blk_lt (g := gb304) (o := .cells #[.slice A1_0 l1_0.length c1_0, .slice A1_1 l1_1.length c1_1] 27 (0, 0)) (zk BK304)) : gb304 ≠ gb330))
        have n11_ := Z0 ((by rw [hg]; exact Nat.ne_of_gt (blk_lt (g := gb304) (o := .cells #[.slice A1_0 l1_0.length c1_0, .slice A1_1 l1_1.length c1_1] 27 (0, 0)) (zk BK304)) : gb330 ≠ gb304))
        clear HO310
        clear HO313
        clear BK303
        clear BK304
        clear HB
        have HO310 := n0_
        have HO313 := n1_
        have BK303 := n2_
        have BK304 := n3_
        have HB := n4_
        have BK330 := n5_
        have GW330 := n6_
        have GE330 := n7_
        have NB303_330 := n8_
        have NB330_303 := n9_
        have NB304_330 := n10_
        have NB330_304 := n11_
        clear n0_ n1_ n2_ n3_ n4_ n5_ n6_ n7_ n8_ n9_ n10_ n11_
        clear hb hbox hg
        refine hK.out _ _ ⟨(kc BK303.out 0).trans rfl, (kc BK303.out 1).trans rfl, (kc BK304.out 0).trans rfl, (kc BK304.out 1).trans rfl⟩ (fun hHeld => ?_)
        clear hK K
        refine norm_ (a' := ?_) ?_ ?_
        rotate_left
        ·show Act.put _ (some 5) _ = _
         simp only [Act.put, y0, y1, y2, i64_w, i32_w]
         rfl
        refine one_ (i := 3) (N := some 24) (bz 13 527) rfl rfl (one_of HT_.out (by kernel_rfl)) (by decide) (fun K hK => ?_)
        refine goes_ Try.func13 (by kernel_rfl) rfl #[.agg #[.slice A1_0 l1_0.length c1_0, .slice A1_1 l1_1.length c1_1]] (by rfl) rfl rfl (by (try simp only [List.map_toArray, List.map_cons, List.map_nil]); first | done | rfl | (simp only [List.length_drop, List.length_take]; rfl)) ?_
        with_reducible refine (trefoillaw11_Own.calls _ _ l1_0 _ _ l1_1 t314 t317 _ ?side1 ?side2 ?side3 ?side4 A19.out).mono ?_
        (case side1 => repeat (first | exact (Kd.C_below HR1_0.out HB.out) | (with_reducible refine Kd.C_alloc ?_ _) | (with_reducible refine Kd.C_drewN ?_ _) | (with_reducible refine Kd.C_drew ?_)))
        (case side2 => exact HC1_0.out)
        (case side3 => repeat (first | exact (Kd.C_below HR1_1.out HB.out) | (with_reducible refine Kd.C_alloc ?_ _) | (with_reducible refine Kd.C_drewN ?_ _) | (with_reducible refine Kd.C_drew ?_)))
        (case side4 => exact HC1_1.out)
        rintro e w174 ⟨v315, v318, rfl, ho0, ho1, hb⟩
        refine ⟨_, rfl, ?_⟩
        have n0_ := Z0 (rm (rt (rt (ro (zr HO310) hb) (rb ho0)) (rb ho1)) (fun _ h_ => h_.1))
        have n1_ := Z0 (rbe (zr HO313) hb)
        have n2_ := Z0 (rl (rw_ ho0 (rlt (zr HO310))) (below_size (by repeat (first | (with_reducible first | exact HB.out | apply wa | apply wn | apply wd | refine ws ?_ GE303.out | refine ws ?_ GE304.out | refine ws ?_ GE330.out) | exact HB.out))))
        have n3_ := Z0 (rl (rw_ ho1 (rlt (zr HO310))) (below_size (by repeat (first | (with_reducible first | exact HB.out | apply wa | apply wn | apply wd | refine ws ?_ GE303.out | refine ws ?_ GE304.out | refine ws ?_ GE330.out) | exact HB.out))))
        have n4_ := Z0 (kb (g := gb303) (o := .cells #[.slice A0_0 l0_0.length c0_0, .slice A0_1 l0_1.length c0_1] 25 (0, 0)) (zk BK303) hb)
        have n5_ := Z0 (kb (g := gb304) (o := .cells #[.slice A1_0 l1_0.length c1_0, .slice A1_1 l1_1.length c1_1] 27 (0, 0)) (zk BK304) hb)
        have n6_ := Z0 (kb (g := gb330) (o := .cells #[.slice none 0 0, .slice none 0 0] 27 (0, 0)) (zk BK330) hb)
        have n7_ := Z0 (below_step (by repeat (first | (with_reducible first | exact HB.out | apply wa | apply wn | apply wd | refine ws ?_ GE303.out | refine ws ?_ GE304.out | refine ws ?_ GE330.out) | exact HB.out)) hb)
        clear HO310
        clear HO313
        clear BK303
        clear BK304
        clear BK330
        clear HB
        have HO310 := n0_
        have HO313 := n1_
        have HO316 := n2_
        have HO319 := n3_
        have BK303 := n4_
        have BK304 := n5_
        have BK330 := n6_
        have HB := n7_
        clear n0_ n1_ n2_ n3_ n4_ n5_ n6_ n7_
        (try clear hb)
        (try clear hb2)
        (try clear hk)
        (try clear hi)
        (try clear ho0)
        (try clear ho1)
        obtain ⟨Ao175, co175, eo175⟩ := Kd.R_slice HO310.out
        (first | subst eo175 | (injection eo175 with f1_ f2_ f3_; have f4_ := f1_.symm; have f5_ := f3_.symm; clear f1_ f2_ f3_; subst f4_; subst f5_))
        obtain ⟨Ao176, co176, eo176⟩ := Kd.R_slice HO313.out
        (first | subst eo176 | (injection eo176 with f1_ f2_ f3_; have f4_ := f1_.symm; have f5_ := f3_.symm; clear f1_ f2_ f3_; subst f4_; subst f5_))
        obtain ⟨Ao177, co177, eo177⟩ := Kd.R_slice HO316.out
        (first | subst eo177 | (injection eo177 with f1_ f2_ f3_; have f4_ := f1_.symm; have f5_ := f3_.symm; clear f1_ f2_ f3_; subst f4_; subst f5_))
        obtain ⟨Ao178, co178, eo178⟩ := Kd.R_slice HO319.out
        (first | subst eo178 | (injection eo178 with f1_ f2_ f3_; have f4_ := f1_.symm; have f5_ := f3_.symm; clear f1_ f2_ f3_; subst f4_; subst f5_))
        refine hK.out _ _ ⟨(kc BK303.out 0).trans rfl, (kc BK303.out 1).trans rfl, (kc BK304.out 0).trans rfl, (kc BK304.out 1).trans rfl⟩ (fun hHeld => ?_)
        clear hK K
        refine norm_ (a' := ?_) ?_ ?_
        rotate_left
        ·show Act.put _ (some 24) _ = _
         simp only [Act.put, y0, y1, y2, i64_w, i32_w]
         rfl
        refine one_ (i := 4) (N := some 25) (bz 13 543) rfl rfl (one_of HT_.out (by kernel_rfl)) (by decide) (fun K hK => ?_)
        refine goes_ Try.func14 (by kernel_rfl) rfl #[.agg #[.slice Ao175 t308.length co175, .slice Ao176 t311.length co176], .agg #[.slice Ao177 t314.length co177, .slice Ao178 t317.length co178]] (by rfl) rfl rfl (by (try simp only [List.map_toArray, List.map_cons, List.map_nil]); first | done | rfl | (simp only [List.length_drop, List.length_take]; rfl)) ?_
        with_reducible refine (list_Tick.calls _ _ t308 _ _ t311 _ _ t314 _ _ t317 t320 t323 t326 t329 _ ?side1 ?side2 ?side3 ?side4 ?side5 ?side6 ?side7 ?side8 A20.out).mono ?_
        (case side1 => repeat (first | exact (rr HO310.out).2.2 | (with_reducible refine Kd.C_alloc ?_ _) | (with_reducible refine Kd.C_drewN ?_ _) | (with_reducible refine Kd.C_drew ?_)))
        (case side2 => exact (rr HO310.out).2.1)
        (case side3 => repeat (first | exact (rr HO313.out).2.2 | (with_reducible refine Kd.C_alloc ?_ _) | (with_reducible refine Kd.C_drewN ?_ _) | (with_reducible refine Kd.C_drew ?_)))
        (case side4 => exact (rr HO313.out).2.1)
        (case side5 => repeat (first | exact (rr HO316.out).2.2 | (with_reducible refine Kd.C_alloc ?_ _) | (with_reducible refine Kd.C_drewN ?_ _) | (with_reducible refine Kd.C_drew ?_)))
        (case side6 => exact (rr HO316.out).2.1)
        (case side7 => repeat (first | exact (rr HO319.out).2.2 | (with_reducible refine Kd.C_alloc ?_ _) | (with_reducible refine Kd.C_drewN ?_ _) | (with_reducible refine Kd.C_drew ?_)))
        (case side8 => exact (rr HO319.out).2.1)
        rintro e w179 ⟨v321, v324, v327, rfl, ho0, ho1, ho2, hb⟩
        refine ⟨_, rfl, ?_⟩
        have n0_ := Z0 (rm (rt (rt (rt (ro (zr HO310) hb) (rb ho0)) (rb ho1)) (rb ho2)) (fun _ h_ => h_.1))
        have n1_ := Z0 (rbe (zr HO313) hb)
        have n2_ := Z0 (rm (rt (rt (rt (ro (zr HO316) hb) (rb ho0)) (rb ho1)) (rb ho2)) (fun _ h_ => h_.1))
        have n3_ := Z0 (rm (rt (rt (rt (ro (zr HO319) hb) (rb ho0)) (rb ho1)) (rb ho2)) (fun _ h_ => h_.1))
        have n4_ := Z0 (rl (rw_ (rw_ (rw_ ho0 (rlt (zr HO310))) (rlt (zr HO316))) (rlt (zr HO319))) (below_size (by repeat (first | (with_reducible first | exact HB.out | apply wa | apply wn | apply wd | refine ws ?_ GE303.out | refine ws ?_ GE304.out | refine ws ?_ GE330.out) | exact HB.out))))
        have n5_ := Z0 (rl (rw_ (rw_ (rw_ ho1 (rlt (zr HO310))) (rlt (zr HO316))) (rlt (zr HO319))) (below_size (by repeat (first | (with_reducible first | exact HB.out | apply wa | apply wn | apply wd | refine ws ?_ GE303.out | refine ws ?_ GE304.out | refine ws ?_ GE330.out) | exact HB.out))))
        have n6_ := Z0 (rl (rw_ (rw_ (rw_ ho2 (rlt (zr HO310))) (rlt (zr HO316))) (rlt (zr HO319))) (below_size (by repeat (first | (with_reducible first | exact HB.out | apply wa | apply wn | apply wd | refine ws ?_ GE303.out | refine ws ?_ GE304.out | refine ws ?_ GE330.out) | exact HB.out))))
        have n7_ := Z0 (kb (g := gb303) (o := .cells #[.slice A0_0 l0_0.length c0_0, .slice A0_1 l0_1.length c0_1] 25 (0, 0)) (zk BK303) hb)
        have n8_ := Z0 (kb (g := gb304) (o := .cells #[.slice A1_0 l1_0.length c1_0, .slice A1_1 l1_1.length c1_1] 27 (0, 0)) (zk BK304) hb)
        have n9_ := Z0 (kb (g := gb330) (o := .cells #[.slice none 0 0, .slice none 0 0] 27 (0, 0)) (zk BK330) hb)
        have n10_ := Z0 (below_step (by repeat (first | (with_reducible first | exact HB.out | apply wa | apply wn | apply wd | refine ws ?_ GE303.out | refine ws ?_ GE304.out | refine ws ?_ GE330.out) | exact HB.out)) hb)
        clear HO310
        clear HO313
        clear HO316
        clear HO319
        clear BK303
        clear BK304
        clear BK330
        clear HB
        have HO310 := n0_
        have HO313 := n1_
        have HO316 := n2_
        have HO319 := n3_
        have HO322 := n4_
        have HO325 := n5_
        have HO328 := n6_
        have BK303 := n7_
        have BK304 := n8_
        have BK330 := n9_
        have HB := n10_
        clear n0_ n1_ n2_ n3_ n4_ n5_ n6_ n7_ n8_ n9_ n10_
        (try clear hb)
        (try clear hb2)
        (try clear hk)
        (try clear hi)
        (try clear ho0)
        (try clear ho1)
        (try clear ho2)
        refine hK.out _ _ ⟨(kc BK303.out 0).trans rfl, (kc BK303.out 1).trans rfl, (kc BK304.out 0).trans rfl, (kc BK304.out 1).trans rfl⟩ (fun hHeld => ?_)
        clear hK K
        refine norm_ (a' := ?_) ?_ ?_
        rotate_left
        ·show Act.put _ (some 25) _ = _
         simp only [Act.put, y0, y1, y2, i64_w, i32_w]
         rfl
        refine pu 5 (some 20) (bz 13 575) HT_ ?_
        refine pu 6 (some 26) (bz 13 639) HT_ ?_
        refine pu 7 (some 27) (bz 13 767) HT_ ?_
        refine pu 8 (some 28) (bz 13 1023) HT_ ?_
        exact norm_ (by simp only [putAll, Act.put, y0, y1, y2]) (hCont (.slice Ao175 t308.length co175, .slice Ao176 t311.length co176, .slice Ao177 t314.length co177, .slice Ao178 t317.length co178, v321, v324, v327, gb330) _ ⟨hHeld, (by (with_reducible repeat (first | apply ra | apply rn | apply rd_)); exact rm HO310.out (fun _ hk => ⟨hk.1.1.1.1.2, ⟨hk.1.1.1.2, ⟨hk.1.1.2, ⟨hk.1.2, hk.2⟩⟩⟩⟩)), (zr HO313), (by (with_reducible repeat (first | apply ra | apply rn | apply rd_)); exact rm HO316.out (fun _ hk => ⟨hk.1.1.1.2, ⟨hk.1.1.1.1, ⟨hk.1.1.2, ⟨hk.1.2, hk.2⟩⟩⟩⟩)), (by (with_reducible repeat (first | apply ra | apply rn | apply rd_)); exact rm HO319.out (fun _ hk => ⟨hk.1.1.1.2, ⟨hk.1.1.1.1, ⟨hk.1.1.2, ⟨hk.1.2, hk.2⟩⟩⟩⟩)), (by (with_reducible repeat (first | apply ra | apply rn | apply rd_)); exact rm HO322.out (fun _ hk => ⟨hk.1.1.2, ⟨hk.1.2, ⟨hk.2, ⟨hk.1.1.1.1, hk.1.1.1.2⟩⟩⟩⟩)), (by (with_reducible repeat (first | apply ra | apply rn | apply rd_)); exact rm HO325.out (fun _ hk => ⟨hk.1.1.2, ⟨hk.1.2, ⟨hk.2, ⟨hk.1.1.1.1, hk.1.1.1.2⟩⟩⟩⟩)), (by (with_reducible repeat (first | apply ra | apply rn | apply rd_)); exact rm HO328.out (fun _ hk => ⟨hk.1.1.2, ⟨hk.1.2, ⟨hk.2, ⟨hk.1.1.1.1, hk.1.1.1.2⟩⟩⟩⟩)), (zk BK303), (zk BK304), (zk BK330), GW330.out, GE330.out, NB303_330.out, NB330_303.out, NB304_330.out, NB330_304.out, (by repeat (first | (with_reducible first | exact HB.out | apply wa | apply wn | apply wd | refine ws ?_ GE303.out | refine ws ?_ GE304.out | refine ws ?_ GE330.out) | exact HB.out))⟩)
      ·skip
       refine box_step ?hg (N := 5) ?hd (cs := #[.slice none 0 0, .slice none 0 0]) (t := 27) ?hr ?_; (case hd => rfl); (case hg => rfl); (case hr => first | (go_simp; done) | (go_simp; rfl))
       intro gb330 hg w172 hbox hb
       have n0_ := Z0 (kb (g := gb303) (o := .cells #[.slice A0_0 l0_0.length c0_0, .slice A0_1 l0_1.length c0_1] 25 (0, 0)) (zk BK303) hb)
       have n1_ := Z0 (kb (g := gb304) (o := .cells #[.slice A1_0 l1_0.length c1_0, .slice A1_1 l1_1.length c1_1] 27 (0, 0)) (zk BK304) hb)
       have n2_ := Z0 (below_step (by repeat (first | (with_reducible first | exact HB.out | apply wa | apply wn | apply wd | refine ws ?_ GE303.out | refine ws ?_ GE304.out) | exact HB.out)) hb)
       have n3_ := Z0 (hbox)
       have n4_ := Z0 ((by rw [hg]; exact (below_size (by repeat (first | (with_reducible first | exact HB.out | apply wa | apply wn | apply wd | refine ws ?_ GE303.out | refine ws ?_ GE304.out) | exact HB.out))) : w.heap.size ≤ gb330))
       have n5_ := Z0 ((by rw [hg]; exact (below_size (by repeat (first | (with_reducible first | exact HB.out | apply wa | apply wn | apply wd | refine ws ?_ GE303.out | refine ws ?_ GE304.out) | exact HB.out))) : w.heap.size ≤ gb330))
       have n6_ := Z0 ((by rw [hg]; exact Nat.ne_of_lt (blk_lt (g := gb303) (o := .cells #[.slice A0_0 l0_0.length c0_0, .slice A0_1 l0_1.length c0_1] 25 (0, 0)) (zk BK303)) : gb303 ≠ gb330))
       have n7_ := Z0 ((by rw [hg]; exact Nat.ne_of_gt (blk_lt (g := gb303) (o := .cells #[.slice A0_0 l0_0.length c0_0, .slice A0_1 l0_1.length c0_1] 25 (0, 0)) (zk BK303)) : gb330 ≠ gb303))
       have n8_ := Z0 ((by rw [hg]; exact Nat.ne_of_lt (blk_lt (g := gb304) (o := .cells #[.slice A1_0 l1_0.length c1_0, .slice A1_1 l1_1.length c1_1] 27 (0, 0)) (zk BK304)) : gb304 ≠ gb330))
       have n9_ := Z0 ((by rw [hg]; exact Nat.ne_of_gt (blk_lt (g := gb304) (o := .cells #[.slice A1_0 l1_0.length c1_0, .slice A1_1 l1_1.length c1_1] 27 (0, 0)) (zk BK304)) : gb330 ≠ gb304))
       clear BK303
       clear BK304
       clear HB
       have BK303 := n0_
       have BK304 := n1_
       have HB := n2_
       have BK330 := n3_
       have GW330 := n4_
       have GE330 := n5_
       have NB303_330 := n6_
       have NB330_303 := n7_
       have NB304_330 := n8_
       have NB330_304 := n9_
       clear n0_ n1_ n2_ n3_ n4_ n5_ n6_ n7_ n8_ n9_
       clear hb hbox hg
       refine hK.out _ _ ⟨(kc BK303.out 0).trans rfl, (kc BK303.out 1).trans rfl, (kc BK304.out 0).trans rfl, (kc BK304.out 1).trans rfl⟩ (fun hHeld => ?_)
       clear hK K
       refine norm_ (a' := ?_) ?_ ?_
       rotate_left
       ·show Act.put _ (some 5) _ = _
        simp only [Act.put, y0, y1, y2, i64_w, i32_w]
        rfl
       refine one_ (i := 1) (N := some 22) (bz 13 519) rfl rfl (one_of HT_.out (by kernel_rfl)) (by decide) (fun K hK => ?_)
       refine goes_ Try.func12 (by kernel_rfl) rfl #[.agg #[.slice A0_0 l0_0.length c0_0, .slice A0_1 l0_1.length c0_1]] (by rfl) rfl rfl (by (try simp only [List.map_toArray, List.map_cons, List.map_nil]); first | done | rfl | (simp only [List.length_drop, List.length_take]; rfl)) ?_
       with_reducible refine (trefoillaw04_Own.calls _ _ l0_0 _ _ l0_1 t308 t311 _ ?side1 ?side2 ?side3 ?side4 A18.out).mono ?_
       (case side1 => repeat (first | exact (Kd.C_below HR0_0.out HB.out) | (with_reducible refine Kd.C_alloc ?_ _) | (with_reducible refine Kd.C_drewN ?_ _) | (with_reducible refine Kd.C_drew ?_)))
       (case side2 => exact HC0_0.out)
       (case side3 => repeat (first | exact (Kd.C_below HR0_1.out HB.out) | (with_reducible refine Kd.C_alloc ?_ _) | (with_reducible refine Kd.C_drewN ?_ _) | (with_reducible refine Kd.C_drew ?_)))
       (case side4 => exact HC0_1.out)
       rintro e w173 ⟨v309, v312, rfl, ho0, ho1, hb⟩
       refine ⟨_, rfl, ?_⟩
       have n0_ := Z0 (rl ho0 (below_size (by repeat (first | (with_reducible first | exact HB.out | apply wa | apply wn | apply wd | refine ws ?_ GE303.out | refine ws ?_ GE304.out | refine ws ?_ GE330.out) | exact HB.out))))
       have n1_ := Z0 (rl ho1 (below_size (by repeat (first | (with_reducible first | exact HB.out | apply wa | apply wn | apply wd | refine ws ?_ GE303.out | refine ws ?_ GE304.out | refine ws ?_ GE330.out) | exact HB.out))))
       have n2_ := Z0 (kb (g := gb303) (o := .cells #[.slice A0_0 l0_0.length c0_0, .slice A0_1 l0_1.length c0_1] 25 (0, 0)) (zk BK303) hb)
       have n3_ := Z0 (kb (g := gb304) (o := .cells #[.slice A1_0 l1_0.length c1_0, .slice A1_1 l1_1.length c1_1] 27 (0, 0)) (zk BK304) hb)
       have n4_ := Z0 (kb (g := gb330) (o := .cells #[.slice none 0 0, .slice none 0 0] 27 (0, 0)) (zk BK330) hb)
       have n5_ := Z0 (below_step (by repeat (first | (with_reducible first | exact HB.out | apply wa | apply wn | apply wd | refine ws ?_ GE303.out | refine ws ?_ GE304.out | refine ws ?_ GE330.out) | exact HB.out)) hb)
       clear BK303
       clear BK304
       clear BK330
       clear HB
       have HO310 := n0_
       have HO313 := n1_
       have BK303 := n2_
       have BK304 := n3_
       have BK330 := n4_
       have HB := n5_
       clear n0_ n1_ n2_ n3_ n4_ n5_
       (try clear hb)
       (try clear hb2)
       (try clear hk)
       (try clear hi)
       (try clear ho0)
       (try clear ho1)
       refine hK.out _ _ ⟨(kc BK303.out 0).trans rfl, (kc BK303.out 1).trans rfl, (kc BK304.out 0).trans rfl, (kc BK304.out 1).trans rfl⟩ (fun hHeld => ?_)
       clear hK K
       refine norm_ (a' := ?_) ?_ ?_
       rotate_left
       ·show Act.put _ (some 22) _ = _
        simp only [Act.put, y0, y1, y2, i64_w, i32_w]
        rfl
       refine one_ (i := 3) (N := some 24) (bz 13 527) rfl rfl (one_of HT_.out (by kernel_rfl)) (by decide) (fun K hK => ?_)
       refine goes_ Try.func13 (by kernel_rfl) rfl #[.agg #[.slice A1_0 l1_0.length c1_0, .slice A1_1 l1_1.length c1_1]] (by rfl) rfl rfl (by (try simp only [List.map_toArray, List.map_cons, List.map_nil]); first | done | rfl | (simp only [List.length_drop, List.length_take]; rfl)) ?_
       with_reducible refine (trefoillaw11_Own.calls _ _ l1_0 _ _ l1_1 t314 t317 _ ?side1 ?side2 ?side3 ?side4 A19.out).mono ?_
       (case side1 => repeat (first | exact (Kd.C_below HR1_0.out HB.out) | (with_reducible refine Kd.C_alloc ?_ _) | (with_reducible refine Kd.C_drewN ?_ _) | (with_reducible refine Kd.C_drew ?_)))
       (case side2 => exact HC1_0.out)
       (case side3 => repeat (first | exact (Kd.C_below HR1_1.out HB.out) | (with_reducible refine Kd.C_alloc ?_ _) | (with_reducible refine Kd.C_drewN ?_ _) | (with_reducible refine Kd.C_drew ?_)))
       (case side4 => exact HC1_1.out)
       rintro e w174 ⟨v315, v318, rfl, ho0, ho1, hb⟩
       refine ⟨_, rfl, ?_⟩
       have n0_ := Z0 (rm (rt (rt (ro (zr HO310) hb) (rb ho0)) (rb ho1)) (fun _ h_ => h_.1))
       have n1_ := Z0 (rbe (zr HO313) hb)
       have n2_ := Z0 (rl (rw_ ho0 (rlt (zr HO310))) (below_size (by repeat (first | (with_reducible first | exact HB.out | apply wa | apply wn | apply wd | refine ws ?_ GE303.out | refine ws ?_ GE304.out | refine ws ?_ GE330.out) | exact HB.out))))
       have n3_ := Z0 (rl (rw_ ho1 (rlt (zr HO310))) (below_size (by repeat (first | (with_reducible first | exact HB.out | apply wa | apply wn | apply wd | refine ws ?_ GE303.out | refine ws ?_ GE304.out | refine ws ?_ GE330.out) | exact HB.out))))
       have n4_ := Z0 (kb (g := gb303) (o := .cells #[.slice A0_0 l0_0.length c0_0, .slice A0_1 l0_1.length c0_1] 25 (0, 0)) (zk BK303) hb)
       have n5_ := Z0 (kb (g := gb304) (o := .cells #[.slice A1_0 l1_0.length c1_0, .slice A1_1 l1_1.length c1_1] 27 (0, 0)) (zk BK304) hb)
       have n6_ := Z0 (kb (g := gb330) (o := .cells #[.slice none 0 0, .slice none 0 0] 27 (0, 0)) (zk BK330) hb)
       have n7_ := Z0 (below_step (by repeat (first | (with_reducible first | exact HB.out | apply wa | apply wn | apply wd | refine ws ?_ GE303.out | refine ws ?_ GE304.out | refine ws ?_ GE330.out) | exact HB.out)) hb)
       clear HO310
       clear HO313
       clear BK303
       clear BK304
       clear BK330
       clear HB
       have HO310 := n0_
       have HO313 := n1_
       have HO316 := n2_
       have HO319 := n3_
       have BK303 := n4_
       have BK304 := n5_
       have BK330 := n6_
       have HB := n7_
       clear n0_ n1_ n2_ n3_ n4_ n5_ n6_ n7_
       (try clear hb)
       (try clear hb2)
       (try clear hk)
       (try clear hi)
       (try clear ho0)
       (try clear ho1)
       obtain ⟨Ao175, co175, eo175⟩ := Kd.R_slice HO310.out
       (first | subst eo175 | (injection eo175 with f1_ f2_ f3_; have f4_ := f1_.symm; have f5_ := f3_.symm; clear f1_ f2_ f3_; subst f4_; subst f5_))
       obtain ⟨Ao176, co176, eo176⟩ := Kd.R_slice HO313.out
       (first | subst eo176 | (injection eo176 with f1_ f2_ f3_; have f4_ := f1_.symm; have f5_ := f3_.symm; clear f1_ f2_ f3_; subst f4_; subst f5_))
       obtain ⟨Ao177, co177, eo177⟩ := Kd.R_slice HO316.out
       (first | subst eo177 | (injection eo177 with f1_ f2_ f3_; have f4_ := f1_.symm; have f5_ := f3_.symm; clear f1_ f2_ f3_; subst f4_; subst f5_))
       obtain ⟨Ao178, co178, eo178⟩ := Kd.R_slice HO319.out
       (first | subst eo178 | (injection eo178 with f1_ f2_ f3_; have f4_ := f1_.symm; have f5_ := f3_.symm; clear f1_ f2_ f3_; subst f4_; subst f5_))
       refine hK.out _ _ ⟨(kc BK303.out 0).trans rfl, (kc BK303.out 1).trans rfl, (kc BK304.out 0).trans rfl, (kc BK304.out 1).trans rfl⟩ (fun hHeld => ?_)
       clear hK K
       refine norm_ (a' := ?_) ?_ ?_
       rotate_left
       ·show Act.put _ (some 24) _ = _
        simp only [Act.put, y0, y1, y2, i64_w, i32_w]
        rfl
       refine one_ (i := 4) (N := some 25) (bz 13 543) rfl rfl (one_of HT_.out (by kernel_rfl)) (by decide) (fun K hK => ?_)
       refine goes_ Try.func14 (by kernel_rfl) rfl #[.agg #[.slice Ao175 t308.length co175, .slice Ao176 t311.length co176], .agg #[.slice Ao177 t314.length co177, .slice Ao178 t317.length co178]] (by rfl) rfl rfl (by (try simp only [List.map_toArray, List.map_cons, List.map_nil]); first | done | rfl | (simp only [List.length_drop, List.length_take]; rfl)) ?_
       with_reducible refine (list_Tick.calls _ _ t308 _ _ t311 _ _ t314 _ _ t317 t320 t323 t326 t329 _ ?side1 ?side2 ?side3 ?side4 ?side5 ?side6 ?side7 ?side8 A20.out).mono ?_
       (case side1 => repeat (first | exact (rr HO310.out).2.2 | (with_reducible refine Kd.C_alloc ?_ _) | (with_reducible refine Kd.C_drewN ?_ _) | (with_reducible refine Kd.C_drew ?_)))
       (case side2 => exact (rr HO310.out).2.1)
       (case side3 => repeat (first | exact (rr HO313.out).2.2 | (with_reducible refine Kd.C_alloc ?_ _) | (with_reducible refine Kd.C_drewN ?_ _) | (with_reducible refine Kd.C_drew ?_)))
       (case side4 => exact (rr HO313.out).2.1)
       (case side5 => repeat (first | exact (rr HO316.out).2.2 | (with_reducible refine Kd.C_alloc ?_ _) | (with_reducible refine Kd.C_drewN ?_ _) | (with_reducible refine Kd.C_drew ?_)))
       (case side6 => exact (rr HO316.out).2.1)
       (case side7 => repeat (first | exact (rr HO319.out).2.2 | (with_reducible refine Kd.C_alloc ?_ _) | (with_reducible refine Kd.C_drewN ?_ _) | (with_reducible refine Kd.C_drew ?_)))
       (case side8 => exact (rr HO319.out).2.1)
       rintro e w179 ⟨v321, v324, v327, rfl, ho0, ho1, ho2, hb⟩
       refine ⟨_, rfl, ?_⟩
       have n0_ := Z0 (rm (rt (rt (rt (ro (zr HO310) hb) (rb ho0)) (rb ho1)) (rb ho2)) (fun _ h_ => h_.1))
       have n1_ := Z0 (rbe (zr HO313) hb)
       have n2_ := Z0 (rm (rt (rt (rt (ro (zr HO316) hb) (rb ho0)) (rb ho1)) (rb ho2)) (fun _ h_ => h_.1))
       have n3_ := Z0 (rm (rt (rt (rt (ro (zr HO319) hb) (rb ho0)) (rb ho1)) (rb ho2)) (fun _ h_ => h_.1))
       have n4_ := Z0 (rl (rw_ (rw_ (rw_ ho0 (rlt (zr HO310))) (rlt (zr HO316))) (rlt (zr HO319))) (below_size (by repeat (first | (with_reducible first | exact HB.out | apply wa | apply wn | apply wd | refine ws ?_ GE303.out | refine ws ?_ GE304.out | refine ws ?_ GE330.out) | exact HB.out))))
       have n5_ := Z0 (rl (rw_ (rw_ (rw_ ho1 (rlt (zr HO310))) (rlt (zr HO316))) (rlt (zr HO319))) (below_size (by repeat (first | (with_reducible first | exact HB.out | apply wa | apply wn | apply wd | refine ws ?_ GE303.out | refine ws ?_ GE304.out | refine ws ?_ GE330.out) | exact HB.out))))
       have n6_ := Z0 (rl (rw_ (rw_ (rw_ ho2 (rlt (zr HO310))) (rlt (zr HO316))) (rlt (zr HO319))) (below_size (by repeat (first | (with_reducible first | exact HB.out | apply wa | apply wn | apply wd | refine ws ?_ GE303.out | refine ws ?_ GE304.out | refine ws ?_ GE330.out) | exact HB.out))))
       have n7_ := Z0 (kb (g := gb303) (o := .cells #[.slice A0_0 l0_0.length c0_0, .slice A0_1 l0_1.length c0_1] 25 (0, 0)) (zk BK303) hb)
       have n8_ := Z0 (kb (g := gb304) (o := .cells #[.slice A1_0 l1_0.length c1_0, .slice A1_1 l1_1.length c1_1] 27 (0, 0)) (zk BK304) hb)
       have n9_ := Z0 (kb (g := gb330) (o := .cells #[.slice none 0 0, .slice none 0 0] 27 (0, 0)) (zk BK330) hb)
       have n10_ := Z0 (below_step (by repeat (first | (with_reducible first | exact HB.out | apply wa | apply wn | apply wd | refine ws ?_ GE303.out | refine ws ?_ GE304.out | refine ws ?_ GE330.out) | exact HB.out)) hb)
       clear HO310
       clear HO313
       clear HO316
       clear HO319
       clear BK303
       clear BK304
       clear BK330
       clear HB
       have HO310 := n0_
       have HO313 := n1_
       have HO316 := n2_
       have HO319 := n3_
       have HO322 := n4_
       have HO325 := n5_
       have HO328 := n6_
       have BK303 := n7_
       have BK304 := n8_
       have BK330 := n9_
       have HB := n10_
       clear n0_ n1_ n2_ n3_ n4_ n5_ n6_ n7_ n8_ n9_ n10_
       (try clear hb)
       (try clear hb2)
       (try clear hk)
       (try clear hi)
       (try clear ho0)
       (try clear ho1)
       (try clear ho2)
       refine hK.out _ _ ⟨(kc BK303.out 0).trans rfl, (kc BK303.out 1).trans rfl, (kc BK304.out 0).trans rfl, (kc BK304.out 1).trans rfl⟩ (fun hHeld => ?_)
       clear hK K
       refine norm_ (a' := ?_) ?_ ?_
       rotate_left
       ·show Act.put _ (some 25) _ = _
        simp only [Act.put, y0, y1, y2, i64_w, i32_w]
        rfl
       refine pu 5 (some 20) (bz 13 575) HT_ ?_
       refine pu 6 (some 26) (bz 13 639) HT_ ?_
       refine pu 7 (some 27) (bz 13 767) HT_ ?_
       refine pu 8 (some 28) (bz 13 1023) HT_ ?_
       exact norm_ (by simp only [putAll, Act.put, y0, y1, y2]) (hCont (.slice Ao175 t308.length co175, .slice Ao176 t311.length co176, .slice Ao177 t314.length co177, .slice Ao178 t317.length co178, v321, v324, v327, gb330) _ ⟨hHeld, (by (with_reducible repeat (first | apply ra | apply rn | apply rd_)); exact rm HO310.out (fun _ hk => ⟨hk.1.1.1.1.2, ⟨hk.1.1.1.2, ⟨hk.1.1.2, ⟨hk.1.2, hk.2⟩⟩⟩⟩)), (zr HO313), (by (with_reducible repeat (first | apply ra | apply rn | apply rd_)); exact rm HO316.out (fun _ hk => ⟨hk.1.1.1.2, ⟨hk.1.1.1.1, ⟨hk.1.1.2, ⟨hk.1.2, hk.2⟩⟩⟩⟩)), (by (with_reducible repeat (first | apply ra | apply rn | apply rd_)); exact rm HO319.out (fun _ hk => ⟨hk.1.1.1.2, ⟨hk.1.1.1.1, ⟨hk.1.1.2, ⟨hk.1.2, hk.2⟩⟩⟩⟩)), (by (with_reducible repeat (first | apply ra | apply rn | apply rd_)); exact rm HO322.out (fun _ hk => ⟨hk.1.1.2, ⟨hk.1.2, ⟨hk.2, ⟨hk.1.1.1.1, hk.1.1.1.2⟩⟩⟩⟩)), (by (with_reducible repeat (first | apply ra | apply rn | apply rd_)); exact rm HO325.out (fun _ hk => ⟨hk.1.1.2, ⟨hk.1.2, ⟨hk.2, ⟨hk.1.1.1.1, hk.1.1.1.2⟩⟩⟩⟩)), (by (with_reducible repeat (first | apply ra | apply rn | apply rd_)); exact rm HO328.out (fun _ hk => ⟨hk.1.1.2, ⟨hk.1.2, ⟨hk.2, ⟨hk.1.1.1.1, hk.1.1.1.2⟩⟩⟩⟩)), (zk BK303), (zk BK304), (zk BK330), GW330.out, GE330.out, NB303_330.out, NB330_303.out, NB304_330.out, NB330_304.out, (by repeat (first | (with_reducible first | exact HB.out | apply wa | apply wn | apply wd | refine ws ?_ GE303.out | refine ws ?_ GE304.out | refine ws ?_ GE330.out) | exact HB.out))⟩)
     rintro ⟨v309, v312, v315, v318, v321, v324, v327, gb330⟩ w180 ⟨hS_, h0_, h1_, h2_, h3_, h4_, h5_, h6_, h7_, h8_, h9_, h10_, h11_, h12_, h13_, h14_, h15_, h16_⟩
     have n0_ : Aside0 (Kd.R (Kd.int .i64) 3 w180 w.heap.size (fun k_ => some k_ ≠ (v315 : Value).ownBlock ∧ some k_ ≠ (v318 : Value).ownBlock ∧ some k_ ≠ (v321 : Value).ownBlock ∧ some k_ ≠ (v324 : Value).ownBlock ∧ some k_ ≠ (v327 : Value).ownBlock) v309 t308) := ⟨h0_⟩
     have n1_ : Aside0 (Kd.R k85 85 w180 w.heap.size (fun _ => True) v312 t311) := ⟨h1_⟩
     have n2_ : Aside0 (Kd.R (Kd.int .i64) 3 w180 w.heap.size (fun k_ => some k_ ≠ (v309 : Value).ownBlock ∧ some k_ ≠ (v318 : Value).ownBlock ∧ some k_ ≠ (v321 : Value).ownBlock ∧ some k_ ≠ (v324 : Value).ownBlock ∧ some k_ ≠ (v327 : Value).ownBlock) v315 t314) := ⟨h2_⟩
     have n3_ : Aside0 (Kd.R (Kd.int .i64) 3 w180 w.heap.size (fun k_ => some k_ ≠ (v309 : Value).ownBlock ∧ some k_ ≠ (v315 : Value).ownBlock ∧ some k_ ≠ (v321 : Value).ownBlock ∧ some k_ ≠ (v324 : Value).ownBlock ∧ some k_ ≠ (v327 : Value).ownBlock) v318 t317) := ⟨h3_⟩
     have n4_ : Aside0 (Kd.R (Kd.int .i64) 3 w180 w.heap.size (fun k_ => some k_ ≠ (v309 : Value).ownBlock ∧ some k_ ≠ (v315 : Value).ownBlock ∧ some k_ ≠ (v318 : Value).ownBlock ∧ some k_ ≠ (v324 : Value).ownBlock ∧ some k_ ≠ (v327 : Value).ownBlock) v321 t320) := ⟨h4_⟩
     have n5_ : Aside0 (Kd.R (Kd.int .i64) 3 w180 w.heap.size (fun k_ => some k_ ≠ (v309 : Value).ownBlock ∧ some k_ ≠ (v315 : Value).ownBlock ∧ some k_ ≠ (v318 : Value).ownBlock ∧ some k_ ≠ (v321 : Value).ownBlock ∧ some k_ ≠ (v327 : Value).ownBlock) v324 t323) := ⟨h5_⟩
     have n6_ : Aside0 (Kd.R (Kd.int .i64) 3 w180 w.heap.size (fun k_ => some k_ ≠ (v309 : Value).ownBlock ∧ some k_ ≠ (v315 : Value).ownBlock ∧ some k_ ≠ (v318 : Value).ownBlock ∧ some k_ ≠ (v321 : Value).ownBlock ∧ some k_ ≠ (v324 : Value).ownBlock) v327 t326) := ⟨h6_⟩
     have n7_ : Aside0 (w180.heap[gb303]? = some (.cells #[.slice A0_0 l0_0.length c0_0, .slice A0_1 l0_1.length c0_1] 25 (0, 0))) := ⟨h7_⟩
     have n8_ : Aside0 (w180.heap[gb304]? = some (.cells #[.slice A1_0 l1_0.length c1_0, .slice A1_1 l1_1.length c1_1] 27 (0, 0))) := ⟨h8_⟩
     have n9_ : Aside0 (w180.heap[gb330]? = some (.cells #[.slice none 0 0, .slice none 0 0] 27 (0, 0))) := ⟨h9_⟩
     have n10_ : Aside0 (w.heap.size ≤ gb330) := ⟨h10_⟩
     have n11_ : Aside0 (w.heap.size ≤ gb330) := ⟨h11_⟩
     have n12_ : Aside0 (gb303 ≠ gb330) := ⟨h12_⟩
     have n13_ : Aside0 (gb330 ≠ gb303) := ⟨h13_⟩
     have n14_ : Aside0 (gb304 ≠ gb330) := ⟨h14_⟩
     have n15_ : Aside0 (gb330 ≠ gb304) := ⟨h15_⟩
     have n16_ : Aside0 (Below w.heap.size w w180) := ⟨h16_⟩
     clear BK303
     clear BK304
     clear HB
     clear h0_ h1_ h2_ h3_ h4_ h5_ h6_ h7_ h8_ h9_ h10_ h11_ h12_ h13_ h14_ h15_ h16_
     have HO310 := n0_
     have HO313 := n1_
     have HO316 := n2_
     have HO319 := n3_
     have HO322 := n4_
     have HO325 := n5_
     have HO328 := n6_
     have BK303 := n7_
     have BK304 := n8_
     have BK330 := n9_
     have GW330 := n10_
     have GE330 := n11_
     have NB303_330 := n12_
     have NB330_303 := n13_
     have NB304_330 := n14_
     have NB330_304 := n15_
     have HB := n16_
     clear n0_ n1_ n2_ n3_ n4_ n5_ n6_ n7_ n8_ n9_ n10_ n11_ n12_ n13_ n14_ n15_ n16_
     have hHeld : w180.cell? ⟨gb303, 0, none⟩ = some (.slice A0_0 l0_0.length c0_0) ∧ w180.cell? ⟨gb303, 1, none⟩ = some (.slice A0_1 l0_1.length c0_1) ∧ w180.cell? ⟨gb304, 0, none⟩ = some (.slice A1_0 l1_0.length c1_0) ∧ w180.cell? ⟨gb304, 1, none⟩ = some (.slice A1_1 l1_1.length c1_1) := hS_
     obtain ⟨Ao181, co181, eo181⟩ := Kd.R_slice HO322.out
     (first | subst eo181 | (injection eo181 with f1_ f2_ f3_; have f4_ := f1_.symm; have f5_ := f3_.symm; clear f1_ f2_ f3_; subst f4_; subst f5_))
     obtain ⟨Ao183, co183, eo183⟩ := Kd.R_slice HO325.out
     (first | subst eo183 | (injection eo183 with f1_ f2_ f3_; have f4_ := f1_.symm; have f5_ := f3_.symm; clear f1_ f2_ f3_; subst f4_; subst f5_))
     refine norm_ (a' := ?_) ?_ ?_; rotate_left; simp only [putAll, Act.put, y0, y1, y2]; rfl
     refine one_ (i := 10) (N := none) (bz 13 2047) rfl rfl (one_of HT_.out (by kernel_rfl)) (by decide) (fun K hK => ?_)
     have hs182 : w180.cell? ⟨gb330, 0, none⟩ = some (.slice none 0 0) := (kc BK330.out 0).trans rfl
     have hfs182 := blk_frozen BK330.out 0
     have hns182_0 := NB303_330.out
     have hns182_1 := NB304_330.out
     have hms182_0 := NB330_303.out
     have hms182_1 := NB330_304.out
     have hs184 : w180.cell? ⟨gb330, 1, none⟩ = some (.slice none 0 0) := (kc BK330.out 1).trans rfl
     have hfs184 := blk_frozen BK330.out 1
     have hns184_0 := NB303_330.out
     have hns184_1 := NB304_330.out
     have hms184_0 := NB330_303.out
     have hms184_1 := NB330_304.out
     refine skip_ (w1 := ?_) (by rfl) rfl ?_ ?_; rotate_left; go_simp; rfl
     refine hK.out _ _ ⟨((cell_far (p := ⟨gb330, _, none⟩) NB303_330.out _).trans (((cell_far (p := ⟨gb330, _, none⟩) NB303_330.out _).trans (hHeld.1)))), ((cell_far (p := ⟨gb330, _, none⟩) NB303_330.out _).trans (((cell_far (p := ⟨gb330, _, none⟩) NB303_330.out _).trans (hHeld.2.1)))), ((cell_far (p := ⟨gb330, _, none⟩) NB304_330.out _).trans (((cell_far (p := ⟨gb330, _, none⟩) NB304_330.out _).trans (hHeld.2.2.1)))), ((cell_far (p := ⟨gb330, _, none⟩) NB304_330.out _).trans (((cell_far (p := ⟨gb330, _, none⟩) NB304_330.out _).trans (hHeld.2.2.2))))⟩ (fun hHeld => ?_)
     clear hK K
     refine pu 11 (some 6) (bz 13 4095) HT_ ?_
     refine pu 12 (some 7) (bz 13 8191) HT_ ?_
     refine done_ (done_of HT_.out (by kernel_rfl)) ?_
     obtain ⟨Ao185, co185, eo185⟩ := Kd.R_slice HO328.out
     subst eo185
     try go_wp2
     go_ret
     exact ⟨by first | rfl | (simp [errW_none, errW_some] <;> rfl) | (simp [*, errW_none, errW_some] <;> rfl), by repeat (first | (with_reducible first | exact HB.out | apply wa | apply wn | apply wd | refine ws ?_ GE303.out | refine ws ?_ GE304.out | refine ws ?_ GE330.out) | exact HB.out)⟩

end Go.Proofs.Ytmbhjhanafmidaa.PListTick
