/- Written by a program of this work: each theorem says that a call of the Go function comes to what the Lean function beside it tells, under the conditions that it names; Lean checks it. -/
import Derived.Test.YtmbhjhanafmidaaFKPListFillx0
import Derived.Test.YtmbhjhanafmidaaFKPListFillx2
import Derived.Test.YtmbhjhanafmidaaFKPListFillx10
import Derived.Test.YtmbhjhanafmidaaFKPListFillx11
import Derived.Test.YtmbhjhanafmidaaFKPListFillx12
import Derived.Test.YtmbhjhanafmidaaFKZr
namespace Go.Proofs.Ytmbhjhanafmidaa.PListFill
open Go.Proofs.Ytmbhjhanafmidaa.Zr Go.RowKit Go.Proofs.YtmbhjhanafmidaaW.PrintWords Go.Proofs.YtmbhjhanafmidaaW.PrintLast Go.Proofs.YtmbhjhanafmidaaW.PrintMore
attribute [local go_sem] max2_int min2_int max_two min_two max_three min_three max_four min_four   -- for this text's walks alone
set_option linter.unusedVariables false
set_option linter.unusedSimpArgs false

/-! ### trefoillaw11_ListFill: function 5 -/
mutual
def trefoillaw11_ListFill.j0 : Nat → Bool → List Int → List (S85) → List Int → List Int → Option (Bool)
 | 0, _, _, _, _, _ => none
 | k + 1, x17, x308000, x308001, x309000, x309001 => if x17 = true then ((trefoillaw11_awake.f).bind fun t311 => (some t311)) else ((trefoillaw04_Own.f x308000 x308001).bind fun bt312 => ((trefoillaw11_Own.f x309000 x309001).bind fun bt318 => ((list_Fill.f bt312.1 bt312.2 bt318.1 bt318.2).bind fun bt324 => (if bt324.2.2 = 0 then (trefoillaw11_ListFill.l0 k 0 x308000 x308001 x309000 x309001 bt324.1 bt324.2.1) else ((trefoilref11_Same.f k bt324.1 bt324.2.1 ([] : List Int) ([] : List Int)).bind fun t332 => (some t332))))))
def trefoillaw11_ListFill.l0 : Nat → Int → List Int → List (S85) → List Int → List Int → List Int → List Int → Option (Bool)
 | 0, _, _, _, _, _, _, _ => none
 | k + 1, x7, x308000, x308001, x309000, x309001, x332000, x332001 => if x7 < (x309000.length : Int) then (if x7 ≥ (x332000.length : Int) then (some false) else (if 0 ≤ x7 then (if (rd x309000 x7) = (-1) then (trefoillaw11_ListFill.l0 k (wrap64 (x7 + 1)) x308000 x308001 x309000 x309001 x332000 x332001) else (if x7 < (x332000.length : Int) then (if (rd x332000 x7) = (rd x309000 x7) then (trefoillaw11_ListFill.l0 k (wrap64 (x7 + 1)) x308000 x308001 x309000 x309001 x332000 x332001) else (some false)) else (none))) else (none))) else ((trefoillaw04_Own.f x308000 x308001).bind fun bt336 => ((trefoillaw11_Own.f x332000 x332001).bind fun bt342 => ((list_Fill.f bt336.1 bt336.2 bt342.1 bt342.2).bind fun bt348 => ((trefoillaw04_Own.f x308000 x308001).bind fun bt356 => ((trefoillaw11_Own.f x332000 x332001).bind fun bt362 => ((list_Ready.f bt356.1 bt356.2 bt362.1 bt362.2).bind fun t368 => (if (t368.length : Int) = 0 then ((trefoilref02_Ints.f k x332001 x309001).bind fun t371 => (if t371 = true then ((trefoillaw04_Own.f x308000 x308001).bind fun bt372 => ((trefoillaw11_Own.f x332000 x332001).bind fun bt378 => ((list_Check.f bt372.1 bt372.2 bt378.1 bt378.2).bind fun t384 => (if t384 = 0 then (if bt348.2.2 = 0 then ((trefoilref11_Same.f k bt348.1 bt348.2.1 x332000 x332001).bind fun t385 => (some t385)) else (some false)) else (some false))))) else (some false))) else ((trefoilref04_Has.f k x332000 (-1)).bind fun t386 => (if t386 = true then (some false) else ((trefoilref02_Ints.f k x332001 x309001).bind fun t387 => (if t387 = true then ((trefoillaw04_Own.f x308000 x308001).bind fun bt388 => ((trefoillaw11_Own.f x332000 x332001).bind fun bt394 => ((list_Check.f bt388.1 bt388.2 bt394.1 bt394.2).bind fun t400 => (if t400 = 0 then (if bt348.2.2 = 0 then ((trefoilref11_Same.f k bt348.1 bt348.2.1 x332000 x332001).bind fun t401 => (some t401)) else (some false)) else (some false))))) else (some false))))))))))))
end
def trefoillaw11_ListFill.f (k : Nat) (l0_0 : List Int) (l0_1 : List (S85)) (l1_0 : List Int) (l1_1 : List Int) : Option (Bool) := (trefoillaw11_awake.f).bind fun t309 => (if t309 = true then ((trefoillaw11_few.f l0_0 l0_1 l1_0 l1_1).bind fun t310 => (trefoillaw11_ListFill.j0 k (!t310) l0_0 l0_1 l1_0 l1_1)) else (trefoillaw11_ListFill.j0 k true l0_0 l0_1 l1_0 l1_1))
def trefoillaw11_ListFill.T3 : Bool × List (List Nat × List Nat) := (true, [([], []), ([0], [0]), ([], []), ([2, 1], [2]), ([1, 3, 3], [1, 3]), ([4], [4]), ([5], [5]), ([5], [5]), ([], []), ([8, 6, 4, 0, 1, 2, 3, 4, 5, 6, 8], [6, 8]), ([7, 9, 0, 1, 2, 3, 4, 5, 6, 7, 8, 9], [7])])
def trefoillaw11_ListFill.B3 : List Nat := [0, 1, 0, 7, 15, 31, 63, 63, 0, 383, 1023]
theorem trefoillaw11_ListFill.tab3 : rtab .any (opsOf Try.f5 3) = trefoillaw11_ListFill.T3 := by kernel_rfl
theorem trefoillaw11_ListFill.bits3 : waitsOk trefoillaw11_ListFill.T3.2 trefoillaw11_ListFill.B3 = true := by kernel_rfl
def trefoillaw11_ListFill.T9 : Bool × List (List Nat × List Nat) := (true, [([], []), ([], []), ([1], [1]), ([2], [2]), ([0, 3], [0, 3]), ([4], [4]), ([5], [5]), ([6, 5], [5, 6]), ([5], [5]), ([7, 8, 5], [5, 7, 8]), ([9, 5], [5, 9]), ([10, 5], [5, 10]), ([11, 5, 5], [5, 11]), ([12], [12]), ([13, 12], [12, 13]), ([12], [12]), ([14, 15, 12], [12, 14, 15]), ([16, 12], [12, 16]), ([12], [12]), ([18, 12], [12, 18]), ([12], [12]), ([19, 20, 12], [12, 19, 20]), ([21, 12], [12, 21]), ([17, 22, 12], [12, 17, 22]), ([12, 23, 5], [5, 12, 23]), ([5, 24], [5, 24])])
def trefoillaw11_ListFill.B9 : List Nat := [0, 0, 2, 6, 15, 31, 63, 127, 63, 511, 1023, 2047, 4095, 8191, 16383, 8191, 65535, 131071, 8191, 270335, 8191, 1843199, 3940351, 8388607, 16777215, 33554431]
theorem trefoillaw11_ListFill.tab9 : rtab .any (opsOf Try.f5 9) = trefoillaw11_ListFill.T9 := by kernel_rfl
theorem trefoillaw11_ListFill.bits9 : waitsOk trefoillaw11_ListFill.T9.2 trefoillaw11_ListFill.B9 = true := by kernel_rfl
def trefoillaw11_ListFill.T11 : Bool × List (List Nat × List Nat) := (true, [([], []), ([0], [0]), ([], []), ([2, 1], [2]), ([1, 3, 3], [1, 3]), ([4], [4]), ([5], [5]), ([5], [5]), ([], []), ([8, 6, 4, 0, 1, 2, 3, 4, 5, 6, 8], [6, 8]), ([7, 9, 0, 1, 2, 3, 4, 5, 6, 7, 8, 9], [7])])
def trefoillaw11_ListFill.B11 : List Nat := [0, 1, 0, 7, 15, 31, 63, 63, 0, 383, 1023]
theorem trefoillaw11_ListFill.tab11 : rtab .any (opsOf Try.f5 11) = trefoillaw11_ListFill.T11 := by kernel_rfl
theorem trefoillaw11_ListFill.bits11 : waitsOk trefoillaw11_ListFill.T11.2 trefoillaw11_ListFill.B11 = true := by kernel_rfl
def trefoillaw11_ListFill.T12 : Bool × List (List Nat × List Nat) := (true, [([], []), ([0], [0]), ([], []), ([2, 1], [2]), ([1, 3, 3], [1, 3]), ([4], [4]), ([5], [5]), ([6, 4], [6]), ([7], [7]), ([8, 7], [7, 8]), ([9, 7, 7], [7, 9]), ([10, 7], [7, 10]), ([7, 11], [7, 11]), ([12, 10], [12]), ([13], [13]), ([14, 13], [13, 14]), ([13], [13]), ([16, 13], [13, 16]), ([15, 17, 13, 13], [13, 15, 17]), ([13, 18], [13, 18]), ([19, 18], [19]), ([20], [20]), ([21, 20, 20], [20, 21]), ([20], [20]), ([23, 22, 20], [20, 23]), ([22, 24, 24, 20], [20, 22, 24]), ([25, 20], [20, 25]), ([20, 26], [20, 26]), ([27, 25], [27]), ([28], [28]), ([29, 28], [28, 29]), ([28, 30], [28, 30]), ([31, 28], [31]), ([32], [32]), ([32], [32]), ([33, 34, 32, 32], [32, 33, 34]), ([32, 35], [32, 35]), ([36, 35, 0, 1, 2, 3, 4, 5, 6, 7, 8, 9, 10, 11, 12, 13, 14, 15, 16, 17, 18, 19, 20, 21, 22, 23, 24, 25, 26, 27, 28, 29, 30, 31, 32, 33, 34, 35, 36], [36])])
def trefoillaw11_ListFill.B12 : List Nat := [0, 1, 0, 7, 15, 31, 63, 127, 255, 511, 1023, 2047, 4095, 8191, 16383, 32767, 16383, 81919, 262143, 524287, 1048575, 2097151, 4194303, 2097151, 16777215, 33554431, 67108863, 134217727, 268435455, 536870911, 1073741823, 2147483647, 4294967295, 8589934591, 8589934591, 34359738367, 68719476735, 137438953471]
theorem trefoillaw11_ListFill.tab12 : rtab .any (opsOf Try.f5 12) = trefoillaw11_ListFill.T12 := by kernel_rfl
theorem trefoillaw11_ListFill.bits12 : waitsOk trefoillaw11_ListFill.T12.2 trefoillaw11_ListFill.B12 = true := by kernel_rfl
set_option maxHeartbeats 8000000 in
set_option maxRecDepth 100000 in
theorem trefoillaw11_ListFill.calls (k : Nat) (A0_0 : Option Addr) (c0_0 : Nat) (l0_0 : List Int) (A0_1 : Option Addr) (c0_1 : Nat) (l0_1 : List (S85)) (A1_0 : Option Addr) (c1_0 : Nat) (l1_0 : List Int) (A1_1 : Option Addr) (c1_1 : Nat) (l1_1 : List Int) (r : Bool) (w : World) (hr0_0 : Kd.C (Kd.int .i64) w A0_0 l0_0.length l0_0) (hc0_0 : l0_0.length ≤ c0_0) (hr0_1 : Kd.C k85 w A0_1 l0_1.length l0_1) (hc0_1 : l0_1.length ≤ c0_1) (hr1_0 : Kd.C (Kd.int .i64) w A1_0 l1_0.length l1_0) (hc1_0 : l1_0.length ≤ c1_0) (hr1_1 : Kd.C (Kd.int .i64) w A1_1 l1_1.length l1_1) (hc1_1 : l1_1.length ≤ c1_1) (h : trefoillaw11_ListFill.f k l0_0 l0_1 l1_0 l1_1 = some r) (hrt0 : r = true) :
  Calls Try.prog 5 #[.agg #[.slice A0_0 l0_0.length c0_0, .slice A0_1 l0_1.length c0_1], .agg #[.slice A1_0 l1_0.length c1_0, .slice A1_1 l1_1.length c1_1]] w fun e w' => e = .returned (.bool r) ∧ Below w.heap.size w w' := by
 have hrt := Z0 hrt0
 clear hrt0
 have hu25 := Try.underlying25
 have hu27 := Try.underlying27
 have HR0_0 := Z0 hr0_0
 have HC0_0 := Z0 hc0_0
 clear hr0_0 hc0_0
 have HR0_1 := Z0 hr0_1
 have HC0_1 := Z0 hc0_1
 clear hr0_1 hc0_1
 have HR1_0 := Z0 hr1_0
 have HC1_0 := Z0 hc1_0
 clear hr1_0 hc1_0
 have HR1_1 := Z0 hr1_1
 have HC1_1 := Z0 hc1_1
 clear hr1_1 hc1_1
 have HB := Z0 (Below.refl w.heap.size w)
 have H : ((trefoillaw11_awake.f).bind fun t309 => (if t309 = true then ((trefoillaw11_few.f l0_0 l0_1 l1_0 l1_1).bind fun t310 => (trefoillaw11_ListFill.j0 k (!t310) l0_0 l0_1 l1_0 l1_1)) else (trefoillaw11_ListFill.j0 k true l0_0 l0_1 l1_0 l1_1))) = some r := h
 clear h
 have HC3 := Z0 H
 clear H
 go_enter Try.func5, Try.ntmps5
 go_upto_region 1 with (first | ((with_reducible refine gate_dst (N := 2) rfl ?_); refine box_event ?hg (N := 2) ?hd (cs := #[.slice A0_0 l0_0.length c0_0, .slice A0_1 l0_1.length c0_1]) (t := 25) ?hr ?_; (case hd => rfl); (case hg => rfl); (case hr => first | (go_simp; done) | (go_simp; rfl)); intro gb307 hg w4 hbox hb; have n0_ := Z0 (below_step (zb HB) hb); have n1_ := Z0 (hbox); have n2_ := Z0 ((by rw [hg]; exact (below_size (zb HB)) : w.heap.size ≤ gb307)); have n3_ := Z0 ((by rw [hg]; exact (below_size (zb HB)) : w.heap.size ≤ gb307)); clear HB; have HB := n0_; have BK307 := n1_; have GW307 := n2_; have GE307 := n3_; clear n0_ n1_ n2_ n3_; clear hb hbox hg) | ((with_reducible refine gate_dst (N := 3) rfl ?_); refine box_event ?hg (N := 3) ?hd (cs := #[.slice A1_0 l1_0.length c1_0, .slice A1_1 l1_1.length c1_1]) (t := 27) ?hr ?_; (case hd => rfl); (case hg => rfl); (case hr => first | (go_simp; done) | (go_simp; rfl)); intro gb308 hg w5 hbox hb; have n0_ := Z0 (kb (g := gb307) (o := .cells #[.slice A0_0 l0_0.length c0_0, .slice A0_1 l0_1.length c0_1] 25 (0, 0)) (zk BK307) hb); have n1_ := Z0 (below_step (zb HB) hb); have n2_ := Z0 (hbox); have n3_ := Z0 ((by rw [hg]; exact (below_size (zb HB)) : w.heap.size ≤ gb308)); have n4_ := Z0 ((by rw [hg]; exact (below_size (zb HB)) : w.heap.size ≤ gb308)); have n5_ := Z0 ((by rw [hg]; exact Nat.ne_of_lt (blk_lt (g := gb307) (o := .cells #[.slice A0_0 l0_0.length c0_0, .slice A0_1 l0_1.length c0_1] 25 (0, 0)) (zk BK307)) : gb307 ≠ gb308)); have n6_ := Z0 ((by rw [hg]; exact Nat.ne_of_gt (blk_lt (g := gb307) (o := .cells #[.slice A0_0 l0_0.length c0_0, .slice A0_1 l0_1.length c0_1] 25 (0, 0)) (zk BK307)) : gb308 ≠ gb307)); clear BK307; clear HB; have BK307 := n0_; have HB := n1_; have BK308 := n2_; have GW308 := n3_; have GE308 := n4_; have NB307_308 := n5_; have NB308_307 := n6_; clear n0_ n1_ n2_ n3_ n4_ n5_ n6_; clear hb hbox hg))
 (try simp only [Act.put, y0, y1, y2])
 go_cut [17] (fun v17 wc => ∃ (kq : Nat) (x17_2 : Bool), v17 = .bool x17_2 ∧ Aside0 (trefoillaw11_ListFill.j0 kq x17_2 l0_0 l0_1 l1_0 l1_1 = some r) ∧ Aside0 (kq ≤ k) ∧ Aside0 (wc.heap[gb307]? = some (.cells #[(.slice A0_0 l0_0.length c0_0), (.slice A0_1 l0_1.length c0_1)] 25 (0, 0))) ∧ Aside0 (wc.heap[gb308]? = some (.cells #[(.slice A1_0 l1_0.length c1_0), (.slice A1_1 l1_1.length c1_1)] 27 (0, 0))) ∧ Aside0 (Below w.heap.size w wc))
 case first =>
  have H := HC3.out
  clear HC3
  replace H := Option.bind_eq_some_iff.mp H
  obtain ⟨t309, A60, H⟩ := H
  replace H : (if t309 = true then ((trefoillaw11_few.f l0_0 l0_1 l1_0 l1_1).bind fun t310 => (trefoillaw11_ListFill.j0 k (!t310) l0_0 l0_1 l1_0 l1_1)) else (trefoillaw11_ListFill.j0 k true l0_0 l0_1 l1_0 l1_1)) = some r := H
  have A6 := Z0 A60
  clear A60
  by_cases c7 : t309 = true
  ·subst c7
   have H1 : ((trefoillaw11_few.f l0_0 l0_1 l1_0 l1_1).bind fun t310 => (trefoillaw11_ListFill.j0 k (!t310) l0_0 l0_1 l1_0 l1_1)) = some r := by rw [if_pos rfl] at H; exact H
   clear H
   have H := H1
   clear H1
   replace H := Option.bind_eq_some_iff.mp H
   obtain ⟨t310, A80, H⟩ := H
   replace H : (trefoillaw11_ListFill.j0 k (!t310) l0_0 l0_1 l1_0 l1_1) = some r := H
   have A8 := Z0 A80
   clear A80
   have H' := Z0 H
   clear H
   go_wp2_with (first | ((with_reducible refine gate_callee (f := 9) rfl ?_); refine goesL_ (some 10) rfl rfl Try.func9 (by kernel_rfl) rfl #[] rfl (by (try simp only [List.map_toArray, List.map_cons, List.map_nil]); first | done | rfl | (simp only [List.length_drop, List.length_take]; rfl)) ?_; (with_reducible refine (trefoillaw11_awake.calls  true _ A6.out).mono ?_); rintro e w9 ⟨rfl, hb⟩; refine ⟨_, rfl, ?_⟩; have n0_ := Z0 (kb (g := gb307) (o := .cells #[.slice A0_0 l0_0.length c0_0, .slice A0_1 l0_1.length c0_1] 25 (0, 0)) (zk BK307) hb); have n1_ := Z0 (kb (g := gb308) (o := .cells #[.slice A1_0 l1_0.length c1_0, .slice A1_1 l1_1.length c1_1] 27 (0, 0)) (zk BK308) hb); have n2_ := Z0 (below_step (zb HB) hb); clear BK307; clear BK308; clear HB; have BK307 := n0_; have BK308 := n1_; have HB := n2_; clear n0_ n1_ n2_; (try clear hb); (try clear hb2); (try clear hk); (try clear hi); have hnb10 := NB307_308.out; have hnc10 := NB308_307.out; have hcz11_0 : w9.cell? ⟨gb307, 0, none⟩ = some (.slice A0_0 l0_0.length c0_0) := (kc BK307.out 0).trans rfl; have hcz11_1 : w9.cell? ⟨gb307, 1, none⟩ = some (.slice A0_1 l0_1.length c0_1) := (kc BK307.out 1).trans rfl; have hfz11_0 := blk_frozen BK307.out 0; have hfz11_1 := blk_frozen BK307.out 1; have hcz12_0 : w9.cell? ⟨gb308, 0, none⟩ = some (.slice A1_0 l1_0.length c1_0) := (kc BK308.out 0).trans rfl; have hcz12_1 : w9.cell? ⟨gb308, 1, none⟩ = some (.slice A1_1 l1_1.length c1_1) := (kc BK308.out 1).trans rfl; have hfz12_0 := blk_frozen BK308.out 0; have hfz12_1 := blk_frozen BK308.out 1) | (go_at_call 10; (with_reducible refine (trefoillaw11_few.calls _ _ l0_0 _ _ l0_1 _ _ l1_0 _ _ l1_1 t310 _ ?side1 ?side2 ?side3 ?side4 ?side5 ?side6 ?side7 ?side8 A8.out).mono ?_); (case side1 => exact zc (Kd.C_below HR0_0.out HB.out)); (case side2 => exact HC0_0.out); (case side3 => exact zc (Kd.C_below HR0_1.out HB.out)); (case side4 => exact HC0_1.out); (case side5 => exact zc (Kd.C_below HR1_0.out HB.out)); (case side6 => exact HC1_0.out); (case side7 => exact zc (Kd.C_below HR1_1.out HB.out)); (case side8 => exact HC1_1.out); rintro e w13 ⟨rfl, hb⟩; have n0_ := Z0 (kb (g := gb307) (o := .cells #[.slice A0_0 l0_0.length c0_0, .slice A0_1 l0_1.length c0_1] 25 (0, 0)) (zk BK307) hb); have n1_ := Z0 (kb (g := gb308) (o := .cells #[.slice A1_0 l1_0.length c1_0, .slice A1_1 l1_1.length c1_1] 27 (0, 0)) (zk BK308) hb); have n2_ := Z0 (below_step (zb HB) hb); clear BK307; clear BK308; clear HB; have BK307 := n0_; have BK308 := n1_; have HB := n2_; clear n0_ n1_ n2_; (try clear hb); (try clear hb2); (try clear hk); (try clear hi)))
   go_meet
   case rel => exact ⟨_, (!t310), (by first | rfl | (simp; done) | (simp [*]; done)), H', ⟨by first | omega | exact Nat.le_refl _⟩, ⟨by (with_reducible repeat (first | refine kn ?_ _ | refine kd_ ?_ | refine ka ?_ _)); exact BK307.out⟩, ⟨by (with_reducible repeat (first | refine kn ?_ _ | refine kd_ ?_ | refine ka ?_ _)); exact BK308.out⟩, ⟨by repeat (first | (with_reducible first | exact HB.out | apply wa | apply wn | apply wd | refine ws ?_ GE307.out | refine ws ?_ GE308.out) | exact HB.out)⟩⟩
  ·replace c7 := Bool.eq_false_iff.mpr c7
   subst c7
   have H1 : (trefoillaw11_ListFill.j0 k true l0_0 l0_1 l1_0 l1_1) = some r := by rw [if_neg (show ¬ (false = true) by decide)] at H; exact H
   clear H
   have H := H1
   clear H1
   have H' := Z0 H
   clear H
   go_wp2_with (first | ((with_reducible refine gate_callee (f := 9) rfl ?_); refine goesL_ (some 10) rfl rfl Try.func9 (by kernel_rfl) rfl #[] rfl (by (try simp only [List.map_toArray, List.map_cons, List.map_nil]); first | done | rfl | (simp only [List.length_drop, List.length_take]; rfl)) ?_; (with_reducible refine (trefoillaw11_awake.calls  false _ A6.out).mono ?_); rintro e w14 ⟨rfl, hb⟩; refine ⟨_, rfl, ?_⟩; have n0_ := Z0 (kb (g := gb307) (o := .cells #[.slice A0_0 l0_0.length c0_0, .slice A0_1 l0_1.length c0_1] 25 (0, 0)) (zk BK307) hb); have n1_ := Z0 (kb (g := gb308) (o := .cells #[.slice A1_0 l1_0.length c1_0, .slice A1_1 l1_1.length c1_1] 27 (0, 0)) (zk BK308) hb); have n2_ := Z0 (below_step (zb HB) hb); clear BK307; clear BK308; clear HB; have BK307 := n0_; have BK308 := n1_; have HB := n2_; clear n0_ n1_ n2_; (try clear hb); (try clear hb2); (try clear hk); (try clear hi)))
   go_meet
   case rel => exact ⟨_, (true), (by first | rfl | (simp; done) | (simp [*]; done)), H', ⟨by first | omega | exact Nat.le_refl _⟩, ⟨by (with_reducible repeat (first | refine kn ?_ _ | refine kd_ ?_ | refine ka ?_ _)); exact BK307.out⟩, ⟨by (with_reducible repeat (first | refine kn ?_ _ | refine kd_ ?_ | refine ka ?_ _)); exact BK308.out⟩, ⟨by repeat (first | (with_reducible first | exact HB.out | apply wa | apply wn | apply wd | refine ws ?_ GE307.out | refine ws ?_ GE308.out) | exact HB.out)⟩⟩
 case rest =>
  clear HC3
  try clear c1
  try clear p2
  try clear c5
  try clear c7
  try clear c9
  try clear c10
  try clear hcz11_0
  try clear hcz11_1
  try clear hcz12_0
  try clear hcz12_1
  try clear hfz11_0
  try clear hfz11_1
  try clear hfz12_0
  try clear hfz12_1
  obtain ⟨kq, x17_2, rfl, HA, HJ2, BK307, BK308, HB⟩ := hcut
  cases kq with
  | zero => exact absurd HA.out (by simp [trefoillaw11_ListFill.j0])
  | succ kj2 =>
   have H := HA.out
   clear HA
   simp only [trefoillaw11_ListFill.j0] at H
   by_cases c15 : x17_2 = true
   ·subst c15
    have H1 : ((trefoillaw11_awake.f).bind fun t311 => (some t311)) = some r := by rw [if_pos rfl] at H; exact H
    clear H
    have H := H1
    clear H1
    replace H := Option.bind_eq_some_iff.mp H
    obtain ⟨t311, A160, H⟩ := H
    replace H : (some t311) = some r := H
    have A16 := Z0 A160
    clear A160
    obtain rfl := Option.some.inj H
    go_wp2_with (first | ((with_reducible refine gate_callee (f := 9) rfl ?_); refine goesL_ (some 18) rfl rfl Try.func9 (by kernel_rfl) rfl #[] rfl (by (try simp only [List.map_toArray, List.map_cons, List.map_nil]); first | done | rfl | (simp only [List.length_drop, List.length_take]; rfl)) ?_; (with_reducible refine (trefoillaw11_awake.calls  t311 _ A16.out).mono ?_); rintro e w17 ⟨rfl, hb⟩; refine ⟨_, rfl, ?_⟩; have n0_ := Z0 (kb (g := gb307) (o := .cells #[.slice A0_0 l0_0.length c0_0, .slice A0_1 l0_1.length c0_1] 25 (0, 0)) (zk BK307) hb); have n1_ := Z0 (kb (g := gb308) (o := .cells #[.slice A1_0 l1_0.length c1_0, .slice A1_1 l1_1.length c1_1] 27 (0, 0)) (zk BK308) hb); have n2_ := Z0 (below_step (zb HB) hb); clear BK307; clear BK308; clear HB; have BK307 := n0_; have BK308 := n1_; have HB := n2_; clear n0_ n1_ n2_; (try clear hb); (try clear hb2); (try clear hk); (try clear hi)))
    go_ret
    exact ⟨by first | rfl | (simp [errW_none, errW_some] <;> rfl) | (simp [*, errW_none, errW_some] <;> rfl), by repeat (first | (with_reducible first | exact HB.out | apply wa | apply wn | apply wd | refine ws ?_ GE307.out | refine ws ?_ GE308.out) | exact HB.out)⟩
   ·replace c15 := Bool.eq_false_iff.mpr c15
    subst c15
    have H1 : ((trefoillaw04_Own.f l0_0 l0_1).bind fun bt312 => ((trefoillaw11_Own.f l1_0 l1_1).bind fun bt318 => ((list_Fill.f bt312.1 bt312.2 bt318.1 bt318.2).bind fun bt324 => (if bt324.2.2 = 0 then (trefoillaw11_ListFill.l0 kj2 0 l0_0 l0_1 l1_0 l1_1 bt324.1 bt324.2.1) else ((trefoilref11_Same.f kj2 bt324.1 bt324.2.1 ([] : List Int) ([] : List Int)).bind fun t332 => (some t332)))))) = some r := by rw [if_neg (show ¬ (false = true) by decide)] at H; exact H
    clear H
    have H := H1
    clear H1
    replace H := Option.bind_eq_some_iff.mp H
    obtain ⟨⟨t312, t315⟩, A180, H⟩ := H
    replace H : ((trefoillaw11_Own.f l1_0 l1_1).bind fun bt318 => ((list_Fill.f t312 t315 bt318.1 bt318.2).bind fun bt324 => (if bt324.2.2 = 0 then (trefoillaw11_ListFill.l0 kj2 0 l0_0 l0_1 l1_0 l1_1 bt324.1 bt324.2.1) else ((trefoilref11_Same.f kj2 bt324.1 bt324.2.1 ([] : List Int) ([] : List Int)).bind fun t332 => (some t332))))) = some r := H
    have A18 := Z0 A180
    clear A180
    replace H := Option.bind_eq_some_iff.mp H
    obtain ⟨⟨t318, t321⟩, A190, H⟩ := H
    replace H : ((list_Fill.f t312 t315 t318 t321).bind fun bt324 => (if bt324.2.2 = 0 then (trefoillaw11_ListFill.l0 kj2 0 l0_0 l0_1 l1_0 l1_1 bt324.1 bt324.2.1) else ((trefoilref11_Same.f kj2 bt324.1 bt324.2.1 ([] : List Int) ([] : List Int)).bind fun t332 => (some t332)))) = some r := H
    have A19 := Z0 A190
    clear A190
    replace H := Option.bind_eq_some_iff.mp H
    obtain ⟨⟨t324, t327, t330⟩, A200, H⟩ := H
    replace H : (if t330 = 0 then (trefoillaw11_ListFill.l0 kj2 0 l0_0 l0_1 l1_0 l1_1 t324 t327) else ((trefoilref11_Same.f kj2 t324 t327 ([] : List Int) ([] : List Int)).bind fun t332 => (some t332))) = some r := H
    have A20 := Z0 A200
    clear A200
    try go_wp2
    replace BK307 := Z0 (kd_ BK307.out)
    replace BK308 := Z0 (kd_ BK308.out)
    replace HB := Z0 (wd HB.out)
    as_aux_lemma =>
    refine start_ (n := 11) (S := fun w' => w'.cell? ⟨gb307, 0, none⟩ = some (.slice A0_0 l0_0.length c0_0) ∧ w'.cell? ⟨gb307, 1, none⟩ = some (.slice A0_1 l0_1.length c0_1) ∧ w'.cell? ⟨gb308, 0, none⟩ = some (.slice A1_0 l1_0.length c1_0) ∧ w'.cell? ⟨gb308, 1, none⟩ = some (.slice A1_1 l1_1.length c1_1)) (ds := []) (bz 11 0) (by kernel_rfl) rfl rfl ⟨(kc BK307.out 0).trans rfl, (kc BK307.out 1).trans rfl, (kc BK308.out 0).trans rfl, (kc BK308.out 1).trans rfl⟩ (fun hHeld => ?_); refine with_tabW trefoillaw11_ListFill.tab3 trefoillaw11_ListFill.bits3 (fun HT_ HW_ => ?_)
    generalize wc.drew = w22 at BK307 BK308 HB hHeld ⊢
    refine tk4 0 (some 20) (bz 11 1) HT_ HW_ hHeld ?_
    refine tk4 2 (some 22) (bz 11 5) HT_ HW_ hHeld ?_
    refine join_ (σ := Value × Value × Value × Value × Value × Value × Nat) 2 (bz 11 511) (fun s_ => [(21, .agg #[s_.1, s_.2.1]), (23, .agg #[s_.2.2.1, s_.2.2.2.1]), (24, .tuple #[.agg #[s_.2.2.2.2.1, s_.2.2.2.2.2.1], .int .i64 t330]), (5, .pointer (some ⟨s_.2.2.2.2.2.2, 0, none⟩)), (19, .tuple #[.agg #[s_.2.2.2.2.1, s_.2.2.2.2.2.1], .int .i64 t330]), (25, .agg #[s_.2.2.2.2.1, s_.2.2.2.2.2.1]), (26, .int .i64 t330)]) (fun s_ w' => (w'.cell? ⟨gb307, 0, none⟩ = some (.slice A0_0 l0_0.length c0_0) ∧ w'.cell? ⟨gb307, 1, none⟩ = some (.slice A0_1 l0_1.length c0_1) ∧ w'.cell? ⟨gb308, 0, none⟩ = some (.slice A1_0 l1_0.length c1_0) ∧ w'.cell? ⟨gb308, 1, none⟩ = some (.slice A1_1 l1_1.length c1_1)) ∧ (Kd.R (Kd.int .i64) 3 w' w.heap.size (fun k_ => some k_ ≠ (s_.2.2.1 : Value).ownBlock ∧ some k_ ≠ (s_.2.2.2.1 : Value).ownBlock ∧ some k_ ≠ (s_.2.2.2.2.1 : Value).ownBlock ∧ some k_ ≠ (s_.2.2.2.2.2.1 : Value).ownBlock) s_.1 t312) ∧ (Kd.R k85 85 w' w.heap.size (fun _ => True) s_.2.1 t315) ∧ (Kd.R (Kd.int .i64) 3 w' w.heap.size (fun k_ => some k_ ≠ (s_.1 : Value).ownBlock ∧ some k_ ≠ (s_.2.2.2.1 : Value).ownBlock ∧ some k_ ≠ (s_.2.2.2.2.1 : Value).ownBlock ∧ some k_ ≠ (s_.2.2.2.2.2.1 : Value).ownBlock) s_.2.2.1 t318) ∧ (Kd.R (Kd.int .i64) 3 w' w.heap.size (fun k_ => some k_ ≠ (s_.1 : Value).ownBlock ∧ some k_ ≠ (s_.2.2.1 : Value).ownBlock ∧ some k_ ≠ (s_.2.2.2.2.1 : Value).ownBlock ∧ some k_ ≠ (s_.2.2.2.2.2.1 : Value).ownBlock) s_.2.2.2.1 t321) ∧ (Kd.R (Kd.int .i64) 3 w' w.heap.size (fun k_ => some k_ ≠ (s_.1 : Value).ownBlock ∧ some k_ ≠ (s_.2.2.1 : Value).ownBlock ∧ some k_ ≠ (s_.2.2.2.1 : Value).ownBlock ∧ some k_ ≠ (s_.2.2.2.2.2.1 : Value).ownBlock) s_.2.2.2.2.1 t324) ∧ (Kd.R (Kd.int .i64) 3 w' w.heap.size (fun k_ => some k_ ≠ (s_.1 : Value).ownBlock ∧ some k_ ≠ (s_.2.2.1 : Value).ownBlock ∧ some k_ ≠ (s_.2.2.2.1 : Value).ownBlock ∧ some k_ ≠ (s_.2.2.2.2.1 : Value).ownBlock) s_.2.2.2.2.2.1 t327) ∧ (w'.heap[gb307]? = some (.cells #[.slice A0_0 l0_0.length c0_0, .slice A0_1 l0_1.length c0_1] 25 (0, 0))) ∧ (w'.heap[gb308]? = some (.cells #[.slice A1_0 l1_0.length c1_0, .slice A1_1 l1_1.length c1_1] 27 (0, 0))) ∧ (w'.heap[s_.2.2.2.2.2.2]? = some (.cells #[.slice none 0 0, .slice none 0 0] 27 (0, 0))) ∧ (w.heap.size ≤ s_.2.2.2.2.2.2) ∧ (w.heap.size ≤ s_.2.2.2.2.2.2) ∧ (gb307 ≠ s_.2.2.2.2.2.2) ∧ (s_.2.2.2.2.2.2 ≠ gb307) ∧ (gb308 ≠ s_.2.2.2.2.2.2) ∧ (s_.2.2.2.2.2.2 ≠ gb308) ∧ (Below w.heap.size w w')) ?_ ?_
    rotate_left
    ·intro hCont
     refine two_ (i := 1) (j := 8) (Ni := some 21) (Nj := some 5) (bz 11 7) (bz 11 261) rfl rfl rfl rfl (two_of HT_.out (by kernel_rfl)) (by decide) (by decide) (fun K hK => ?_) (fun K hK => ?_)
     ·skip
      refine zg Try.func12 #[.agg #[.slice A0_0 l0_0.length c0_0, .slice A0_1 l0_1.length c0_1]] ?_
      with_reducible refine (trefoillaw04_Own.calls _ _ l0_0 _ _ l0_1 t312 t315 _ ?side1 ?side2 ?side3 ?side4 A18.out).mono ?_
      (case side1 => exact zc (Kd.C_below HR0_0.out HB.out))
      (case side2 => exact HC0_0.out)
      (case side3 => exact zc (Kd.C_below HR0_1.out HB.out))
      (case side4 => exact HC0_1.out)
      rintro e w23 ⟨v313, v316, rfl, ho0, ho1, hb⟩
      refine ⟨_, rfl, ?_⟩
      have HO314 := Z0 (rl ho0 (below_size (zb HB)))
      have HO317 := Z0 (rl ho1 (below_size (zb HB)))
      replace BK307 := Z0 (kb (g := gb307) (o := .cells #[.slice A0_0 l0_0.length c0_0, .slice A0_1 l0_1.length c0_1] 25 (0, 0)) (zk BK307) hb)
      replace BK308 := Z0 (kb (g := gb308) (o := .cells #[.slice A1_0 l1_0.length c1_0, .slice A1_1 l1_1.length c1_1] 27 (0, 0)) (zk BK308) hb)
      replace HB := Z0 (below_step (zb HB) hb)
      (try clear hb)
      (try clear hb2)
      (try clear hk)
      (try clear hi)
      (try clear ho0)
      (try clear ho1)
      refine hK.out _ _ ⟨(kc BK307.out 0).trans rfl, (kc BK307.out 1).trans rfl, (kc BK308.out 0).trans rfl, (kc BK308.out 1).trans rfl⟩ (fun hHeld => ?_)
      clear hK K
      refine norm_ (a' := ?_) ?_ ?_
      rotate_left
      ·show Act.put _ (some 21) _ = _
       simp only [Act.put, y0, y1, y2, i64_w, i32_w]
       rfl
      refine two_ (i := 3) (j := 8) (Ni := some 23) (Nj := some 5) (bz 11 15) (bz 11 263) rfl rfl rfl rfl (two_of HT_.out (by kernel_rfl)) (by decide) (by decide) (fun K hK => ?_) (fun K hK => ?_)
      ·skip
       refine zg Try.func13 #[.agg #[.slice A1_0 l1_0.length c1_0, .slice A1_1 l1_1.length c1_1]] ?_
       with_reducible refine (trefoillaw11_Own.calls _ _ l1_0 _ _ l1_1 t318 t321 _ ?side1 ?side2 ?side3 ?side4 A19.out).mono ?_
       (case side1 => exact zc (Kd.C_below HR1_0.out HB.out))
       (case side2 => exact HC1_0.out)
       (case side3 => exact zc (Kd.C_below HR1_1.out HB.out))
       (case side4 => exact HC1_1.out)
       rintro e w24 ⟨v319, v322, rfl, ho0, ho1, hb⟩
       refine ⟨_, rfl, ?_⟩
       have n0_ := Z0 (rm (rt (rt (ro (zr HO314) hb) (rb ho0)) (rb ho1)) (fun _ h_ => h_.1))
       have n1_ := Z0 (rbe (zr HO317) hb)
       have n2_ := Z0 (rl (rw_ ho0 (rlt (zr HO314))) (below_size (zb HB)))
       have n3_ := Z0 (rl (rw_ ho1 (rlt (zr HO314))) (below_size (zb HB)))
       have n4_ := Z0 (kb (g := gb307) (o := .cells #[.slice A0_0 l0_0.length c0_0, .slice A0_1 l0_1.length c0_1] 25 (0, 0)) (zk BK307) hb)
       have n5_ := Z0 (kb (g := gb308) (o := .cells #[.slice A1_0 l1_0.length c1_0, .slice A1_1 l1_1.length c1_1] 27 (0, 0)) (zk BK308) hb)
       have n6_ := Z0 (below_step (zb HB) hb)
       clear HO314
       clear HO317
       clear BK307
       clear BK308
       clear HB
       have HO314 := n0_
       have HO317 := n1_
       have HO320 := n2_
       have HO323 := n3_
       have BK307 := n4_
       have BK308 := n5_
       have HB := n6_
       clear n0_ n1_ n2_ n3_ n4_ n5_ n6_
       (try clear hb)
       (try clear hb2)
       (try clear hk)
       (try clear hi)
       (try clear ho0)
       (try clear ho1)
       obtain ⟨Ao25, co25, eo25⟩ := Kd.R_slice HO314.out
       (first | subst eo25 | (injection eo25 with f1_ f2_ f3_; have f4_ := f1_.symm; have f5_ := f3_.symm; clear f1_ f2_ f3_; subst f4_; subst f5_))
       obtain ⟨Ao26, co26, eo26⟩ := Kd.R_slice HO317.out
       (first | subst eo26 | (injection eo26 with f1_ f2_ f3_; have f4_ := f1_.symm; have f5_ := f3_.symm; clear f1_ f2_ f3_; subst f4_; subst f5_))
       obtain ⟨Ao27, co27, eo27⟩ := Kd.R_slice HO320.out
       (first | subst eo27 | (injection eo27 with f1_ f2_ f3_; have f4_ := f1_.symm; have f5_ := f3_.symm; clear f1_ f2_ f3_; subst f4_; subst f5_))
       obtain ⟨Ao28, co28, eo28⟩ := Kd.R_slice HO323.out
       (first | subst eo28 | (injection eo28 with f1_ f2_ f3_; have f4_ := f1_.symm; have f5_ := f3_.symm; clear f1_ f2_ f3_; subst f4_; subst f5_))
       refine hK.out _ _ ⟨(kc BK307.out 0).trans rfl, (kc BK307.out 1).trans rfl, (kc BK308.out 0).trans rfl, (kc BK308.out 1).trans rfl⟩ (fun hHeld => ?_)
       clear hK K
       refine norm_ (a' := ?_) ?_ ?_
       rotate_left
       ·show Act.put _ (some 23) _ = _
        simp only [Act.put, y0, y1, y2, i64_w, i32_w]
        rfl
       refine two_ (i := 4) (j := 8) (Ni := some 24) (Nj := some 5) (bz 11 31) (bz 11 271) rfl rfl rfl rfl (two_of HT_.out (by kernel_rfl)) (by decide) (by decide) (fun K hK => ?_) (fun K hK => ?_)
       ·skip
        refine zg Try.func11 #[.agg #[.slice Ao25 t312.length co25, .slice Ao26 t315.length co26], .agg #[.slice Ao27 t318.length co27, .slice Ao28 t321.length co28]] ?_
        with_reducible refine (list_Fill.calls _ _ t312 _ _ t315 _ _ t318 _ _ t321 t324 t327 t330 _ ?side1 ?side2 ?side3 ?side4 ?side5 ?side6 ?side7 ?side8 A20.out).mono ?_
        (case side1 => exact zc (rr HO314.out).2.2)
        (case side2 => exact (rr HO314.out).2.1)
        (case side3 => exact zc (rr HO317.out).2.2)
        (case side4 => exact (rr HO317.out).2.1)
        (case side5 => exact zc (rr HO320.out).2.2)
        (case side6 => exact (rr HO320.out).2.1)
        (case side7 => exact zc (rr HO323.out).2.2)
        (case side8 => exact (rr HO323.out).2.1)
        rintro e w29 ⟨v325, v328, rfl, ho0, ho1, hb⟩
        refine ⟨_, rfl, ?_⟩
        have n0_ := Z0 (rm (rt (rt (ro (zr HO314) hb) (rb ho0)) (rb ho1)) (fun _ h_ => h_.1))
        have n1_ := Z0 (rbe (zr HO317) hb)
        have n2_ := Z0 (rm (rt (rt (ro (zr HO320) hb) (rb ho0)) (rb ho1)) (fun _ h_ => h_.1))
        have n3_ := Z0 (rm (rt (rt (ro (zr HO323) hb) (rb ho0)) (rb ho1)) (fun _ h_ => h_.1))
        have n4_ := Z0 (rl (rw_ (rw_ (rw_ ho0 (rlt (zr HO314))) (rlt (zr HO320))) (rlt (zr HO323))) (below_size (zb HB)))
        have n5_ := Z0 (rl (rw_ (rw_ (rw_ ho1 (rlt (zr HO314))) (rlt (zr HO320))) (rlt (zr HO323))) (below_size (zb HB)))
        have n6_ := Z0 (kb (g := gb307) (o := .cells #[.slice A0_0 l0_0.length c0_0, .slice A0_1 l0_1.length c0_1] 25 (0, 0)) (zk BK307) hb)
        have n7_ := Z0 (kb (g := gb308) (o := .cells #[.slice A1_0 l1_0.length c1_0, .slice A1_1 l1_1.length c1_1] 27 (0, 0)) (zk BK308) hb)
        have n8_ := Z0 (below_step (zb HB) hb)
        clear HO314
        clear HO317
        clear HO320
        clear HO323
        clear BK307
        clear BK308
        clear HB
        have HO314 := n0_
        have HO317 := n1_
        have HO320 := n2_
        have HO323 := n3_
        have HO326 := n4_
        have HO329 := n5_
        have BK307 := n6_
        have BK308 := n7_
        have HB := n8_
        clear n0_ n1_ n2_ n3_ n4_ n5_ n6_ n7_ n8_
        (try clear hb)
        (try clear hb2)
        (try clear hk)
        (try clear hi)
        (try clear ho0)
        (try clear ho1)
        refine hK.out _ _ ⟨(kc BK307.out 0).trans rfl, (kc BK307.out 1).trans rfl, (kc BK308.out 0).trans rfl, (kc BK308.out 1).trans rfl⟩ (fun hHeld => ?_)
        clear hK K
        refine norm_ (a' := ?_) ?_ ?_
        rotate_left
        ·show Act.put _ (some 24) _ = _
         simp only [Act.put, y0, y1, y2, i64_w, i32_w]
         rfl
        refine pu 5 (some 19) (bz 11 63) HT_ ?_
        refine pu 6 (some 25) (bz 11 127) HT_ ?_
        refine pu 7 (some 26) (bz 11 255) HT_ ?_
        refine one_ (i := 8) (N := some 5) (bz 11 511) rfl rfl (one_of HT_.out (by kernel_rfl)) (by decide) (fun K hK => ?_)
        refine box_step ?hg (N := 5) ?hd (cs := #[.slice none 0 0, .slice none 0 0]) (t := 27) ?hr ?_; (case hd => rfl); (case hg => rfl); (case hr => first | (go_simp; done) | (go_simp; rfl))
        intro gb331 hg w30 hbox hb
        have n0_ := Z0 (rbe (zr HO314) hb)
        have n1_ := Z0 (rbe (zr HO317) hb)
        have n2_ := Z0 (rbe (zr HO320) hb)
        have n3_ := Z0 (rbe (zr HO323) hb)
        have n4_ := Z0 (rbe (zr HO326) hb)
        have n5_ := Z0 (rbe (zr HO329) hb)
        have n6_ := Z0 (kb (g := gb307) (o := .cells #[.slice A0_0 l0_0.length c0_0, .slice A0_1 l0_1.length c0_1] 25 (0, 0)) (zk BK307) hb)
        have n7_ := Z0 (kb (g := gb308) (o := .cells #[.slice A1_0 l1_0.length c1_0, .slice A1_1 l1_1.length c1_1] 27 (0, 0)) (zk BK308) hb)
        have n8_ := Z0 (below_step (zb HB) hb)
        have n9_ := Z0 (hbox)
        have n10_ := Z0 ((by rw [hg]; exact (below_size (zb HB)) : w.heap.size ≤ gb331))
        have n11_ := Z0 ((by rw [hg]; exact (below_size (zb HB)) : w.heap.size ≤ gb331))
        have n12_ := Z0 ((by rw [hg]; exact Nat.ne_of_lt (blk_lt (g := gb307) (o := .cells #[.slice A0_0 l0_0.length c0_0, .slice A0_1 l0_1.length c0_1] 25 (0, 0)) (zk BK307)) : gb307 ≠ gb331))
        have n13_ := Z0 ((by rw [hg]; exact Nat.ne_of_gt (blk_lt (g := gb307) (o := .cells #[.slice A0_0 l0_0.length c0_0, .slice A0_1 l0_1.length c0_1] 25 (0, 0)) (zk BK307)) : gb331 ≠ gb307))
        have n14_ := Z0 ((by rw [hg]; exact Nat.ne_of_lt (blk_lt (g := gb308) (o := .cells #[.slice A1_0 l1_0.length c1_0, .slice A1_1 l1_1.length c1_1] 27 (0, 0)) (zk BK308)) : gb308 ≠ gb331))
        have n15_ := Z0 ((by rw [hg]; exact Nat.ne_of_gt (blk_lt (g := gb308) (o := .cells #[.slice A1_0 l1_0.length c1_0, .slice A1_1 l1_1.length c1_1] 27 (0, 0)) (zk BK308)) : gb331 ≠ gb308))
        clear HO314
        clear HO317
        clear HO320
        clear HO323
        clear HO326
        clear HO329
        clear BK307
        clear BK308
        clear HB
        have HO314 := n0_
        have HO317 := n1_
        have HO320 := n2_
        have HO323 := n3_
        have HO326 := n4_
        have HO329 := n5_
        have BK307 := n6_
        have BK308 := n7_
        have HB := n8_
        have BK331 := n9_
        have GW331 := n10_
        have GE331 := n11_
        have NB307_331 := n12_
        have NB331_307 := n13_
        have NB308_331 := n14_
        have NB331_308 := n15_
        clear n0_ n1_ n2_ n3_ n4_ n5_ n6_ n7_ n8_ n9_ n10_ n11_ n12_ n13_ n14_ n15_
        clear hb hbox hg
        refine hK.out _ _ ⟨(kc BK307.out 0).trans rfl, (kc BK307.out 1).trans rfl, (kc BK308.out 0).trans rfl, (kc BK308.out 1).trans rfl⟩ (fun hHeld => ?_)
        clear hK K
        refine norm_ (a' := ?_) ?_ ?_
        rotate_left
        ·show Act.put _ (some 5) _ = _
         simp only [Act.put, y0, y1, y2, i64_w, i32_w]
         rfl
        exact norm_ (by simp only [putAll, Act.put, y0, y1, y2]) (hCont (.slice Ao25 t312.length co25, .slice Ao26 t315.length co26, .slice Ao27 t318.length co27, .slice Ao28 t321.length co28, v325, v328, gb331) _ ⟨hHeld, (by (with_reducible repeat (first | apply ra | apply rn | apply rd_)); exact rm HO314.out (fun _ hk => ⟨hk.1.1.1.2, ⟨hk.1.1.2, ⟨hk.1.2, hk.2⟩⟩⟩)), (zr HO317), (by (with_reducible repeat (first | apply ra | apply rn | apply rd_)); exact rm HO320.out (fun _ hk => ⟨hk.1.1.2, ⟨hk.1.1.1, ⟨hk.1.2, hk.2⟩⟩⟩)), (by (with_reducible repeat (first | apply ra | apply rn | apply rd_)); exact rm HO323.out (fun _ hk => ⟨hk.1.1.2, ⟨hk.1.1.1, ⟨hk.1.2, hk.2⟩⟩⟩)), (by (with_reducible repeat (first | apply ra | apply rn | apply rd_)); exact rm HO326.out (fun _ hk => ⟨hk.1.1.2, ⟨hk.1.2, ⟨hk.2, hk.1.1.1⟩⟩⟩)), (by (with_reducible repeat (first | apply ra | apply rn | apply rd_)); exact rm HO329.out (fun _ hk => ⟨hk.1.1.2, ⟨hk.1.2, ⟨hk.2, hk.1.1.1⟩⟩⟩)), (zk BK307), (zk BK308), (zk BK331), GW331.out, GE331.out, NB307_331.out, NB331_307.out, NB308_331.out, NB331_308.out, (zb HB)⟩)
       ·skip
        refine box_step ?hg (N := 5) ?hd (cs := #[.slice none 0 0, .slice none 0 0]) (t := 27) ?hr ?_; (case hd => rfl); (case hg => rfl); (case hr => first | (go_simp; done) | (go_simp; rfl))
        intro gb331 hg w25 hbox hb
        have n0_ := Z0 (rbe (zr HO314) hb)
        have n1_ := Z0 (rbe (zr HO317) hb)
        have n2_ := Z0 (rbe (zr HO320) hb)
        have n3_ := Z0 (rbe (zr HO323) hb)
        have n4_ := Z0 (kb (g := gb307) (o := .cells #[.slice A0_0 l0_0.length c0_0, .slice A0_1 l0_1.length c0_1] 25 (0, 0)) (zk BK307) hb)
        have n5_ := Z0 (kb (g := gb308) (o := .cells #[.slice A1_0 l1_0.length c1_0, .slice A1_1 l1_1.length c1_1] 27 (0, 0)) (zk BK308) hb)
        have n6_ := Z0 (below_step (zb HB) hb)
        have n7_ := Z0 (hbox)
        have n8_ := Z0 ((by rw [hg]; exact (below_size (zb HB)) : w.heap.size ≤ gb331))
        have n9_ := Z0 ((by rw [hg]; exact (below_size (zb HB)) : w.heap.size ≤ gb331))
        have n10_ := Z0 ((by rw [hg]; exact Nat.ne_of_lt (blk_lt (g := gb307) (o := .cells #[.slice A0_0 l0_0.length c0_0, .slice A0_1 l0_1.length c0_1] 25 (0, 0)) (zk BK307)) : gb307 ≠ gb331))
        have n11_ := Z0 ((by rw [hg]; exact Nat.ne_of_gt (blk_lt (g := gb307) (o := .cells #[.slice A0_0 l0_0.length c0_0, .slice A0_1 l0_1.length c0_1] 25 (0, 0)) (zk BK307)) : gb331 ≠ gb307))
        have n12_ := Z0 ((by rw [hg]; exact Nat.ne_of_lt (blk_lt (g := gb308) (o := .cells #[.slice A1_0 l1_0.length c1_0, .slice A1_1 l1_1.length c1_1] 27 (0, 0)) (zk BK308)) : gb308 ≠ gb331))
        have n13_ := Z0 ((by rw [hg]; exact Nat.ne_of_gt (blk_lt (g := gb308) (o := .cells #[.slice A1_0 l1_0.length c1_0, .slice A1_1 l1_1.length c1_1] 27 (0, 0)) (zk BK308)) : gb331 ≠ gb308))
        clear HO314
        clear HO317
        clear HO320
        clear HO323
        clear BK307
        clear BK308
        clear HB
        have HO314 := n0_
        have HO317 := n1_
        have HO320 := n2_
        have HO323 := n3_
        have BK307 := n4_
        have BK308 := n5_
        have HB := n6_
        have BK331 := n7_
        have GW331 := n8_
        have GE331 := n9_
        have NB307_331 := n10_
        have NB331_307 := n11_
        have NB308_331 := n12_
        have NB331_308 := n13_
        clear n0_ n1_ n2_ n3_ n4_ n5_ n6_ n7_ n8_ n9_ n10_ n11_ n12_ n13_
        clear hb hbox hg
        obtain ⟨Ao26, co26, eo26⟩ := Kd.R_slice HO314.out
        (first | subst eo26 | (injection eo26 with f1_ f2_ f3_; have f4_ := f1_.symm; have f5_ := f3_.symm; clear f1_ f2_ f3_; subst f4_; subst f5_))
        obtain ⟨Ao27, co27, eo27⟩ := Kd.R_slice HO317.out
        (first | subst eo27 | (injection eo27 with f1_ f2_ f3_; have f4_ := f1_.symm; have f5_ := f3_.symm; clear f1_ f2_ f3_; subst f4_; subst f5_))
        obtain ⟨Ao28, co28, eo28⟩ := Kd.R_slice HO320.out
        (first | subst eo28 | (injection eo28 with f1_ f2_ f3_; have f4_ := f1_.symm; have f5_ := f3_.symm; clear f1_ f2_ f3_; subst f4_; subst f5_))
        obtain ⟨Ao29, co29, eo29⟩ := Kd.R_slice HO323.out
        (first | subst eo29 | (injection eo29 with f1_ f2_ f3_; have f4_ := f1_.symm; have f5_ := f3_.symm; clear f1_ f2_ f3_; subst f4_; subst f5_))
        refine hK.out _ _ ⟨(kc BK307.out 0).trans rfl, (kc BK307.out 1).trans rfl, (kc BK308.out 0).trans rfl, (kc BK308.out 1).trans rfl⟩ (fun hHeld => ?_)
        clear hK K
        refine norm_ (a' := ?_) ?_ ?_
        rotate_left
        ·show Act.put _ (some 5) _ = _
         simp only [Act.put, y0, y1, y2, i64_w, i32_w]
         rfl
        refine one_ (i := 4) (N := some 24) (bz 11 287) rfl rfl (one_of HT_.out (by kernel_rfl)) (by decide) (fun K hK => ?_)
        refine zg Try.func11 #[.agg #[.slice Ao26 t312.length co26, .slice Ao27 t315.length co27], .agg #[.slice Ao28 t318.length co28, .slice Ao29 t321.length co29]] ?_
        with_reducible refine (list_Fill.calls _ _ t312 _ _ t315 _ _ t318 _ _ t321 t324 t327 t330 _ ?side1 ?side2 ?side3 ?side4 ?side5 ?side6 ?side7 ?side8 A20.out).mono ?_
        (case side1 => exact zc (rr HO314.out).2.2)
        (case side2 => exact (rr HO314.out).2.1)
        (case side3 => exact zc (rr HO317.out).2.2)
        (case side4 => exact (rr HO317.out).2.1)
        (case side5 => exact zc (rr HO320.out).2.2)
        (case side6 => exact (rr HO320.out).2.1)
        (case side7 => exact zc (rr HO323.out).2.2)
        (case side8 => exact (rr HO323.out).2.1)
        rintro e w30 ⟨v325, v328, rfl, ho0, ho1, hb⟩
        refine ⟨_, rfl, ?_⟩
        have n0_ := Z0 (rm (rt (rt (ro (zr HO314) hb) (rb ho0)) (rb ho1)) (fun _ h_ => h_.1))
        have n1_ := Z0 (rbe (zr HO317) hb)
        have n2_ := Z0 (rm (rt (rt (ro (zr HO320) hb) (rb ho0)) (rb ho1)) (fun _ h_ => h_.1))
        have n3_ := Z0 (rm (rt (rt (ro (zr HO323) hb) (rb ho0)) (rb ho1)) (fun _ h_ => h_.1))
        have n4_ := Z0 (rl (rw_ (rw_ (rw_ ho0 (rlt (zr HO314))) (rlt (zr HO320))) (rlt (zr HO323))) (below_size (zb HB)))
        have n5_ := Z0 (rl (rw_ (rw_ (rw_ ho1 (rlt (zr HO314))) (rlt (zr HO320))) (rlt (zr HO323))) (below_size (zb HB)))
        have n6_ := Z0 (kb (g := gb307) (o := .cells #[.slice A0_0 l0_0.length c0_0, .slice A0_1 l0_1.length c0_1] 25 (0, 0)) (zk BK307) hb)
        have n7_ := Z0 (kb (g := gb308) (o := .cells #[.slice A1_0 l1_0.length c1_0, .slice A1_1 l1_1.length c1_1] 27 (0, 0)) (zk BK308) hb)
        have n8_ := Z0 (kb (g := gb331) (o := .cells #[.slice none 0 0, .slice none 0 0] 27 (0, 0)) (zk BK331) hb)
        have n9_ := Z0 (below_step (zb HB) hb)
        clear HO314
        clear HO317
        clear HO320
        clear HO323
        clear BK307
        clear BK308
        clear BK331
        clear HB
        have HO314 := n0_
        have HO317 := n1_
        have HO320 := n2_
        have HO323 := n3_
        have HO326 := n4_
        have HO329 := n5_
        have BK307 := n6_
        have BK308 := n7_
        have BK331 := n8_
        have HB := n9_
        clear n0_ n1_ n2_ n3_ n4_ n5_ n6_ n7_ n8_ n9_
        (try clear hb)
        (try clear hb2)
        (try clear hk)
        (try clear hi)
        (try clear ho0)
        (try clear ho1)
        refine hK.out _ _ ⟨(kc BK307.out 0).trans rfl, (kc BK307.out 1).trans rfl, (kc BK308.out 0).trans rfl, (kc BK308.out 1).trans rfl⟩ (fun hHeld => ?_)
        clear hK K
        refine norm_ (a' := ?_) ?_ ?_
        rotate_left
        ·show Act.put _ (some 24) _ = _
         simp only [Act.put, y0, y1, y2, i64_w, i32_w]
         rfl
        refine pu 5 (some 19) (bz 11 319) HT_ ?_
        refine pu 6 (some 25) (bz 11 383) HT_ ?_
        refine pu 7 (some 26) (bz 11 511) HT_ ?_
        exact norm_ (by simp only [putAll, Act.put, y0, y1, y2]) (hCont (.slice Ao26 t312.length co26, .slice Ao27 t315.length co27, .slice Ao28 t318.length co28, .slice Ao29 t321.length co29, v325, v328, gb331) _ ⟨hHeld, (by (with_reducible repeat (first | apply ra | apply rn | apply rd_)); exact rm HO314.out (fun _ hk => ⟨hk.1.1.1.2, ⟨hk.1.1.2, ⟨hk.1.2, hk.2⟩⟩⟩)), (zr HO317), (by (with_reducible repeat (first | apply ra | apply rn | apply rd_)); exact rm HO320.out (fun _ hk => ⟨hk.1.1.2, ⟨hk.1.1.1, ⟨hk.1.2, hk.2⟩⟩⟩)), (by (with_reducible repeat (first | apply ra | apply rn | apply rd_)); exact rm HO323.out (fun _ hk => ⟨hk.1.1.2, ⟨hk.1.1.1, ⟨hk.1.2, hk.2⟩⟩⟩)), (by (with_reducible repeat (first | apply ra | apply rn | apply rd_)); exact rm HO326.out (fun _ hk => ⟨hk.1.1.2, ⟨hk.1.2, ⟨hk.2, hk.1.1.1⟩⟩⟩)), (by (with_reducible repeat (first | apply ra | apply rn | apply rd_)); exact rm HO329.out (fun _ hk => ⟨hk.1.1.2, ⟨hk.1.2, ⟨hk.2, hk.1.1.1⟩⟩⟩)), (zk BK307), (zk BK308), (zk BK331), GW331.out, GE331.out, NB307_331.out, NB331_307.out, NB308_331.out, NB331_308.out, (zb HB)⟩)
      ·skip
       refine box_step ?hg (N := 5) ?hd (cs := #[.slice none 0 0, .slice none 0 0]) (t := 27) ?hr ?_; (case hd => rfl); (case hg => rfl); (case hr => first | (go_simp; done) | (go_simp; rfl))
       intro gb331 hg w24 hbox hb
       have n0_ := Z0 (rbe (zr HO314) hb)
       have n1_ := Z0 (rbe (zr HO317) hb)
       have n2_ := Z0 (kb (g := gb307) (o := .cells #[.slice A0_0 l0_0.length c0_0, .slice A0_1 l0_1.length c0_1] 25 (0, 0)) (zk BK307) hb)
       have n3_ := Z0 (kb (g := gb308) (o := .cells #[.slice A1_0 l1_0.length c1_0, .slice A1_1 l1_1.length c1_1] 27 (0, 0)) (zk BK308) hb)
       have n4_ := Z0 (below_step (zb HB) hb)
       have n5_ := Z0 (hbox)
       have n6_ := Z0 ((by rw [hg]; exact (below_size (zb HB)) : w.heap.size ≤ gb331))
       have n7_ := Z0 ((by rw [hg]; exact (below_size (zb HB)) : w.heap.size ≤ gb331))
       have n8_ := Z0 ((by rw [hg]; exact Nat.ne_of_lt (blk_lt (g := gb307) (o := .cells #[.slice A0_0 l0_0.length c0_0, .slice A0_1 l0_1.length c0_1] 25 (0, 0)) (zk BK307)) : gb307 ≠ gb331))
       have n9_ := Z0 ((by rw [hg]; exact Nat.ne_of_gt (blk_lt (g := gb307) (o := .cells #[.slice A0_0 l0_0.length c0_0, .slice A0_1 l0_1.length c0_1] 25 (0, 0)) (zk BK307)) : gb331 ≠ gb307))
       have n10_ := Z0 ((by rw [hg]; exact Nat.ne_of_lt (blk_lt (g := gb308) (o := .cells #[.slice A1_0 l1_0.length c1_0, .slice A1_1 l1_1.length c1_1] 27 (0, 0)) (zk BK308)) : gb308 ≠ gb331))
       have n11_ := Z0 ((by rw [hg]; exact Nat.ne_of_gt (blk_lt (g := gb308) (o := .cells #[.slice A1_0 l1_0.length c1_0, .slice A1_1 l1_1.length c1_1] 27 (0, 0)) (zk BK308)) : gb331 ≠ gb308))
       clear HO314
       clear HO317
       clear BK307
       clear BK308
       clear HB
       have HO314 := n0_
       have HO317 := n1_
       have BK307 := n2_
       have BK308 := n3_
       have HB := n4_
       have BK331 := n5_
       have GW331 := n6_
       have GE331 := n7_
       have NB307_331 := n8_
       have NB331_307 := n9_
       have NB308_331 := n10_
       have NB331_308 := n11_
       clear n0_ n1_ n2_ n3_ n4_ n5_ n6_ n7_ n8_ n9_ n10_ n11_
       clear hb hbox hg
       refine hK.out _ _ ⟨(kc BK307.out 0).trans rfl, (kc BK307.out 1).trans rfl, (kc BK308.out 0).trans rfl, (kc BK308.out 1).trans rfl⟩ (fun hHeld => ?_)
       clear hK K
       refine norm_ (a' := ?_) ?_ ?_
       rotate_left
       ·show Act.put _ (some 5) _ = _
        simp only [Act.put, y0, y1, y2, i64_w, i32_w]
        rfl
       refine one_ (i := 3) (N := some 23) (bz 11 271) rfl rfl (one_of HT_.out (by kernel_rfl)) (by decide) (fun K hK => ?_)
       refine zg Try.func13 #[.agg #[.slice A1_0 l1_0.length c1_0, .slice A1_1 l1_1.length c1_1]] ?_
       with_reducible refine (trefoillaw11_Own.calls _ _ l1_0 _ _ l1_1 t318 t321 _ ?side1 ?side2 ?side3 ?side4 A19.out).mono ?_
       (case side1 => exact zc (Kd.C_below HR1_0.out HB.out))
       (case side2 => exact HC1_0.out)
       (case side3 => exact zc (Kd.C_below HR1_1.out HB.out))
       (case side4 => exact HC1_1.out)
       rintro e w25 ⟨v319, v322, rfl, ho0, ho1, hb⟩
       refine ⟨_, rfl, ?_⟩
       have n0_ := Z0 (rm (rt (rt (ro (zr HO314) hb) (rb ho0)) (rb ho1)) (fun _ h_ => h_.1))
       have n1_ := Z0 (rbe (zr HO317) hb)
       have n2_ := Z0 (rl (rw_ ho0 (rlt (zr HO314))) (below_size (zb HB)))
       have n3_ := Z0 (rl (rw_ ho1 (rlt (zr HO314))) (below_size (zb HB)))
       have n4_ := Z0 (kb (g := gb307) (o := .cells #[.slice A0_0 l0_0.length c0_0, .slice A0_1 l0_1.length c0_1] 25 (0, 0)) (zk BK307) hb)
       have n5_ := Z0 (kb (g := gb308) (o := .cells #[.slice A1_0 l1_0.length c1_0, .slice A1_1 l1_1.length c1_1] 27 (0, 0)) (zk BK308) hb)
       have n6_ := Z0 (kb (g := gb331) (o := .cells #[.slice none 0 0, .slice none 0 0] 27 (0, 0)) (zk BK331) hb)
       have n7_ := Z0 (below_step (zb HB) hb)
       clear HO314
       clear HO317
       clear BK307
       clear BK308
       clear BK331
       clear HB
       have HO314 := n0_
       have HO317 := n1_
       have HO320 := n2_
       have HO323 := n3_
       have BK307 := n4_
       have BK308 := n5_
       have BK331 := n6_
       have HB := n7_
       clear n0_ n1_ n2_ n3_ n4_ n5_ n6_ n7_
       (try clear hb)
       (try clear hb2)
       (try clear hk)
       (try clear hi)
       (try clear ho0)
       (try clear ho1)
       obtain ⟨Ao26, co26, eo26⟩ := Kd.R_slice HO314.out
       (first | subst eo26 | (injection eo26 with f1_ f2_ f3_; have f4_ := f1_.symm; have f5_ := f3_.symm; clear f1_ f2_ f3_; subst f4_; subst f5_))
       obtain ⟨Ao27, co27, eo27⟩ := Kd.R_slice HO317.out
       (first | subst eo27 | (injection eo27 with f1_ f2_ f3_; have f4_ := f1_.symm; have f5_ := f3_.symm; clear f1_ f2_ f3_; subst f4_; subst f5_))
       obtain ⟨Ao28, co28, eo28⟩ := Kd.R_slice HO320.out
       (first | subst eo28 | (injection eo28 with f1_ f2_ f3_; have f4_ := f1_.symm; have f5_ := f3_.symm; clear f1_ f2_ f3_; subst f4_; subst f5_))
       obtain ⟨Ao29, co29, eo29⟩ := Kd.R_slice HO323.out
       (first | subst eo29 | (injection eo29 with f1_ f2_ f3_; have f4_ := f1_.symm; have f5_ := f3_.symm; clear f1_ f2_ f3_; subst f4_; subst f5_))
       refine hK.out _ _ ⟨(kc BK307.out 0).trans rfl, (kc BK307.out 1).trans rfl, (kc BK308.out 0).trans rfl, (kc BK308.out 1).trans rfl⟩ (fun hHeld => ?_)
       clear hK K
       refine norm_ (a' := ?_) ?_ ?_
       rotate_left
       ·show Act.put _ (some 23) _ = _
        simp only [Act.put, y0, y1, y2, i64_w, i32_w]
        rfl
       refine one_ (i := 4) (N := some 24) (bz 11 287) rfl rfl (one_of HT_.out (by kernel_rfl)) (by decide) (fun K hK => ?_)
       refine zg Try.func11 #[.agg #[.slice Ao26 t312.length co26, .slice Ao27 t315.length co27], .agg #[.slice Ao28 t318.length co28, .slice Ao29 t321.length co29]] ?_
       with_reducible refine (list_Fill.calls _ _ t312 _ _ t315 _ _ t318 _ _ t321 t324 t327 t330 _ ?side1 ?side2 ?side3 ?side4 ?side5 ?side6 ?side7 ?side8 A20.out).mono ?_
       (case side1 => exact zc (rr HO314.out).2.2)
       (case side2 => exact (rr HO314.out).2.1)
       (case side3 => exact zc (rr HO317.out).2.2)
       (case side4 => exact (rr HO317.out).2.1)
       (case side5 => exact zc (rr HO320.out).2.2)
       (case side6 => exact (rr HO320.out).2.1)
       (case side7 => exact zc (rr HO323.out).2.2)
       (case side8 => exact (rr HO323.out).2.1)
       rintro e w30 ⟨v325, v328, rfl, ho0, ho1, hb⟩
       refine ⟨_, rfl, ?_⟩
       have n0_ := Z0 (rm (rt (rt (ro (zr HO314) hb) (rb ho0)) (rb ho1)) (fun _ h_ => h_.1))
       have n1_ := Z0 (rbe (zr HO317) hb)
       have n2_ := Z0 (rm (rt (rt (ro (zr HO320) hb) (rb ho0)) (rb ho1)) (fun _ h_ => h_.1))
       have n3_ := Z0 (rm (rt (rt (ro (zr HO323) hb) (rb ho0)) (rb ho1)) (fun _ h_ => h_.1))
       have n4_ := Z0 (rl (rw_ (rw_ (rw_ ho0 (rlt (zr HO314))) (rlt (zr HO320))) (rlt (zr HO323))) (below_size (zb HB)))
       have n5_ := Z0 (rl (rw_ (rw_ (rw_ ho1 (rlt (zr HO314))) (rlt (zr HO320))) (rlt (zr HO323))) (below_size (zb HB)))
       have n6_ := Z0 (kb (g := gb307) (o := .cells #[.slice A0_0 l0_0.length c0_0, .slice A0_1 l0_1.length c0_1] 25 (0, 0)) (zk BK307) hb)
       have n7_ := Z0 (kb (g := gb308) (o := .cells #[.slice A1_0 l1_0.length c1_0, .slice A1_1 l1_1.length c1_1] 27 (0, 0)) (zk BK308) hb)
       have n8_ := Z0 (kb (g := gb331) (o := .cells #[.slice none 0 0, .slice none 0 0] 27 (0, 0)) (zk BK331) hb)
       have n9_ := Z0 (below_step (zb HB) hb)
       clear HO314
       clear HO317
       clear HO320
       clear HO323
       clear BK307
       clear BK308
       clear BK331
       clear HB
       have HO314 := n0_
       have HO317 := n1_
       have HO320 := n2_
       have HO323 := n3_
       have HO326 := n4_
       have HO329 := n5_
       have BK307 := n6_
       have BK308 := n7_
       have BK331 := n8_
       have HB := n9_
       clear n0_ n1_ n2_ n3_ n4_ n5_ n6_ n7_ n8_ n9_
       (try clear hb)
       (try clear hb2)
       (try clear hk)
       (try clear hi)
       (try clear ho0)
       (try clear ho1)
       refine hK.out _ _ ⟨(kc BK307.out 0).trans rfl, (kc BK307.out 1).trans rfl, (kc BK308.out 0).trans rfl, (kc BK308.out 1).trans rfl⟩ (fun hHeld => ?_)
       clear hK K
       refine norm_ (a' := ?_) ?_ ?_
       rotate_left
       ·show Act.put _ (some 24) _ = _
        simp only [Act.put, y0, y1, y2, i64_w, i32_w]
        rfl
       refine pu 5 (some 19) (bz 11 319) HT_ ?_
       refine pu 6 (some 25) (bz 11 383) HT_ ?_
       refine pu 7 (some 26) (bz 11 511) HT_ ?_
       exact norm_ (by simp only [putAll, Act.put, y0, y1, y2]) (hCont (.slice Ao26 t312.length co26, .slice Ao27 t315.length co27, .slice Ao28 t318.length co28, .slice Ao29 t321.length co29, v325, v328, gb331) _ ⟨hHeld, (by (with_reducible repeat (first | apply ra | apply rn | apply rd_)); exact rm HO314.out (fun _ hk => ⟨hk.1.1.1.2, ⟨hk.1.1.2, ⟨hk.1.2, hk.2⟩⟩⟩)), (zr HO317), (by (with_reducible repeat (first | apply ra | apply rn | apply rd_)); exact rm HO320.out (fun _ hk => ⟨hk.1.1.2, ⟨hk.1.1.1, ⟨hk.1.2, hk.2⟩⟩⟩)), (by (with_reducible repeat (first | apply ra | apply rn | apply rd_)); exact rm HO323.out (fun _ hk => ⟨hk.1.1.2, ⟨hk.1.1.1, ⟨hk.1.2, hk.2⟩⟩⟩)), (by (with_reducible repeat (first | apply ra | apply rn | apply rd_)); exact rm HO326.out (fun _ hk => ⟨hk.1.1.2, ⟨hk.1.2, ⟨hk.2, hk.1.1.1⟩⟩⟩)), (by (with_reducible repeat (first | apply ra | apply rn | apply rd_)); exact rm HO329.out (fun _ hk => ⟨hk.1.1.2, ⟨hk.1.2, ⟨hk.2, hk.1.1.1⟩⟩⟩)), (zk BK307), (zk BK308), (zk BK331), GW331.out, GE331.out, NB307_331.out, NB331_307.out, NB308_331.out, NB331_308.out, (zb HB)⟩)
     ·skip
      refine box_step ?hg (N := 5) ?hd (cs := #[.slice none 0 0, .slice none 0 0]) (t := 27) ?hr ?_; (case hd => rfl); (case hg => rfl); (case hr => first | (go_simp; done) | (go_simp; rfl))
      intro gb331 hg w23 hbox hb
      have n0_ := Z0 (kb (g := gb307) (o := .cells #[.slice A0_0 l0_0.length c0_0, .slice A0_1 l0_1.length c0_1] 25 (0, 0)) (zk BK307) hb)
      have n1_ := Z0 (kb (g := gb308) (o := .cells #[.slice A1_0 l1_0.length c1_0, .slice A1_1 l1_1.length c1_1] 27 (0, 0)) (zk BK308) hb)
      have n2_ := Z0 (below_step (zb HB) hb)
      have n3_ := Z0 (hbox)
      have n4_ := Z0 ((by rw [hg]; exact (below_size (zb HB)) : w.heap.size ≤ gb331))
      have n5_ := Z0 ((by rw [hg]; exact (below_size (zb HB)) : w.heap.size ≤ gb331))
      have n6_ := Z0 ((by rw [hg]; exact Nat.ne_of_lt (blk_lt (g := gb307) (o := .cells #[.slice A0_0 l0_0.length c0_0, .slice A0_1 l0_1.length c0_1] 25 (0, 0)) (zk BK307)) : gb307 ≠ gb331))
      have n7_ := Z0 ((by rw [hg]; exact Nat.ne_of_gt (blk_lt (g := gb307) (o := .cells #[.slice A0_0 l0_0.length c0_0, .slice A0_1 l0_1.length c0_1] 25 (0, 0)) (zk BK307)) : gb331 ≠ gb307))
      have n8_ := Z0 ((by rw [hg]; exact Nat.ne_of_lt (blk_lt (g := gb308) (o := .cells #[.slice A1_0 l1_0.length c1_0, .slice A1_1 l1_1.length c1_1] 27 (0, 0)) (zk BK308)) : gb308 ≠ gb331))
      have n9_ := Z0 ((by rw [hg]; exact Nat.ne_of_gt (blk_lt (g := gb308) (o := .cells #[.slice A1_0 l1_0.length c1_0, .slice A1_1 l1_1.length c1_1] 27 (0, 0)) (zk BK308)) : gb331 ≠ gb308))
      clear BK307
      clear BK308
      clear HB
      have BK307 := n0_
      have BK308 := n1_
      have HB := n2_
      have BK331 := n3_
      have GW331 := n4_
      have GE331 := n5_
      have NB307_331 := n6_
      have NB331_307 := n7_
      have NB308_331 := n8_
      have NB331_308 := n9_
      clear n0_ n1_ n2_ n3_ n4_ n5_ n6_ n7_ n8_ n9_
      clear hb hbox hg
      refine hK.out _ _ ⟨(kc BK307.out 0).trans rfl, (kc BK307.out 1).trans rfl, (kc BK308.out 0).trans rfl, (kc BK308.out 1).trans rfl⟩ (fun hHeld => ?_)
      clear hK K
      refine norm_ (a' := ?_) ?_ ?_
      rotate_left
      ·show Act.put _ (some 5) _ = _
       simp only [Act.put, y0, y1, y2, i64_w, i32_w]
       rfl
      refine one_ (i := 1) (N := some 21) (bz 11 263) rfl rfl (one_of HT_.out (by kernel_rfl)) (by decide) (fun K hK => ?_)
      refine zg Try.func12 #[.agg #[.slice A0_0 l0_0.length c0_0, .slice A0_1 l0_1.length c0_1]] ?_
      with_reducible refine (trefoillaw04_Own.calls _ _ l0_0 _ _ l0_1 t312 t315 _ ?side1 ?side2 ?side3 ?side4 A18.out).mono ?_
      (case side1 => exact zc (Kd.C_below HR0_0.out HB.out))
      (case side2 => exact HC0_0.out)
      (case side3 => exact zc (Kd.C_below HR0_1.out HB.out))
      (case side4 => exact HC0_1.out)
      rintro e w24 ⟨v313, v316, rfl, ho0, ho1, hb⟩
      refine ⟨_, rfl, ?_⟩
      have HO314 := Z0 (rl ho0 (below_size (zb HB)))
      have HO317 := Z0 (rl ho1 (below_size (zb HB)))
      replace BK307 := Z0 (kb (g := gb307) (o := .cells #[.slice A0_0 l0_0.length c0_0, .slice A0_1 l0_1.length c0_1] 25 (0, 0)) (zk BK307) hb)
      replace BK308 := Z0 (kb (g := gb308) (o := .cells #[.slice A1_0 l1_0.length c1_0, .slice A1_1 l1_1.length c1_1] 27 (0, 0)) (zk BK308) hb)
      replace BK331 := Z0 (kb (g := gb331) (o := .cells #[.slice none 0 0, .slice none 0 0] 27 (0, 0)) (zk BK331) hb)
      replace HB := Z0 (below_step (zb HB) hb)
      (try clear hb)
      (try clear hb2)
      (try clear hk)
      (try clear hi)
      (try clear ho0)
      (try clear ho1)
      refine hK.out _ _ ⟨(kc BK307.out 0).trans rfl, (kc BK307.out 1).trans rfl, (kc BK308.out 0).trans rfl, (kc BK308.out 1).trans rfl⟩ (fun hHeld => ?_)
      clear hK K
      refine norm_ (a' := ?_) ?_ ?_
      rotate_left
      ·show Act.put _ (some 21) _ = _
       simp only [Act.put, y0, y1, y2, i64_w, i32_w]
       rfl
      refine one_ (i := 3) (N := some 23) (bz 11 271) rfl rfl (one_of HT_.out (by kernel_rfl)) (by decide) (fun K hK => ?_)
      refine zg Try.func13 #[.agg #[.slice A1_0 l1_0.length c1_0, .slice A1_1 l1_1.length c1_1]] ?_
      with_reducible refine (trefoillaw11_Own.calls _ _ l1_0 _ _ l1_1 t318 t321 _ ?side1 ?side2 ?side3 ?side4 A19.out).mono ?_
      (case side1 => exact zc (Kd.C_below HR1_0.out HB.out))
      (case side2 => exact HC1_0.out)
      (case side3 => exact zc (Kd.C_below HR1_1.out HB.out))
      (case side4 => exact HC1_1.out)
      rintro e w25 ⟨v319, v322, rfl, ho0, ho1, hb⟩
      refine ⟨_, rfl, ?_⟩
      have n0_ := Z0 (rm (rt (rt (ro (zr HO314) hb) (rb ho0)) (rb ho1)) (fun _ h_ => h_.1))
      have n1_ := Z0 (rbe (zr HO317) hb)
      have n2_ := Z0 (rl (rw_ ho0 (rlt (zr HO314))) (below_size (zb HB)))
      have n3_ := Z0 (rl (rw_ ho1 (rlt (zr HO314))) (below_size (zb HB)))
      have n4_ := Z0 (kb (g := gb307) (o := .cells #[.slice A0_0 l0_0.length c0_0, .slice A0_1 l0_1.length c0_1] 25 (0, 0)) (zk BK307) hb)
      have n5_ := Z0 (kb (g := gb308) (o := .cells #[.slice A1_0 l1_0.length c1_0, .slice A1_1 l1_1.length c1_1] 27 (0, 0)) (zk BK308) hb)
      have n6_ := Z0 (kb (g := gb331) (o := .cells #[.slice none 0 0, .slice none 0 0] 27 (0, 0)) (zk BK331) hb)
      have n7_ := Z0 (below_step (zb HB) hb)
      clear HO314
      clear HO317
      clear BK307
      clear BK308
      clear BK331
      clear HB
      have HO314 := n0_
      have HO317 := n1_
      have HO320 := n2_
      have HO323 := n3_
      have BK307 := n4_
      have BK308 := n5_
      have BK331 := n6_
      have HB := n7_
      clear n0_ n1_ n2_ n3_ n4_ n5_ n6_ n7_
      (try clear hb)
      (try clear hb2)
      (try clear hk)
      (try clear hi)
      (try clear ho0)
      (try clear ho1)
      obtain ⟨Ao26, co26, eo26⟩ := Kd.R_slice HO314.out
      (first | subst eo26 | (injection eo26 with f1_ f2_ f3_; have f4_ := f1_.symm; have f5_ := f3_.symm; clear f1_ f2_ f3_; subst f4_; subst f5_))
      obtain ⟨Ao27, co27, eo27⟩ := Kd.R_slice HO317.out
      (first | subst eo27 | (injection eo27 with f1_ f2_ f3_; have f4_ := f1_.symm; have f5_ := f3_.symm; clear f1_ f2_ f3_; subst f4_; subst f5_))
      obtain ⟨Ao28, co28, eo28⟩ := Kd.R_slice HO320.out
      (first | subst eo28 | (injection eo28 with f1_ f2_ f3_; have f4_ := f1_.symm; have f5_ := f3_.symm; clear f1_ f2_ f3_; subst f4_; subst f5_))
      obtain ⟨Ao29, co29, eo29⟩ := Kd.R_slice HO323.out
      (first | subst eo29 | (injection eo29 with f1_ f2_ f3_; have f4_ := f1_.symm; have f5_ := f3_.symm; clear f1_ f2_ f3_; subst f4_; subst f5_))
      refine hK.out _ _ ⟨(kc BK307.out 0).trans rfl, (kc BK307.out 1).trans rfl, (kc BK308.out 0).trans rfl, (kc BK308.out 1).trans rfl⟩ (fun hHeld => ?_)
      clear hK K
      refine norm_ (a' := ?_) ?_ ?_
      rotate_left
      ·show Act.put _ (some 23) _ = _
       simp only [Act.put, y0, y1, y2, i64_w, i32_w]
       rfl
      refine one_ (i := 4) (N := some 24) (bz 11 287) rfl rfl (one_of HT_.out (by kernel_rfl)) (by decide) (fun K hK => ?_)
      refine zg Try.func11 #[.agg #[.slice Ao26 t312.length co26, .slice Ao27 t315.length co27], .agg #[.slice Ao28 t318.length co28, .slice Ao29 t321.length co29]] ?_
      with_reducible refine (list_Fill.calls _ _ t312 _ _ t315 _ _ t318 _ _ t321 t324 t327 t330 _ ?side1 ?side2 ?side3 ?side4 ?side5 ?side6 ?side7 ?side8 A20.out).mono ?_
      (case side1 => exact zc (rr HO314.out).2.2)
      (case side2 => exact (rr HO314.out).2.1)
      (case side3 => exact zc (rr HO317.out).2.2)
      (case side4 => exact (rr HO317.out).2.1)
      (case side5 => exact zc (rr HO320.out).2.2)
      (case side6 => exact (rr HO320.out).2.1)
      (case side7 => exact zc (rr HO323.out).2.2)
      (case side8 => exact (rr HO323.out).2.1)
      rintro e w30 ⟨v325, v328, rfl, ho0, ho1, hb⟩
      refine ⟨_, rfl, ?_⟩
      have n0_ := Z0 (rm (rt (rt (ro (zr HO314) hb) (rb ho0)) (rb ho1)) (fun _ h_ => h_.1))
      have n1_ := Z0 (rbe (zr HO317) hb)
      have n2_ := Z0 (rm (rt (rt (ro (zr HO320) hb) (rb ho0)) (rb ho1)) (fun _ h_ => h_.1))
      have n3_ := Z0 (rm (rt (rt (ro (zr HO323) hb) (rb ho0)) (rb ho1)) (fun _ h_ => h_.1))
      have n4_ := Z0 (rl (rw_ (rw_ (rw_ ho0 (rlt (zr HO314))) (rlt (zr HO320))) (rlt (zr HO323))) (below_size (zb HB)))
      have n5_ := Z0 (rl (rw_ (rw_ (rw_ ho1 (rlt (zr HO314))) (rlt (zr HO320))) (rlt (zr HO323))) (below_size (zb HB)))
      have n6_ := Z0 (kb (g := gb307) (o := .cells #[.slice A0_0 l0_0.length c0_0, .slice A0_1 l0_1.length c0_1] 25 (0, 0)) (zk BK307) hb)
      have n7_ := Z0 (kb (g := gb308) (o := .cells #[.slice A1_0 l1_0.length c1_0, .slice A1_1 l1_1.length c1_1] 27 (0, 0)) (zk BK308) hb)
      have n8_ := Z0 (kb (g := gb331) (o := .cells #[.slice none 0 0, .slice none 0 0] 27 (0, 0)) (zk BK331) hb)
      have n9_ := Z0 (below_step (zb HB) hb)
      clear HO314
      clear HO317
      clear HO320
      clear HO323
      clear BK307
      clear BK308
      clear BK331
      clear HB
      have HO314 := n0_
      have HO317 := n1_
      have HO320 := n2_
      have HO323 := n3_
      have HO326 := n4_
      have HO329 := n5_
      have BK307 := n6_
      have BK308 := n7_
      have BK331 := n8_
      have HB := n9_
      clear n0_ n1_ n2_ n3_ n4_ n5_ n6_ n7_ n8_ n9_
      (try clear hb)
      (try clear hb2)
      (try clear hk)
      (try clear hi)
      (try clear ho0)
      (try clear ho1)
      refine hK.out _ _ ⟨(kc BK307.out 0).trans rfl, (kc BK307.out 1).trans rfl, (kc BK308.out 0).trans rfl, (kc BK308.out 1).trans rfl⟩ (fun hHeld => ?_)
      clear hK K
      refine norm_ (a' := ?_) ?_ ?_
      rotate_left
      ·show Act.put _ (some 24) _ = _
       simp only [Act.put, y0, y1, y2, i64_w, i32_w]
       rfl
      refine pu 5 (some 19) (bz 11 319) HT_ ?_
      refine pu 6 (some 25) (bz 11 383) HT_ ?_
      refine pu 7 (some 26) (bz 11 511) HT_ ?_
      exact norm_ (by simp only [putAll, Act.put, y0, y1, y2]) (hCont (.slice Ao26 t312.length co26, .slice Ao27 t315.length co27, .slice Ao28 t318.length co28, .slice Ao29 t321.length co29, v325, v328, gb331) _ ⟨hHeld, (by (with_reducible repeat (first | apply ra | apply rn | apply rd_)); exact rm HO314.out (fun _ hk => ⟨hk.1.1.1.2, ⟨hk.1.1.2, ⟨hk.1.2, hk.2⟩⟩⟩)), (zr HO317), (by (with_reducible repeat (first | apply ra | apply rn | apply rd_)); exact rm HO320.out (fun _ hk => ⟨hk.1.1.2, ⟨hk.1.1.1, ⟨hk.1.2, hk.2⟩⟩⟩)), (by (with_reducible repeat (first | apply ra | apply rn | apply rd_)); exact rm HO323.out (fun _ hk => ⟨hk.1.1.2, ⟨hk.1.1.1, ⟨hk.1.2, hk.2⟩⟩⟩)), (by (with_reducible repeat (first | apply ra | apply rn | apply rd_)); exact rm HO326.out (fun _ hk => ⟨hk.1.1.2, ⟨hk.1.2, ⟨hk.2, hk.1.1.1⟩⟩⟩)), (by (with_reducible repeat (first | apply ra | apply rn | apply rd_)); exact rm HO329.out (fun _ hk => ⟨hk.1.1.2, ⟨hk.1.2, ⟨hk.2, hk.1.1.1⟩⟩⟩)), (zk BK307), (zk BK308), (zk BK331), GW331.out, GE331.out, NB307_331.out, NB331_307.out, NB308_331.out, NB331_308.out, (zb HB)⟩)
    rintro ⟨v313, v316, v319, v322, v325, v328, gb331⟩ w31 ⟨hS_, h0_, h1_, h2_, h3_, h4_, h5_, h6_, h7_, h8_, h9_, h10_, h11_, h12_, h13_, h14_, h15_⟩
    have n0_ : Aside0 (Kd.R (Kd.int .i64) 3 w31 w.heap.size (fun k_ => some k_ ≠ (v319 : Value).ownBlock ∧ some k_ ≠ (v322 : Value).ownBlock ∧ some k_ ≠ (v325 : Value).ownBlock ∧ some k_ ≠ (v328 : Value).ownBlock) v313 t312) := ⟨h0_⟩
    have n1_ : Aside0 (Kd.R k85 85 w31 w.heap.size (fun _ => True) v316 t315) := ⟨h1_⟩
    have n2_ : Aside0 (Kd.R (Kd.int .i64) 3 w31 w.heap.size (fun k_ => some k_ ≠ (v313 : Value).ownBlock ∧ some k_ ≠ (v322 : Value).ownBlock ∧ some k_ ≠ (v325 : Value).ownBlock ∧ some k_ ≠ (v328 : Value).ownBlock) v319 t318) := ⟨h2_⟩
    have n3_ : Aside0 (Kd.R (Kd.int .i64) 3 w31 w.heap.size (fun k_ => some k_ ≠ (v313 : Value).ownBlock ∧ some k_ ≠ (v319 : Value).ownBlock ∧ some k_ ≠ (v325 : Value).ownBlock ∧ some k_ ≠ (v328 : Value).ownBlock) v322 t321) := ⟨h3_⟩
    have n4_ : Aside0 (Kd.R (Kd.int .i64) 3 w31 w.heap.size (fun k_ => some k_ ≠ (v313 : Value).ownBlock ∧ some k_ ≠ (v319 : Value).ownBlock ∧ some k_ ≠ (v322 : Value).ownBlock ∧ some k_ ≠ (v328 : Value).ownBlock) v325 t324) := ⟨h4_⟩
    have n5_ : Aside0 (Kd.R (Kd.int .i64) 3 w31 w.heap.size (fun k_ => some k_ ≠ (v313 : Value).ownBlock ∧ some k_ ≠ (v319 : Value).ownBlock ∧ some k_ ≠ (v322 : Value).ownBlock ∧ some k_ ≠ (v325 : Value).ownBlock) v328 t327) := ⟨h5_⟩
    have n6_ : Aside0 (w31.heap[gb307]? = some (.cells #[.slice A0_0 l0_0.length c0_0, .slice A0_1 l0_1.length c0_1] 25 (0, 0))) := ⟨h6_⟩
    have n7_ : Aside0 (w31.heap[gb308]? = some (.cells #[.slice A1_0 l1_0.length c1_0, .slice A1_1 l1_1.length c1_1] 27 (0, 0))) := ⟨h7_⟩
    have n8_ : Aside0 (w31.heap[gb331]? = some (.cells #[.slice none 0 0, .slice none 0 0] 27 (0, 0))) := ⟨h8_⟩
    have n9_ : Aside0 (w.heap.size ≤ gb331) := ⟨h9_⟩
    have n10_ : Aside0 (w.heap.size ≤ gb331) := ⟨h10_⟩
    have n11_ : Aside0 (gb307 ≠ gb331) := ⟨h11_⟩
    have n12_ : Aside0 (gb331 ≠ gb307) := ⟨h12_⟩
    have n13_ : Aside0 (gb308 ≠ gb331) := ⟨h13_⟩
    have n14_ : Aside0 (gb331 ≠ gb308) := ⟨h14_⟩
    have n15_ : Aside0 (Below w.heap.size w w31) := ⟨h15_⟩
    clear BK307
    clear BK308
    clear HB
    clear h0_ h1_ h2_ h3_ h4_ h5_ h6_ h7_ h8_ h9_ h10_ h11_ h12_ h13_ h14_ h15_
    have HO314 := n0_
    have HO317 := n1_
    have HO320 := n2_
    have HO323 := n3_
    have HO326 := n4_
    have HO329 := n5_
    have BK307 := n6_
    have BK308 := n7_
    have BK331 := n8_
    have GW331 := n9_
    have GE331 := n10_
    have NB307_331 := n11_
    have NB331_307 := n12_
    have NB308_331 := n13_
    have NB331_308 := n14_
    have HB := n15_
    clear n0_ n1_ n2_ n3_ n4_ n5_ n6_ n7_ n8_ n9_ n10_ n11_ n12_ n13_ n14_ n15_
    have hHeld : w31.cell? ⟨gb307, 0, none⟩ = some (.slice A0_0 l0_0.length c0_0) ∧ w31.cell? ⟨gb307, 1, none⟩ = some (.slice A0_1 l0_1.length c0_1) ∧ w31.cell? ⟨gb308, 0, none⟩ = some (.slice A1_0 l1_0.length c1_0) ∧ w31.cell? ⟨gb308, 1, none⟩ = some (.slice A1_1 l1_1.length c1_1) := hS_
    obtain ⟨Ao32, co32, eo32⟩ := Kd.R_slice HO326.out
    (first | subst eo32 | (injection eo32 with f1_ f2_ f3_; have f4_ := f1_.symm; have f5_ := f3_.symm; clear f1_ f2_ f3_; subst f4_; subst f5_))
    obtain ⟨Ao34, co34, eo34⟩ := Kd.R_slice HO329.out
    (first | subst eo34 | (injection eo34 with f1_ f2_ f3_; have f4_ := f1_.symm; have f5_ := f3_.symm; clear f1_ f2_ f3_; subst f4_; subst f5_))
    refine norm_ (a' := ?_) ?_ ?_; rotate_left; simp only [putAll, Act.put, y0, y1, y2]; rfl
    refine one_ (i := 9) (N := none) (bz 11 1023) rfl rfl (one_of HT_.out (by kernel_rfl)) (by decide) (fun K hK => ?_)
    have hs33 : w31.cell? ⟨gb331, 0, none⟩ = some (.slice none 0 0) := (kc BK331.out 0).trans rfl
    have hfs33 := blk_frozen BK331.out 0
    have hns33_0 := NB307_331.out
    have hns33_1 := NB308_331.out
    have hms33_0 := NB331_307.out
    have hms33_1 := NB331_308.out
    have hs35 : w31.cell? ⟨gb331, 1, none⟩ = some (.slice none 0 0) := (kc BK331.out 1).trans rfl
    have hfs35 := blk_frozen BK331.out 1
    have hns35_0 := NB307_331.out
    have hns35_1 := NB308_331.out
    have hms35_0 := NB331_307.out
    have hms35_1 := NB331_308.out
    refine skip_ (w1 := ?_) (by rfl) rfl ?_ ?_; rotate_left; go_simp; rfl
    refine hK.out _ _ ⟨((cell_far (p := ⟨gb331, _, none⟩) NB307_331.out _).trans (((cell_far (p := ⟨gb331, _, none⟩) NB307_331.out _).trans (hHeld.1)))), ((cell_far (p := ⟨gb331, _, none⟩) NB307_331.out _).trans (((cell_far (p := ⟨gb331, _, none⟩) NB307_331.out _).trans (hHeld.2.1)))), ((cell_far (p := ⟨gb331, _, none⟩) NB308_331.out _).trans (((cell_far (p := ⟨gb331, _, none⟩) NB308_331.out _).trans (hHeld.2.2.1)))), ((cell_far (p := ⟨gb331, _, none⟩) NB308_331.out _).trans (((cell_far (p := ⟨gb331, _, none⟩) NB308_331.out _).trans (hHeld.2.2.2))))⟩ (fun hHeld => ?_)
    clear hK K
    refine pu 10 (some 6) (bz 11 2047) HT_ ?_
    refine done_ (done_of HT_.out (by kernel_rfl)) ?_
    by_cases c21 : t330 = 0
    ·rw [if_pos c21] at H
     have c21b0 : (t330 == 0) = true := beq_iff_eq.mpr c21
     have c21b1 : (t330 != 0) = false := bne_eq_false_iff_eq.mpr c21
     clear c21
     have H' := Z0 H
     clear H
     try go_wp2
     go_loopg [7] kj2 (fun kq v7 w' => ∃ (x7_2 : Int), v7 = .int .i64 x7_2 ∧ Aside0 (trefoillaw11_ListFill.l0 kq x7_2 l0_0 l0_1 l1_0 l1_1 t324 t327 = some r) ∧ Aside0 (kq ≤ kj2) ∧ Aside0 (Kd.R (Kd.int .i64) 3 w' w.heap.size (fun k_ => some k_ ≠ ((.slice Ao34 t327.length co34) : Value).ownBlock) (.slice Ao32 t324.length co32) t324) ∧ Aside0 (Kd.R (Kd.int .i64) 3 w' w.heap.size (fun k_ => some k_ ≠ ((.slice Ao32 t324.length co32) : Value).ownBlock) (.slice Ao34 t327.length co34) t327) ∧ Aside0 (w'.heap[gb307]? = some (.cells #[(.slice A0_0 l0_0.length c0_0), (.slice A0_1 l0_1.length c0_1)] 25 (0, 0))) ∧ Aside0 (w'.heap[gb308]? = some (.cells #[(.slice A1_0 l1_0.length c1_0), (.slice A1_1 l1_1.length c1_1)] 27 (0, 0))) ∧ Aside0 (w'.heap[gb331]? = some (.cells #[(.slice Ao32 t324.length co32), (.slice Ao34 t327.length co34)] 27 (0, 0))) ∧ Aside0 (Below w.heap.size w w'))
     case atStart => exact ⟨(0), (by first | rfl | (simp; done) | (simp [*]; done)), H', ⟨Nat.le_refl _⟩, ⟨by (with_reducible repeat (first | apply ra | apply rn | apply rd_)); exact rm (Kd.R_far (p := ⟨gb331, 1, none⟩) (Kd.R_far (p := ⟨gb331, 0, none⟩) (Kd.R_types HO326.out BK331.out (by decide)) (fun _ hk => hk.2) (.slice Ao32 t324.length co32)) (fun _ hk => hk.2) (.slice Ao34 t327.length co34)) (fun _ hk => hk.1.2.2.2)⟩, ⟨by (with_reducible repeat (first | apply ra | apply rn | apply rd_)); exact rm (Kd.R_far (p := ⟨gb331, 1, none⟩) (Kd.R_far (p := ⟨gb331, 0, none⟩) (Kd.R_types HO329.out BK331.out (by decide)) (fun _ hk => hk.2) (.slice Ao32 t324.length co32)) (fun _ hk => hk.2) (.slice Ao34 t327.length co34)) (fun _ hk => hk.1.2.2.2)⟩, ⟨by (with_reducible repeat (first | refine kn ?_ _ | refine kd_ ?_ | refine ka ?_ _)); refine blk_far ?_ NB307_331.out _; (with_reducible repeat (first | refine kn ?_ _ | refine kd_ ?_ | refine ka ?_ _)); refine blk_far ?_ NB307_331.out _; (with_reducible repeat (first | refine kn ?_ _ | refine kd_ ?_ | refine ka ?_ _)); exact BK307.out⟩, ⟨by (with_reducible repeat (first | refine kn ?_ _ | refine kd_ ?_ | refine ka ?_ _)); refine blk_far ?_ NB308_331.out _; (with_reducible repeat (first | refine kn ?_ _ | refine kd_ ?_ | refine ka ?_ _)); refine blk_far ?_ NB308_331.out _; (with_reducible repeat (first | refine kn ?_ _ | refine kd_ ?_ | refine ka ?_ _)); exact BK308.out⟩, ⟨by (with_reducible repeat (first | refine kn ?_ _ | refine kd_ ?_ | refine ka ?_ _)); refine blk_put (cs := #[.slice Ao32 t324.length co32, .slice none 0 0]) ?_ 1 _ rfl; (with_reducible repeat (first | refine kn ?_ _ | refine kd_ ?_ | refine ka ?_ _)); refine blk_put (cs := #[.slice none 0 0, .slice none 0 0]) ?_ 0 _ rfl; (with_reducible repeat (first | refine kn ?_ _ | refine kd_ ?_ | refine ka ?_ _)); exact BK331.out⟩, ⟨by repeat (first | (with_reducible first | exact HB.out | apply wa | apply wn | apply wd | refine ws ?_ GE307.out | refine ws ?_ GE308.out | refine ws ?_ GE331.out) | exact HB.out)⟩⟩
     case round =>
      as_aux_lemma =>
      clear H'
      try clear c1
      try clear p2
      try clear c11
      try clear c12
      try clear c13
      obtain ⟨x7_2, rfl, HA, HK2, HO_332000, HO_332001, BK307, BK308, BK331, HB⟩ := hrel
      cases gk with
      | zero => exact absurd HA.out (by simp [trefoillaw11_ListFill.l0])
      | succ k2 =>
       have H := HA.out
       clear HA
       simp only [trefoillaw11_ListFill.l0] at H
       by_cases c36 : x7_2 < (l1_0.length : Int)
       ·rw [if_pos c36] at H
        have c36b0 : decide (x7_2 < (l1_0.length : Int)) = true := decide_eq_true c36
        clear c36
        by_cases c37 : x7_2 ≥ (t324.length : Int)
        ·rw [if_pos c37] at H
         have c37b0 : decide ((t324.length : Int) ≤ x7_2) = true := decide_eq_true c37
         clear c37
         exact absurd ((Option.some.inj H).trans hrt.out) (by decide)
        ·rw [if_neg c37] at H
         have c37b0 : decide ((t324.length : Int) ≤ x7_2) = false := decide_eq_false c37
         clear c37
         by_cases c42 : 0 ≤ x7_2
         ·rw [if_pos c42] at H
          have c42b0 : decide (0 ≤ x7_2) = true := decide_eq_true c42
          clear c42
          by_cases c43 : (rd l1_0 x7_2) = (-1)
          ·rw [if_pos c43] at H
           have c43b0 : ((rd l1_0 x7_2) == (-1)) = true := beq_iff_eq.mpr c43
           have c43b1 : ((rd l1_0 x7_2) != (-1)) = false := bne_eq_false_iff_eq.mpr c43
           clear c43
           have H' := Z0 H
           clear H
           have hnb44 := NB308_307.out
           have hnc44 := NB307_308.out
           have hnb45 := NB308_331.out
           have hnc45 := NB331_308.out
           have hcz46_0 : wr.cell? ⟨gb308, 0, none⟩ = some (.slice A1_0 l1_0.length c1_0) := (kc BK308.out 0).trans rfl
           have hcz46_1 : wr.cell? ⟨gb308, 1, none⟩ = some (.slice A1_1 l1_1.length c1_1) := (kc BK308.out 1).trans rfl
           have hfz46_0 := blk_frozen BK308.out 0
           have hfz46_1 := blk_frozen BK308.out 1
           try go_wp2
           replace HO_332000 := Z0 (rd_ HO_332000.out)
           replace HO_332001 := Z0 (rd_ HO_332001.out)
           replace BK307 := Z0 (kd_ BK307.out)
           replace BK308 := Z0 (kd_ BK308.out)
           replace BK331 := Z0 (kd_ BK331.out)
           replace HB := Z0 (wd HB.out)
           have p333 : 0 ≤ (x7_2 : Int) := of_decide_eq_true (by first | (with_reducible assumption) | assumption)
           have q333 : x7_2 < (l1_0.length : Int) := of_decide_eq_true (by first | (with_reducible assumption) | assumption)
           obtain ⟨ad333, e333, hx333_0⟩ := Kd.at_int HR1_0.out x7_2 p333 q333
           have hw333_0 := hx333_0
           cases e333
           replace hx333_0 := (HB.out.cell (bl w _ hx333_0)).trans hx333_0
           replace p333 := eq_true p333
           replace q333 := eq_true q333
           as_aux_lemma =>
           refine start_ (n := 26) (S := fun w' => w'.cell? ⟨gb331, 0, none⟩ = some (.slice Ao32 t324.length co32) ∧ w'.cell? ⟨gb331, 1, none⟩ = some (.slice Ao34 t327.length co34) ∧ w'.cell? ⟨gb308, 0, none⟩ = some (.slice (some ad333) l1_0.length c1_0) ∧ w'.cell? ⟨gb308, 1, none⟩ = some (.slice A1_1 l1_1.length c1_1) ∧ w'.cell? (ad333.add (x7_2).toNat) = some (.int .i64 (rd l1_0 x7_2))) (ds := []) (bz 26 0) (by kernel_rfl) rfl rfl ⟨(kc BK331.out 0).trans rfl, (kc BK331.out 1).trans rfl, (kc BK308.out 0).trans rfl, (kc BK308.out 1).trans rfl, ((HB.out.cell (bl w _ hw333_0)).trans hw333_0)⟩ (fun hHeld => ?_); refine with_tabW trefoillaw11_ListFill.tab9 trefoillaw11_ListFill.bits9 (fun HT_ HW_ => ?_)
           generalize wr.drew = w47 at HO_332000 HO_332001 BK307 BK308 BK331 HB hx333_0 hHeld ⊢
           refine pu 0 (some 39) (bz 26 1) HT_ ?_
           refine pu 1 (some 40) (bz 26 3) HT_ ?_
           refine tk5 2 (some 41) (bz 26 7) HT_ HW_ hHeld ?_
           refine pu 3 (some 42) (bz 26 15) HT_ ?_
           refine pu 4 (some 43) (bz 26 31) HT_ ?_
           refine pu 5 (some 44) (bz 26 63) HT_ ?_
           refine pu 6 (some 45) (bz 26 127) HT_ ?_
           refine pu 8 (some 47) (bz 26 383) HT_ ?_
           refine tk5 7 (some 46) (bz 26 511) HT_ HW_ hHeld ?_
           refine pu 9 (some 48) (bz 26 1023) HT_ ?_
           refine tk5 10 (some 49) (bz 26 2047) HT_ HW_ hHeld ?_
           refine pu 11 (some 50) (bz 26 4095) HT_ ?_
           refine pu 12 (some 51) (bz 26 8191) HT_ ?_
           refine pv 13 (some 52) (bz 26 16383) HT_ ?_
           refine pv 14 (some 53) (bz 26 32767) HT_ ?_
           refine pv 15 (some 54) (bz 26 65535) HT_ ?_
           refine pv 16 (some 55) (bz 26 131071) HT_ ?_
           refine pv 17 (some 56) (bz 26 262143) HT_ ?_
           refine pv 18 (some 57) (bz 26 524287) HT_ ?_
           refine pv 19 (some 58) (bz 26 0xfffff) HT_ ?_
           refine pv 20 (some 59) (bz 26 0x1fffff) HT_ ?_
           refine pv 21 (some 60) (bz 26 0x3fffff) HT_ ?_
           refine pv 22 (some 61) (bz 26 0x7fffff) HT_ ?_
           refine pv 23 (some 62) (bz 26 0xffffff) HT_ ?_
           refine pu 24 (some 63) (bz 26 0x1ffffff) HT_ ?_
           refine pu 25 (some 64) (bz 26 0x3ffffff) HT_ ?_
           refine done_ (done_of HT_.out (by kernel_rfl)) ?_
           try go_wp2
           go_roundg k2
           case measure => have := HJ2.out; have := HK2.out; omega
           case rel => exact ⟨(wrap64 (x7_2 + 1)), (by first | rfl | (simp; done) | (simp [*]; done)), H', ⟨by have := HJ2.out; have := HK2.out; omega⟩, ⟨by (with_reducible repeat (first | apply ra | apply rn | apply rd_)); first | exact HO_332000.out | exact rm HO_332000.out (fun _ h_ => ⟨h_.2, h_.1⟩)⟩, ⟨by (with_reducible repeat (first | apply ra | apply rn | apply rd_)); first | exact HO_332001.out | exact rm HO_332001.out (fun _ h_ => ⟨h_.2, h_.1⟩)⟩, ⟨by (with_reducible repeat (first | refine kn ?_ _ | refine kd_ ?_ | refine ka ?_ _)); exact BK307.out⟩, ⟨by (with_reducible repeat (first | refine kn ?_ _ | refine kd_ ?_ | refine ka ?_ _)); exact BK308.out⟩, ⟨by (with_reducible repeat (first | refine kn ?_ _ | refine kd_ ?_ | refine ka ?_ _)); exact BK331.out⟩, ⟨by repeat (first | (with_reducible first | exact HB.out | apply wa | apply wn | apply wd | refine ws ?_ GE307.out | refine ws ?_ GE308.out | refine ws ?_ GE331.out) | exact HB.out)⟩⟩
          ·rw [if_neg c43] at H
           have c43b0 : ((rd l1_0 x7_2) == (-1)) = false := beq_eq_false_iff_ne.mpr c43
           have c43b1 : ((rd l1_0 x7_2) != (-1)) = true := bne_iff_ne.mpr c43
           by_cases c48 : x7_2 < (t324.length : Int)
           ·rw [if_pos c48] at H
            have c48b0 : decide (x7_2 < (t324.length : Int)) = true := decide_eq_true c48
            clear c48
            by_cases c49 : (rd t324 x7_2) = (rd l1_0 x7_2)
            ·rw [if_pos c49] at H
             have c49b0 : ((rd t324 x7_2) == (rd l1_0 x7_2)) = true := beq_iff_eq.mpr c49
             have c49b1 : ((rd t324 x7_2) != (rd l1_0 x7_2)) = false := bne_eq_false_iff_eq.mpr c49
             clear c49
             have H' := Z0 H
             clear H
             have hnb50 := NB308_307.out
             have hnc50 := NB307_308.out
             have hnb51 := NB308_331.out
             have hnc51 := NB331_308.out
             have hcz52_0 : wr.cell? ⟨gb308, 0, none⟩ = some (.slice A1_0 l1_0.length c1_0) := (kc BK308.out 0).trans rfl
             have hcz52_1 : wr.cell? ⟨gb308, 1, none⟩ = some (.slice A1_1 l1_1.length c1_1) := (kc BK308.out 1).trans rfl
             have hfz52_0 := blk_frozen BK308.out 0
             have hfz52_1 := blk_frozen BK308.out 1
             try go_wp2
             replace HO_332000 := Z0 (rd_ HO_332000.out)
             replace HO_332001 := Z0 (rd_ HO_332001.out)
             replace BK307 := Z0 (kd_ BK307.out)
             replace BK308 := Z0 (kd_ BK308.out)
             replace BK331 := Z0 (kd_ BK331.out)
             replace HB := Z0 (wd HB.out)
             have p333 : 0 ≤ (x7_2 : Int) := of_decide_eq_true (by first | (with_reducible assumption) | assumption)
             have q333 : x7_2 < (l1_0.length : Int) := of_decide_eq_true (by first | (with_reducible assumption) | assumption)
             obtain ⟨ad333, e333, hx333_0⟩ := Kd.at_int HR1_0.out x7_2 p333 q333
             have hw333_0 := hx333_0
             cases e333
             replace hx333_0 := (HB.out.cell (bl w _ hx333_0)).trans hx333_0
             replace p333 := eq_true p333
             replace q333 := eq_true q333
             have p334 : 0 ≤ (x7_2 : Int) := of_decide_eq_true (by first | (with_reducible assumption) | assumption)
             have q334 : x7_2 < (t324.length : Int) := of_decide_eq_true (by first | (with_reducible assumption) | assumption)
             obtain ⟨ad334, e334, hx334_0⟩ := Kd.at_int (rr HO_332000.out).2.2 x7_2 p334 q334
             cases e334
             replace p334 := eq_true p334
             replace q334 := eq_true q334
             have p335 : 0 ≤ (x7_2 : Int) := of_decide_eq_true (by first | (with_reducible assumption) | assumption)
             have q335 : x7_2 < (l1_0.length : Int) := of_decide_eq_true (by first | (with_reducible assumption) | assumption)
             obtain ⟨ad335, e335, hx335_0⟩ := Kd.at_int HR1_0.out x7_2 p335 q335
             have hw335_0 := hx335_0
             obtain rfl : ad333 = ad335 := (by injection e335)
             replace hx335_0 := (HB.out.cell (bl w _ hx335_0)).trans hx335_0
             replace p335 := eq_true p335
             replace q335 := eq_true q335
             as_aux_lemma =>
             refine start_ (n := 26) (S := fun w' => w'.cell? ⟨gb331, 0, none⟩ = some (.slice (some ad334) t324.length co32) ∧ w'.cell? ⟨gb331, 1, none⟩ = some (.slice Ao34 t327.length co34) ∧ w'.cell? ⟨gb308, 0, none⟩ = some (.slice (some ad333) l1_0.length c1_0) ∧ w'.cell? ⟨gb308, 1, none⟩ = some (.slice A1_1 l1_1.length c1_1) ∧ w'.cell? (ad333.add (x7_2).toNat) = some (.int .i64 (rd l1_0 x7_2)) ∧ w'.cell? (ad334.add (x7_2).toNat) = some (.int .i64 (rd t324 x7_2)) ∧ w'.cell? (ad333.add (x7_2).toNat) = some (.int .i64 (rd l1_0 x7_2))) (ds := []) (bz 26 0) (by kernel_rfl) rfl rfl ⟨(kc BK331.out 0).trans rfl, (kc BK331.out 1).trans rfl, (kc BK308.out 0).trans rfl, (kc BK308.out 1).trans rfl, ((HB.out.cell (bl w _ hw333_0)).trans hw333_0), hx334_0, ((HB.out.cell (bl w _ hw335_0)).trans hw335_0)⟩ (fun hHeld => ?_); refine with_tabW trefoillaw11_ListFill.tab9 trefoillaw11_ListFill.bits9 (fun HT_ HW_ => ?_)
             generalize wr.drew = w53 at HO_332000 HO_332001 BK307 BK308 BK331 HB hx333_0 hx334_0 hx335_0 hHeld ⊢
             refine pu 0 (some 39) (bz 26 1) HT_ ?_
             refine pu 1 (some 40) (bz 26 3) HT_ ?_
             refine tk7 2 (some 41) (bz 26 7) HT_ HW_ hHeld ?_
             refine pu 3 (some 42) (bz 26 15) HT_ ?_
             refine pu 4 (some 43) (bz 26 31) HT_ ?_
             refine pu 5 (some 44) (bz 26 63) HT_ ?_
             refine pu 6 (some 45) (bz 26 127) HT_ ?_
             refine pu 8 (some 47) (bz 26 383) HT_ ?_
             refine tk7 7 (some 46) (bz 26 511) HT_ HW_ hHeld ?_
             refine pu 9 (some 48) (bz 26 1023) HT_ ?_
             refine tk7 10 (some 49) (bz 26 2047) HT_ HW_ hHeld ?_
             refine pu 11 (some 50) (bz 26 4095) HT_ ?_
             refine pu 12 (some 51) (bz 26 8191) HT_ ?_
             refine pu 13 (some 52) (bz 26 16383) HT_ ?_
             refine pu 15 (some 54) (bz 26 49151) HT_ ?_
             refine pu 18 (some 57) (bz 26 311295) HT_ ?_
             refine pu 20 (some 59) (bz 26 0x14bfff) HT_ ?_
             refine tk7 14 (some 53) (bz 26 0x14ffff) HT_ HW_ hHeld ?_
             refine pu 16 (some 55) (bz 26 0x15ffff) HT_ ?_
             refine tk7 17 (some 56) (bz 26 0x17ffff) HT_ HW_ hHeld ?_
             refine tk7 19 (some 58) (bz 26 0x1fffff) HT_ HW_ hHeld ?_
             refine pu 21 (some 60) (bz 26 0x3fffff) HT_ ?_
             refine tk7 22 (some 61) (bz 26 0x7fffff) HT_ HW_ hHeld ?_
             refine pu 23 (some 62) (bz 26 0xffffff) HT_ ?_
             refine pu 24 (some 63) (bz 26 0x1ffffff) HT_ ?_
             refine pu 25 (some 64) (bz 26 0x3ffffff) HT_ ?_
             refine done_ (done_of HT_.out (by kernel_rfl)) ?_
             try go_wp2
             go_roundg k2
             case measure => have := HJ2.out; have := HK2.out; omega
             case rel => exact ⟨(wrap64 (x7_2 + 1)), (by first | rfl | (simp; done) | (simp [*]; done)), H', ⟨by have := HJ2.out; have := HK2.out; omega⟩, ⟨by (with_reducible repeat (first | apply ra | apply rn | apply rd_)); first | exact HO_332000.out | exact rm HO_332000.out (fun _ h_ => ⟨h_.2, h_.1⟩)⟩, ⟨by (with_reducible repeat (first | apply ra | apply rn | apply rd_)); first | exact HO_332001.out | exact rm HO_332001.out (fun _ h_ => ⟨h_.2, h_.1⟩)⟩, ⟨by (with_reducible repeat (first | refine kn ?_ _ | refine kd_ ?_ | refine ka ?_ _)); exact BK307.out⟩, ⟨by (with_reducible repeat (first | refine kn ?_ _ | refine kd_ ?_ | refine ka ?_ _)); exact BK308.out⟩, ⟨by (with_reducible repeat (first | refine kn ?_ _ | refine kd_ ?_ | refine ka ?_ _)); exact BK331.out⟩, ⟨by repeat (first | (with_reducible first | exact HB.out | apply wa | apply wn | apply wd | refine ws ?_ GE307.out | refine ws ?_ GE308.out | refine ws ?_ GE331.out) | exact HB.out)⟩⟩
            ·rw [if_neg c49] at H
             have c49b0 : ((rd t324 x7_2) == (rd l1_0 x7_2)) = false := beq_eq_false_iff_ne.mpr c49
             have c49b1 : ((rd t324 x7_2) != (rd l1_0 x7_2)) = true := bne_iff_ne.mpr c49
             exact absurd ((Option.some.inj H).trans hrt.out) (by decide)
           ·rw [if_neg c48] at H
            exact absurd H (by simp)
         ·rw [if_neg c42] at H
          exact absurd H (by simp)
       ·rw [if_neg c36] at H
        have c36b0 : decide (x7_2 < (l1_0.length : Int)) = false := decide_eq_false c36
        clear c36
        replace H := Option.bind_eq_some_iff.mp H
        obtain ⟨⟨t336, t339⟩, A580, H⟩ := H
        replace H : ((trefoillaw11_Own.f t324 t327).bind fun bt342 => ((list_Fill.f t336 t339 bt342.1 bt342.2).bind fun bt348 => ((trefoillaw04_Own.f l0_0 l0_1).bind fun bt356 => ((trefoillaw11_Own.f t324 t327).bind fun bt362 => ((list_Ready.f bt356.1 bt356.2 bt362.1 bt362.2).bind fun t368 => (if (t368.length : Int) = 0 then ((trefoilref02_Ints.f k2 t327 l1_1).bind fun t371 => (if t371 = true then ((trefoillaw04_Own.f l0_0 l0_1).bind fun bt372 => ((trefoillaw11_Own.f t324 t327).bind fun bt378 => ((list_Check.f bt372.1 bt372.2 bt378.1 bt378.2).bind fun t384 => (if t384 = 0 then (if bt348.2.2 = 0 then ((trefoilref11_Same.f k2 bt348.1 bt348.2.1 t324 t327).bind fun t385 => (some t385)) else (some false)) else (some false))))) else (some false))) else ((trefoilref04_Has.f k2 t324 (-1)).bind fun t386 => (if t386 = true then (some false) else ((trefoilref02_Ints.f k2 t327 l1_1).bind fun t387 => (if t387 = true then ((trefoillaw04_Own.f l0_0 l0_1).bind fun bt388 => ((trefoillaw11_Own.f t324 t327).bind fun bt394 => ((list_Check.f bt388.1 bt388.2 bt394.1 bt394.2).bind fun t400 => (if t400 = 0 then (if bt348.2.2 = 0 then ((trefoilref11_Same.f k2 bt348.1 bt348.2.1 t324 t327).bind fun t401 => (some t401)) else (some false)) else (some false))))) else (some false))))))))))) = some r := H
        have A58 := Z0 A580
        clear A580
        replace H := Option.bind_eq_some_iff.mp H
        obtain ⟨⟨t342, t345⟩, A590, H⟩ := H
        replace H : ((list_Fill.f t336 t339 t342 t345).bind fun bt348 => ((trefoillaw04_Own.f l0_0 l0_1).bind fun bt356 => ((trefoillaw11_Own.f t324 t327).bind fun bt362 => ((list_Ready.f bt356.1 bt356.2 bt362.1 bt362.2).bind fun t368 => (if (t368.length : Int) = 0 then ((trefoilref02_Ints.f k2 t327 l1_1).bind fun t371 => (if t371 = true then ((trefoillaw04_Own.f l0_0 l0_1).bind fun bt372 => ((trefoillaw11_Own.f t324 t327).bind fun bt378 => ((list_Check.f bt372.1 bt372.2 bt378.1 bt378.2).bind fun t384 => (if t384 = 0 then (if bt348.2.2 = 0 then ((trefoilref11_Same.f k2 bt348.1 bt348.2.1 t324 t327).bind fun t385 => (some t385)) else (some false)) else (some false))))) else (some false))) else ((trefoilref04_Has.f k2 t324 (-1)).bind fun t386 => (if t386 = true then (some false) else ((trefoilref02_Ints.f k2 t327 l1_1).bind fun t387 => (if t387 = true then ((trefoillaw04_Own.f l0_0 l0_1).bind fun bt388 => ((trefoillaw11_Own.f t324 t327).bind fun bt394 => ((list_Check.f bt388.1 bt388.2 bt394.1 bt394.2).bind fun t400 => (if t400 = 0 then (if bt348.2.2 = 0 then ((trefoilref11_Same.f k2 bt348.1 bt348.2.1 t324 t327).bind fun t401 => (some t401)) else (some false)) else (some false))))) else (some false)))))))))) = some r := H
        have A59 := Z0 A590
        clear A590
        replace H := Option.bind_eq_some_iff.mp H
        obtain ⟨⟨t348, t351, t354⟩, A600, H⟩ := H
        replace H : ((trefoillaw04_Own.f l0_0 l0_1).bind fun bt356 => ((trefoillaw11_Own.f t324 t327).bind fun bt362 => ((list_Ready.f bt356.1 bt356.2 bt362.1 bt362.2).bind fun t368 => (if (t368.length : Int) = 0 then ((trefoilref02_Ints.f k2 t327 l1_1).bind fun t371 => (if t371 = true then ((trefoillaw04_Own.f l0_0 l0_1).bind fun bt372 => ((trefoillaw11_Own.f t324 t327).bind fun bt378 => ((list_Check.f bt372.1 bt372.2 bt378.1 bt378.2).bind fun t384 => (if t384 = 0 then (if t354 = 0 then ((trefoilref11_Same.f k2 t348 t351 t324 t327).bind fun t385 => (some t385)) else (some false)) else (some false))))) else (some false))) else ((trefoilref04_Has.f k2 t324 (-1)).bind fun t386 => (if t386 = true then (some false) else ((trefoilref02_Ints.f k2 t327 l1_1).bind fun t387 => (if t387 = true then ((trefoillaw04_Own.f l0_0 l0_1).bind fun bt388 => ((trefoillaw11_Own.f t324 t327).bind fun bt394 => ((list_Check.f bt388.1 bt388.2 bt394.1 bt394.2).bind fun t400 => (if t400 = 0 then (if t354 = 0 then ((trefoilref11_Same.f k2 t348 t351 t324 t327).bind fun t401 => (some t401)) else (some false)) else (some false))))) else (some false))))))))) = some r := H
        have A60 := Z0 A600
        clear A600
        replace H := Option.bind_eq_some_iff.mp H
        obtain ⟨⟨t356, t359⟩, A610, H⟩ := H
        replace H : ((trefoillaw11_Own.f t324 t327).bind fun bt362 => ((list_Ready.f t356 t359 bt362.1 bt362.2).bind fun t368 => (if (t368.length : Int) = 0 then ((trefoilref02_Ints.f k2 t327 l1_1).bind fun t371 => (if t371 = true then ((trefoillaw04_Own.f l0_0 l0_1).bind fun bt372 => ((trefoillaw11_Own.f t324 t327).bind fun bt378 => ((list_Check.f bt372.1 bt372.2 bt378.1 bt378.2).bind fun t384 => (if t384 = 0 then (if t354 = 0 then ((trefoilref11_Same.f k2 t348 t351 t324 t327).bind fun t385 => (some t385)) else (some false)) else (some false))))) else (some false))) else ((trefoilref04_Has.f k2 t324 (-1)).bind fun t386 => (if t386 = true then (some false) else ((trefoilref02_Ints.f k2 t327 l1_1).bind fun t387 => (if t387 = true then ((trefoillaw04_Own.f l0_0 l0_1).bind fun bt388 => ((trefoillaw11_Own.f t324 t327).bind fun bt394 => ((list_Check.f bt388.1 bt388.2 bt394.1 bt394.2).bind fun t400 => (if t400 = 0 then (if t354 = 0 then ((trefoilref11_Same.f k2 t348 t351 t324 t327).bind fun t401 => (some t401)) else (some false)) else (some false))))) else (some false)))))))) = some r := H
        have A61 := Z0 A610
        clear A610
        replace H := Option.bind_eq_some_iff.mp H
        obtain ⟨⟨t362, t365⟩, A620, H⟩ := H
        replace H : ((list_Ready.f t356 t359 t362 t365).bind fun t368 => (if (t368.length : Int) = 0 then ((trefoilref02_Ints.f k2 t327 l1_1).bind fun t371 => (if t371 = true then ((trefoillaw04_Own.f l0_0 l0_1).bind fun bt372 => ((trefoillaw11_Own.f t324 t327).bind fun bt378 => ((list_Check.f bt372.1 bt372.2 bt378.1 bt378.2).bind fun t384 => (if t384 = 0 then (if t354 = 0 then ((trefoilref11_Same.f k2 t348 t351 t324 t327).bind fun t385 => (some t385)) else (some false)) else (some false))))) else (some false))) else ((trefoilref04_Has.f k2 t324 (-1)).bind fun t386 => (if t386 = true then (some false) else ((trefoilref02_Ints.f k2 t327 l1_1).bind fun t387 => (if t387 = true then ((trefoillaw04_Own.f l0_0 l0_1).bind fun bt388 => ((trefoillaw11_Own.f t324 t327).bind fun bt394 => ((list_Check.f bt388.1 bt388.2 bt394.1 bt394.2).bind fun t400 => (if t400 = 0 then (if t354 = 0 then ((trefoilref11_Same.f k2 t348 t351 t324 t327).bind fun t401 => (some t401)) else (some false)) else (some false))))) else (some false))))))) = some r := H
        have A62 := Z0 A620
        clear A620
        replace H := Option.bind_eq_some_iff.mp H
        obtain ⟨t368, A630, H⟩ := H
        replace H : (if (t368.length : Int) = 0 then ((trefoilref02_Ints.f k2 t327 l1_1).bind fun t371 => (if t371 = true then ((trefoillaw04_Own.f l0_0 l0_1).bind fun bt372 => ((trefoillaw11_Own.f t324 t327).bind fun bt378 => ((list_Check.f bt372.1 bt372.2 bt378.1 bt378.2).bind fun t384 => (if t384 = 0 then (if t354 = 0 then ((trefoilref11_Same.f k2 t348 t351 t324 t327).bind fun t385 => (some t385)) else (some false)) else (some false))))) else (some false))) else ((trefoilref04_Has.f k2 t324 (-1)).bind fun t386 => (if t386 = true then (some false) else ((trefoilref02_Ints.f k2 t327 l1_1).bind fun t387 => (if t387 = true then ((trefoillaw04_Own.f l0_0 l0_1).bind fun bt388 => ((trefoillaw11_Own.f t324 t327).bind fun bt394 => ((list_Check.f bt388.1 bt388.2 bt394.1 bt394.2).bind fun t400 => (if t400 = 0 then (if t354 = 0 then ((trefoilref11_Same.f k2 t348 t351 t324 t327).bind fun t401 => (some t401)) else (some false)) else (some false))))) else (some false)))))) = some r := H
        have A63 := Z0 A630
        clear A630
        have hnb73 := NB308_307.out
        have hnc73 := NB307_308.out
        have hnb74 := NB308_331.out
        have hnc74 := NB331_308.out
        have hcz75_0 : wr.cell? ⟨gb308, 0, none⟩ = some (.slice A1_0 l1_0.length c1_0) := (kc BK308.out 0).trans rfl
        have hcz75_1 : wr.cell? ⟨gb308, 1, none⟩ = some (.slice A1_1 l1_1.length c1_1) := (kc BK308.out 1).trans rfl
        have hfz75_0 := blk_frozen BK308.out 0
        have hfz75_1 := blk_frozen BK308.out 1
        try go_wp2
        replace HO_332000 := Z0 (rd_ HO_332000.out)
        replace HO_332001 := Z0 (rd_ HO_332001.out)
        replace BK307 := Z0 (kd_ BK307.out)
        replace BK308 := Z0 (kd_ BK308.out)
        replace BK331 := Z0 (kd_ BK331.out)
        replace HB := Z0 (wd HB.out)
        as_aux_lemma =>
        refine start_ (n := 11) (S := fun w' => w'.cell? ⟨gb307, 0, none⟩ = some (.slice A0_0 l0_0.length c0_0) ∧ w'.cell? ⟨gb307, 1, none⟩ = some (.slice A0_1 l0_1.length c0_1) ∧ w'.cell? ⟨gb331, 0, none⟩ = some (.slice Ao32 t324.length co32) ∧ w'.cell? ⟨gb331, 1, none⟩ = some (.slice Ao34 t327.length co34)) (ds := []) (bz 11 0) (by kernel_rfl) rfl rfl ⟨(kc BK307.out 0).trans rfl, (kc BK307.out 1).trans rfl, (kc BK331.out 0).trans rfl, (kc BK331.out 1).trans rfl⟩ (fun hHeld => ?_); refine with_tabW trefoillaw11_ListFill.tab11 trefoillaw11_ListFill.bits11 (fun HT_ HW_ => ?_)
        generalize wr.drew = w76 at HO_332000 HO_332001 BK307 BK308 BK331 HB hHeld ⊢
        refine tk4 0 (some 66) (bz 11 1) HT_ HW_ hHeld ?_
        refine tk4 2 (some 68) (bz 11 5) HT_ HW_ hHeld ?_
        refine join_ (σ := Value × Value × Value × Value × Value × Value × Nat) 2 (bz 11 511) (fun s_ => [(67, .agg #[s_.1, s_.2.1]), (69, .agg #[s_.2.2.1, s_.2.2.2.1]), (70, .tuple #[.agg #[s_.2.2.2.2.1, s_.2.2.2.2.2.1], .int .i64 t354]), (8, .pointer (some ⟨s_.2.2.2.2.2.2, 0, none⟩)), (65, .tuple #[.agg #[s_.2.2.2.2.1, s_.2.2.2.2.2.1], .int .i64 t354]), (71, .agg #[s_.2.2.2.2.1, s_.2.2.2.2.2.1]), (72, .int .i64 t354)]) (fun s_ w' => (w'.cell? ⟨gb307, 0, none⟩ = some (.slice A0_0 l0_0.length c0_0) ∧ w'.cell? ⟨gb307, 1, none⟩ = some (.slice A0_1 l0_1.length c0_1) ∧ w'.cell? ⟨gb331, 0, none⟩ = some (.slice Ao32 t324.length co32) ∧ w'.cell? ⟨gb331, 1, none⟩ = some (.slice Ao34 t327.length co34)) ∧ (Kd.R (Kd.int .i64) 3 w' w.heap.size (fun k_ => some k_ ≠ (s_.2.2.1 : Value).ownBlock ∧ some k_ ≠ (s_.2.2.2.1 : Value).ownBlock ∧ some k_ ≠ (s_.2.2.2.2.1 : Value).ownBlock ∧ some k_ ≠ (s_.2.2.2.2.2.1 : Value).ownBlock ∧ some k_ ≠ (.slice Ao32 t324.length co32 : Value).ownBlock ∧ some k_ ≠ (.slice Ao34 t327.length co34 : Value).ownBlock) s_.1 t336) ∧ (Kd.R k85 85 w' w.heap.size (fun _ => True) s_.2.1 t339) ∧ (Kd.R (Kd.int .i64) 3 w' w.heap.size (fun k_ => some k_ ≠ (s_.1 : Value).ownBlock ∧ some k_ ≠ (s_.2.2.2.1 : Value).ownBlock ∧ some k_ ≠ (s_.2.2.2.2.1 : Value).ownBlock ∧ some k_ ≠ (s_.2.2.2.2.2.1 : Value).ownBlock ∧ some k_ ≠ (.slice Ao32 t324.length co32 : Value).ownBlock ∧ some k_ ≠ (.slice Ao34 t327.length co34 : Value).ownBlock) s_.2.2.1 t342) ∧ (Kd.R (Kd.int .i64) 3 w' w.heap.size (fun k_ => some k_ ≠ (s_.1 : Value).ownBlock ∧ some k_ ≠ (s_.2.2.1 : Value).ownBlock ∧ some k_ ≠ (s_.2.2.2.2.1 : Value).ownBlock ∧ some k_ ≠ (s_.2.2.2.2.2.1 : Value).ownBlock ∧ some k_ ≠ (.slice Ao32 t324.length co32 : Value).ownBlock ∧ some k_ ≠ (.slice Ao34 t327.length co34 : Value).ownBlock) s_.2.2.2.1 t345) ∧ (Kd.R (Kd.int .i64) 3 w' w.heap.size (fun k_ => some k_ ≠ (s_.1 : Value).ownBlock ∧ some k_ ≠ (s_.2.2.1 : Value).ownBlock ∧ some k_ ≠ (s_.2.2.2.1 : Value).ownBlock ∧ some k_ ≠ (s_.2.2.2.2.2.1 : Value).ownBlock ∧ some k_ ≠ (.slice Ao32 t324.length co32 : Value).ownBlock ∧ some k_ ≠ (.slice Ao34 t327.length co34 : Value).ownBlock) s_.2.2.2.2.1 t348) ∧ (Kd.R (Kd.int .i64) 3 w' w.heap.size (fun k_ => some k_ ≠ (s_.1 : Value).ownBlock ∧ some k_ ≠ (s_.2.2.1 : Value).ownBlock ∧ some k_ ≠ (s_.2.2.2.1 : Value).ownBlock ∧ some k_ ≠ (s_.2.2.2.2.1 : Value).ownBlock ∧ some k_ ≠ (.slice Ao32 t324.length co32 : Value).ownBlock ∧ some k_ ≠ (.slice Ao34 t327.length co34 : Value).ownBlock) s_.2.2.2.2.2.1 t351) ∧ (Kd.R (Kd.int .i64) 3 w' w.heap.size (fun k_ => some k_ ≠ (s_.1 : Value).ownBlock ∧ some k_ ≠ (s_.2.2.1 : Value).ownBlock ∧ some k_ ≠ (s_.2.2.2.1 : Value).ownBlock ∧ some k_ ≠ (s_.2.2.2.2.1 : Value).ownBlock ∧ some k_ ≠ (s_.2.2.2.2.2.1 : Value).ownBlock ∧ some k_ ≠ (.slice Ao34 t327.length co34 : Value).ownBlock) (.slice Ao32 t324.length co32) t324) ∧ (Kd.R (Kd.int .i64) 3 w' w.heap.size (fun k_ => some k_ ≠ (s_.1 : Value).ownBlock ∧ some k_ ≠ (s_.2.2.1 : Value).ownBlock ∧ some k_ ≠ (s_.2.2.2.1 : Value).ownBlock ∧ some k_ ≠ (s_.2.2.2.2.1 : Value).ownBlock ∧ some k_ ≠ (s_.2.2.2.2.2.1 : Value).ownBlock ∧ some k_ ≠ (.slice Ao32 t324.length co32 : Value).ownBlock) (.slice Ao34 t327.length co34) t327) ∧ (w'.heap[gb307]? = some (.cells #[.slice A0_0 l0_0.length c0_0, .slice A0_1 l0_1.length c0_1] 25 (0, 0))) ∧ (w'.heap[gb308]? = some (.cells #[.slice A1_0 l1_0.length c1_0, .slice A1_1 l1_1.length c1_1] 27 (0, 0))) ∧ (w'.heap[gb331]? = some (.cells #[.slice Ao32 t324.length co32, .slice Ao34 t327.length co34] 27 (0, 0))) ∧ (w'.heap[s_.2.2.2.2.2.2]? = some (.cells #[.slice none 0 0, .slice none 0 0] 27 (0, 0))) ∧ (w.heap.size ≤ s_.2.2.2.2.2.2) ∧ (w.heap.size ≤ s_.2.2.2.2.2.2) ∧ (gb307 ≠ s_.2.2.2.2.2.2) ∧ (s_.2.2.2.2.2.2 ≠ gb307) ∧ (gb308 ≠ s_.2.2.2.2.2.2) ∧ (s_.2.2.2.2.2.2 ≠ gb308) ∧ (gb331 ≠ s_.2.2.2.2.2.2) ∧ (s_.2.2.2.2.2.2 ≠ gb331) ∧ (Below w.heap.size w w')) ?_ ?_
        rotate_left
        ·intro hCont
         refine two_ (i := 1) (j := 8) (Ni := some 67) (Nj := some 8) (bz 11 7) (bz 11 261) rfl rfl rfl rfl (two_of HT_.out (by kernel_rfl)) (by decide) (by decide) (fun K hK => ?_) (fun K hK => ?_)
         ·skip
          refine zg Try.func12 #[.agg #[.slice A0_0 l0_0.length c0_0, .slice A0_1 l0_1.length c0_1]] ?_
          with_reducible refine (trefoillaw04_Own.calls _ _ l0_0 _ _ l0_1 t336 t339 _ ?side1 ?side2 ?side3 ?side4 A58.out).mono ?_
          (case side1 => exact zc (Kd.C_below HR0_0.out HB.out))
          (case side2 => exact HC0_0.out)
          (case side3 => exact zc (Kd.C_below HR0_1.out HB.out))
          (case side4 => exact HC0_1.out)
          rintro e w77 ⟨v337, v340, rfl, ho0, ho1, hb⟩
          refine ⟨_, rfl, ?_⟩
          have n0_ := Z0 (Kd.R_elder' (zr HO_332000) (rb ho0) hb)
          have n1_ := Z0 (Kd.R_elder' (zr HO_332001) (rb ho0) hb)
          have n2_ := Z0 (rl (rw_ (rw_ ho0 (rlt (zr HO_332000))) (rlt (zr HO_332001))) (below_size (zb HB)))
          have n3_ := Z0 (rl ho1 (below_size (zb HB)))
          have n4_ := Z0 (kb (g := gb307) (o := .cells #[.slice A0_0 l0_0.length c0_0, .slice A0_1 l0_1.length c0_1] 25 (0, 0)) (zk BK307) hb)
          have n5_ := Z0 (kb (g := gb308) (o := .cells #[.slice A1_0 l1_0.length c1_0, .slice A1_1 l1_1.length c1_1] 27 (0, 0)) (zk BK308) hb)
          have n6_ := Z0 (kb (g := gb331) (o := .cells #[.slice Ao32 t324.length co32, .slice Ao34 t327.length co34] 27 (0, 0)) (zk BK331) hb)
          have n7_ := Z0 (below_step (zb HB) hb)
          clear HO_332000
          clear HO_332001
          clear BK307
          clear BK308
          clear BK331
          clear HB
          have HO_332000 := n0_
          have HO_332001 := n1_
          have HO338 := n2_
          have HO341 := n3_
          have BK307 := n4_
          have BK308 := n5_
          have BK331 := n6_
          have HB := n7_
          clear n0_ n1_ n2_ n3_ n4_ n5_ n6_ n7_
          (try clear hb)
          (try clear hb2)
          (try clear hk)
          (try clear hi)
          (try clear ho0)
          (try clear ho1)
          refine hK.out _ _ ⟨(kc BK307.out 0).trans rfl, (kc BK307.out 1).trans rfl, (kc BK331.out 0).trans rfl, (kc BK331.out 1).trans rfl⟩ (fun hHeld => ?_)
          clear hK K
          refine norm_ (a' := ?_) ?_ ?_
          rotate_left
          ·show Act.put _ (some 67) _ = _
           simp only [Act.put, y0, y1, y2, i64_w, i32_w]
           rfl
          refine two_ (i := 3) (j := 8) (Ni := some 69) (Nj := some 8) (bz 11 15) (bz 11 263) rfl rfl rfl rfl (two_of HT_.out (by kernel_rfl)) (by decide) (by decide) (fun K hK => ?_) (fun K hK => ?_)
          ·skip
           refine zg Try.func13 #[.agg #[.slice Ao32 t324.length co32, .slice Ao34 t327.length co34]] ?_
           with_reducible refine (trefoillaw11_Own.calls _ _ t324 _ _ t327 t342 t345 _ ?side1 ?side2 ?side3 ?side4 A59.out).mono ?_
           (case side1 => exact zc (rr HO_332000.out).2.2)
           (case side2 => exact (rr HO_332000.out).2.1)
           (case side3 => exact zc (rr HO_332001.out).2.2)
           (case side4 => exact (rr HO_332001.out).2.1)
           rintro e w78 ⟨v343, v346, rfl, ho0, ho1, hb⟩
           refine ⟨_, rfl, ?_⟩
           have n0_ := Z0 (rm (rt (rt (ro (zr HO_332000) hb) (rb ho0)) (rb ho1)) (fun _ h_ => h_.1))
           have n1_ := Z0 (rm (rt (rt (ro (zr HO_332001) hb) (rb ho0)) (rb ho1)) (fun _ h_ => h_.1))
           have n2_ := Z0 (rm (rt (rt (ro (zr HO338) hb) (rb ho0)) (rb ho1)) (fun _ h_ => h_.1))
           have n3_ := Z0 (rbe (zr HO341) hb)
           have n4_ := Z0 (rl (rw_ (rw_ (rw_ ho0 (rlt (zr HO_332000))) (rlt (zr HO_332001))) (rlt (zr HO338))) (below_size (zb HB)))
           have n5_ := Z0 (rl (rw_ (rw_ (rw_ ho1 (rlt (zr HO_332000))) (rlt (zr HO_332001))) (rlt (zr HO338))) (below_size (zb HB)))
           have n6_ := Z0 (kb (g := gb307) (o := .cells #[.slice A0_0 l0_0.length c0_0, .slice A0_1 l0_1.length c0_1] 25 (0, 0)) (zk BK307) hb)
           have n7_ := Z0 (kb (g := gb308) (o := .cells #[.slice A1_0 l1_0.length c1_0, .slice A1_1 l1_1.length c1_1] 27 (0, 0)) (zk BK308) hb)
           have n8_ := Z0 (kb (g := gb331) (o := .cells #[.slice Ao32 t324.length co32, .slice Ao34 t327.length co34] 27 (0, 0)) (zk BK331) hb)
           have n9_ := Z0 (below_step (zb HB) hb)
           clear HO_332000
           clear HO_332001
           clear HO338
           clear HO341
           clear BK307
           clear BK308
           clear BK331
           clear HB
           have HO_332000 := n0_
           have HO_332001 := n1_
           have HO338 := n2_
           have HO341 := n3_
           have HO344 := n4_
           have HO347 := n5_
           have BK307 := n6_
           have BK308 := n7_
           have BK331 := n8_
           have HB := n9_
           clear n0_ n1_ n2_ n3_ n4_ n5_ n6_ n7_ n8_ n9_
           (try clear hb)
           (try clear hb2)
           (try clear hk)
           (try clear hi)
           (try clear ho0)
           (try clear ho1)
           obtain ⟨Ao79, co79, eo79⟩ := Kd.R_slice HO338.out
           (first | subst eo79 | (injection eo79 with f1_ f2_ f3_; have f4_ := f1_.symm; have f5_ := f3_.symm; clear f1_ f2_ f3_; subst f4_; subst f5_))
           obtain ⟨Ao80, co80, eo80⟩ := Kd.R_slice HO341.out
           (first | subst eo80 | (injection eo80 with f1_ f2_ f3_; have f4_ := f1_.symm; have f5_ := f3_.symm; clear f1_ f2_ f3_; subst f4_; subst f5_))
           obtain ⟨Ao81, co81, eo81⟩ := Kd.R_slice HO344.out
           (first | subst eo81 | (injection eo81 with f1_ f2_ f3_; have f4_ := f1_.symm; have f5_ := f3_.symm; clear f1_ f2_ f3_; subst f4_; subst f5_))
           obtain ⟨Ao82, co82, eo82⟩ := Kd.R_slice HO347.out
           (first | subst eo82 | (injection eo82 with f1_ f2_ f3_; have f4_ := f1_.symm; have f5_ := f3_.symm; clear f1_ f2_ f3_; subst f4_; subst f5_))
           refine hK.out _ _ ⟨(kc BK307.out 0).trans rfl, (kc BK307.out 1).trans rfl, (kc BK331.out 0).trans rfl, (kc BK331.out 1).trans rfl⟩ (fun hHeld => ?_)
           clear hK K
           refine norm_ (a' := ?_) ?_ ?_
           rotate_left
           ·show Act.put _ (some 69) _ = _
            simp only [Act.put, y0, y1, y2, i64_w, i32_w]
            rfl
           refine two_ (i := 4) (j := 8) (Ni := some 70) (Nj := some 8) (bz 11 31) (bz 11 271) rfl rfl rfl rfl (two_of HT_.out (by kernel_rfl)) (by decide) (by decide) (fun K hK => ?_) (fun K hK => ?_)
           ·skip
            refine zg Try.func11 #[.agg #[.slice Ao79 t336.length co79, .slice Ao80 t339.length co80], .agg #[.slice Ao81 t342.length co81, .slice Ao82 t345.length co82]] ?_
            with_reducible refine (list_Fill.calls _ _ t336 _ _ t339 _ _ t342 _ _ t345 t348 t351 t354 _ ?side1 ?side2 ?side3 ?side4 ?side5 ?side6 ?side7 ?side8 A60.out).mono ?_
            (case side1 => exact zc (rr HO338.out).2.2)
            (case side2 => exact (rr HO338.out).2.1)
            (case side3 => exact zc (rr HO341.out).2.2)
            (case side4 => exact (rr HO341.out).2.1)
            (case side5 => exact zc (rr HO344.out).2.2)
            (case side6 => exact (rr HO344.out).2.1)
            (case side7 => exact zc (rr HO347.out).2.2)
            (case side8 => exact (rr HO347.out).2.1)
            rintro e w83 ⟨v349, v352, rfl, ho0, ho1, hb⟩
            refine ⟨_, rfl, ?_⟩
            have n0_ := Z0 (rm (rt (rt (ro (zr HO_332000) hb) (rb ho0)) (rb ho1)) (fun _ h_ => h_.1))
            have n1_ := Z0 (rm (rt (rt (ro (zr HO_332001) hb) (rb ho0)) (rb ho1)) (fun _ h_ => h_.1))
            have n2_ := Z0 (rm (rt (rt (ro (zr HO338) hb) (rb ho0)) (rb ho1)) (fun _ h_ => h_.1))
            have n3_ := Z0 (rbe (zr HO341) hb)
            have n4_ := Z0 (rm (rt (rt (ro (zr HO344) hb) (rb ho0)) (rb ho1)) (fun _ h_ => h_.1))
            have n5_ := Z0 (rm (rt (rt (ro (zr HO347) hb) (rb ho0)) (rb ho1)) (fun _ h_ => h_.1))
            have n6_ := Z0 (rl (rw_ (rw_ (rw_ (rw_ (rw_ ho0 (rlt (zr HO_332000))) (rlt (zr HO_332001))) (rlt (zr HO338))) (rlt (zr HO344))) (rlt (zr HO347))) (below_size (zb HB)))
            have n7_ := Z0 (rl (rw_ (rw_ (rw_ (rw_ (rw_ ho1 (rlt (zr HO_332000))) (rlt (zr HO_332001))) (rlt (zr HO338))) (rlt (zr HO344))) (rlt (zr HO347))) (below_size (zb HB)))
            have n8_ := Z0 (kb (g := gb307) (o := .cells #[.slice A0_0 l0_0.length c0_0, .slice A0_1 l0_1.length c0_1] 25 (0, 0)) (zk BK307) hb)
            have n9_ := Z0 (kb (g := gb308) (o := .cells #[.slice A1_0 l1_0.length c1_0, .slice A1_1 l1_1.length c1_1] 27 (0, 0)) (zk BK308) hb)
            have n10_ := Z0 (kb (g := gb331) (o := .cells #[.slice Ao32 t324.length co32, .slice Ao34 t327.length co34] 27 (0, 0)) (zk BK331) hb)
            have n11_ := Z0 (below_step (zb HB) hb)
            clear HO_332000
            clear HO_332001
            clear HO338
            clear HO341
            clear HO344
            clear HO347
            clear BK307
            clear BK308
            clear BK331
            clear HB
            have HO_332000 := n0_
            have HO_332001 := n1_
            have HO338 := n2_
            have HO341 := n3_
            have HO344 := n4_
            have HO347 := n5_
            have HO350 := n6_
            have HO353 := n7_
            have BK307 := n8_
            have BK308 := n9_
            have BK331 := n10_
            have HB := n11_
            clear n0_ n1_ n2_ n3_ n4_ n5_ n6_ n7_ n8_ n9_ n10_ n11_
            (try clear hb)
            (try clear hb2)
            (try clear hk)
            (try clear hi)
            (try clear ho0)
            (try clear ho1)
            refine hK.out _ _ ⟨(kc BK307.out 0).trans rfl, (kc BK307.out 1).trans rfl, (kc BK331.out 0).trans rfl, (kc BK331.out 1).trans rfl⟩ (fun hHeld => ?_)
            clear hK K
            refine norm_ (a' := ?_) ?_ ?_
            rotate_left
            ·show Act.put _ (some 70) _ = _
             simp only [Act.put, y0, y1, y2, i64_w, i32_w]
             rfl
            refine pu 5 (some 65) (bz 11 63) HT_ ?_
            refine pu 6 (some 71) (bz 11 127) HT_ ?_
            refine pu 7 (some 72) (bz 11 255) HT_ ?_
            refine one_ (i := 8) (N := some 8) (bz 11 511) rfl rfl (one_of HT_.out (by kernel_rfl)) (by decide) (fun K hK => ?_)
            refine box_step ?hg (N := 8) ?hd (cs := #[.slice none 0 0, .slice none 0 0]) (t := 27) ?hr ?_; (case hd => rfl); (case hg => rfl); (case hr => first | (go_simp; done) | (go_simp; rfl))
            intro gb355 hg w84 hbox hb
            have n0_ := Z0 (rbe (zr HO_332000) hb)
            have n1_ := Z0 (rbe (zr HO_332001) hb)
            have n2_ := Z0 (rbe (zr HO338) hb)
            have n3_ := Z0 (rbe (zr HO341) hb)
            have n4_ := Z0 (rbe (zr HO344) hb)
            have n5_ := Z0 (rbe (zr HO347) hb)
            have n6_ := Z0 (rbe (zr HO350) hb)
            have n7_ := Z0 (rbe (zr HO353) hb)
            have n8_ := Z0 (kb (g := gb307) (o := .cells #[.slice A0_0 l0_0.length c0_0, .slice A0_1 l0_1.length c0_1] 25 (0, 0)) (zk BK307) hb)
            have n9_ := Z0 (kb (g := gb308) (o := .cells #[.slice A1_0 l1_0.length c1_0, .slice A1_1 l1_1.length c1_1] 27 (0, 0)) (zk BK308) hb)
            have n10_ := Z0 (kb (g := gb331) (o := .cells #[.slice Ao32 t324.length co32, .slice Ao34 t327.length co34] 27 (0, 0)) (zk BK331) hb)
            have n11_ := Z0 (below_step (zb HB) hb)
            have n12_ := Z0 (hbox)
            have n13_ := Z0 ((by rw [hg]; exact (below_size (zb HB)) : w.heap.size ≤ gb355))
            have n14_ := Z0 ((by rw [hg]; exact (below_size (zb HB)) : w.heap.size ≤ gb355))
            have n15_ := Z0 ((by rw [hg]; exact Nat.ne_of_lt (blk_lt (g := gb307) (o := .cells #[.slice A0_0 l0_0.length c0_0, .slice A0_1 l0_1.length c0_1] 25 (0, 0)) (zk BK307)) : gb307 ≠ gb355))
            have n16_ := Z0 ((by rw [hg]; exact Nat.ne_of_gt (blk_lt (g := gb307) (o := .cells #[.slice A0_0 l0_0.length c0_0, .slice A0_1 l0_1.length c0_1] 25 (0, 0)) (zk BK307)) : gb355 ≠ gb307))
            have n17_ := Z0 ((by rw [hg]; exact Nat.ne_of_lt (blk_lt (g := gb308) (o := .cells #[.slice A1_0 l1_0.length c1_0, .slice A1_1 l1_1.length c1_1] 27 (0, 0)) (zk BK308)) : gb308 ≠ gb355))
            have n18_ := Z0 ((by rw [hg]; exact Nat.ne_of_gt (blk_lt (g := gb308) (o := .cells #[.slice A1_0 l1_0.length c1_0, .slice A1_1 l1_1.length c1_1] 27 (0, 0)) (zk BK308)) : gb355 ≠ gb308))
            have n19_ := Z0 ((by rw [hg]; exact Nat.ne_of_lt (blk_lt (g := gb331) (o := .cells #[.slice Ao32 t324.length co32, .slice Ao34 t327.length co34] 27 (0, 0)) (zk BK331)) : gb331 ≠ gb355))
            have n20_ := Z0 ((by rw [hg]; exact Nat.ne_of_gt (blk_lt (g := gb331) (o := .cells #[.slice Ao32 t324.length co32, .slice Ao34 t327.length co34] 27 (0, 0)) (zk BK331)) : gb355 ≠ gb331))
            clear HO_332000
            clear HO_332001
            clear HO338
            clear HO341
            clear HO344
            clear HO347
            clear HO350
            clear HO353
            clear BK307
            clear BK308
            clear BK331
            clear HB
            have HO_332000 := n0_
            have HO_332001 := n1_
            have HO338 := n2_
            have HO341 := n3_
            have HO344 := n4_
            have HO347 := n5_
            have HO350 := n6_
            have HO353 := n7_
            have BK307 := n8_
            have BK308 := n9_
            have BK331 := n10_
            have HB := n11_
            have BK355 := n12_
            have GW355 := n13_
            have GE355 := n14_
            have NB307_355 := n15_
            have NB355_307 := n16_
            have NB308_355 := n17_
            have NB355_308 := n18_
            have NB331_355 := n19_
            have NB355_331 := n20_
            clear n0_ n1_ n2_ n3_ n4_ n5_ n6_ n7_ n8_ n9_ n10_ n11_ n12_ n13_ n14_ n15_ n16_ n17_ n18_ n19_ n20_
            clear hb hbox hg
            refine hK.out _ _ ⟨(kc BK307.out 0).trans rfl, (kc BK307.out 1).trans rfl, (kc BK331.out 0).trans rfl, (kc BK331.out 1).trans rfl⟩ (fun hHeld => ?_)
            clear hK K
            refine norm_ (a' := ?_) ?_ ?_
            rotate_left
            ·show Act.put _ (some 8) _ = _
             simp only [Act.put, y0, y1, y2, i64_w, i32_w]
             rfl
            exact norm_ (by simp only [putAll, Act.put, y0, y1, y2]) (hCont (.slice Ao79 t336.length co79, .slice Ao80 t339.length co80, .slice Ao81 t342.length co81, .slice Ao82 t345.length co82, v349, v352, gb355) _ ⟨hHeld, (by (with_reducible repeat (first | apply ra | apply rn | apply rd_)); exact rm HO338.out (fun _ hk => ⟨hk.1.1.1.2, ⟨hk.1.1.2, ⟨hk.1.2, ⟨hk.2, ⟨hk.1.1.1.1.1.2, hk.1.1.1.1.2⟩⟩⟩⟩⟩)), (zr HO341), (by (with_reducible repeat (first | apply ra | apply rn | apply rd_)); exact rm HO344.out (fun _ hk => ⟨hk.1.1.2, ⟨hk.1.1.1.1.1, ⟨hk.1.2, ⟨hk.2, ⟨hk.1.1.1.1.2, hk.1.1.1.2⟩⟩⟩⟩⟩)), (by (with_reducible repeat (first | apply ra | apply rn | apply rd_)); exact rm HO347.out (fun _ hk => ⟨hk.1.1.2, ⟨hk.1.1.1.1.1, ⟨hk.1.2, ⟨hk.2, ⟨hk.1.1.1.1.2, hk.1.1.1.2⟩⟩⟩⟩⟩)), (by (with_reducible repeat (first | apply ra | apply rn | apply rd_)); exact rm HO350.out (fun _ hk => ⟨hk.1.1.2, ⟨hk.1.2, ⟨hk.2, ⟨hk.1.1.1.1.1, ⟨hk.1.1.1.1.2, hk.1.1.1.2⟩⟩⟩⟩⟩)), (by (with_reducible repeat (first | apply ra | apply rn | apply rd_)); exact rm HO353.out (fun _ hk => ⟨hk.1.1.2, ⟨hk.1.2, ⟨hk.2, ⟨hk.1.1.1.1.1, ⟨hk.1.1.1.1.2, hk.1.1.1.2⟩⟩⟩⟩⟩)), (by (with_reducible repeat (first | apply ra | apply rn | apply rd_)); exact rm HO_332000.out (fun _ hk => ⟨hk.1.1.1.1.2, ⟨hk.1.1.1.2, ⟨hk.1.1.2, ⟨hk.1.2, ⟨hk.2, hk.1.1.1.1.1⟩⟩⟩⟩⟩)), (by (with_reducible repeat (first | apply ra | apply rn | apply rd_)); exact rm HO_332001.out (fun _ hk => ⟨hk.1.1.1.1.2, ⟨hk.1.1.1.2, ⟨hk.1.1.2, ⟨hk.1.2, ⟨hk.2, hk.1.1.1.1.1⟩⟩⟩⟩⟩)), (zk BK307), (zk BK308), (zk BK331), (zk BK355), GW355.out, GE355.out, NB307_355.out, NB355_307.out, NB308_355.out, NB355_308.out, NB331_355.out, NB355_331.out, (zb HB)⟩)
           ·skip
            refine box_step ?hg (N := 8) ?hd (cs := #[.slice none 0 0, .slice none 0 0]) (t := 27) ?hr ?_; (case hd => rfl); (case hg => rfl); (case hr => first | (go_simp; done) | (go_simp; rfl))
            intro gb355 hg w79 hbox hb
            have n0_ := Z0 (rbe (zr HO_332000) hb)
            have n1_ := Z0 (rbe (zr HO_332001) hb)
            have n2_ := Z0 (rbe (zr HO338) hb)
            have n3_ := Z0 (rbe (zr HO341) hb)
            have n4_ := Z0 (rbe (zr HO344) hb)
            have n5_ := Z0 (rbe (zr HO347) hb)
            have n6_ := Z0 (kb (g := gb307) (o := .cells #[.slice A0_0 l0_0.length c0_0, .slice A0_1 l0_1.length c0_1] 25 (0, 0)) (zk BK307) hb)
            have n7_ := Z0 (kb (g := gb308) (o := .cells #[.slice A1_0 l1_0.length c1_0, .slice A1_1 l1_1.length c1_1] 27 (0, 0)) (zk BK308) hb)
            have n8_ := Z0 (kb (g := gb331) (o := .cells #[.slice Ao32 t324.length co32, .slice Ao34 t327.length co34] 27 (0, 0)) (zk BK331) hb)
            have n9_ := Z0 (below_step (zb HB) hb)
            have n10_ := Z0 (hbox)
            have n11_ := Z0 ((by rw [hg]; exact (below_size (zb HB)) : w.heap.size ≤ gb355))
            have n12_ := Z0 ((by rw [hg]; exact (below_size (zb HB)) : w.heap.size ≤ gb355))
            have n13_ := Z0 ((by rw [hg]; exact Nat.ne_of_lt (blk_lt (g := gb307) (o := .cells #[.slice A0_0 l0_0.length c0_0, .slice A0_1 l0_1.length c0_1] 25 (0, 0)) (zk BK307)) : gb307 ≠ gb355))
            have n14_ := Z0 ((by rw [hg]; exact Nat.ne_of_gt (blk_lt (g := gb307) (o := .cells #[.slice A0_0 l0_0.length c0_0, .slice A0_1 l0_1.length c0_1] 25 (0, 0)) (zk BK307)) : gb355 ≠ gb307))
            have n15_ := Z0 ((by rw [hg]; exact Nat.ne_of_lt (blk_lt (g := gb308) (o := .cells #[.slice A1_0 l1_0.length c1_0, .slice A1_1 l1_1.length c1_1] 27 (0, 0)) (zk BK308)) : gb308 ≠ gb355))
            have n16_ := Z0 ((by rw [hg]; exact Nat.ne_of_gt (blk_lt (g := gb308) (o := .cells #[.slice A1_0 l1_0.length c1_0, .slice A1_1 l1_1.length c1_1] 27 (0, 0)) (zk BK308)) : gb355 ≠ gb308))
            have n17_ := Z0 ((by rw [hg]; exact Nat.ne_of_lt (blk_lt (g := gb331) (o := .cells #[.slice Ao32 t324.length co32, .slice Ao34 t327.length co34] 27 (0, 0)) (zk BK331)) : gb331 ≠ gb355))
            have n18_ := Z0 ((by rw [hg]; exact Nat.ne_of_gt (blk_lt (g := gb331) (o := .cells #[.slice Ao32 t324.length co32, .slice Ao34 t327.length co34] 27 (0, 0)) (zk BK331)) : gb355 ≠ gb331))
            clear HO_332000
            clear HO_332001
            clear HO338
            clear HO341
            clear HO344
            clear HO347
            clear BK307
            clear BK308
            clear BK331
            clear HB
            have HO_332000 := n0_
            have HO_332001 := n1_
            have HO338 := n2_
            have HO341 := n3_
            have HO344 := n4_
            have HO347 := n5_
            have BK307 := n6_
            have BK308 := n7_
            have BK331 := n8_
            have HB := n9_
            have BK355 := n10_
            have GW355 := n11_
            have GE355 := n12_
            have NB307_355 := n13_
            have NB355_307 := n14_
            have NB308_355 := n15_
            have NB355_308 := n16_
            have NB331_355 := n17_
            have NB355_331 := n18_
            clear n0_ n1_ n2_ n3_ n4_ n5_ n6_ n7_ n8_ n9_ n10_ n11_ n12_ n13_ n14_ n15_ n16_ n17_ n18_
            clear hb hbox hg
            obtain ⟨Ao80, co80, eo80⟩ := Kd.R_slice HO338.out
            (first | subst eo80 | (injection eo80 with f1_ f2_ f3_; have f4_ := f1_.symm; have f5_ := f3_.symm; clear f1_ f2_ f3_; subst f4_; subst f5_))
            obtain ⟨Ao81, co81, eo81⟩ := Kd.R_slice HO341.out
            (first | subst eo81 | (injection eo81 with f1_ f2_ f3_; have f4_ := f1_.symm; have f5_ := f3_.symm; clear f1_ f2_ f3_; subst f4_; subst f5_))
            obtain ⟨Ao82, co82, eo82⟩ := Kd.R_slice HO344.out
            (first | subst eo82 | (injection eo82 with f1_ f2_ f3_; have f4_ := f1_.symm; have f5_ := f3_.symm; clear f1_ f2_ f3_; subst f4_; subst f5_))
            obtain ⟨Ao83, co83, eo83⟩ := Kd.R_slice HO347.out
            (first | subst eo83 | (injection eo83 with f1_ f2_ f3_; have f4_ := f1_.symm; have f5_ := f3_.symm; clear f1_ f2_ f3_; subst f4_; subst f5_))
            refine hK.out _ _ ⟨(kc BK307.out 0).trans rfl, (kc BK307.out 1).trans rfl, (kc BK331.out 0).trans rfl, (kc BK331.out 1).trans rfl⟩ (fun hHeld => ?_)
            clear hK K
            refine norm_ (a' := ?_) ?_ ?_
            rotate_left
            ·show Act.put _ (some 8) _ = _
             simp only [Act.put, y0, y1, y2, i64_w, i32_w]
             rfl
            refine one_ (i := 4) (N := some 70) (bz 11 287) rfl rfl (one_of HT_.out (by kernel_rfl)) (by decide) (fun K hK => ?_)
            refine zg Try.func11 #[.agg #[.slice Ao80 t336.length co80, .slice Ao81 t339.length co81], .agg #[.slice Ao82 t342.length co82, .slice Ao83 t345.length co83]] ?_
            with_reducible refine (list_Fill.calls _ _ t336 _ _ t339 _ _ t342 _ _ t345 t348 t351 t354 _ ?side1 ?side2 ?side3 ?side4 ?side5 ?side6 ?side7 ?side8 A60.out).mono ?_
            (case side1 => exact zc (rr HO338.out).2.2)
            (case side2 => exact (rr HO338.out).2.1)
            (case side3 => exact zc (rr HO341.out).2.2)
            (case side4 => exact (rr HO341.out).2.1)
            (case side5 => exact zc (rr HO344.out).2.2)
            (case side6 => exact (rr HO344.out).2.1)
            (case side7 => exact zc (rr HO347.out).2.2)
            (case side8 => exact (rr HO347.out).2.1)
            rintro e w84 ⟨v349, v352, rfl, ho0, ho1, hb⟩
            refine ⟨_, rfl, ?_⟩
            have n0_ := Z0 (rm (rt (rt (ro (zr HO_332000) hb) (rb ho0)) (rb ho1)) (fun _ h_ => h_.1))
            have n1_ := Z0 (rm (rt (rt (ro (zr HO_332001) hb) (rb ho0)) (rb ho1)) (fun _ h_ => h_.1))
            have n2_ := Z0 (rm (rt (rt (ro (zr HO338) hb) (rb ho0)) (rb ho1)) (fun _ h_ => h_.1))
            have n3_ := Z0 (rbe (zr HO341) hb)
            have n4_ := Z0 (rm (rt (rt (ro (zr HO344) hb) (rb ho0)) (rb ho1)) (fun _ h_ => h_.1))
            have n5_ := Z0 (rm (rt (rt (ro (zr HO347) hb) (rb ho0)) (rb ho1)) (fun _ h_ => h_.1))
            have n6_ := Z0 (rl (rw_ (rw_ (rw_ (rw_ (rw_ ho0 (rlt (zr HO_332000))) (rlt (zr HO_332001))) (rlt (zr HO338))) (rlt (zr HO344))) (rlt (zr HO347))) (below_size (zb HB)))
            have n7_ := Z0 (rl (rw_ (rw_ (rw_ (rw_ (rw_ ho1 (rlt (zr HO_332000))) (rlt (zr HO_332001))) (rlt (zr HO338))) (rlt (zr HO344))) (rlt (zr HO347))) (below_size (zb HB)))
            have n8_ := Z0 (kb (g := gb307) (o := .cells #[.slice A0_0 l0_0.length c0_0, .slice A0_1 l0_1.length c0_1] 25 (0, 0)) (zk BK307) hb)
            have n9_ := Z0 (kb (g := gb308) (o := .cells #[.slice A1_0 l1_0.length c1_0, .slice A1_1 l1_1.length c1_1] 27 (0, 0)) (zk BK308) hb)
            have n10_ := Z0 (kb (g := gb331) (o := .cells #[.slice Ao32 t324.length co32, .slice Ao34 t327.length co34] 27 (0, 0)) (zk BK331) hb)
            have n11_ := Z0 (kb (g := gb355) (o := .cells #[.slice none 0 0, .slice none 0 0] 27 (0, 0)) (zk BK355) hb)
            have n12_ := Z0 (below_step (zb HB) hb)
            clear HO_332000
            clear HO_332001
            clear HO338
            clear HO341
            clear HO344
            clear HO347
            clear BK307
            clear BK308
            clear BK331
            clear BK355
            clear HB
            have HO_332000 := n0_
            have HO_332001 := n1_
            have HO338 := n2_
            have HO341 := n3_
            have HO344 := n4_
            have HO347 := n5_
            have HO350 := n6_
            have HO353 := n7_
            have BK307 := n8_
            have BK308 := n9_
            have BK331 := n10_
            have BK355 := n11_
            have HB := n12_
            clear n0_ n1_ n2_ n3_ n4_ n5_ n6_ n7_ n8_ n9_ n10_ n11_ n12_
            (try clear hb)
            (try clear hb2)
            (try clear hk)
            (try clear hi)
            (try clear ho0)
            (try clear ho1)
            refine hK.out _ _ ⟨(kc BK307.out 0).trans rfl, (kc BK307.out 1).trans rfl, (kc BK331.out 0).trans rfl, (kc BK331.out 1).trans rfl⟩ (fun hHeld => ?_)
            clear hK K
            refine norm_ (a' := ?_) ?_ ?_
            rotate_left
            ·show Act.put _ (some 70) _ = _
             simp only [Act.put, y0, y1, y2, i64_w, i32_w]
             rfl
            refine pu 5 (some 65) (bz 11 319) HT_ ?_
            refine pu 6 (some 71) (bz 11 383) HT_ ?_
            refine pu 7 (some 72) (bz 11 511) HT_ ?_
            exact norm_ (by simp only [putAll, Act.put, y0, y1, y2]) (hCont (.slice Ao80 t336.length co80, .slice Ao81 t339.length co81, .slice Ao82 t342.length co82, .slice Ao83 t345.length co83, v349, v352, gb355) _ ⟨hHeld, (by (with_reducible repeat (first | apply ra | apply rn | apply rd_)); exact rm HO338.out (fun _ hk => ⟨hk.1.1.1.2, ⟨hk.1.1.2, ⟨hk.1.2, ⟨hk.2, ⟨hk.1.1.1.1.1.2, hk.1.1.1.1.2⟩⟩⟩⟩⟩)), (zr HO341), (by (with_reducible repeat (first | apply ra | apply rn | apply rd_)); exact rm HO344.out (fun _ hk => ⟨hk.1.1.2, ⟨hk.1.1.1.1.1, ⟨hk.1.2, ⟨hk.2, ⟨hk.1.1.1.1.2, hk.1.1.1.2⟩⟩⟩⟩⟩)), (by (with_reducible repeat (first | apply ra | apply rn | apply rd_)); exact rm HO347.out (fun _ hk => ⟨hk.1.1.2, ⟨hk.1.1.1.1.1, ⟨hk.1.2, ⟨hk.2, ⟨hk.1.1.1.1.2, hk.1.1.1.2⟩⟩⟩⟩⟩)), (by (with_reducible repeat (first | apply ra | apply rn | apply rd_)); exact rm HO350.out (fun _ hk => ⟨hk.1.1.2, ⟨hk.1.2, ⟨hk.2, ⟨hk.1.1.1.1.1, ⟨hk.1.1.1.1.2, hk.1.1.1.2⟩⟩⟩⟩⟩)), (by (with_reducible repeat (first | apply ra | apply rn | apply rd_)); exact rm HO353.out (fun _ hk => ⟨hk.1.1.2, ⟨hk.1.2, ⟨hk.2, ⟨hk.1.1.1.1.1, ⟨hk.1.1.1.1.2, hk.1.1.1.2⟩⟩⟩⟩⟩)), (by (with_reducible repeat (first | apply ra | apply rn | apply rd_)); exact rm HO_332000.out (fun _ hk => ⟨hk.1.1.1.1.2, ⟨hk.1.1.1.2, ⟨hk.1.1.2, ⟨hk.1.2, ⟨hk.2, hk.1.1.1.1.1⟩⟩⟩⟩⟩)), (by (with_reducible repeat (first | apply ra | apply rn | apply rd_)); exact rm HO_332001.out (fun _ hk => ⟨hk.1.1.1.1.2, ⟨hk.1.1.1.2, ⟨hk.1.1.2, ⟨hk.1.2, ⟨hk.2, hk.1.1.1.1.1⟩⟩⟩⟩⟩)), (zk BK307), (zk BK308), (zk BK331), (zk BK355), GW355.out, GE355.out, NB307_355.out, NB355_307.out, NB308_355.out, NB355_308.out, NB331_355.out, NB355_331.out, (zb HB)⟩)
          ·skip
           refine box_step ?hg (N := 8) ?hd (cs := #[.slice none 0 0, .slice none 0 0]) (t := 27) ?hr ?_; (case hd => rfl); (case hg => rfl); (case hr => first | (go_simp; done) | (go_simp; rfl))
           intro gb355 hg w78 hbox hb
           have n0_ := Z0 (rbe (zr HO_332000) hb)
           have n1_ := Z0 (rbe (zr HO_332001) hb)
           have n2_ := Z0 (rbe (zr HO338) hb)
           have n3_ := Z0 (rbe (zr HO341) hb)
           have n4_ := Z0 (kb (g := gb307) (o := .cells #[.slice A0_0 l0_0.length c0_0, .slice A0_1 l0_1.length c0_1] 25 (0, 0)) (zk BK307) hb)
           have n5_ := Z0 (kb (g := gb308) (o := .cells #[.slice A1_0 l1_0.length c1_0, .slice A1_1 l1_1.length c1_1] 27 (0, 0)) (zk BK308) hb)
           have n6_ := Z0 (kb (g := gb331) (o := .cells #[.slice Ao32 t324.length co32, .slice Ao34 t327.length co34] 27 (0, 0)) (zk BK331) hb)
           have n7_ := Z0 (below_step (zb HB) hb)
           have n8_ := Z0 (hbox)
           have n9_ := Z0 ((by rw [hg]; exact (below_size (zb HB)) : w.heap.size ≤ gb355))
           have n10_ := Z0 ((by rw [hg]; exact (below_size (zb HB)) : w.heap.size ≤ gb355))
           have n11_ := Z0 ((by rw [hg]; exact Nat.ne_of_lt (blk_lt (g := gb307) (o := .cells #[.slice A0_0 l0_0.length c0_0, .slice A0_1 l0_1.length c0_1] 25 (0, 0)) (zk BK307)) : gb307 ≠ gb355))
           have n12_ := Z0 ((by rw [hg]; exact Nat.ne_of_gt (blk_lt (g := gb307) (o := .cells #[.slice A0_0 l0_0.length c0_0, .slice A0_1 l0_1.length c0_1] 25 (0, 0)) (zk BK307)) : gb355 ≠ gb307))
           have n13_ := Z0 ((by rw [hg]; exact Nat.ne_of_lt (blk_lt (g := gb308) (o := .cells #[.slice A1_0 l1_0.length c1_0, .slice A1_1 l1_1.length c1_1] 27 (0, 0)) (zk BK308)) : gb308 ≠ gb355))
           have n14_ := Z0 ((by rw [hg]; exact Nat.ne_of_gt (blk_lt (g := gb308) (o := .cells #[.slice A1_0 l1_0.length c1_0, .slice A1_1 l1_1.length c1_1] 27 (0, 0)) (zk BK308)) : gb355 ≠ gb308))
           have n15_ := Z0 ((by rw [hg]; exact Nat.ne_of_lt (blk_lt (g := gb331) (o := .cells #[.slice Ao32 t324.length co32, .slice Ao34 t327.length co34] 27 (0, 0)) (zk BK331)) : gb331 ≠ gb355))
           have n16_ := Z0 ((by rw [hg]; exact Nat.ne_of_gt (blk_lt (g := gb331) (o := .cells #[.slice Ao32 t324.length co32, .slice Ao34 t327.length co34] 27 (0, 0)) (zk BK331)) : gb355 ≠ gb331))
           clear HO_332000
           clear HO_332001
           clear HO338
           clear HO341
           clear BK307
           clear BK308
           clear BK331
           clear HB
           have HO_332000 := n0_
           have HO_332001 := n1_
           have HO338 := n2_
           have HO341 := n3_
           have BK307 := n4_
           have BK308 := n5_
           have BK331 := n6_
           have HB := n7_
           have BK355 := n8_
           have GW355 := n9_
           have GE355 := n10_
           have NB307_355 := n11_
           have NB355_307 := n12_
           have NB308_355 := n13_
           have NB355_308 := n14_
           have NB331_355 := n15_
           have NB355_331 := n16_
           clear n0_ n1_ n2_ n3_ n4_ n5_ n6_ n7_ n8_ n9_ n10_ n11_ n12_ n13_ n14_ n15_ n16_
           clear hb hbox hg
           refine hK.out _ _ ⟨(kc BK307.out 0).trans rfl, (kc BK307.out 1).trans rfl, (kc BK331.out 0).trans rfl, (kc BK331.out 1).trans rfl⟩ (fun hHeld => ?_)
           clear hK K
           refine norm_ (a' := ?_) ?_ ?_
           rotate_left
           ·show Act.put _ (some 8) _ = _
            simp only [Act.put, y0, y1, y2, i64_w, i32_w]
            rfl
           refine one_ (i := 3) (N := some 69) (bz 11 271) rfl rfl (one_of HT_.out (by kernel_rfl)) (by decide) (fun K hK => ?_)
           refine zg Try.func13 #[.agg #[.slice Ao32 t324.length co32, .slice Ao34 t327.length co34]] ?_
           with_reducible refine (trefoillaw11_Own.calls _ _ t324 _ _ t327 t342 t345 _ ?side1 ?side2 ?side3 ?side4 A59.out).mono ?_
           (case side1 => exact zc (rr HO_332000.out).2.2)
           (case side2 => exact (rr HO_332000.out).2.1)
           (case side3 => exact zc (rr HO_332001.out).2.2)
           (case side4 => exact (rr HO_332001.out).2.1)
           rintro e w79 ⟨v343, v346, rfl, ho0, ho1, hb⟩
           refine ⟨_, rfl, ?_⟩
           have n0_ := Z0 (rm (rt (rt (ro (zr HO_332000) hb) (rb ho0)) (rb ho1)) (fun _ h_ => h_.1))
           have n1_ := Z0 (rm (rt (rt (ro (zr HO_332001) hb) (rb ho0)) (rb ho1)) (fun _ h_ => h_.1))
           have n2_ := Z0 (rm (rt (rt (ro (zr HO338) hb) (rb ho0)) (rb ho1)) (fun _ h_ => h_.1))
           have n3_ := Z0 (rbe (zr HO341) hb)
           have n4_ := Z0 (rl (rw_ (rw_ (rw_ ho0 (rlt (zr HO_332000))) (rlt (zr HO_332001))) (rlt (zr HO338))) (below_size (zb HB)))
           have n5_ := Z0 (rl (rw_ (rw_ (rw_ ho1 (rlt (zr HO_332000))) (rlt (zr HO_332001))) (rlt (zr HO338))) (below_size (zb HB)))
           have n6_ := Z0 (kb (g := gb307) (o := .cells #[.slice A0_0 l0_0.length c0_0, .slice A0_1 l0_1.length c0_1] 25 (0, 0)) (zk BK307) hb)
           have n7_ := Z0 (kb (g := gb308) (o := .cells #[.slice A1_0 l1_0.length c1_0, .slice A1_1 l1_1.length c1_1] 27 (0, 0)) (zk BK308) hb)
           have n8_ := Z0 (kb (g := gb331) (o := .cells #[.slice Ao32 t324.length co32, .slice Ao34 t327.length co34] 27 (0, 0)) (zk BK331) hb)
           have n9_ := Z0 (kb (g := gb355) (o := .cells #[.slice none 0 0, .slice none 0 0] 27 (0, 0)) (zk BK355) hb)
           have n10_ := Z0 (below_step (zb HB) hb)
           clear HO_332000
           clear HO_332001
           clear HO338
           clear HO341
           clear BK307
           clear BK308
           clear BK331
           clear BK355
           clear HB
           have HO_332000 := n0_
           have HO_332001 := n1_
           have HO338 := n2_
           have HO341 := n3_
           have HO344 := n4_
           have HO347 := n5_
           have BK307 := n6_
           have BK308 := n7_
           have BK331 := n8_
           have BK355 := n9_
           have HB := n10_
           clear n0_ n1_ n2_ n3_ n4_ n5_ n6_ n7_ n8_ n9_ n10_
           (try clear hb)
           (try clear hb2)
           (try clear hk)
           (try clear hi)
           (try clear ho0)
           (try clear ho1)
           obtain ⟨Ao80, co80, eo80⟩ := Kd.R_slice HO338.out
           (first | subst eo80 | (injection eo80 with f1_ f2_ f3_; have f4_ := f1_.symm; have f5_ := f3_.symm; clear f1_ f2_ f3_; subst f4_; subst f5_))
           obtain ⟨Ao81, co81, eo81⟩ := Kd.R_slice HO341.out
           (first | subst eo81 | (injection eo81 with f1_ f2_ f3_; have f4_ := f1_.symm; have f5_ := f3_.symm; clear f1_ f2_ f3_; subst f4_; subst f5_))
           obtain ⟨Ao82, co82, eo82⟩ := Kd.R_slice HO344.out
           (first | subst eo82 | (injection eo82 with f1_ f2_ f3_; have f4_ := f1_.symm; have f5_ := f3_.symm; clear f1_ f2_ f3_; subst f4_; subst f5_))
           obtain ⟨Ao83, co83, eo83⟩ := Kd.R_slice HO347.out
           (first | subst eo83 | (injection eo83 with f1_ f2_ f3_; have f4_ := f1_.symm; have f5_ := f3_.symm; clear f1_ f2_ f3_; subst f4_; subst f5_))
           refine hK.out _ _ ⟨(kc BK307.out 0).trans rfl, (kc BK307.out 1).trans rfl, (kc BK331.out 0).trans rfl, (kc BK331.out 1).trans rfl⟩ (fun hHeld => ?_)
           clear hK K
           refine norm_ (a' := ?_) ?_ ?_
           rotate_left
           ·show Act.put _ (some 69) _ = _
            simp only [Act.put, y0, y1, y2, i64_w, i32_w]
            rfl
           refine one_ (i := 4) (N := some 70) (bz 11 287) rfl rfl (one_of HT_.out (by kernel_rfl)) (by decide) (fun K hK => ?_)
           refine zg Try.func11 #[.agg #[.slice Ao80 t336.length co80, .slice Ao81 t339.length co81], .agg #[.slice Ao82 t342.length co82, .slice Ao83 t345.length co83]] ?_
           with_reducible refine (list_Fill.calls _ _ t336 _ _ t339 _ _ t342 _ _ t345 t348 t351 t354 _ ?side1 ?side2 ?side3 ?side4 ?side5 ?side6 ?side7 ?side8 A60.out).mono ?_
           (case side1 => exact zc (rr HO338.out).2.2)
           (case side2 => exact (rr HO338.out).2.1)
           (case side3 => exact zc (rr HO341.out).2.2)
           (case side4 => exact (rr HO341.out).2.1)
           (case side5 => exact zc (rr HO344.out).2.2)
           (case side6 => exact (rr HO344.out).2.1)
           (case side7 => exact zc (rr HO347.out).2.2)
           (case side8 => exact (rr HO347.out).2.1)
           rintro e w84 ⟨v349, v352, rfl, ho0, ho1, hb⟩
           refine ⟨_, rfl, ?_⟩
           have n0_ := Z0 (rm (rt (rt (ro (zr HO_332000) hb) (rb ho0)) (rb ho1)) (fun _ h_ => h_.1))
           have n1_ := Z0 (rm (rt (rt (ro (zr HO_332001) hb) (rb ho0)) (rb ho1)) (fun _ h_ => h_.1))
           have n2_ := Z0 (rm (rt (rt (ro (zr HO338) hb) (rb ho0)) (rb ho1)) (fun _ h_ => h_.1))
           have n3_ := Z0 (rbe (zr HO341) hb)
           have n4_ := Z0 (rm (rt (rt (ro (zr HO344) hb) (rb ho0)) (rb ho1)) (fun _ h_ => h_.1))
           have n5_ := Z0 (rm (rt (rt (ro (zr HO347) hb) (rb ho0)) (rb ho1)) (fun _ h_ => h_.1))
           have n6_ := Z0 (rl (rw_ (rw_ (rw_ (rw_ (rw_ ho0 (rlt (zr HO_332000))) (rlt (zr HO_332001))) (rlt (zr HO338))) (rlt (zr HO344))) (rlt (zr HO347))) (below_size (zb HB)))
           have n7_ := Z0 (rl (rw_ (rw_ (rw_ (rw_ (rw_ ho1 (rlt (zr HO_332000))) (rlt (zr HO_332001))) (rlt (zr HO338))) (rlt (zr HO344))) (rlt (zr HO347))) (below_size (zb HB)))
           have n8_ := Z0 (kb (g := gb307) (o := .cells #[.slice A0_0 l0_0.length c0_0, .slice A0_1 l0_1.length c0_1] 25 (0, 0)) (zk BK307) hb)
           have n9_ := Z0 (kb (g := gb308) (o := .cells #[.slice A1_0 l1_0.length c1_0, .slice A1_1 l1_1.length c1_1] 27 (0, 0)) (zk BK308) hb)
           have n10_ := Z0 (kb (g := gb331) (o := .cells #[.slice Ao32 t324.length co32, .slice Ao34 t327.length co34] 27 (0, 0)) (zk BK331) hb)
           have n11_ := Z0 (kb (g := gb355) (o := .cells #[.slice none 0 0, .slice none 0 0] 27 (0, 0)) (zk BK355) hb)
           have n12_ := Z0 (below_step (zb HB) hb)
           clear HO_332000
           clear HO_332001
           clear HO338
           clear HO341
           clear HO344
           clear HO347
           clear BK307
           clear BK308
           clear BK331
           clear BK355
           clear HB
           have HO_332000 := n0_
           have HO_332001 := n1_
           have HO338 := n2_
           have HO341 := n3_
           have HO344 := n4_
           have HO347 := n5_
           have HO350 := n6_
           have HO353 := n7_
           have BK307 := n8_
           have BK308 := n9_
           have BK331 := n10_
           have BK355 := n11_
           have HB := n12_
           clear n0_ n1_ n2_ n3_ n4_ n5_ n6_ n7_ n8_ n9_ n10_ n11_ n12_
           (try clear hb)
           (try clear hb2)
           (try clear hk)
           (try clear hi)
           (try clear ho0)
           (try clear ho1)
           refine hK.out _ _ ⟨(kc BK307.out 0).trans rfl, (kc BK307.out 1).trans rfl, (kc BK331.out 0).trans rfl, (kc BK331.out 1).trans rfl⟩ (fun hHeld => ?_)
           clear hK K
           refine norm_ (a' := ?_) ?_ ?_
           rotate_left
           ·show Act.put _ (some 70) _ = _
            simp only [Act.put, y0, y1, y2, i64_w, i32_w]
            rfl
           refine pu 5 (some 65) (bz 11 319) HT_ ?_
           refine pu 6 (some 71) (bz 11 383) HT_ ?_
           refine pu 7 (some 72) (bz 11 511) HT_ ?_
           exact norm_ (by simp only [putAll, Act.put, y0, y1, y2]) (hCont (.slice Ao80 t336.length co80, .slice Ao81 t339.length co81, .slice Ao82 t342.length co82, .slice Ao83 t345.length co83, v349, v352, gb355) _ ⟨hHeld, (by (with_reducible repeat (first | apply ra | apply rn | apply rd_)); exact rm HO338.out (fun _ hk => ⟨hk.1.1.1.2, ⟨hk.1.1.2, ⟨hk.1.2, ⟨hk.2, ⟨hk.1.1.1.1.1.2, hk.1.1.1.1.2⟩⟩⟩⟩⟩)), (zr HO341), (by (with_reducible repeat (first | apply ra | apply rn | apply rd_)); exact rm HO344.out (fun _ hk => ⟨hk.1.1.2, ⟨hk.1.1.1.1.1, ⟨hk.1.2, ⟨hk.2, ⟨hk.1.1.1.1.2, hk.1.1.1.2⟩⟩⟩⟩⟩)), (by (with_reducible repeat (first | apply ra | apply rn | apply rd_)); exact rm HO347.out (fun _ hk => ⟨hk.1.1.2, ⟨hk.1.1.1.1.1, ⟨hk.1.2, ⟨hk.2, ⟨hk.1.1.1.1.2, hk.1.1.1.2⟩⟩⟩⟩⟩)), (by (with_reducible repeat (first | apply ra | apply rn | apply rd_)); exact rm HO350.out (fun _ hk => ⟨hk.1.1.2, ⟨hk.1.2, ⟨hk.2, ⟨hk.1.1.1.1.1, ⟨hk.1.1.1.1.2, hk.1.1.1.2⟩⟩⟩⟩⟩)), (by (with_reducible repeat (first | apply ra | apply rn | apply rd_)); exact rm HO353.out (fun _ hk => ⟨hk.1.1.2, ⟨hk.1.2, ⟨hk.2, ⟨hk.1.1.1.1.1, ⟨hk.1.1.1.1.2, hk.1.1.1.2⟩⟩⟩⟩⟩)), (by (with_reducible repeat (first | apply ra | apply rn | apply rd_)); exact rm HO_332000.out (fun _ hk => ⟨hk.1.1.1.1.2, ⟨hk.1.1.1.2, ⟨hk.1.1.2, ⟨hk.1.2, ⟨hk.2, hk.1.1.1.1.1⟩⟩⟩⟩⟩)), (by (with_reducible repeat (first | apply ra | apply rn | apply rd_)); exact rm HO_332001.out (fun _ hk => ⟨hk.1.1.1.1.2, ⟨hk.1.1.1.2, ⟨hk.1.1.2, ⟨hk.1.2, ⟨hk.2, hk.1.1.1.1.1⟩⟩⟩⟩⟩)), (zk BK307), (zk BK308), (zk BK331), (zk BK355), GW355.out, GE355.out, NB307_355.out, NB355_307.out, NB308_355.out, NB355_308.out, NB331_355.out, NB355_331.out, (zb HB)⟩)
         ·skip
          refine box_step ?hg (N := 8) ?hd (cs := #[.slice none 0 0, .slice none 0 0]) (t := 27) ?hr ?_; (case hd => rfl); (case hg => rfl); (case hr => first | (go_simp; done) | (go_simp; rfl))
          intro gb355 hg w77 hbox hb
          have n0_ := Z0 (rbe (zr HO_332000) hb)
          have n1_ := Z0 (rbe (zr HO_332001) hb)
          have n2_ := Z0 (kb (g := gb307) (o := .cells #[.slice A0_0 l0_0.length c0_0, .slice A0_1 l0_1.length c0_1] 25 (0, 0)) (zk BK307) hb)
          have n3_ := Z0 (kb (g := gb308) (o := .cells #[.slice A1_0 l1_0.length c1_0, .slice A1_1 l1_1.length c1_1] 27 (0, 0)) (zk BK308) hb)
          have n4_ := Z0 (kb (g := gb331) (o := .cells #[.slice Ao32 t324.length co32, .slice Ao34 t327.length co34] 27 (0, 0)) (zk BK331) hb)
          have n5_ := Z0 (below_step (zb HB) hb)
          have n6_ := Z0 (hbox)
          have n7_ := Z0 ((by rw [hg]; exact (below_size (zb HB)) : w.heap.size ≤ gb355))
          have n8_ := Z0 ((by rw [hg]; exact (below_size (zb HB)) : w.heap.size ≤ gb355))
          have n9_ := Z0 ((by rw [hg]; exact Nat.ne_of_lt (blk_lt (g := gb307) (o := .cells #[.slice A0_0 l0_0.length c0_0, .slice A0_1 l0_1.length c0_1] 25 (0, 0)) (zk BK307)) : gb307 ≠ gb355))
          have n10_ := Z0 ((by rw [hg]; exact Nat.ne_of_gt (blk_lt (g := gb307) (o := .cells #[.slice A0_0 l0_0.length c0_0, .slice A0_1 l0_1.length c0_1] 25 (0, 0)) (zk BK307)) : gb355 ≠ gb307))
          have n11_ := Z0 ((by rw [hg]; exact Nat.ne_of_lt (blk_lt (g := gb308) (o := .cells #[.slice A1_0 l1_0.length c1_0, .slice A1_1 l1_1.length c1_1] 27 (0, 0)) (zk BK308)) : gb308 ≠ gb355))
          have n12_ := Z0 ((by rw [hg]; exact Nat.ne_of_gt (blk_lt (g := gb308) (o := .cells #[.slice A1_0 l1_0.length c1_0, .slice A1_1 l1_1.length c1_1] 27 (0, 0)) (zk BK308)) : gb355 ≠ gb308))
          have n13_ := Z0 ((by rw [hg]; exact Nat.ne_of_lt (blk_lt (g := gb331) (o := .cells #[.slice Ao32 t324.length co32, .slice Ao34 t327.length co34] 27 (0, 0)) (zk BK331)) : gb331 ≠ gb355))
          have n14_ := Z0 ((by rw [hg]; exact Nat.ne_of_gt (blk_lt (g := gb331) (o := .cells #[.slice Ao32 t324.length co32, .slice Ao34 t327.length co34] 27 (0, 0)) (zk BK331)) : gb355 ≠ gb331))
          clear HO_332000
          clear HO_332001
          clear BK307
          clear BK308
          clear BK331
          clear HB
          have HO_332000 := n0_
          have HO_332001 := n1_
          have BK307 := n2_
          have BK308 := n3_
          have BK331 := n4_
          have HB := n5_
          have BK355 := n6_
          have GW355 := n7_
          have GE355 := n8_
          have NB307_355 := n9_
          have NB355_307 := n10_
          have NB308_355 := n11_
          have NB355_308 := n12_
          have NB331_355 := n13_
          have NB355_331 := n14_
          clear n0_ n1_ n2_ n3_ n4_ n5_ n6_ n7_ n8_ n9_ n10_ n11_ n12_ n13_ n14_
          clear hb hbox hg
          refine hK.out _ _ ⟨(kc BK307.out 0).trans rfl, (kc BK307.out 1).trans rfl, (kc BK331.out 0).trans rfl, (kc BK331.out 1).trans rfl⟩ (fun hHeld => ?_)
          clear hK K
          refine norm_ (a' := ?_) ?_ ?_
          rotate_left
          ·show Act.put _ (some 8) _ = _
           simp only [Act.put, y0, y1, y2, i64_w, i32_w]
           rfl
          refine one_ (i := 1) (N := some 67) (bz 11 263) rfl rfl (one_of HT_.out (by kernel_rfl)) (by decide) (fun K hK => ?_)
          refine zg Try.func12 #[.agg #[.slice A0_0 l0_0.length c0_0, .slice A0_1 l0_1.length c0_1]] ?_
          with_reducible refine (trefoillaw04_Own.calls _ _ l0_0 _ _ l0_1 t336 t339 _ ?side1 ?side2 ?side3 ?side4 A58.out).mono ?_
          (case side1 => exact zc (Kd.C_below HR0_0.out HB.out))
          (case side2 => exact HC0_0.out)
          (case side3 => exact zc (Kd.C_below HR0_1.out HB.out))
          (case side4 => exact HC0_1.out)
          rintro e w78 ⟨v337, v340, rfl, ho0, ho1, hb⟩
          refine ⟨_, rfl, ?_⟩
          have n0_ := Z0 (Kd.R_elder' (zr HO_332000) (rb ho0) hb)
          have n1_ := Z0 (Kd.R_elder' (zr HO_332001) (rb ho0) hb)
          have n2_ := Z0 (rl (rw_ (rw_ ho0 (rlt (zr HO_332000))) (rlt (zr HO_332001))) (below_size (zb HB)))
          have n3_ := Z0 (rl ho1 (below_size (zb HB)))
          have n4_ := Z0 (kb (g := gb307) (o := .cells #[.slice A0_0 l0_0.length c0_0, .slice A0_1 l0_1.length c0_1] 25 (0, 0)) (zk BK307) hb)
          have n5_ := Z0 (kb (g := gb308) (o := .cells #[.slice A1_0 l1_0.length c1_0, .slice A1_1 l1_1.length c1_1] 27 (0, 0)) (zk BK308) hb)
          have n6_ := Z0 (kb (g := gb331) (o := .cells #[.slice Ao32 t324.length co32, .slice Ao34 t327.length co34] 27 (0, 0)) (zk BK331) hb)
          have n7_ := Z0 (kb (g := gb355) (o := .cells #[.slice none 0 0, .slice none 0 0] 27 (0, 0)) (zk BK355) hb)
          have n8_ := Z0 (below_step (zb HB) hb)
          clear HO_332000
          clear HO_332001
          clear BK307
          clear BK308
          clear BK331
          clear BK355
          clear HB
          have HO_332000 := n0_
          have HO_332001 := n1_
          have HO338 := n2_
          have HO341 := n3_
          have BK307 := n4_
          have BK308 := n5_
          have BK331 := n6_
          have BK355 := n7_
          have HB := n8_
          clear n0_ n1_ n2_ n3_ n4_ n5_ n6_ n7_ n8_
          (try clear hb)
          (try clear hb2)
          (try clear hk)
          (try clear hi)
          (try clear ho0)
          (try clear ho1)
          refine hK.out _ _ ⟨(kc BK307.out 0).trans rfl, (kc BK307.out 1).trans rfl, (kc BK331.out 0).trans rfl, (kc BK331.out 1).trans rfl⟩ (fun hHeld => ?_)
          clear hK K
          refine norm_ (a' := ?_) ?_ ?_
          rotate_left
          ·show Act.put _ (some 67) _ = _
           simp only [Act.put, y0, y1, y2, i64_w, i32_w]
           rfl
          refine one_ (i := 3) (N := some 69) (bz 11 271) rfl rfl (one_of HT_.out (by kernel_rfl)) (by decide) (fun K hK => ?_)
          refine zg Try.func13 #[.agg #[.slice Ao32 t324.length co32, .slice Ao34 t327.length co34]] ?_
          with_reducible refine (trefoillaw11_Own.calls _ _ t324 _ _ t327 t342 t345 _ ?side1 ?side2 ?side3 ?side4 A59.out).mono ?_
          (case side1 => exact zc (rr HO_332000.out).2.2)
          (case side2 => exact (rr HO_332000.out).2.1)
          (case side3 => exact zc (rr HO_332001.out).2.2)
          (case side4 => exact (rr HO_332001.out).2.1)
          rintro e w79 ⟨v343, v346, rfl, ho0, ho1, hb⟩
          refine ⟨_, rfl, ?_⟩
          have n0_ := Z0 (rm (rt (rt (ro (zr HO_332000) hb) (rb ho0)) (rb ho1)) (fun _ h_ => h_.1))
          have n1_ := Z0 (rm (rt (rt (ro (zr HO_332001) hb) (rb ho0)) (rb ho1)) (fun _ h_ => h_.1))
          have n2_ := Z0 (rm (rt (rt (ro (zr HO338) hb) (rb ho0)) (rb ho1)) (fun _ h_ => h_.1))
          have n3_ := Z0 (rbe (zr HO341) hb)
          have n4_ := Z0 (rl (rw_ (rw_ (rw_ ho0 (rlt (zr HO_332000))) (rlt (zr HO_332001))) (rlt (zr HO338))) (below_size (zb HB)))
          have n5_ := Z0 (rl (rw_ (rw_ (rw_ ho1 (rlt (zr HO_332000))) (rlt (zr HO_332001))) (rlt (zr HO338))) (below_size (zb HB)))
          have n6_ := Z0 (kb (g := gb307) (o := .cells #[.slice A0_0 l0_0.length c0_0, .slice A0_1 l0_1.length c0_1] 25 (0, 0)) (zk BK307) hb)
          have n7_ := Z0 (kb (g := gb308) (o := .cells #[.slice A1_0 l1_0.length c1_0, .slice A1_1 l1_1.length c1_1] 27 (0, 0)) (zk BK308) hb)
          have n8_ := Z0 (kb (g := gb331) (o := .cells #[.slice Ao32 t324.length co32, .slice Ao34 t327.length co34] 27 (0, 0)) (zk BK331) hb)
          have n9_ := Z0 (kb (g := gb355) (o := .cells #[.slice none 0 0, .slice none 0 0] 27 (0, 0)) (zk BK355) hb)
          have n10_ := Z0 (below_step (zb HB) hb)
          clear HO_332000
          clear HO_332001
          clear HO338
          clear HO341
          clear BK307
          clear BK308
          clear BK331
          clear BK355
          clear HB
          have HO_332000 := n0_
          have HO_332001 := n1_
          have HO338 := n2_
          have HO341 := n3_
          have HO344 := n4_
          have HO347 := n5_
          have BK307 := n6_
          have BK308 := n7_
          have BK331 := n8_
          have BK355 := n9_
          have HB := n10_
          clear n0_ n1_ n2_ n3_ n4_ n5_ n6_ n7_ n8_ n9_ n10_
          (try clear hb)
          (try clear hb2)
          (try clear hk)
          (try clear hi)
          (try clear ho0)
          (try clear ho1)
          obtain ⟨Ao80, co80, eo80⟩ := Kd.R_slice HO338.out
          (first | subst eo80 | (injection eo80 with f1_ f2_ f3_; have f4_ := f1_.symm; have f5_ := f3_.symm; clear f1_ f2_ f3_; subst f4_; subst f5_))
          obtain ⟨Ao81, co81, eo81⟩ := Kd.R_slice HO341.out
          (first | subst eo81 | (injection eo81 with f1_ f2_ f3_; have f4_ := f1_.symm; have f5_ := f3_.symm; clear f1_ f2_ f3_; subst f4_; subst f5_))
          obtain ⟨Ao82, co82, eo82⟩ := Kd.R_slice HO344.out
          (first | subst eo82 | (injection eo82 with f1_ f2_ f3_; have f4_ := f1_.symm; have f5_ := f3_.symm; clear f1_ f2_ f3_; subst f4_; subst f5_))
          obtain ⟨Ao83, co83, eo83⟩ := Kd.R_slice HO347.out
          (first | subst eo83 | (injection eo83 with f1_ f2_ f3_; have f4_ := f1_.symm; have f5_ := f3_.symm; clear f1_ f2_ f3_; subst f4_; subst f5_))
          refine hK.out _ _ ⟨(kc BK307.out 0).trans rfl, (kc BK307.out 1).trans rfl, (kc BK331.out 0).trans rfl, (kc BK331.out 1).trans rfl⟩ (fun hHeld => ?_)
          clear hK K
          refine norm_ (a' := ?_) ?_ ?_
          rotate_left
          ·show Act.put _ (some 69) _ = _
           simp only [Act.put, y0, y1, y2, i64_w, i32_w]
           rfl
          refine one_ (i := 4) (N := some 70) (bz 11 287) rfl rfl (one_of HT_.out (by kernel_rfl)) (by decide) (fun K hK => ?_)
          refine zg Try.func11 #[.agg #[.slice Ao80 t336.length co80, .slice Ao81 t339.length co81], .agg #[.slice Ao82 t342.length co82, .slice Ao83 t345.length co83]] ?_
          with_reducible refine (list_Fill.calls _ _ t336 _ _ t339 _ _ t342 _ _ t345 t348 t351 t354 _ ?side1 ?side2 ?side3 ?side4 ?side5 ?side6 ?side7 ?side8 A60.out).mono ?_
          (case side1 => exact zc (rr HO338.out).2.2)
          (case side2 => exact (rr HO338.out).2.1)
          (case side3 => exact zc (rr HO341.out).2.2)
          (case side4 => exact (rr HO341.out).2.1)
          (case side5 => exact zc (rr HO344.out).2.2)
          (case side6 => exact (rr HO344.out).2.1)
          (case side7 => exact zc (rr HO347.out).2.2)
          (case side8 => exact (rr HO347.out).2.1)
          rintro e w84 ⟨v349, v352, rfl, ho0, ho1, hb⟩
          refine ⟨_, rfl, ?_⟩
          have n0_ := Z0 (rm (rt (rt (ro (zr HO_332000) hb) (rb ho0)) (rb ho1)) (fun _ h_ => h_.1))
          have n1_ := Z0 (rm (rt (rt (ro (zr HO_332001) hb) (rb ho0)) (rb ho1)) (fun _ h_ => h_.1))
          have n2_ := Z0 (rm (rt (rt (ro (zr HO338) hb) (rb ho0)) (rb ho1)) (fun _ h_ => h_.1))
          have n3_ := Z0 (rbe (zr HO341) hb)
          have n4_ := Z0 (rm (rt (rt (ro (zr HO344) hb) (rb ho0)) (rb ho1)) (fun _ h_ => h_.1))
          have n5_ := Z0 (rm (rt (rt (ro (zr HO347) hb) (rb ho0)) (rb ho1)) (fun _ h_ => h_.1))
          have n6_ := Z0 (rl (rw_ (rw_ (rw_ (rw_ (rw_ ho0 (rlt (zr HO_332000))) (rlt (zr HO_332001))) (rlt (zr HO338))) (rlt (zr HO344))) (rlt (zr HO347))) (below_size (zb HB)))
          have n7_ := Z0 (rl (rw_ (rw_ (rw_ (rw_ (rw_ ho1 (rlt (zr HO_332000))) (rlt (zr HO_332001))) (rlt (zr HO338))) (rlt (zr HO344))) (rlt (zr HO347))) (below_size (zb HB)))
          have n8_ := Z0 (kb (g := gb307) (o := .cells #[.slice A0_0 l0_0.length c0_0, .slice A0_1 l0_1.length c0_1] 25 (0, 0)) (zk BK307) hb)
          have n9_ := Z0 (kb (g := gb308) (o := .cells #[.slice A1_0 l1_0.length c1_0, .slice A1_1 l1_1.length c1_1] 27 (0, 0)) (zk BK308) hb)
          have n10_ := Z0 (kb (g := gb331) (o := .cells #[.slice Ao32 t324.length co32, .slice Ao34 t327.length co34] 27 (0, 0)) (zk BK331) hb)
          have n11_ := Z0 (kb (g := gb355) (o := .cells #[.slice none 0 0, .slice none 0 0] 27 (0, 0)) (zk BK355) hb)
          have n12_ := Z0 (below_step (zb HB) hb)
          clear HO_332000
          clear HO_332001
          clear HO338
          clear HO341
          clear HO344
          clear HO347
          clear BK307
          clear BK308
          clear BK331
          clear BK355
          clear HB
          have HO_332000 := n0_
          have HO_332001 := n1_
          have HO338 := n2_
          have HO341 := n3_
          have HO344 := n4_
          have HO347 := n5_
          have HO350 := n6_
          have HO353 := n7_
          have BK307 := n8_
          have BK308 := n9_
          have BK331 := n10_
          have BK355 := n11_
          have HB := n12_
          clear n0_ n1_ n2_ n3_ n4_ n5_ n6_ n7_ n8_ n9_ n10_ n11_ n12_
          (try clear hb)
          (try clear hb2)
          (try clear hk)
          (try clear hi)
          (try clear ho0)
          (try clear ho1)
          refine hK.out _ _ ⟨(kc BK307.out 0).trans rfl, (kc BK307.out 1).trans rfl, (kc BK331.out 0).trans rfl, (kc BK331.out 1).trans rfl⟩ (fun hHeld => ?_)
          clear hK K
          refine norm_ (a' := ?_) ?_ ?_
          rotate_left
          ·show Act.put _ (some 70) _ = _
           simp only [Act.put, y0, y1, y2, i64_w, i32_w]
           rfl
          refine pu 5 (some 65) (bz 11 319) HT_ ?_
          refine pu 6 (some 71) (bz 11 383) HT_ ?_
          refine pu 7 (some 72) (bz 11 511) HT_ ?_
          exact norm_ (by simp only [putAll, Act.put, y0, y1, y2]) (hCont (.slice Ao80 t336.length co80, .slice Ao81 t339.length co81, .slice Ao82 t342.length co82, .slice Ao83 t345.length co83, v349, v352, gb355) _ ⟨hHeld, (by (with_reducible repeat (first | apply ra | apply rn | apply rd_)); exact rm HO338.out (fun _ hk => ⟨hk.1.1.1.2, ⟨hk.1.1.2, ⟨hk.1.2, ⟨hk.2, ⟨hk.1.1.1.1.1.2, hk.1.1.1.1.2⟩⟩⟩⟩⟩)), (zr HO341), (by (with_reducible repeat (first | apply ra | apply rn | apply rd_)); exact rm HO344.out (fun _ hk => ⟨hk.1.1.2, ⟨hk.1.1.1.1.1, ⟨hk.1.2, ⟨hk.2, ⟨hk.1.1.1.1.2, hk.1.1.1.2⟩⟩⟩⟩⟩)), (by (with_reducible repeat (first | apply ra | apply rn | apply rd_)); exact rm HO347.out (fun _ hk => ⟨hk.1.1.2, ⟨hk.1.1.1.1.1, ⟨hk.1.2, ⟨hk.2, ⟨hk.1.1.1.1.2, hk.1.1.1.2⟩⟩⟩⟩⟩)), (by (with_reducible repeat (first | apply ra | apply rn | apply rd_)); exact rm HO350.out (fun _ hk => ⟨hk.1.1.2, ⟨hk.1.2, ⟨hk.2, ⟨hk.1.1.1.1.1, ⟨hk.1.1.1.1.2, hk.1.1.1.2⟩⟩⟩⟩⟩)), (by (with_reducible repeat (first | apply ra | apply rn | apply rd_)); exact rm HO353.out (fun _ hk => ⟨hk.1.1.2, ⟨hk.1.2, ⟨hk.2, ⟨hk.1.1.1.1.1, ⟨hk.1.1.1.1.2, hk.1.1.1.2⟩⟩⟩⟩⟩)), (by (with_reducible repeat (first | apply ra | apply rn | apply rd_)); exact rm HO_332000.out (fun _ hk => ⟨hk.1.1.1.1.2, ⟨hk.1.1.1.2, ⟨hk.1.1.2, ⟨hk.1.2, ⟨hk.2, hk.1.1.1.1.1⟩⟩⟩⟩⟩)), (by (with_reducible repeat (first | apply ra | apply rn | apply rd_)); exact rm HO_332001.out (fun _ hk => ⟨hk.1.1.1.1.2, ⟨hk.1.1.1.2, ⟨hk.1.1.2, ⟨hk.1.2, ⟨hk.2, hk.1.1.1.1.1⟩⟩⟩⟩⟩)), (zk BK307), (zk BK308), (zk BK331), (zk BK355), GW355.out, GE355.out, NB307_355.out, NB355_307.out, NB308_355.out, NB355_308.out, NB331_355.out, NB355_331.out, (zb HB)⟩)
        rintro ⟨v337, v340, v343, v346, v349, v352, gb355⟩ w85 ⟨hS_, h0_, h1_, h2_, h3_, h4_, h5_, h6_, h7_, h8_, h9_, h10_, h11_, h12_, h13_, h14_, h15_, h16_, h17_, h18_, h19_, h20_⟩
        have n0_ : Aside0 (Kd.R (Kd.int .i64) 3 w85 w.heap.size (fun k_ => some k_ ≠ (v343 : Value).ownBlock ∧ some k_ ≠ (v346 : Value).ownBlock ∧ some k_ ≠ (v349 : Value).ownBlock ∧ some k_ ≠ (v352 : Value).ownBlock ∧ some k_ ≠ (.slice Ao32 t324.length co32 : Value).ownBlock ∧ some k_ ≠ (.slice Ao34 t327.length co34 : Value).ownBlock) v337 t336) := ⟨h0_⟩
        have n1_ : Aside0 (Kd.R k85 85 w85 w.heap.size (fun _ => True) v340 t339) := ⟨h1_⟩
        have n2_ : Aside0 (Kd.R (Kd.int .i64) 3 w85 w.heap.size (fun k_ => some k_ ≠ (v337 : Value).ownBlock ∧ some k_ ≠ (v346 : Value).ownBlock ∧ some k_ ≠ (v349 : Value).ownBlock ∧ some k_ ≠ (v352 : Value).ownBlock ∧ some k_ ≠ (.slice Ao32 t324.length co32 : Value).ownBlock ∧ some k_ ≠ (.slice Ao34 t327.length co34 : Value).ownBlock) v343 t342) := ⟨h2_⟩
        have n3_ : Aside0 (Kd.R (Kd.int .i64) 3 w85 w.heap.size (fun k_ => some k_ ≠ (v337 : Value).ownBlock ∧ some k_ ≠ (v343 : Value).ownBlock ∧ some k_ ≠ (v349 : Value).ownBlock ∧ some k_ ≠ (v352 : Value).ownBlock ∧ some k_ ≠ (.slice Ao32 t324.length co32 : Value).ownBlock ∧ some k_ ≠ (.slice Ao34 t327.length co34 : Value).ownBlock) v346 t345) := ⟨h3_⟩
        have n4_ : Aside0 (Kd.R (Kd.int .i64) 3 w85 w.heap.size (fun k_ => some k_ ≠ (v337 : Value).ownBlock ∧ some k_ ≠ (v343 : Value).ownBlock ∧ some k_ ≠ (v346 : Value).ownBlock ∧ some k_ ≠ (v352 : Value).ownBlock ∧ some k_ ≠ (.slice Ao32 t324.length co32 : Value).ownBlock ∧ some k_ ≠ (.slice Ao34 t327.length co34 : Value).ownBlock) v349 t348) := ⟨h4_⟩
        have n5_ : Aside0 (Kd.R (Kd.int .i64) 3 w85 w.heap.size (fun k_ => some k_ ≠ (v337 : Value).ownBlock ∧ some k_ ≠ (v343 : Value).ownBlock ∧ some k_ ≠ (v346 : Value).ownBlock ∧ some k_ ≠ (v349 : Value).ownBlock ∧ some k_ ≠ (.slice Ao32 t324.length co32 : Value).ownBlock ∧ some k_ ≠ (.slice Ao34 t327.length co34 : Value).ownBlock) v352 t351) := ⟨h5_⟩
        have n6_ : Aside0 (Kd.R (Kd.int .i64) 3 w85 w.heap.size (fun k_ => some k_ ≠ (v337 : Value).ownBlock ∧ some k_ ≠ (v343 : Value).ownBlock ∧ some k_ ≠ (v346 : Value).ownBlock ∧ some k_ ≠ (v349 : Value).ownBlock ∧ some k_ ≠ (v352 : Value).ownBlock ∧ some k_ ≠ (.slice Ao34 t327.length co34 : Value).ownBlock) (.slice Ao32 t324.length co32) t324) := ⟨h6_⟩
        have n7_ : Aside0 (Kd.R (Kd.int .i64) 3 w85 w.heap.size (fun k_ => some k_ ≠ (v337 : Value).ownBlock ∧ some k_ ≠ (v343 : Value).ownBlock ∧ some k_ ≠ (v346 : Value).ownBlock ∧ some k_ ≠ (v349 : Value).ownBlock ∧ some k_ ≠ (v352 : Value).ownBlock ∧ some k_ ≠ (.slice Ao32 t324.length co32 : Value).ownBlock) (.slice Ao34 t327.length co34) t327) := ⟨h7_⟩
        have n8_ : Aside0 (w85.heap[gb307]? = some (.cells #[.slice A0_0 l0_0.length c0_0, .slice A0_1 l0_1.length c0_1] 25 (0, 0))) := ⟨h8_⟩
        have n9_ : Aside0 (w85.heap[gb308]? = some (.cells #[.slice A1_0 l1_0.length c1_0, .slice A1_1 l1_1.length c1_1] 27 (0, 0))) := ⟨h9_⟩
        have n10_ : Aside0 (w85.heap[gb331]? = some (.cells #[.slice Ao32 t324.length co32, .slice Ao34 t327.length co34] 27 (0, 0))) := ⟨h10_⟩
        have n11_ : Aside0 (w85.heap[gb355]? = some (.cells #[.slice none 0 0, .slice none 0 0] 27 (0, 0))) := ⟨h11_⟩
        have n12_ : Aside0 (w.heap.size ≤ gb355) := ⟨h12_⟩
        have n13_ : Aside0 (w.heap.size ≤ gb355) := ⟨h13_⟩
        have n14_ : Aside0 (gb307 ≠ gb355) := ⟨h14_⟩
        have n15_ : Aside0 (gb355 ≠ gb307) := ⟨h15_⟩
        have n16_ : Aside0 (gb308 ≠ gb355) := ⟨h16_⟩
        have n17_ : Aside0 (gb355 ≠ gb308) := ⟨h17_⟩
        have n18_ : Aside0 (gb331 ≠ gb355) := ⟨h18_⟩
        have n19_ : Aside0 (gb355 ≠ gb331) := ⟨h19_⟩
        have n20_ : Aside0 (Below w.heap.size w w85) := ⟨h20_⟩
        clear HO_332000
        clear HO_332001
        clear BK307
        clear BK308
        clear BK331
        clear HB
        clear h0_ h1_ h2_ h3_ h4_ h5_ h6_ h7_ h8_ h9_ h10_ h11_ h12_ h13_ h14_ h15_ h16_ h17_ h18_ h19_ h20_
        have HO338 := n0_
        have HO341 := n1_
        have HO344 := n2_
        have HO347 := n3_
        have HO350 := n4_
        have HO353 := n5_
        have HO_332000 := n6_
        have HO_332001 := n7_
        have BK307 := n8_
        have BK308 := n9_
        have BK331 := n10_
        have BK355 := n11_
        have GW355 := n12_
        have GE355 := n13_
        have NB307_355 := n14_
        have NB355_307 := n15_
        have NB308_355 := n16_
        have NB355_308 := n17_
        have NB331_355 := n18_
        have NB355_331 := n19_
        have HB := n20_
        clear n0_ n1_ n2_ n3_ n4_ n5_ n6_ n7_ n8_ n9_ n10_ n11_ n12_ n13_ n14_ n15_ n16_ n17_ n18_ n19_ n20_
        have hHeld : w85.cell? ⟨gb307, 0, none⟩ = some (.slice A0_0 l0_0.length c0_0) ∧ w85.cell? ⟨gb307, 1, none⟩ = some (.slice A0_1 l0_1.length c0_1) ∧ w85.cell? ⟨gb331, 0, none⟩ = some (.slice Ao32 t324.length co32) ∧ w85.cell? ⟨gb331, 1, none⟩ = some (.slice Ao34 t327.length co34) := hS_
        obtain ⟨Ao86, co86, eo86⟩ := Kd.R_slice HO350.out
        (first | subst eo86 | (injection eo86 with f1_ f2_ f3_; have f4_ := f1_.symm; have f5_ := f3_.symm; clear f1_ f2_ f3_; subst f4_; subst f5_))
        obtain ⟨Ao88, co88, eo88⟩ := Kd.R_slice HO353.out
        (first | subst eo88 | (injection eo88 with f1_ f2_ f3_; have f4_ := f1_.symm; have f5_ := f3_.symm; clear f1_ f2_ f3_; subst f4_; subst f5_))
        refine norm_ (a' := ?_) ?_ ?_; rotate_left; simp only [putAll, Act.put, y0, y1, y2]; rfl
        refine one_ (i := 9) (N := none) (bz 11 1023) rfl rfl (one_of HT_.out (by kernel_rfl)) (by decide) (fun K hK => ?_)
        have hs87 : w85.cell? ⟨gb355, 0, none⟩ = some (.slice none 0 0) := (kc BK355.out 0).trans rfl
        have hfs87 := blk_frozen BK355.out 0
        have hns87_0 := NB307_355.out
        have hns87_1 := NB308_355.out
        have hns87_2 := NB331_355.out
        have hms87_0 := NB355_307.out
        have hms87_1 := NB355_308.out
        have hms87_2 := NB355_331.out
        have hs89 : w85.cell? ⟨gb355, 1, none⟩ = some (.slice none 0 0) := (kc BK355.out 1).trans rfl
        have hfs89 := blk_frozen BK355.out 1
        have hns89_0 := NB307_355.out
        have hns89_1 := NB308_355.out
        have hns89_2 := NB331_355.out
        have hms89_0 := NB355_307.out
        have hms89_1 := NB355_308.out
        have hms89_2 := NB355_331.out
        refine skip_ (w1 := ?_) (by rfl) rfl ?_ ?_; rotate_left; go_simp; rfl
        refine hK.out _ _ ⟨((cell_far (p := ⟨gb355, _, none⟩) NB307_355.out _).trans (((cell_far (p := ⟨gb355, _, none⟩) NB307_355.out _).trans (hHeld.1)))), ((cell_far (p := ⟨gb355, _, none⟩) NB307_355.out _).trans (((cell_far (p := ⟨gb355, _, none⟩) NB307_355.out _).trans (hHeld.2.1)))), ((cell_far (p := ⟨gb355, _, none⟩) NB331_355.out _).trans (((cell_far (p := ⟨gb355, _, none⟩) NB331_355.out _).trans (hHeld.2.2.1)))), ((cell_far (p := ⟨gb355, _, none⟩) NB331_355.out _).trans (((cell_far (p := ⟨gb355, _, none⟩) NB331_355.out _).trans (hHeld.2.2.2))))⟩ (fun hHeld => ?_)
        clear hK K
        refine pu 10 (some 9) (bz 11 2047) HT_ ?_
        refine done_ (done_of HT_.out (by kernel_rfl)) ?_
        try go_wp2
        have n0_ : Aside0 (Kd.R (Kd.int .i64) 3 ((w85.setCell ⟨gb355, 0, none⟩ (.slice Ao86 t348.length co86)).setCell ⟨gb355, 1, none⟩ (.slice Ao88 t351.length co88)) w.heap.size (fun k_ => some k_ ≠ (.slice Ao34 t327.length co34 : Value).ownBlock ∧ some k_ ≠ (v337 : Value).ownBlock ∧ some k_ ≠ (v343 : Value).ownBlock ∧ some k_ ≠ (v346 : Value).ownBlock ∧ some k_ ≠ (.slice Ao86 t348.length co86 : Value).ownBlock ∧ some k_ ≠ (.slice Ao88 t351.length co88 : Value).ownBlock) (.slice Ao32 t324.length co32) t324) := ⟨by (with_reducible repeat (first | apply ra | apply rn | apply rd_)); exact rm (Kd.R_far (p := ⟨gb355, 1, none⟩) (Kd.R_far (p := ⟨gb355, 0, none⟩) (Kd.R_types HO_332000.out BK355.out (by decide)) (fun _ hk => hk.2) (.slice Ao86 t348.length co86)) (fun _ hk => hk.2) (.slice Ao88 t351.length co88)) (fun _ hk => ⟨hk.1.2.2.2.2.2, ⟨hk.1.1, ⟨hk.1.2.1, ⟨hk.1.2.2.1, ⟨hk.1.2.2.2.1, hk.1.2.2.2.2.1⟩⟩⟩⟩⟩)⟩
        have n1_ : Aside0 (Kd.R (Kd.int .i64) 3 ((w85.setCell ⟨gb355, 0, none⟩ (.slice Ao86 t348.length co86)).setCell ⟨gb355, 1, none⟩ (.slice Ao88 t351.length co88)) w.heap.size (fun k_ => some k_ ≠ (.slice Ao32 t324.length co32 : Value).ownBlock ∧ some k_ ≠ (v337 : Value).ownBlock ∧ some k_ ≠ (v343 : Value).ownBlock ∧ some k_ ≠ (v346 : Value).ownBlock ∧ some k_ ≠ (.slice Ao86 t348.length co86 : Value).ownBlock ∧ some k_ ≠ (.slice Ao88 t351.length co88 : Value).ownBlock) (.slice Ao34 t327.length co34) t327) := ⟨by (with_reducible repeat (first | apply ra | apply rn | apply rd_)); exact rm (Kd.R_far (p := ⟨gb355, 1, none⟩) (Kd.R_far (p := ⟨gb355, 0, none⟩) (Kd.R_types HO_332001.out BK355.out (by decide)) (fun _ hk => hk.2) (.slice Ao86 t348.length co86)) (fun _ hk => hk.2) (.slice Ao88 t351.length co88)) (fun _ hk => ⟨hk.1.2.2.2.2.2, ⟨hk.1.1, ⟨hk.1.2.1, ⟨hk.1.2.2.1, ⟨hk.1.2.2.2.1, hk.1.2.2.2.2.1⟩⟩⟩⟩⟩)⟩
        have n2_ : Aside0 (Kd.R (Kd.int .i64) 3 ((w85.setCell ⟨gb355, 0, none⟩ (.slice Ao86 t348.length co86)).setCell ⟨gb355, 1, none⟩ (.slice Ao88 t351.length co88)) w.heap.size (fun k_ => some k_ ≠ (.slice Ao32 t324.length co32 : Value).ownBlock ∧ some k_ ≠ (.slice Ao34 t327.length co34 : Value).ownBlock ∧ some k_ ≠ (v343 : Value).ownBlock ∧ some k_ ≠ (v346 : Value).ownBlock ∧ some k_ ≠ (.slice Ao86 t348.length co86 : Value).ownBlock ∧ some k_ ≠ (.slice Ao88 t351.length co88 : Value).ownBlock) v337 t336) := ⟨by (with_reducible repeat (first | apply ra | apply rn | apply rd_)); exact rm (Kd.R_far (p := ⟨gb355, 1, none⟩) (Kd.R_far (p := ⟨gb355, 0, none⟩) (Kd.R_types HO338.out BK355.out (by decide)) (fun _ hk => hk.2) (.slice Ao86 t348.length co86)) (fun _ hk => hk.2) (.slice Ao88 t351.length co88)) (fun _ hk => ⟨hk.1.2.2.2.2.1, ⟨hk.1.2.2.2.2.2, ⟨hk.1.1, ⟨hk.1.2.1, ⟨hk.1.2.2.1, hk.1.2.2.2.1⟩⟩⟩⟩⟩)⟩
        have n3_ : Aside0 (Kd.R k85 85 ((w85.setCell ⟨gb355, 0, none⟩ (.slice Ao86 t348.length co86)).setCell ⟨gb355, 1, none⟩ (.slice Ao88 t351.length co88)) w.heap.size (fun _ => True) v340 t339) := ⟨by (with_reducible repeat (first | apply ra | apply rn | apply rd_)); exact rm (Kd.R_far (p := ⟨gb355, 1, none⟩) (Kd.R_far (p := ⟨gb355, 0, none⟩) (Kd.R_types HO341.out BK355.out (by decide)) (fun _ hk => hk.2) (.slice Ao86 t348.length co86)) (fun _ hk => hk.2) (.slice Ao88 t351.length co88)) (fun _ hk => trivial)⟩
        have n4_ : Aside0 (Kd.R (Kd.int .i64) 3 ((w85.setCell ⟨gb355, 0, none⟩ (.slice Ao86 t348.length co86)).setCell ⟨gb355, 1, none⟩ (.slice Ao88 t351.length co88)) w.heap.size (fun k_ => some k_ ≠ (.slice Ao32 t324.length co32 : Value).ownBlock ∧ some k_ ≠ (.slice Ao34 t327.length co34 : Value).ownBlock ∧ some k_ ≠ (v337 : Value).ownBlock ∧ some k_ ≠ (v346 : Value).ownBlock ∧ some k_ ≠ (.slice Ao86 t348.length co86 : Value).ownBlock ∧ some k_ ≠ (.slice Ao88 t351.length co88 : Value).ownBlock) v343 t342) := ⟨by (with_reducible repeat (first | apply ra | apply rn | apply rd_)); exact rm (Kd.R_far (p := ⟨gb355, 1, none⟩) (Kd.R_far (p := ⟨gb355, 0, none⟩) (Kd.R_types HO344.out BK355.out (by decide)) (fun _ hk => hk.2) (.slice Ao86 t348.length co86)) (fun _ hk => hk.2) (.slice Ao88 t351.length co88)) (fun _ hk => ⟨hk.1.2.2.2.2.1, ⟨hk.1.2.2.2.2.2, ⟨hk.1.1, ⟨hk.1.2.1, ⟨hk.1.2.2.1, hk.1.2.2.2.1⟩⟩⟩⟩⟩)⟩
        have n5_ : Aside0 (Kd.R (Kd.int .i64) 3 ((w85.setCell ⟨gb355, 0, none⟩ (.slice Ao86 t348.length co86)).setCell ⟨gb355, 1, none⟩ (.slice Ao88 t351.length co88)) w.heap.size (fun k_ => some k_ ≠ (.slice Ao32 t324.length co32 : Value).ownBlock ∧ some k_ ≠ (.slice Ao34 t327.length co34 : Value).ownBlock ∧ some k_ ≠ (v337 : Value).ownBlock ∧ some k_ ≠ (v343 : Value).ownBlock ∧ some k_ ≠ (.slice Ao86 t348.length co86 : Value).ownBlock ∧ some k_ ≠ (.slice Ao88 t351.length co88 : Value).ownBlock) v346 t345) := ⟨by (with_reducible repeat (first | apply ra | apply rn | apply rd_)); exact rm (Kd.R_far (p := ⟨gb355, 1, none⟩) (Kd.R_far (p := ⟨gb355, 0, none⟩) (Kd.R_types HO347.out BK355.out (by decide)) (fun _ hk => hk.2) (.slice Ao86 t348.length co86)) (fun _ hk => hk.2) (.slice Ao88 t351.length co88)) (fun _ hk => ⟨hk.1.2.2.2.2.1, ⟨hk.1.2.2.2.2.2, ⟨hk.1.1, ⟨hk.1.2.1, ⟨hk.1.2.2.1, hk.1.2.2.2.1⟩⟩⟩⟩⟩)⟩
        have n6_ : Aside0 (Kd.R (Kd.int .i64) 3 ((w85.setCell ⟨gb355, 0, none⟩ (.slice Ao86 t348.length co86)).setCell ⟨gb355, 1, none⟩ (.slice Ao88 t351.length co88)) w.heap.size (fun k_ => some k_ ≠ (.slice Ao32 t324.length co32 : Value).ownBlock ∧ some k_ ≠ (.slice Ao34 t327.length co34 : Value).ownBlock ∧ some k_ ≠ (v337 : Value).ownBlock ∧ some k_ ≠ (v343 : Value).ownBlock ∧ some k_ ≠ (v346 : Value).ownBlock ∧ some k_ ≠ (.slice Ao88 t351.length co88 : Value).ownBlock) (.slice Ao86 t348.length co86) t348) := ⟨by (with_reducible repeat (first | apply ra | apply rn | apply rd_)); exact rm (Kd.R_far (p := ⟨gb355, 1, none⟩) (Kd.R_far (p := ⟨gb355, 0, none⟩) (Kd.R_types HO350.out BK355.out (by decide)) (fun _ hk => hk.2) (.slice Ao86 t348.length co86)) (fun _ hk => hk.2) (.slice Ao88 t351.length co88)) (fun _ hk => ⟨hk.1.2.2.2.2.1, ⟨hk.1.2.2.2.2.2, ⟨hk.1.1, ⟨hk.1.2.1, ⟨hk.1.2.2.1, hk.1.2.2.2.1⟩⟩⟩⟩⟩)⟩
        have n7_ : Aside0 (Kd.R (Kd.int .i64) 3 ((w85.setCell ⟨gb355, 0, none⟩ (.slice Ao86 t348.length co86)).setCell ⟨gb355, 1, none⟩ (.slice Ao88 t351.length co88)) w.heap.size (fun k_ => some k_ ≠ (.slice Ao32 t324.length co32 : Value).ownBlock ∧ some k_ ≠ (.slice Ao34 t327.length co34 : Value).ownBlock ∧ some k_ ≠ (v337 : Value).ownBlock ∧ some k_ ≠ (v343 : Value).ownBlock ∧ some k_ ≠ (v346 : Value).ownBlock ∧ some k_ ≠ (.slice Ao86 t348.length co86 : Value).ownBlock) (.slice Ao88 t351.length co88) t351) := ⟨by (with_reducible repeat (first | apply ra | apply rn | apply rd_)); exact rm (Kd.R_far (p := ⟨gb355, 1, none⟩) (Kd.R_far (p := ⟨gb355, 0, none⟩) (Kd.R_types HO353.out BK355.out (by decide)) (fun _ hk => hk.2) (.slice Ao86 t348.length co86)) (fun _ hk => hk.2) (.slice Ao88 t351.length co88)) (fun _ hk => ⟨hk.1.2.2.2.2.1, ⟨hk.1.2.2.2.2.2, ⟨hk.1.1, ⟨hk.1.2.1, ⟨hk.1.2.2.1, hk.1.2.2.2.1⟩⟩⟩⟩⟩)⟩
        have n8_ : Aside0 (((w85.setCell ⟨gb355, 0, none⟩ (.slice Ao86 t348.length co86)).setCell ⟨gb355, 1, none⟩ (.slice Ao88 t351.length co88)).heap[gb307]? = some (.cells #[.slice A0_0 l0_0.length c0_0, .slice A0_1 l0_1.length c0_1] 25 (0, 0))) := ⟨by (with_reducible repeat (first | refine kn ?_ _ | refine kd_ ?_ | refine ka ?_ _)); refine blk_far ?_ NB307_355.out _; (with_reducible repeat (first | refine kn ?_ _ | refine kd_ ?_ | refine ka ?_ _)); refine blk_far ?_ NB307_355.out _; (with_reducible repeat (first | refine kn ?_ _ | refine kd_ ?_ | refine ka ?_ _)); exact BK307.out⟩
        have n9_ : Aside0 (((w85.setCell ⟨gb355, 0, none⟩ (.slice Ao86 t348.length co86)).setCell ⟨gb355, 1, none⟩ (.slice Ao88 t351.length co88)).heap[gb308]? = some (.cells #[.slice A1_0 l1_0.length c1_0, .slice A1_1 l1_1.length c1_1] 27 (0, 0))) := ⟨by (with_reducible repeat (first | refine kn ?_ _ | refine kd_ ?_ | refine ka ?_ _)); refine blk_far ?_ NB308_355.out _; (with_reducible repeat (first | refine kn ?_ _ | refine kd_ ?_ | refine ka ?_ _)); refine blk_far ?_ NB308_355.out _; (with_reducible repeat (first | refine kn ?_ _ | refine kd_ ?_ | refine ka ?_ _)); exact BK308.out⟩
        have n10_ : Aside0 (((w85.setCell ⟨gb355, 0, none⟩ (.slice Ao86 t348.length co86)).setCell ⟨gb355, 1, none⟩ (.slice Ao88 t351.length co88)).heap[gb331]? = some (.cells #[.slice Ao32 t324.length co32, .slice Ao34 t327.length co34] 27 (0, 0))) := ⟨by (with_reducible repeat (first | refine kn ?_ _ | refine kd_ ?_ | refine ka ?_ _)); refine blk_far ?_ NB331_355.out _; (with_reducible repeat (first | refine kn ?_ _ | refine kd_ ?_ | refine ka ?_ _)); refine blk_far ?_ NB331_355.out _; (with_reducible repeat (first | refine kn ?_ _ | refine kd_ ?_ | refine ka ?_ _)); exact BK331.out⟩
        have n11_ : Aside0 (((w85.setCell ⟨gb355, 0, none⟩ (.slice Ao86 t348.length co86)).setCell ⟨gb355, 1, none⟩ (.slice Ao88 t351.length co88)).heap[gb355]? = some (.cells #[.slice Ao86 t348.length co86, .slice Ao88 t351.length co88] 27 (0, 0))) := ⟨by (with_reducible repeat (first | refine kn ?_ _ | refine kd_ ?_ | refine ka ?_ _)); refine blk_put (cs := #[.slice Ao86 t348.length co86, .slice none 0 0]) ?_ 1 _ rfl; (with_reducible repeat (first | refine kn ?_ _ | refine kd_ ?_ | refine ka ?_ _)); refine blk_put (cs := #[.slice none 0 0, .slice none 0 0]) ?_ 0 _ rfl; (with_reducible repeat (first | refine kn ?_ _ | refine kd_ ?_ | refine ka ?_ _)); exact BK355.out⟩
        have n12_ : Aside0 (Below w.heap.size w ((w85.setCell ⟨gb355, 0, none⟩ (.slice Ao86 t348.length co86)).setCell ⟨gb355, 1, none⟩ (.slice Ao88 t351.length co88))) := ⟨by repeat (first | (with_reducible first | exact HB.out | apply wa | apply wn | apply wd | refine ws ?_ GE307.out | refine ws ?_ GE308.out | refine ws ?_ GE331.out | refine ws ?_ GE355.out) | exact HB.out)⟩
        (try clear HO_332000)
        (try clear HO_332001)
        (try clear HO338)
        (try clear HO341)
        (try clear HO344)
        (try clear HO347)
        (try clear HO350)
        (try clear HO353)
        (try clear BK307)
        (try clear BK308)
        (try clear BK331)
        (try clear BK355)
        (try clear HB)
        generalize ((w85.setCell ⟨gb355, 0, none⟩ (.slice Ao86 t348.length co86)).setCell ⟨gb355, 1, none⟩ (.slice Ao88 t351.length co88)) = w90 at n0_ n1_ n2_ n3_ n4_ n5_ n6_ n7_ n8_ n9_ n10_ n11_ n12_ ⊢
        have HO_332000 := n0_
        have HO_332001 := n1_
        have HO338 := n2_
        have HO341 := n3_
        have HO344 := n4_
        have HO347 := n5_
        have HO350 := n6_
        have HO353 := n7_
        have BK307 := n8_
        have BK308 := n9_
        have BK331 := n10_
        have BK355 := n11_
        have HB := n12_
        clear n0_ n1_ n2_ n3_ n4_ n5_ n6_ n7_ n8_ n9_ n10_ n11_ n12_
        replace HO_332000 := Z0 (rd_ HO_332000.out)
        replace HO_332001 := Z0 (rd_ HO_332001.out)
        replace HO338 := Z0 (rd_ HO338.out)
        replace HO341 := Z0 (rd_ HO341.out)
        replace HO344 := Z0 (rd_ HO344.out)
        replace HO347 := Z0 (rd_ HO347.out)
        replace HO350 := Z0 (rd_ HO350.out)
        replace HO353 := Z0 (rd_ HO353.out)
        replace BK307 := Z0 (kd_ BK307.out)
        replace BK308 := Z0 (kd_ BK308.out)
        replace BK331 := Z0 (kd_ BK331.out)
        replace BK355 := Z0 (kd_ BK355.out)
        replace HB := Z0 (wd HB.out)
        by_cases c64 : (t368.length : Int) = 0
        ·rw [if_pos c64] at H
         have c64b0 : ((t368.length : Int) == 0) = true := beq_iff_eq.mpr c64
         have c64b1 : ((t368.length : Int) != 0) = false := bne_eq_false_iff_eq.mpr c64
         clear c64
         replace H := Option.bind_eq_some_iff.mp H
         obtain ⟨t371, A650, H⟩ := H
         replace H : (if t371 = true then ((trefoillaw04_Own.f l0_0 l0_1).bind fun bt372 => ((trefoillaw11_Own.f t324 t327).bind fun bt378 => ((list_Check.f bt372.1 bt372.2 bt378.1 bt378.2).bind fun t384 => (if t384 = 0 then (if t354 = 0 then ((trefoilref11_Same.f k2 t348 t351 t324 t327).bind fun t385 => (some t385)) else (some false)) else (some false))))) else (some false)) = some r := H
         have A65 := Z0 A650
         clear A650
         by_cases c66 : t371 = true
         ·subst c66
          have H1 : ((trefoillaw04_Own.f l0_0 l0_1).bind fun bt372 => ((trefoillaw11_Own.f t324 t327).bind fun bt378 => ((list_Check.f bt372.1 bt372.2 bt378.1 bt378.2).bind fun t384 => (if t384 = 0 then (if t354 = 0 then ((trefoilref11_Same.f k2 t348 t351 t324 t327).bind fun t385 => (some t385)) else (some false)) else (some false))))) = some r := by rw [if_pos rfl] at H; exact H
          clear H
          have H := H1
          clear H1
          replace H := Option.bind_eq_some_iff.mp H
          obtain ⟨⟨t372, t375⟩, A670, H⟩ := H
          replace H : ((trefoillaw11_Own.f t324 t327).bind fun bt378 => ((list_Check.f t372 t375 bt378.1 bt378.2).bind fun t384 => (if t384 = 0 then (if t354 = 0 then ((trefoilref11_Same.f k2 t348 t351 t324 t327).bind fun t385 => (some t385)) else (some false)) else (some false)))) = some r := H
          have A67 := Z0 A670
          clear A670
          replace H := Option.bind_eq_some_iff.mp H
          obtain ⟨⟨t378, t381⟩, A680, H⟩ := H
          replace H : ((list_Check.f t372 t375 t378 t381).bind fun t384 => (if t384 = 0 then (if t354 = 0 then ((trefoilref11_Same.f k2 t348 t351 t324 t327).bind fun t385 => (some t385)) else (some false)) else (some false))) = some r := H
          have A68 := Z0 A680
          clear A680
          replace H := Option.bind_eq_some_iff.mp H
          obtain ⟨t384, A690, H⟩ := H
          replace H : (if t384 = 0 then (if t354 = 0 then ((trefoilref11_Same.f k2 t348 t351 t324 t327).bind fun t385 => (some t385)) else (some false)) else (some false)) = some r := H
          have A69 := Z0 A690
          clear A690
          by_cases c70 : t384 = 0
          ·rw [if_pos c70] at H
           have c70b0 : (t384 == 0) = true := beq_iff_eq.mpr c70
           have c70b1 : (t384 != 0) = false := bne_eq_false_iff_eq.mpr c70
           clear c70
           by_cases c71 : t354 = 0
           ·rw [if_pos c71] at H
            have c71b0 : (t354 == 0) = true := beq_iff_eq.mpr c71
            have c71b1 : (t354 != 0) = false := bne_eq_false_iff_eq.mpr c71
            clear c71
            replace H := Option.bind_eq_some_iff.mp H
            obtain ⟨t385, A720, H⟩ := H
            replace H : (some t385) = some r := H
            have A72 := Z0 A720
            clear A720
            obtain rfl := Option.some.inj H
            as_aux_lemma =>
            refine start_ (n := 38) (S := fun w' => w'.cell? ⟨gb307, 0, none⟩ = some (.slice A0_0 l0_0.length c0_0) ∧ w'.cell? ⟨gb307, 1, none⟩ = some (.slice A0_1 l0_1.length c0_1) ∧ w'.cell? ⟨gb331, 0, none⟩ = some (.slice Ao32 t324.length co32) ∧ w'.cell? ⟨gb331, 1, none⟩ = some (.slice Ao34 t327.length co34) ∧ w'.cell? ⟨gb308, 0, none⟩ = some (.slice A1_0 l1_0.length c1_0) ∧ w'.cell? ⟨gb308, 1, none⟩ = some (.slice A1_1 l1_1.length c1_1) ∧ w'.cell? ⟨gb355, 0, none⟩ = some (.slice Ao86 t348.length co86) ∧ w'.cell? ⟨gb355, 1, none⟩ = some (.slice Ao88 t351.length co88)) (ds := []) (bz 38 0) (by kernel_rfl) rfl rfl ⟨(kc BK307.out 0).trans rfl, (kc BK307.out 1).trans rfl, (kc BK331.out 0).trans rfl, (kc BK331.out 1).trans rfl, (kc BK308.out 0).trans rfl, (kc BK308.out 1).trans rfl, (kc BK355.out 0).trans rfl, (kc BK355.out 1).trans rfl⟩ (fun hHeld => ?_); refine with_tabW trefoillaw11_ListFill.tab12 trefoillaw11_ListFill.bits12 (fun HT_ HW_ => ?_)
            generalize w90.drew = w91 at HO_332000 HO_332001 HO338 HO341 HO344 HO347 HO350 HO353 BK307 BK308 BK331 BK355 HB hHeld ⊢
            refine tk8 0 (some 73) (bz 38 1) HT_ HW_ hHeld ?_
            refine tk8 2 (some 75) (bz 38 5) HT_ HW_ hHeld ?_
            refine one_ (i := 1) (N := some 74) (bz 38 7) rfl rfl (one_of HT_.out (by kernel_rfl)) (by decide) (fun K hK => ?_)
            refine zg Try.func12 #[.agg #[.slice A0_0 l0_0.length c0_0, .slice A0_1 l0_1.length c0_1]] ?_
            with_reducible refine (trefoillaw04_Own.calls _ _ l0_0 _ _ l0_1 t356 t359 _ ?side1 ?side2 ?side3 ?side4 A61.out).mono ?_
            (case side1 => exact zc (Kd.C_below HR0_0.out HB.out))
            (case side2 => exact HC0_0.out)
            (case side3 => exact zc (Kd.C_below HR0_1.out HB.out))
            (case side4 => exact HC0_1.out)
            rintro e w92 ⟨v357, v360, rfl, ho0, ho1, hb⟩
            refine ⟨_, rfl, ?_⟩
            have n0_ := Z0 (Kd.R_elder' (zr HO_332000) (rb ho0) hb)
            have n1_ := Z0 (Kd.R_elder' (zr HO_332001) (rb ho0) hb)
            have n2_ := Z0 (Kd.R_elder' (zr HO338) (rb ho0) hb)
            have n3_ := Z0 (Kd.R_elder' (zr HO341) (rb ho1) hb)
            have n4_ := Z0 (Kd.R_elder' (zr HO344) (rb ho0) hb)
            have n5_ := Z0 (Kd.R_elder' (zr HO347) (rb ho0) hb)
            have n6_ := Z0 (Kd.R_elder' (zr HO350) (rb ho0) hb)
            have n7_ := Z0 (Kd.R_elder' (zr HO353) (rb ho0) hb)
            have n8_ := Z0 (rl (rw_ (rw_ (rw_ (rw_ (rw_ (rw_ (rw_ ho0 (rlt (zr HO_332000))) (rlt (zr HO_332001))) (rlt (zr HO338))) (rlt (zr HO344))) (rlt (zr HO347))) (rlt (zr HO350))) (rlt (zr HO353))) (below_size (zb HB)))
            have n9_ := Z0 (rl (rw_ ho1 (rlt (zr HO341))) (below_size (zb HB)))
            have n10_ := Z0 (kb (g := gb307) (o := .cells #[.slice A0_0 l0_0.length c0_0, .slice A0_1 l0_1.length c0_1] 25 (0, 0)) (zk BK307) hb)
            have n11_ := Z0 (kb (g := gb308) (o := .cells #[.slice A1_0 l1_0.length c1_0, .slice A1_1 l1_1.length c1_1] 27 (0, 0)) (zk BK308) hb)
            have n12_ := Z0 (kb (g := gb331) (o := .cells #[.slice Ao32 t324.length co32, .slice Ao34 t327.length co34] 27 (0, 0)) (zk BK331) hb)
            have n13_ := Z0 (kb (g := gb355) (o := .cells #[.slice Ao86 t348.length co86, .slice Ao88 t351.length co88] 27 (0, 0)) (zk BK355) hb)
            have n14_ := Z0 (below_step (zb HB) hb)
            clear HO_332000
            clear HO_332001
            clear HO338
            clear HO341
            clear HO344
            clear HO347
            clear HO350
            clear HO353
            clear BK307
            clear BK308
            clear BK331
            clear BK355
            clear HB
            have HO_332000 := n0_
            have HO_332001 := n1_
            have HO338 := n2_
            have HO341 := n3_
            have HO344 := n4_
            have HO347 := n5_
            have HO350 := n6_
            have HO353 := n7_
            have HO358 := n8_
            have HO361 := n9_
            have BK307 := n10_
            have BK308 := n11_
            have BK331 := n12_
            have BK355 := n13_
            have HB := n14_
            clear n0_ n1_ n2_ n3_ n4_ n5_ n6_ n7_ n8_ n9_ n10_ n11_ n12_ n13_ n14_
            (try clear hb)
            (try clear hb2)
            (try clear hk)
            (try clear hi)
            (try clear ho0)
            (try clear ho1)
            refine hK.out _ _ ⟨(kc BK307.out 0).trans rfl, (kc BK307.out 1).trans rfl, (kc BK331.out 0).trans rfl, (kc BK331.out 1).trans rfl, (kc BK308.out 0).trans rfl, (kc BK308.out 1).trans rfl, (kc BK355.out 0).trans rfl, (kc BK355.out 1).trans rfl⟩ (fun hHeld => ?_)
            clear hK K
            refine norm_ (a' := ?_) ?_ ?_
            rotate_left
            ·show Act.put _ (some 74) _ = _
             simp only [Act.put, y0, y1, y2, i64_w, i32_w]
             rfl
            refine one_ (i := 3) (N := some 76) (bz 38 15) rfl rfl (one_of HT_.out (by kernel_rfl)) (by decide) (fun K hK => ?_)
            refine zg Try.func13 #[.agg #[.slice Ao32 t324.length co32, .slice Ao34 t327.length co34]] ?_
            with_reducible refine (trefoillaw11_Own.calls _ _ t324 _ _ t327 t362 t365 _ ?side1 ?side2 ?side3 ?side4 A62.out).mono ?_
            (case side1 => exact zc (rr HO_332000.out).2.2)
            (case side2 => exact (rr HO_332000.out).2.1)
            (case side3 => exact zc (rr HO_332001.out).2.2)
            (case side4 => exact (rr HO_332001.out).2.1)
            rintro e w93 ⟨v363, v366, rfl, ho0, ho1, hb⟩
            refine ⟨_, rfl, ?_⟩
            have n0_ := Z0 (rm (rt (rt (ro (zr HO_332000) hb) (rb ho0)) (rb ho1)) (fun _ h_ => h_.1))
            have n1_ := Z0 (rm (rt (rt (ro (zr HO_332001) hb) (rb ho0)) (rb ho1)) (fun _ h_ => h_.1))
            have n2_ := Z0 (rm (rt (rt (ro (zr HO338) hb) (rb ho0)) (rb ho1)) (fun _ h_ => h_.1))
            have n3_ := Z0 (rbe (zr HO341) hb)
            have n4_ := Z0 (rm (rt (rt (ro (zr HO344) hb) (rb ho0)) (rb ho1)) (fun _ h_ => h_.1))
            have n5_ := Z0 (rm (rt (rt (ro (zr HO347) hb) (rb ho0)) (rb ho1)) (fun _ h_ => h_.1))
            have n6_ := Z0 (rm (rt (rt (ro (zr HO350) hb) (rb ho0)) (rb ho1)) (fun _ h_ => h_.1))
            have n7_ := Z0 (rm (rt (rt (ro (zr HO353) hb) (rb ho0)) (rb ho1)) (fun _ h_ => h_.1))
            have n8_ := Z0 (rm (rt (rt (ro (zr HO358) hb) (rb ho0)) (rb ho1)) (fun _ h_ => h_.1))
            have n9_ := Z0 (rbe (zr HO361) hb)
            have n10_ := Z0 (rl (rw_ (rw_ (rw_ (rw_ (rw_ (rw_ (rw_ (rw_ ho0 (rlt (zr HO_332000))) (rlt (zr HO_332001))) (rlt (zr HO338))) (rlt (zr HO344))) (rlt (zr HO347))) (rlt (zr HO350))) (rlt (zr HO353))) (rlt (zr HO358))) (below_size (zb HB)))
            have n11_ := Z0 (rl (rw_ (rw_ (rw_ (rw_ (rw_ (rw_ (rw_ (rw_ ho1 (rlt (zr HO_332000))) (rlt (zr HO_332001))) (rlt (zr HO338))) (rlt (zr HO344))) (rlt (zr HO347))) (rlt (zr HO350))) (rlt (zr HO353))) (rlt (zr HO358))) (below_size (zb HB)))
            have n12_ := Z0 (kb (g := gb307) (o := .cells #[.slice A0_0 l0_0.length c0_0, .slice A0_1 l0_1.length c0_1] 25 (0, 0)) (zk BK307) hb)
            have n13_ := Z0 (kb (g := gb308) (o := .cells #[.slice A1_0 l1_0.length c1_0, .slice A1_1 l1_1.length c1_1] 27 (0, 0)) (zk BK308) hb)
            have n14_ := Z0 (kb (g := gb331) (o := .cells #[.slice Ao32 t324.length co32, .slice Ao34 t327.length co34] 27 (0, 0)) (zk BK331) hb)
            have n15_ := Z0 (kb (g := gb355) (o := .cells #[.slice Ao86 t348.length co86, .slice Ao88 t351.length co88] 27 (0, 0)) (zk BK355) hb)
            have n16_ := Z0 (below_step (zb HB) hb)
            clear HO_332000
            clear HO_332001
            clear HO338
            clear HO341
            clear HO344
            clear HO347
            clear HO350
            clear HO353
            clear HO358
            clear HO361
            clear BK307
            clear BK308
            clear BK331
            clear BK355
            clear HB
            have HO_332000 := n0_
            have HO_332001 := n1_
            have HO338 := n2_
            have HO341 := n3_
            have HO344 := n4_
            have HO347 := n5_
            have HO350 := n6_
            have HO353 := n7_
            have HO358 := n8_
            have HO361 := n9_
            have HO364 := n10_
            have HO367 := n11_
            have BK307 := n12_
            have BK308 := n13_
            have BK331 := n14_
            have BK355 := n15_
            have HB := n16_
            clear n0_ n1_ n2_ n3_ n4_ n5_ n6_ n7_ n8_ n9_ n10_ n11_ n12_ n13_ n14_ n15_ n16_
            (try clear hb)
            (try clear hb2)
            (try clear hk)
            (try clear hi)
            (try clear ho0)
            (try clear ho1)
            obtain ⟨Ao94, co94, eo94⟩ := Kd.R_slice HO358.out
            (first | subst eo94 | (injection eo94 with f1_ f2_ f3_; have f4_ := f1_.symm; have f5_ := f3_.symm; clear f1_ f2_ f3_; subst f4_; subst f5_))
            obtain ⟨Ao95, co95, eo95⟩ := Kd.R_slice HO361.out
            (first | subst eo95 | (injection eo95 with f1_ f2_ f3_; have f4_ := f1_.symm; have f5_ := f3_.symm; clear f1_ f2_ f3_; subst f4_; subst f5_))
            obtain ⟨Ao96, co96, eo96⟩ := Kd.R_slice HO364.out
            (first | subst eo96 | (injection eo96 with f1_ f2_ f3_; have f4_ := f1_.symm; have f5_ := f3_.symm; clear f1_ f2_ f3_; subst f4_; subst f5_))
            obtain ⟨Ao97, co97, eo97⟩ := Kd.R_slice HO367.out
            (first | subst eo97 | (injection eo97 with f1_ f2_ f3_; have f4_ := f1_.symm; have f5_ := f3_.symm; clear f1_ f2_ f3_; subst f4_; subst f5_))
            refine hK.out _ _ ⟨(kc BK307.out 0).trans rfl, (kc BK307.out 1).trans rfl, (kc BK331.out 0).trans rfl, (kc BK331.out 1).trans rfl, (kc BK308.out 0).trans rfl, (kc BK308.out 1).trans rfl, (kc BK355.out 0).trans rfl, (kc BK355.out 1).trans rfl⟩ (fun hHeld => ?_)
            clear hK K
            refine norm_ (a' := ?_) ?_ ?_
            rotate_left
            ·show Act.put _ (some 76) _ = _
             simp only [Act.put, y0, y1, y2, i64_w, i32_w]
             rfl
            refine one_ (i := 4) (N := some 77) (bz 38 31) rfl rfl (one_of HT_.out (by kernel_rfl)) (by decide) (fun K hK => ?_)
            refine zg Try.func15 #[.agg #[.slice Ao94 t356.length co94, .slice Ao95 t359.length co95], .agg #[.slice Ao96 t362.length co96, .slice Ao97 t365.length co97]] ?_
            with_reducible refine (list_Ready.calls _ _ t356 _ _ t359 _ _ t362 _ _ t365 t368 _ ?side1 ?side2 ?side3 ?side4 ?side5 ?side6 ?side7 ?side8 A63.out).mono ?_
            (case side1 => exact zc (rr HO358.out).2.2)
            (case side2 => exact (rr HO358.out).2.1)
            (case side3 => exact zc (rr HO361.out).2.2)
            (case side4 => exact (rr HO361.out).2.1)
            (case side5 => exact zc (rr HO364.out).2.2)
            (case side6 => exact (rr HO364.out).2.1)
            (case side7 => exact zc (rr HO367.out).2.2)
            (case side8 => exact (rr HO367.out).2.1)
            rintro e w98 ⟨v369, rfl, ho0, hb⟩
            refine ⟨_, rfl, ?_⟩
            have n0_ := Z0 (Kd.R_elder' (zr HO_332000) (rb ho0) hb)
            have n1_ := Z0 (Kd.R_elder' (zr HO_332001) (rb ho0) hb)
            have n2_ := Z0 (Kd.R_elder' (zr HO338) (rb ho0) hb)
            have n3_ := Z0 (rbe (zr HO341) hb)
            have n4_ := Z0 (Kd.R_elder' (zr HO344) (rb ho0) hb)
            have n5_ := Z0 (Kd.R_elder' (zr HO347) (rb ho0) hb)
            have n6_ := Z0 (Kd.R_elder' (zr HO350) (rb ho0) hb)
            have n7_ := Z0 (Kd.R_elder' (zr HO353) (rb ho0) hb)
            have n8_ := Z0 (Kd.R_elder' (zr HO358) (rb ho0) hb)
            have n9_ := Z0 (rbe (zr HO361) hb)
            have n10_ := Z0 (Kd.R_elder' (zr HO364) (rb ho0) hb)
            have n11_ := Z0 (Kd.R_elder' (zr HO367) (rb ho0) hb)
            have n12_ := Z0 (rl (rw_ (rw_ (rw_ (rw_ (rw_ (rw_ (rw_ (rw_ (rw_ (rw_ ho0 (rlt (zr HO_332000))) (rlt (zr HO_332001))) (rlt (zr HO338))) (rlt (zr HO344))) (rlt (zr HO347))) (rlt (zr HO350))) (rlt (zr HO353))) (rlt (zr HO358))) (rlt (zr HO364))) (rlt (zr HO367))) (below_size (zb HB)))
            have n13_ := Z0 (kb (g := gb307) (o := .cells #[.slice A0_0 l0_0.length c0_0, .slice A0_1 l0_1.length c0_1] 25 (0, 0)) (zk BK307) hb)
            have n14_ := Z0 (kb (g := gb308) (o := .cells #[.slice A1_0 l1_0.length c1_0, .slice A1_1 l1_1.length c1_1] 27 (0, 0)) (zk BK308) hb)
            have n15_ := Z0 (kb (g := gb331) (o := .cells #[.slice Ao32 t324.length co32, .slice Ao34 t327.length co34] 27 (0, 0)) (zk BK331) hb)
            have n16_ := Z0 (kb (g := gb355) (o := .cells #[.slice Ao86 t348.length co86, .slice Ao88 t351.length co88] 27 (0, 0)) (zk BK355) hb)
            have n17_ := Z0 (below_step (zb HB) hb)
            clear HO_332000
            clear HO_332001
            clear HO338
            clear HO341
            clear HO344
            clear HO347
            clear HO350
            clear HO353
            clear HO358
            clear HO361
            clear HO364
            clear HO367
            clear BK307
            clear BK308
            clear BK331
            clear BK355
            clear HB
            have HO_332000 := n0_
            have HO_332001 := n1_
            have HO338 := n2_
            have HO341 := n3_
            have HO344 := n4_
            have HO347 := n5_
            have HO350 := n6_
            have HO353 := n7_
            have HO358 := n8_
            have HO361 := n9_
            have HO364 := n10_
            have HO367 := n11_
            have HO370 := n12_
            have BK307 := n13_
            have BK308 := n14_
            have BK331 := n15_
            have BK355 := n16_
            have HB := n17_
            clear n0_ n1_ n2_ n3_ n4_ n5_ n6_ n7_ n8_ n9_ n10_ n11_ n12_ n13_ n14_ n15_ n16_ n17_
            (try clear hb)
            (try clear hb2)
            (try clear hk)
            (try clear hi)
            (try clear ho0)
            obtain ⟨Ao99, co99, eo99⟩ := Kd.R_slice HO370.out
            (first | subst eo99 | (injection eo99 with f1_ f2_ f3_; have f4_ := f1_.symm; have f5_ := f3_.symm; clear f1_ f2_ f3_; subst f4_; subst f5_))
            refine hK.out _ _ ⟨(kc BK307.out 0).trans rfl, (kc BK307.out 1).trans rfl, (kc BK331.out 0).trans rfl, (kc BK331.out 1).trans rfl, (kc BK308.out 0).trans rfl, (kc BK308.out 1).trans rfl, (kc BK355.out 0).trans rfl, (kc BK355.out 1).trans rfl⟩ (fun hHeld => ?_)
            clear hK K
            refine norm_ (a' := ?_) ?_ ?_
            rotate_left
            ·show Act.put _ (some 77) _ = _
             simp only [Act.put, y0, y1, y2, i64_w, i32_w]
             rfl
            refine pu 5 (some 78) (bz 38 63) HT_ ?_
            refine pu 6 (some 79) (bz 38 127) HT_ ?_
            refine pu 7 (some 80) (bz 38 255) HT_ ?_
            refine pv 8 (some 81) (bz 38 511) HT_ ?_
            refine pv 9 (some 82) (bz 38 1023) HT_ ?_
            refine pv 10 (some 83) (bz 38 2047) HT_ ?_
            refine pv 11 (some 84) (bz 38 4095) HT_ ?_
            refine pu 12 (some 85) (bz 38 8191) HT_ ?_
            refine pu 13 (some 86) (bz 38 16383) HT_ ?_
            refine pu 14 (some 87) (bz 38 32767) HT_ ?_
            refine pu 16 (some 89) (bz 38 98303) HT_ ?_
            refine tk8 15 (some 88) (bz 38 131071) HT_ HW_ hHeld ?_
            refine tk8 17 (some 90) (bz 38 262143) HT_ HW_ hHeld ?_
            refine one_ (i := 18) (N := some 91) (bz 38 524287) rfl rfl (one_of HT_.out (by kernel_rfl)) (by decide) (fun K hK => ?_)
            refine zg Try.func22 #[.slice Ao34 t327.length co34, .slice A1_1 l1_1.length c1_1] ?_
            with_reducible refine (trefoilref02_Ints.calls k2 _ _ t327 _ _ l1_1 true _ ?side1 ?side2 ?side3 ?side4 A65.out).mono ?_
            (case side1 => exact zc (rr HO_332001.out).2.2)
            (case side2 => exact (rr HO_332001.out).2.1)
            (case side3 => exact zc (Kd.C_below HR1_1.out HB.out))
            (case side4 => exact HC1_1.out)
            rintro e w' ⟨rfl, ⟨nd, rfl⟩⟩
            refine ⟨_, rfl, ?_⟩
            refine hK.out _ _ ⟨(kc BK307.out 0).trans rfl, (kc BK307.out 1).trans rfl, (kc BK331.out 0).trans rfl, (kc BK331.out 1).trans rfl, (kc BK308.out 0).trans rfl, (kc BK308.out 1).trans rfl, (kc BK355.out 0).trans rfl, (kc BK355.out 1).trans rfl⟩ (fun hHeld => ?_)
            clear hK K
            refine norm_ (a' := ?_) ?_ ?_
            rotate_left
            ·show Act.put _ (some 91) _ = _
             simp only [Act.put, y0, y1, y2, i64_w, i32_w]
             rfl
            refine pu 19 (some 92) (bz 38 0xfffff) HT_ ?_
            refine pu 20 (some 93) (bz 38 0x1fffff) HT_ ?_
            refine tk8 21 (some 94) (bz 38 0x3fffff) HT_ HW_ hHeld ?_
            refine tk8 23 (some 96) (bz 38 0xbfffff) HT_ HW_ hHeld ?_
            refine one_ (i := 22) (N := some 95) (bz 38 0xffffff) rfl rfl (one_of HT_.out (by kernel_rfl)) (by decide) (fun K hK => ?_)
            refine zg Try.func12 #[.agg #[.slice A0_0 l0_0.length c0_0, .slice A0_1 l0_1.length c0_1]] ?_
            with_reducible refine (trefoillaw04_Own.calls _ _ l0_0 _ _ l0_1 t372 t375 _ ?side1 ?side2 ?side3 ?side4 A67.out).mono ?_
            (case side1 => repeat (first | exact (Kd.C_below HR0_0.out (zb HB)) | (with_reducible refine Kd.C_alloc ?_ _) | (with_reducible refine Kd.C_drewN ?_ _) | (with_reducible refine Kd.C_drew ?_)))
            (case side2 => exact HC0_0.out)
            (case side3 => repeat (first | exact (Kd.C_below HR0_1.out (zb HB)) | (with_reducible refine Kd.C_alloc ?_ _) | (with_reducible refine Kd.C_drewN ?_ _) | (with_reducible refine Kd.C_drew ?_)))
            (case side4 => exact HC0_1.out)
            rintro e w100 ⟨v373, v376, rfl, ho0, ho1, hb⟩
            refine ⟨_, rfl, ?_⟩
            have n0_ := Z0 (Kd.R_elder' (zr HO_332000) (rb ho0) hb)
            have n1_ := Z0 (Kd.R_elder' (zr HO_332001) (rb ho0) hb)
            have n2_ := Z0 (Kd.R_elder' (zr HO338) (rb ho0) hb)
            have n3_ := Z0 (Kd.R_elder' (zr HO341) (rb ho1) hb)
            have n4_ := Z0 (Kd.R_elder' (zr HO344) (rb ho0) hb)
            have n5_ := Z0 (Kd.R_elder' (zr HO347) (rb ho0) hb)
            have n6_ := Z0 (Kd.R_elder' (zr HO350) (rb ho0) hb)
            have n7_ := Z0 (Kd.R_elder' (zr HO353) (rb ho0) hb)
            have n8_ := Z0 (Kd.R_elder' (zr HO358) (rb ho0) hb)
            have n9_ := Z0 (Kd.R_elder' (zr HO361) (rb ho1) hb)
            have n10_ := Z0 (Kd.R_elder' (zr HO364) (rb ho0) hb)
            have n11_ := Z0 (Kd.R_elder' (zr HO367) (rb ho0) hb)
            have n12_ := Z0 (Kd.R_elder' (zr HO370) (rb ho0) hb)
            have n13_ := Z0 (rl (rw_ (rw_ (rw_ (rw_ (rw_ (rw_ (rw_ (rw_ (rw_ (rw_ (rw_ ho0 (rlt (zr HO_332000))) (rlt (zr HO_332001))) (rlt (zr HO338))) (rlt (zr HO344))) (rlt (zr HO347))) (rlt (zr HO350))) (rlt (zr HO353))) (rlt (zr HO358))) (rlt (zr HO364))) (rlt (zr HO367))) (rlt (zr HO370))) (below_size (zb HB)))
            have n14_ := Z0 (rl (rw_ (rw_ ho1 (rlt (zr HO341))) (rlt (zr HO361))) (below_size (zb HB)))
            have n15_ := Z0 (kb (g := gb307) (o := .cells #[.slice A0_0 l0_0.length c0_0, .slice A0_1 l0_1.length c0_1] 25 (0, 0)) (zk BK307) hb)
            have n16_ := Z0 (kb (g := gb308) (o := .cells #[.slice A1_0 l1_0.length c1_0, .slice A1_1 l1_1.length c1_1] 27 (0, 0)) (zk BK308) hb)
            have n17_ := Z0 (kb (g := gb331) (o := .cells #[.slice Ao32 t324.length co32, .slice Ao34 t327.length co34] 27 (0, 0)) (zk BK331) hb)
            have n18_ := Z0 (kb (g := gb355) (o := .cells #[.slice Ao86 t348.length co86, .slice Ao88 t351.length co88] 27 (0, 0)) (zk BK355) hb)
            have n19_ := Z0 (below_step (zb HB) hb)
            clear HO_332000
            clear HO_332001
            clear HO338
            clear HO341
            clear HO344
            clear HO347
            clear HO350
            clear HO353
            clear HO358
            clear HO361
            clear HO364
            clear HO367
            clear HO370
            clear BK307
            clear BK308
            clear BK331
            clear BK355
            clear HB
            have HO_332000 := n0_
            have HO_332001 := n1_
            have HO338 := n2_
            have HO341 := n3_
            have HO344 := n4_
            have HO347 := n5_
            have HO350 := n6_
            have HO353 := n7_
            have HO358 := n8_
            have HO361 := n9_
            have HO364 := n10_
            have HO367 := n11_
            have HO370 := n12_
            have HO374 := n13_
            have HO377 := n14_
            have BK307 := n15_
            have BK308 := n16_
            have BK331 := n17_
            have BK355 := n18_
            have HB := n19_
            clear n0_ n1_ n2_ n3_ n4_ n5_ n6_ n7_ n8_ n9_ n10_ n11_ n12_ n13_ n14_ n15_ n16_ n17_ n18_ n19_
            (try clear hb)
            (try clear hb2)
            (try clear hk)
            (try clear hi)
            (try clear ho0)
            (try clear ho1)
            refine hK.out _ _ ⟨(kc BK307.out 0).trans rfl, (kc BK307.out 1).trans rfl, (kc BK331.out 0).trans rfl, (kc BK331.out 1).trans rfl, (kc BK308.out 0).trans rfl, (kc BK308.out 1).trans rfl, (kc BK355.out 0).trans rfl, (kc BK355.out 1).trans rfl⟩ (fun hHeld => ?_)
            clear hK K
            refine norm_ (a' := ?_) ?_ ?_
            rotate_left
            ·show Act.put _ (some 95) _ = _
             simp only [Act.put, y0, y1, y2, i64_w, i32_w]
             rfl
            refine one_ (i := 24) (N := some 97) (bz 38 0x1ffffff) rfl rfl (one_of HT_.out (by kernel_rfl)) (by decide) (fun K hK => ?_)
            refine zg Try.func13 #[.agg #[.slice Ao32 t324.length co32, .slice Ao34 t327.length co34]] ?_
            with_reducible refine (trefoillaw11_Own.calls _ _ t324 _ _ t327 t378 t381 _ ?side1 ?side2 ?side3 ?side4 A68.out).mono ?_
            (case side1 => exact zc (rr HO_332000.out).2.2)
            (case side2 => exact (rr HO_332000.out).2.1)
            (case side3 => exact zc (rr HO_332001.out).2.2)
            (case side4 => exact (rr HO_332001.out).2.1)
            rintro e w101 ⟨v379, v382, rfl, ho0, ho1, hb⟩
            refine ⟨_, rfl, ?_⟩
            have n0_ := Z0 (rm (rt (rt (ro (zr HO_332000) hb) (rb ho0)) (rb ho1)) (fun _ h_ => h_.1))
            have n1_ := Z0 (rm (rt (rt (ro (zr HO_332001) hb) (rb ho0)) (rb ho1)) (fun _ h_ => h_.1))
            have n2_ := Z0 (rm (rt (rt (ro (zr HO338) hb) (rb ho0)) (rb ho1)) (fun _ h_ => h_.1))
            have n3_ := Z0 (rbe (zr HO341) hb)
            have n4_ := Z0 (rm (rt (rt (ro (zr HO344) hb) (rb ho0)) (rb ho1)) (fun _ h_ => h_.1))
            have n5_ := Z0 (rm (rt (rt (ro (zr HO347) hb) (rb ho0)) (rb ho1)) (fun _ h_ => h_.1))
            have n6_ := Z0 (rm (rt (rt (ro (zr HO350) hb) (rb ho0)) (rb ho1)) (fun _ h_ => h_.1))
            have n7_ := Z0 (rm (rt (rt (ro (zr HO353) hb) (rb ho0)) (rb ho1)) (fun _ h_ => h_.1))
            have n8_ := Z0 (rm (rt (rt (ro (zr HO358) hb) (rb ho0)) (rb ho1)) (fun _ h_ => h_.1))
            have n9_ := Z0 (rbe (zr HO361) hb)
            have n10_ := Z0 (rm (rt (rt (ro (zr HO364) hb) (rb ho0)) (rb ho1)) (fun _ h_ => h_.1))
            have n11_ := Z0 (rm (rt (rt (ro (zr HO367) hb) (rb ho0)) (rb ho1)) (fun _ h_ => h_.1))
            have n12_ := Z0 (rm (rt (rt (ro (zr HO370) hb) (rb ho0)) (rb ho1)) (fun _ h_ => h_.1))
            have n13_ := Z0 (rm (rt (rt (ro (zr HO374) hb) (rb ho0)) (rb ho1)) (fun _ h_ => h_.1))
            have n14_ := Z0 (rbe (zr HO377) hb)
            have n15_ := Z0 (rl (rw_ (rw_ (rw_ (rw_ (rw_ (rw_ (rw_ (rw_ (rw_ (rw_ (rw_ (rw_ ho0 (rlt (zr HO_332000))) (rlt (zr HO_332001))) (rlt (zr HO338))) (rlt (zr HO344))) (rlt (zr HO347))) (rlt (zr HO350))) (rlt (zr HO353))) (rlt (zr HO358))) (rlt (zr HO364))) (rlt (zr HO367))) (rlt (zr HO370))) (rlt (zr HO374))) (below_size (zb HB)))
            have n16_ := Z0 (rl (rw_ (rw_ (rw_ (rw_ (rw_ (rw_ (rw_ (rw_ (rw_ (rw_ (rw_ (rw_ ho1 (rlt (zr HO_332000))) (rlt (zr HO_332001))) (rlt (zr HO338))) (rlt (zr HO344))) (rlt (zr HO347))) (rlt (zr HO350))) (rlt (zr HO353))) (rlt (zr HO358))) (rlt (zr HO364))) (rlt (zr HO367))) (rlt (zr HO370))) (rlt (zr HO374))) (below_size (zb HB)))
            have n17_ := Z0 (kb (g := gb307) (o := .cells #[.slice A0_0 l0_0.length c0_0, .slice A0_1 l0_1.length c0_1] 25 (0, 0)) (zk BK307) hb)
            have n18_ := Z0 (kb (g := gb308) (o := .cells #[.slice A1_0 l1_0.length c1_0, .slice A1_1 l1_1.length c1_1] 27 (0, 0)) (zk BK308) hb)
            have n19_ := Z0 (kb (g := gb331) (o := .cells #[.slice Ao32 t324.length co32, .slice Ao34 t327.length co34] 27 (0, 0)) (zk BK331) hb)
            have n20_ := Z0 (kb (g := gb355) (o := .cells #[.slice Ao86 t348.length co86, .slice Ao88 t351.length co88] 27 (0, 0)) (zk BK355) hb)
            have n21_ := Z0 (below_step (zb HB) hb)
            clear HO_332000
            clear HO_332001
            clear HO338
            clear HO341
            clear HO344
            clear HO347
            clear HO350
            clear HO353
            clear HO358
            clear HO361
            clear HO364
            clear HO367
            clear HO370
            clear HO374
            clear HO377
            clear BK307
            clear BK308
            clear BK331
            clear BK355
            clear HB
            have HO_332000 := n0_
            have HO_332001 := n1_
            have HO338 := n2_
            have HO341 := n3_
            have HO344 := n4_
            have HO347 := n5_
            have HO350 := n6_
            have HO353 := n7_
            have HO358 := n8_
            have HO361 := n9_
            have HO364 := n10_
            have HO367 := n11_
            have HO370 := n12_
            have HO374 := n13_
            have HO377 := n14_
            have HO380 := n15_
            have HO383 := n16_
            have BK307 := n17_
            have BK308 := n18_
            have BK331 := n19_
            have BK355 := n20_
            have HB := n21_
            clear n0_ n1_ n2_ n3_ n4_ n5_ n6_ n7_ n8_ n9_ n10_ n11_ n12_ n13_ n14_ n15_ n16_ n17_ n18_ n19_ n20_ n21_
            (try clear hb)
            (try clear hb2)
            (try clear hk)
            (try clear hi)
            (try clear ho0)
            (try clear ho1)
            obtain ⟨Ao102, co102, eo102⟩ := Kd.R_slice HO374.out
            (first | subst eo102 | (injection eo102 with f1_ f2_ f3_; have f4_ := f1_.symm; have f5_ := f3_.symm; clear f1_ f2_ f3_; subst f4_; subst f5_))
            obtain ⟨Ao103, co103, eo103⟩ := Kd.R_slice HO377.out
            (first | subst eo103 | (injection eo103 with f1_ f2_ f3_; have f4_ := f1_.symm; have f5_ := f3_.symm; clear f1_ f2_ f3_; subst f4_; subst f5_))
            obtain ⟨Ao104, co104, eo104⟩ := Kd.R_slice HO380.out
            (first | subst eo104 | (injection eo104 with f1_ f2_ f3_; have f4_ := f1_.symm; have f5_ := f3_.symm; clear f1_ f2_ f3_; subst f4_; subst f5_))
            obtain ⟨Ao105, co105, eo105⟩ := Kd.R_slice HO383.out
            (first | subst eo105 | (injection eo105 with f1_ f2_ f3_; have f4_ := f1_.symm; have f5_ := f3_.symm; clear f1_ f2_ f3_; subst f4_; subst f5_))
            refine hK.out _ _ ⟨(kc BK307.out 0).trans rfl, (kc BK307.out 1).trans rfl, (kc BK331.out 0).trans rfl, (kc BK331.out 1).trans rfl, (kc BK308.out 0).trans rfl, (kc BK308.out 1).trans rfl, (kc BK355.out 0).trans rfl, (kc BK355.out 1).trans rfl⟩ (fun hHeld => ?_)
            clear hK K
            refine norm_ (a' := ?_) ?_ ?_
            rotate_left
            ·show Act.put _ (some 97) _ = _
             simp only [Act.put, y0, y1, y2, i64_w, i32_w]
             rfl
            refine one_ (i := 25) (N := some 98) (bz 38 0x3ffffff) rfl rfl (one_of HT_.out (by kernel_rfl)) (by decide) (fun K hK => ?_)
            refine zg Try.func17 #[.agg #[.slice Ao102 t372.length co102, .slice Ao103 t375.length co103], .agg #[.slice Ao104 t378.length co104, .slice Ao105 t381.length co105]] ?_
            with_reducible refine (list_Check.calls _ _ t372 _ _ t375 _ _ t378 _ _ t381 t384 _ ?side1 ?side2 ?side3 ?side4 ?side5 ?side6 ?side7 ?side8 A69.out).mono ?_
            (case side1 => exact zc (rr HO374.out).2.2)
            (case side2 => exact (rr HO374.out).2.1)
            (case side3 => exact zc (rr HO377.out).2.2)
            (case side4 => exact (rr HO377.out).2.1)
            (case side5 => exact zc (rr HO380.out).2.2)
            (case side6 => exact (rr HO380.out).2.1)
            (case side7 => exact zc (rr HO383.out).2.2)
            (case side8 => exact (rr HO383.out).2.1)
            rintro e w106 ⟨rfl, hb⟩
            refine ⟨_, rfl, ?_⟩
            replace HO_332000 := Z0 (rbe (zr HO_332000) hb)
            replace HO_332001 := Z0 (rbe (zr HO_332001) hb)
            replace HO338 := Z0 (rbe (zr HO338) hb)
            replace HO341 := Z0 (rbe (zr HO341) hb)
            replace HO344 := Z0 (rbe (zr HO344) hb)
            replace HO347 := Z0 (rbe (zr HO347) hb)
            replace HO350 := Z0 (rbe (zr HO350) hb)
            replace HO353 := Z0 (rbe (zr HO353) hb)
            replace HO358 := Z0 (rbe (zr HO358) hb)
            replace HO361 := Z0 (rbe (zr HO361) hb)
            replace HO364 := Z0 (rbe (zr HO364) hb)
            replace HO367 := Z0 (rbe (zr HO367) hb)
            replace HO370 := Z0 (rbe (zr HO370) hb)
            replace HO374 := Z0 (rbe (zr HO374) hb)
            replace HO377 := Z0 (rbe (zr HO377) hb)
            replace HO380 := Z0 (rbe (zr HO380) hb)
            replace HO383 := Z0 (rbe (zr HO383) hb)
            replace BK307 := Z0 (kb (g := gb307) (o := .cells #[.slice A0_0 l0_0.length c0_0, .slice A0_1 l0_1.length c0_1] 25 (0, 0)) (zk BK307) hb)
            replace BK308 := Z0 (kb (g := gb308) (o := .cells #[.slice A1_0 l1_0.length c1_0, .slice A1_1 l1_1.length c1_1] 27 (0, 0)) (zk BK308) hb)
            replace BK331 := Z0 (kb (g := gb331) (o := .cells #[.slice Ao32 t324.length co32, .slice Ao34 t327.length co34] 27 (0, 0)) (zk BK331) hb)
            replace BK355 := Z0 (kb (g := gb355) (o := .cells #[.slice Ao86 t348.length co86, .slice Ao88 t351.length co88] 27 (0, 0)) (zk BK355) hb)
            replace HB := Z0 (below_step (zb HB) hb)
            (try clear hb)
            (try clear hb2)
            (try clear hk)
            (try clear hi)
            refine hK.out _ _ ⟨(kc BK307.out 0).trans rfl, (kc BK307.out 1).trans rfl, (kc BK331.out 0).trans rfl, (kc BK331.out 1).trans rfl, (kc BK308.out 0).trans rfl, (kc BK308.out 1).trans rfl, (kc BK355.out 0).trans rfl, (kc BK355.out 1).trans rfl⟩ (fun hHeld => ?_)
            clear hK K
            refine norm_ (a' := ?_) ?_ ?_
            rotate_left
            ·show Act.put _ (some 98) _ = _
             simp only [Act.put, y0, y1, y2, i64_w, i32_w]
             rfl
            refine pu 26 (some 99) (bz 38 0x7ffffff) HT_ ?_
            refine pu 27 (some 100) (bz 38 0xfffffff) HT_ ?_
            refine pu 28 (some 101) (bz 38 0x1fffffff) HT_ ?_
            refine pu 29 (some 102) (bz 38 0x3fffffff) HT_ ?_
            refine pu 30 (some 103) (bz 38 0x7fffffff) HT_ ?_
            refine pu 31 (some 104) (bz 38 0xffffffff) HT_ ?_
            refine pu 32 (some 105) (bz 38 0x1ffffffff) HT_ ?_
            refine tk8 33 (some 106) (bz 38 0x3ffffffff) HT_ HW_ hHeld ?_
            refine tk8 34 (some 107) (bz 38 0x7ffffffff) HT_ HW_ hHeld ?_
            refine one_ (i := 35) (N := some 108) (bz 38 0xfffffffff) rfl rfl (one_of HT_.out (by kernel_rfl)) (by decide) (fun K hK => ?_)
            refine zg Try.func19 #[.agg #[.slice Ao86 t348.length co86, .slice Ao88 t351.length co88], .agg #[.slice Ao32 t324.length co32, .slice Ao34 t327.length co34]] ?_
            with_reducible refine (trefoilref11_Same.calls k2 _ _ t348 _ _ t351 _ _ t324 _ _ t327 t385 _ ?side1 ?side2 ?side3 ?side4 ?side5 ?side6 ?side7 ?side8 A72.out).mono ?_
            (case side1 => exact zc (rr HO350.out).2.2)
            (case side2 => exact (rr HO350.out).2.1)
            (case side3 => exact zc (rr HO353.out).2.2)
            (case side4 => exact (rr HO353.out).2.1)
            (case side5 => exact zc (rr HO_332000.out).2.2)
            (case side6 => exact (rr HO_332000.out).2.1)
            (case side7 => exact zc (rr HO_332001.out).2.2)
            (case side8 => exact (rr HO_332001.out).2.1)
            rintro e w107 ⟨rfl, hb⟩
            refine ⟨_, rfl, ?_⟩
            replace HO_332000 := Z0 (rbe (zr HO_332000) hb)
            replace HO_332001 := Z0 (rbe (zr HO_332001) hb)
            replace HO338 := Z0 (rbe (zr HO338) hb)
            replace HO341 := Z0 (rbe (zr HO341) hb)
            replace HO344 := Z0 (rbe (zr HO344) hb)
            replace HO347 := Z0 (rbe (zr HO347) hb)
            replace HO350 := Z0 (rbe (zr HO350) hb)
            replace HO353 := Z0 (rbe (zr HO353) hb)
            replace HO358 := Z0 (rbe (zr HO358) hb)
            replace HO361 := Z0 (rbe (zr HO361) hb)
            replace HO364 := Z0 (rbe (zr HO364) hb)
            replace HO367 := Z0 (rbe (zr HO367) hb)
            replace HO370 := Z0 (rbe (zr HO370) hb)
            replace HO374 := Z0 (rbe (zr HO374) hb)
            replace HO377 := Z0 (rbe (zr HO377) hb)
            replace HO380 := Z0 (rbe (zr HO380) hb)
            replace HO383 := Z0 (rbe (zr HO383) hb)
            replace BK307 := Z0 (kb (g := gb307) (o := .cells #[.slice A0_0 l0_0.length c0_0, .slice A0_1 l0_1.length c0_1] 25 (0, 0)) (zk BK307) hb)
            replace BK308 := Z0 (kb (g := gb308) (o := .cells #[.slice A1_0 l1_0.length c1_0, .slice A1_1 l1_1.length c1_1] 27 (0, 0)) (zk BK308) hb)
            replace BK331 := Z0 (kb (g := gb331) (o := .cells #[.slice Ao32 t324.length co32, .slice Ao34 t327.length co34] 27 (0, 0)) (zk BK331) hb)
            replace BK355 := Z0 (kb (g := gb355) (o := .cells #[.slice Ao86 t348.length co86, .slice Ao88 t351.length co88] 27 (0, 0)) (zk BK355) hb)
            replace HB := Z0 (below_step (zb HB) hb)
            (try clear hb)
            (try clear hb2)
            (try clear hk)
            (try clear hi)
            refine hK.out _ _ ⟨(kc BK307.out 0).trans rfl, (kc BK307.out 1).trans rfl, (kc BK331.out 0).trans rfl, (kc BK331.out 1).trans rfl, (kc BK308.out 0).trans rfl, (kc BK308.out 1).trans rfl, (kc BK355.out 0).trans rfl, (kc BK355.out 1).trans rfl⟩ (fun hHeld => ?_)
            clear hK K
            refine norm_ (a' := ?_) ?_ ?_
            rotate_left
            ·show Act.put _ (some 108) _ = _
             simp only [Act.put, y0, y1, y2, i64_w, i32_w]
             rfl
            refine pu 36 (some 109) (bz 38 0x1fffffffff) HT_ ?_
            refine pu 37 (some 4) (bz 38 0x3fffffffff) HT_ ?_
            refine done_ (done_of HT_.out (by kernel_rfl)) ?_
            try go_wp2
            go_ret
            exact ⟨by first | rfl | (simp [errW_none, errW_some] <;> rfl) | (simp [*, errW_none, errW_some] <;> rfl), by repeat (first | (with_reducible first | exact HB.out | apply wa | apply wn | apply wd | refine ws ?_ GE307.out | refine ws ?_ GE308.out | refine ws ?_ GE331.out | refine ws ?_ GE355.out) | exact HB.out)⟩
           ·rw [if_neg c71] at H
            have c71b0 : (t354 == 0) = false := beq_eq_false_iff_ne.mpr c71
            have c71b1 : (t354 != 0) = true := bne_iff_ne.mpr c71
            exact absurd ((Option.some.inj H).trans hrt.out) (by decide)
          ·rw [if_neg c70] at H
           have c70b0 : (t384 == 0) = false := beq_eq_false_iff_ne.mpr c70
           have c70b1 : (t384 != 0) = true := bne_iff_ne.mpr c70
           exact absurd ((Option.some.inj H).trans hrt.out) (by decide)
         ·replace c66 := Bool.eq_false_iff.mpr c66
          subst c66
          have H1 : (some false) = some r := by rw [if_neg (show ¬ (false = true) by decide)] at H; exact H
          clear H
          have H := H1
          clear H1
          exact absurd ((Option.some.inj H).trans hrt.out) (by decide)
        ·rw [if_neg c64] at H
         have c64b0 : ((t368.length : Int) == 0) = false := beq_eq_false_iff_ne.mpr c64
         have c64b1 : ((t368.length : Int) != 0) = true := bne_iff_ne.mpr c64
         have c64b2 : ¬ (t368 = []) := fun h_ => c64 (by rw [h_]; rfl)
         replace H := Option.bind_eq_some_iff.mp H
         obtain ⟨t386, A2030, H⟩ := H
         replace H : (if t386 = true then (some false) else ((trefoilref02_Ints.f k2 t327 l1_1).bind fun t387 => (if t387 = true then ((trefoillaw04_Own.f l0_0 l0_1).bind fun bt388 => ((trefoillaw11_Own.f t324 t327).bind fun bt394 => ((list_Check.f bt388.1 bt388.2 bt394.1 bt394.2).bind fun t400 => (if t400 = 0 then (if t354 = 0 then ((trefoilref11_Same.f k2 t348 t351 t324 t327).bind fun t401 => (some t401)) else (some false)) else (some false))))) else (some false)))) = some r := H
         have A203 := Z0 A2030
         clear A2030
         by_cases c204 : t386 = true
         ·subst c204
          have H1 : (some false) = some r := by rw [if_pos rfl] at H; exact H
          clear H
          have H := H1
          clear H1
          exact absurd ((Option.some.inj H).trans hrt.out) (by decide)
         ·replace c204 := Bool.eq_false_iff.mpr c204
          subst c204
          have H1 : ((trefoilref02_Ints.f k2 t327 l1_1).bind fun t387 => (if t387 = true then ((trefoillaw04_Own.f l0_0 l0_1).bind fun bt388 => ((trefoillaw11_Own.f t324 t327).bind fun bt394 => ((list_Check.f bt388.1 bt388.2 bt394.1 bt394.2).bind fun t400 => (if t400 = 0 then (if t354 = 0 then ((trefoilref11_Same.f k2 t348 t351 t324 t327).bind fun t401 => (some t401)) else (some false)) else (some false))))) else (some false))) = some r := by rw [if_neg (show ¬ (false = true) by decide)] at H; exact H
          clear H
          have H := H1
          clear H1
          replace H := Option.bind_eq_some_iff.mp H
          obtain ⟨t387, A2320, H⟩ := H
          replace H : (if t387 = true then ((trefoillaw04_Own.f l0_0 l0_1).bind fun bt388 => ((trefoillaw11_Own.f t324 t327).bind fun bt394 => ((list_Check.f bt388.1 bt388.2 bt394.1 bt394.2).bind fun t400 => (if t400 = 0 then (if t354 = 0 then ((trefoilref11_Same.f k2 t348 t351 t324 t327).bind fun t401 => (some t401)) else (some false)) else (some false))))) else (some false)) = some r := H
          have A232 := Z0 A2320
          clear A2320
          by_cases c233 : t387 = true
          ·subst c233
           have H1 : ((trefoillaw04_Own.f l0_0 l0_1).bind fun bt388 => ((trefoillaw11_Own.f t324 t327).bind fun bt394 => ((list_Check.f bt388.1 bt388.2 bt394.1 bt394.2).bind fun t400 => (if t400 = 0 then (if t354 = 0 then ((trefoilref11_Same.f k2 t348 t351 t324 t327).bind fun t401 => (some t401)) else (some false)) else (some false))))) = some r := by rw [if_pos rfl] at H; exact H
           clear H
           have H := H1
           clear H1
           replace H := Option.bind_eq_some_iff.mp H
           obtain ⟨⟨t388, t391⟩, A2340, H⟩ := H
           replace H : ((trefoillaw11_Own.f t324 t327).bind fun bt394 => ((list_Check.f t388 t391 bt394.1 bt394.2).bind fun t400 => (if t400 = 0 then (if t354 = 0 then ((trefoilref11_Same.f k2 t348 t351 t324 t327).bind fun t401 => (some t401)) else (some false)) else (some false)))) = some r := H
           have A234 := Z0 A2340
           clear A2340
           replace H := Option.bind_eq_some_iff.mp H
           obtain ⟨⟨t394, t397⟩, A2350, H⟩ := H
           replace H : ((list_Check.f t388 t391 t394 t397).bind fun t400 => (if t400 = 0 then (if t354 = 0 then ((trefoilref11_Same.f k2 t348 t351 t324 t327).bind fun t401 => (some t401)) else (some false)) else (some false))) = some r := H
           have A235 := Z0 A2350
           clear A2350
           replace H := Option.bind_eq_some_iff.mp H
           obtain ⟨t400, A2360, H⟩ := H
           replace H : (if t400 = 0 then (if t354 = 0 then ((trefoilref11_Same.f k2 t348 t351 t324 t327).bind fun t401 => (some t401)) else (some false)) else (some false)) = some r := H
           have A236 := Z0 A2360
           clear A2360
           by_cases c237 : t400 = 0
           ·rw [if_pos c237] at H
            have c237b0 : (t400 == 0) = true := beq_iff_eq.mpr c237
            have c237b1 : (t400 != 0) = false := bne_eq_false_iff_eq.mpr c237
            clear c237
            by_cases c238 : t354 = 0
            ·rw [if_pos c238] at H
             have c238b0 : (t354 == 0) = true := beq_iff_eq.mpr c238
             have c238b1 : (t354 != 0) = false := bne_eq_false_iff_eq.mpr c238
             clear c238
             replace H := Option.bind_eq_some_iff.mp H
             obtain ⟨t401, A2390, H⟩ := H
             replace H : (some t401) = some r := H
             have A239 := Z0 A2390
             clear A2390
             obtain rfl := Option.some.inj H
             as_aux_lemma =>
             refine start_ (n := 38) (S := fun w' => w'.cell? ⟨gb307, 0, none⟩ = some (.slice A0_0 l0_0.length c0_0) ∧ w'.cell? ⟨gb307, 1, none⟩ = some (.slice A0_1 l0_1.length c0_1) ∧ w'.cell? ⟨gb331, 0, none⟩ = some (.slice Ao32 t324.length co32) ∧ w'.cell? ⟨gb331, 1, none⟩ = some (.slice Ao34 t327.length co34) ∧ w'.cell? ⟨gb308, 0, none⟩ = some (.slice A1_0 l1_0.length c1_0) ∧ w'.cell? ⟨gb308, 1, none⟩ = some (.slice A1_1 l1_1.length c1_1) ∧ w'.cell? ⟨gb355, 0, none⟩ = some (.slice Ao86 t348.length co86) ∧ w'.cell? ⟨gb355, 1, none⟩ = some (.slice Ao88 t351.length co88)) (ds := []) (bz 38 0) (by kernel_rfl) rfl rfl ⟨(kc BK307.out 0).trans rfl, (kc BK307.out 1).trans rfl, (kc BK331.out 0).trans rfl, (kc BK331.out 1).trans rfl, (kc BK308.out 0).trans rfl, (kc BK308.out 1).trans rfl, (kc BK355.out 0).trans rfl, (kc BK355.out 1).trans rfl⟩ (fun hHeld => ?_); refine with_tabW trefoillaw11_ListFill.tab12 trefoillaw11_ListFill.bits12 (fun HT_ HW_ => ?_)
             generalize w90.drew = w258 at HO_332000 HO_332001 HO338 HO341 HO344 HO347 HO350 HO353 BK307 BK308 BK331 BK355 HB hHeld ⊢
             refine tk8 0 (some 73) (bz 38 1) HT_ HW_ hHeld ?_
             refine tk8 2 (some 75) (bz 38 5) HT_ HW_ hHeld ?_
             refine one_ (i := 1) (N := some 74) (bz 38 7) rfl rfl (one_of HT_.out (by kernel_rfl)) (by decide) (fun K hK => ?_)
             refine zg Try.func12 #[.agg #[.slice A0_0 l0_0.length c0_0, .slice A0_1 l0_1.length c0_1]] ?_
             with_reducible refine (trefoillaw04_Own.calls _ _ l0_0 _ _ l0_1 t356 t359 _ ?side1 ?side2 ?side3 ?side4 A61.out).mono ?_
             (case side1 => exact zc (Kd.C_below HR0_0.out HB.out))
             (case side2 => exact HC0_0.out)
             (case side3 => exact zc (Kd.C_below HR0_1.out HB.out))
             (case side4 => exact HC0_1.out)
             rintro e w259 ⟨v357, v360, rfl, ho0, ho1, hb⟩
             refine ⟨_, rfl, ?_⟩
             have n0_ := Z0 (Kd.R_elder' (zr HO_332000) (rb ho0) hb)
             have n1_ := Z0 (Kd.R_elder' (zr HO_332001) (rb ho0) hb)
             have n2_ := Z0 (Kd.R_elder' (zr HO338) (rb ho0) hb)
             have n3_ := Z0 (Kd.R_elder' (zr HO341) (rb ho1) hb)
             have n4_ := Z0 (Kd.R_elder' (zr HO344) (rb ho0) hb)
             have n5_ := Z0 (Kd.R_elder' (zr HO347) (rb ho0) hb)
             have n6_ := Z0 (Kd.R_elder' (zr HO350) (rb ho0) hb)
             have n7_ := Z0 (Kd.R_elder' (zr HO353) (rb ho0) hb)
             have n8_ := Z0 (rl (rw_ (rw_ (rw_ (rw_ (rw_ (rw_ (rw_ ho0 (rlt (zr HO_332000))) (rlt (zr HO_332001))) (rlt (zr HO338))) (rlt (zr HO344))) (rlt (zr HO347))) (rlt (zr HO350))) (rlt (zr HO353))) (below_size (zb HB)))
             have n9_ := Z0 (rl (rw_ ho1 (rlt (zr HO341))) (below_size (zb HB)))
             have n10_ := Z0 (kb (g := gb307) (o := .cells #[.slice A0_0 l0_0.length c0_0, .slice A0_1 l0_1.length c0_1] 25 (0, 0)) (zk BK307) hb)
             have n11_ := Z0 (kb (g := gb308) (o := .cells #[.slice A1_0 l1_0.length c1_0, .slice A1_1 l1_1.length c1_1] 27 (0, 0)) (zk BK308) hb)
             have n12_ := Z0 (kb (g := gb331) (o := .cells #[.slice Ao32 t324.length co32, .slice Ao34 t327.length co34] 27 (0, 0)) (zk BK331) hb)
             have n13_ := Z0 (kb (g := gb355) (o := .cells #[.slice Ao86 t348.length co86, .slice Ao88 t351.length co88] 27 (0, 0)) (zk BK355) hb)
             have n14_ := Z0 (below_step (zb HB) hb)
             clear HO_332000
             clear HO_332001
             clear HO338
             clear HO341
             clear HO344
             clear HO347
             clear HO350
             clear HO353
             clear BK307
             clear BK308
             clear BK331
             clear BK355
             clear HB
             have HO_332000 := n0_
             have HO_332001 := n1_
             have HO338 := n2_
             have HO341 := n3_
             have HO344 := n4_
             have HO347 := n5_
             have HO350 := n6_
             have HO353 := n7_
             have HO358 := n8_
             have HO361 := n9_
             have BK307 := n10_
             have BK308 := n11_
             have BK331 := n12_
             have BK355 := n13_
             have HB := n14_
             clear n0_ n1_ n2_ n3_ n4_ n5_ n6_ n7_ n8_ n9_ n10_ n11_ n12_ n13_ n14_
             (try clear hb)
             (try clear hb2)
             (try clear hk)
             (try clear hi)
             (try clear ho0)
             (try clear ho1)
             refine hK.out _ _ ⟨(kc BK307.out 0).trans rfl, (kc BK307.out 1).trans rfl, (kc BK331.out 0).trans rfl, (kc BK331.out 1).trans rfl, (kc BK308.out 0).trans rfl, (kc BK308.out 1).trans rfl, (kc BK355.out 0).trans rfl, (kc BK355.out 1).trans rfl⟩ (fun hHeld => ?_)
             clear hK K
             refine norm_ (a' := ?_) ?_ ?_
             rotate_left
             ·show Act.put _ (some 74) _ = _
              simp only [Act.put, y0, y1, y2, i64_w, i32_w]
              rfl
             refine one_ (i := 3) (N := some 76) (bz 38 15) rfl rfl (one_of HT_.out (by kernel_rfl)) (by decide) (fun K hK => ?_)
             refine zg Try.func13 #[.agg #[.slice Ao32 t324.length co32, .slice Ao34 t327.length co34]] ?_
             with_reducible refine (trefoillaw11_Own.calls _ _ t324 _ _ t327 t362 t365 _ ?side1 ?side2 ?side3 ?side4 A62.out).mono ?_
             (case side1 => exact zc (rr HO_332000.out).2.2)
             (case side2 => exact (rr HO_332000.out).2.1)
             (case side3 => exact zc (rr HO_332001.out).2.2)
             (case side4 => exact (rr HO_332001.out).2.1)
             rintro e w260 ⟨v363, v366, rfl, ho0, ho1, hb⟩
             refine ⟨_, rfl, ?_⟩
             have n0_ := Z0 (rm (rt (rt (ro (zr HO_332000) hb) (rb ho0)) (rb ho1)) (fun _ h_ => h_.1))
             have n1_ := Z0 (rm (rt (rt (ro (zr HO_332001) hb) (rb ho0)) (rb ho1)) (fun _ h_ => h_.1))
             have n2_ := Z0 (rm (rt (rt (ro (zr HO338) hb) (rb ho0)) (rb ho1)) (fun _ h_ => h_.1))
             have n3_ := Z0 (rbe (zr HO341) hb)
             have n4_ := Z0 (rm (rt (rt (ro (zr HO344) hb) (rb ho0)) (rb ho1)) (fun _ h_ => h_.1))
             have n5_ := Z0 (rm (rt (rt (ro (zr HO347) hb) (rb ho0)) (rb ho1)) (fun _ h_ => h_.1))
             have n6_ := Z0 (rm (rt (rt (ro (zr HO350) hb) (rb ho0)) (rb ho1)) (fun _ h_ => h_.1))
             have n7_ := Z0 (rm (rt (rt (ro (zr HO353) hb) (rb ho0)) (rb ho1)) (fun _ h_ => h_.1))
             have n8_ := Z0 (rm (rt (rt (ro (zr HO358) hb) (rb ho0)) (rb ho1)) (fun _ h_ => h_.1))
             have n9_ := Z0 (rbe (zr HO361) hb)
             have n10_ := Z0 (rl (rw_ (rw_ (rw_ (rw_ (rw_ (rw_ (rw_ (rw_ ho0 (rlt (zr HO_332000))) (rlt (zr HO_332001))) (rlt (zr HO338))) (rlt (zr HO344))) (rlt (zr HO347))) (rlt (zr HO350))) (rlt (zr HO353))) (rlt (zr HO358))) (below_size (zb HB)))
             have n11_ := Z0 (rl (rw_ (rw_ (rw_ (rw_ (rw_ (rw_ (rw_ (rw_ ho1 (rlt (zr HO_332000))) (rlt (zr HO_332001))) (rlt (zr HO338))) (rlt (zr HO344))) (rlt (zr HO347))) (rlt (zr HO350))) (rlt (zr HO353))) (rlt (zr HO358))) (below_size (zb HB)))
             have n12_ := Z0 (kb (g := gb307) (o := .cells #[.slice A0_0 l0_0.length c0_0, .slice A0_1 l0_1.length c0_1] 25 (0, 0)) (zk BK307) hb)
             have n13_ := Z0 (kb (g := gb308) (o := .cells #[.slice A1_0 l1_0.length c1_0, .slice A1_1 l1_1.length c1_1] 27 (0, 0)) (zk BK308) hb)
             have n14_ := Z0 (kb (g := gb331) (o := .cells #[.slice Ao32 t324.length co32, .slice Ao34 t327.length co34] 27 (0, 0)) (zk BK331) hb)
             have n15_ := Z0 (kb (g := gb355) (o := .cells #[.slice Ao86 t348.length co86, .slice Ao88 t351.length co88] 27 (0, 0)) (zk BK355) hb)
             have n16_ := Z0 (below_step (zb HB) hb)
             clear HO_332000
             clear HO_332001
             clear HO338
             clear HO341
             clear HO344
             clear HO347
             clear HO350
             clear HO353
             clear HO358
             clear HO361
             clear BK307
             clear BK308
             clear BK331
             clear BK355
             clear HB
             have HO_332000 := n0_
             have HO_332001 := n1_
             have HO338 := n2_
             have HO341 := n3_
             have HO344 := n4_
             have HO347 := n5_
             have HO350 := n6_
             have HO353 := n7_
             have HO358 := n8_
             have HO361 := n9_
             have HO364 := n10_
             have HO367 := n11_
             have BK307 := n12_
             have BK308 := n13_
             have BK331 := n14_
             have BK355 := n15_
             have HB := n16_
             clear n0_ n1_ n2_ n3_ n4_ n5_ n6_ n7_ n8_ n9_ n10_ n11_ n12_ n13_ n14_ n15_ n16_
             (try clear hb)
             (try clear hb2)
             (try clear hk)
             (try clear hi)
             (try clear ho0)
             (try clear ho1)
             obtain ⟨Ao261, co261, eo261⟩ := Kd.R_slice HO358.out
             (first | subst eo261 | (injection eo261 with f1_ f2_ f3_; have f4_ := f1_.symm; have f5_ := f3_.symm; clear f1_ f2_ f3_; subst f4_; subst f5_))
             obtain ⟨Ao262, co262, eo262⟩ := Kd.R_slice HO361.out
             (first | subst eo262 | (injection eo262 with f1_ f2_ f3_; have f4_ := f1_.symm; have f5_ := f3_.symm; clear f1_ f2_ f3_; subst f4_; subst f5_))
             obtain ⟨Ao263, co263, eo263⟩ := Kd.R_slice HO364.out
             (first | subst eo263 | (injection eo263 with f1_ f2_ f3_; have f4_ := f1_.symm; have f5_ := f3_.symm; clear f1_ f2_ f3_; subst f4_; subst f5_))
             obtain ⟨Ao264, co264, eo264⟩ := Kd.R_slice HO367.out
             (first | subst eo264 | (injection eo264 with f1_ f2_ f3_; have f4_ := f1_.symm; have f5_ := f3_.symm; clear f1_ f2_ f3_; subst f4_; subst f5_))
             refine hK.out _ _ ⟨(kc BK307.out 0).trans rfl, (kc BK307.out 1).trans rfl, (kc BK331.out 0).trans rfl, (kc BK331.out 1).trans rfl, (kc BK308.out 0).trans rfl, (kc BK308.out 1).trans rfl, (kc BK355.out 0).trans rfl, (kc BK355.out 1).trans rfl⟩ (fun hHeld => ?_)
             clear hK K
             refine norm_ (a' := ?_) ?_ ?_
             rotate_left
             ·show Act.put _ (some 76) _ = _
              simp only [Act.put, y0, y1, y2, i64_w, i32_w]
              rfl
             refine one_ (i := 4) (N := some 77) (bz 38 31) rfl rfl (one_of HT_.out (by kernel_rfl)) (by decide) (fun K hK => ?_)
             refine zg Try.func15 #[.agg #[.slice Ao261 t356.length co261, .slice Ao262 t359.length co262], .agg #[.slice Ao263 t362.length co263, .slice Ao264 t365.length co264]] ?_
             with_reducible refine (list_Ready.calls _ _ t356 _ _ t359 _ _ t362 _ _ t365 t368 _ ?side1 ?side2 ?side3 ?side4 ?side5 ?side6 ?side7 ?side8 A63.out).mono ?_
             (case side1 => exact zc (rr HO358.out).2.2)
             (case side2 => exact (rr HO358.out).2.1)
             (case side3 => exact zc (rr HO361.out).2.2)
             (case side4 => exact (rr HO361.out).2.1)
             (case side5 => exact zc (rr HO364.out).2.2)
             (case side6 => exact (rr HO364.out).2.1)
             (case side7 => exact zc (rr HO367.out).2.2)
             (case side8 => exact (rr HO367.out).2.1)
             rintro e w265 ⟨v369, rfl, ho0, hb⟩
             refine ⟨_, rfl, ?_⟩
             have n0_ := Z0 (Kd.R_elder' (zr HO_332000) (rb ho0) hb)
             have n1_ := Z0 (Kd.R_elder' (zr HO_332001) (rb ho0) hb)
             have n2_ := Z0 (Kd.R_elder' (zr HO338) (rb ho0) hb)
             have n3_ := Z0 (rbe (zr HO341) hb)
             have n4_ := Z0 (Kd.R_elder' (zr HO344) (rb ho0) hb)
             have n5_ := Z0 (Kd.R_elder' (zr HO347) (rb ho0) hb)
             have n6_ := Z0 (Kd.R_elder' (zr HO350) (rb ho0) hb)
             have n7_ := Z0 (Kd.R_elder' (zr HO353) (rb ho0) hb)
             have n8_ := Z0 (Kd.R_elder' (zr HO358) (rb ho0) hb)
             have n9_ := Z0 (rbe (zr HO361) hb)
             have n10_ := Z0 (Kd.R_elder' (zr HO364) (rb ho0) hb)
             have n11_ := Z0 (Kd.R_elder' (zr HO367) (rb ho0) hb)
             have n12_ := Z0 (rl (rw_ (rw_ (rw_ (rw_ (rw_ (rw_ (rw_ (rw_ (rw_ (rw_ ho0 (rlt (zr HO_332000))) (rlt (zr HO_332001))) (rlt (zr HO338))) (rlt (zr HO344))) (rlt (zr HO347))) (rlt (zr HO350))) (rlt (zr HO353))) (rlt (zr HO358))) (rlt (zr HO364))) (rlt (zr HO367))) (below_size (zb HB)))
             have n13_ := Z0 (kb (g := gb307) (o := .cells #[.slice A0_0 l0_0.length c0_0, .slice A0_1 l0_1.length c0_1] 25 (0, 0)) (zk BK307) hb)
             have n14_ := Z0 (kb (g := gb308) (o := .cells #[.slice A1_0 l1_0.length c1_0, .slice A1_1 l1_1.length c1_1] 27 (0, 0)) (zk BK308) hb)
             have n15_ := Z0 (kb (g := gb331) (o := .cells #[.slice Ao32 t324.length co32, .slice Ao34 t327.length co34] 27 (0, 0)) (zk BK331) hb)
             have n16_ := Z0 (kb (g := gb355) (o := .cells #[.slice Ao86 t348.length co86, .slice Ao88 t351.length co88] 27 (0, 0)) (zk BK355) hb)
             have n17_ := Z0 (below_step (zb HB) hb)
             clear HO_332000
             clear HO_332001
             clear HO338
             clear HO341
             clear HO344
             clear HO347
             clear HO350
             clear HO353
             clear HO358
             clear HO361
             clear HO364
             clear HO367
             clear BK307
             clear BK308
             clear BK331
             clear BK355
             clear HB
             have HO_332000 := n0_
             have HO_332001 := n1_
             have HO338 := n2_
             have HO341 := n3_
             have HO344 := n4_
             have HO347 := n5_
             have HO350 := n6_
             have HO353 := n7_
             have HO358 := n8_
             have HO361 := n9_
             have HO364 := n10_
             have HO367 := n11_
             have HO370 := n12_
             have BK307 := n13_
             have BK308 := n14_
             have BK331 := n15_
             have BK355 := n16_
             have HB := n17_
             clear n0_ n1_ n2_ n3_ n4_ n5_ n6_ n7_ n8_ n9_ n10_ n11_ n12_ n13_ n14_ n15_ n16_ n17_
             (try clear hb)
             (try clear hb2)
             (try clear hk)
             (try clear hi)
             (try clear ho0)
             obtain ⟨Ao266, co266, eo266⟩ := Kd.R_slice HO370.out
             (first | subst eo266 | (injection eo266 with f1_ f2_ f3_; have f4_ := f1_.symm; have f5_ := f3_.symm; clear f1_ f2_ f3_; subst f4_; subst f5_))
             refine hK.out _ _ ⟨(kc BK307.out 0).trans rfl, (kc BK307.out 1).trans rfl, (kc BK331.out 0).trans rfl, (kc BK331.out 1).trans rfl, (kc BK308.out 0).trans rfl, (kc BK308.out 1).trans rfl, (kc BK355.out 0).trans rfl, (kc BK355.out 1).trans rfl⟩ (fun hHeld => ?_)
             clear hK K
             refine norm_ (a' := ?_) ?_ ?_
             rotate_left
             ·show Act.put _ (some 77) _ = _
              simp only [Act.put, y0, y1, y2, i64_w, i32_w]
              rfl
             refine pu 5 (some 78) (bz 38 63) HT_ ?_
             refine pu 6 (some 79) (bz 38 127) HT_ ?_
             refine pu 7 (some 80) (bz 38 255) HT_ ?_
             refine pu 8 (some 81) (bz 38 511) HT_ ?_
             refine tk8 9 (some 82) (bz 38 1023) HT_ HW_ hHeld ?_
             refine one_ (i := 10) (N := some 83) (bz 38 2047) rfl rfl (one_of HT_.out (by kernel_rfl)) (by decide) (fun K hK => ?_)
             refine zg Try.func31 #[.slice Ao32 t324.length co32, .int .i64 (-1)] ?_
             with_reducible refine (trefoilref04_Has.calls k2 _ _ t324 (-1) false _ ?side1 ?side2 A203.out).mono ?_
             (case side1 => exact zc (rr HO_332000.out).2.2)
             (case side2 => exact (rr HO_332000.out).2.1)
             rintro e w' ⟨rfl, ⟨nd, rfl⟩⟩
             refine ⟨_, rfl, ?_⟩
             refine hK.out _ _ ⟨(kc BK307.out 0).trans rfl, (kc BK307.out 1).trans rfl, (kc BK331.out 0).trans rfl, (kc BK331.out 1).trans rfl, (kc BK308.out 0).trans rfl, (kc BK308.out 1).trans rfl, (kc BK355.out 0).trans rfl, (kc BK355.out 1).trans rfl⟩ (fun hHeld => ?_)
             clear hK K
             refine norm_ (a' := ?_) ?_ ?_
             rotate_left
             ·show Act.put _ (some 83) _ = _
              simp only [Act.put, y0, y1, y2, i64_w, i32_w]
              rfl
             refine pu 11 (some 84) (bz 38 4095) HT_ ?_
             refine pu 12 (some 85) (bz 38 8191) HT_ ?_
             refine pu 13 (some 86) (bz 38 16383) HT_ ?_
             refine pu 14 (some 87) (bz 38 32767) HT_ ?_
             refine pu 16 (some 89) (bz 38 98303) HT_ ?_
             refine tk8 15 (some 88) (bz 38 131071) HT_ HW_ hHeld ?_
             refine tk8 17 (some 90) (bz 38 262143) HT_ HW_ hHeld ?_
             refine one_ (i := 18) (N := some 91) (bz 38 524287) rfl rfl (one_of HT_.out (by kernel_rfl)) (by decide) (fun K hK => ?_)
             refine zg Try.func22 #[.slice Ao34 t327.length co34, .slice A1_1 l1_1.length c1_1] ?_
             with_reducible refine (trefoilref02_Ints.calls k2 _ _ t327 _ _ l1_1 true _ ?side1 ?side2 ?side3 ?side4 A232.out).mono ?_
             (case side1 => exact zc (rr HO_332001.out).2.2)
             (case side2 => exact (rr HO_332001.out).2.1)
             (case side3 => repeat (first | exact (Kd.C_below HR1_1.out (zb HB)) | (with_reducible refine Kd.C_alloc ?_ _) | (with_reducible refine Kd.C_drewN ?_ _) | (with_reducible refine Kd.C_drew ?_)))
             (case side4 => exact HC1_1.out)
             rintro e w' ⟨rfl, ⟨nd, rfl⟩⟩
             refine ⟨_, rfl, ?_⟩
             refine hK.out _ _ ⟨(kc BK307.out 0).trans rfl, (kc BK307.out 1).trans rfl, (kc BK331.out 0).trans rfl, (kc BK331.out 1).trans rfl, (kc BK308.out 0).trans rfl, (kc BK308.out 1).trans rfl, (kc BK355.out 0).trans rfl, (kc BK355.out 1).trans rfl⟩ (fun hHeld => ?_)
             clear hK K
             refine norm_ (a' := ?_) ?_ ?_
             rotate_left
             ·show Act.put _ (some 91) _ = _
              simp only [Act.put, y0, y1, y2, i64_w, i32_w]
              rfl
             refine pu 19 (some 92) (bz 38 0xfffff) HT_ ?_
             refine pu 20 (some 93) (bz 38 0x1fffff) HT_ ?_
             refine tk8 21 (some 94) (bz 38 0x3fffff) HT_ HW_ hHeld ?_
             refine tk8 23 (some 96) (bz 38 0xbfffff) HT_ HW_ hHeld ?_
             refine one_ (i := 22) (N := some 95) (bz 38 0xffffff) rfl rfl (one_of HT_.out (by kernel_rfl)) (by decide) (fun K hK => ?_)
             refine zg Try.func12 #[.agg #[.slice A0_0 l0_0.length c0_0, .slice A0_1 l0_1.length c0_1]] ?_
             with_reducible refine (trefoillaw04_Own.calls _ _ l0_0 _ _ l0_1 t388 t391 _ ?side1 ?side2 ?side3 ?side4 A234.out).mono ?_
             (case side1 => repeat (first | exact (Kd.C_below HR0_0.out (zb HB)) | (with_reducible refine Kd.C_alloc ?_ _) | (with_reducible refine Kd.C_drewN ?_ _) | (with_reducible refine Kd.C_drew ?_)))
             (case side2 => exact HC0_0.out)
             (case side3 => repeat (first | exact (Kd.C_below HR0_1.out (zb HB)) | (with_reducible refine Kd.C_alloc ?_ _) | (with_reducible refine Kd.C_drewN ?_ _) | (with_reducible refine Kd.C_drew ?_)))
             (case side4 => exact HC0_1.out)
             rintro e w267 ⟨v389, v392, rfl, ho0, ho1, hb⟩
             refine ⟨_, rfl, ?_⟩
             have n0_ := Z0 (Kd.R_elder' (zr HO_332000) (rb ho0) hb)
             have n1_ := Z0 (Kd.R_elder' (zr HO_332001) (rb ho0) hb)
             have n2_ := Z0 (Kd.R_elder' (zr HO338) (rb ho0) hb)
             have n3_ := Z0 (Kd.R_elder' (zr HO341) (rb ho1) hb)
             have n4_ := Z0 (Kd.R_elder' (zr HO344) (rb ho0) hb)
             have n5_ := Z0 (Kd.R_elder' (zr HO347) (rb ho0) hb)
             have n6_ := Z0 (Kd.R_elder' (zr HO350) (rb ho0) hb)
             have n7_ := Z0 (Kd.R_elder' (zr HO353) (rb ho0) hb)
             have n8_ := Z0 (Kd.R_elder' (zr HO358) (rb ho0) hb)
             have n9_ := Z0 (Kd.R_elder' (zr HO361) (rb ho1) hb)
             have n10_ := Z0 (Kd.R_elder' (zr HO364) (rb ho0) hb)
             have n11_ := Z0 (Kd.R_elder' (zr HO367) (rb ho0) hb)
             have n12_ := Z0 (Kd.R_elder' (zr HO370) (rb ho0) hb)
             have n13_ := Z0 (rl (rw_ (rw_ (rw_ (rw_ (rw_ (rw_ (rw_ (rw_ (rw_ (rw_ (rw_ ho0 (rlt (zr HO_332000))) (rlt (zr HO_332001))) (rlt (zr HO338))) (rlt (zr HO344))) (rlt (zr HO347))) (rlt (zr HO350))) (rlt (zr HO353))) (rlt (zr HO358))) (rlt (zr HO364))) (rlt (zr HO367))) (rlt (zr HO370))) (below_size (zb HB)))
             have n14_ := Z0 (rl (rw_ (rw_ ho1 (rlt (zr HO341))) (rlt (zr HO361))) (below_size (zb HB)))
             have n15_ := Z0 (kb (g := gb307) (o := .cells #[.slice A0_0 l0_0.length c0_0, .slice A0_1 l0_1.length c0_1] 25 (0, 0)) (zk BK307) hb)
             have n16_ := Z0 (kb (g := gb308) (o := .cells #[.slice A1_0 l1_0.length c1_0, .slice A1_1 l1_1.length c1_1] 27 (0, 0)) (zk BK308) hb)
             have n17_ := Z0 (kb (g := gb331) (o := .cells #[.slice Ao32 t324.length co32, .slice Ao34 t327.length co34] 27 (0, 0)) (zk BK331) hb)
             have n18_ := Z0 (kb (g := gb355) (o := .cells #[.slice Ao86 t348.length co86, .slice Ao88 t351.length co88] 27 (0, 0)) (zk BK355) hb)
             have n19_ := Z0 (below_step (zb HB) hb)
             clear HO_332000
             clear HO_332001
             clear HO338
             clear HO341
             clear HO344
             clear HO347
             clear HO350
             clear HO353
             clear HO358
             clear HO361
             clear HO364
             clear HO367
             clear HO370
             clear BK307
             clear BK308
             clear BK331
             clear BK355
             clear HB
             have HO_332000 := n0_
             have HO_332001 := n1_
             have HO338 := n2_
             have HO341 := n3_
             have HO344 := n4_
             have HO347 := n5_
             have HO350 := n6_
             have HO353 := n7_
             have HO358 := n8_
             have HO361 := n9_
             have HO364 := n10_
             have HO367 := n11_
             have HO370 := n12_
             have HO390 := n13_
             have HO393 := n14_
             have BK307 := n15_
             have BK308 := n16_
             have BK331 := n17_
             have BK355 := n18_
             have HB := n19_
             clear n0_ n1_ n2_ n3_ n4_ n5_ n6_ n7_ n8_ n9_ n10_ n11_ n12_ n13_ n14_ n15_ n16_ n17_ n18_ n19_
             (try clear hb)
             (try clear hb2)
             (try clear hk)
             (try clear hi)
             (try clear ho0)
             (try clear ho1)
             refine hK.out _ _ ⟨(kc BK307.out 0).trans rfl, (kc BK307.out 1).trans rfl, (kc BK331.out 0).trans rfl, (kc BK331.out 1).trans rfl, (kc BK308.out 0).trans rfl, (kc BK308.out 1).trans rfl, (kc BK355.out 0).trans rfl, (kc BK355.out 1).trans rfl⟩ (fun hHeld => ?_)
             clear hK K
             refine norm_ (a' := ?_) ?_ ?_
             rotate_left
             ·show Act.put _ (some 95) _ = _
              simp only [Act.put, y0, y1, y2, i64_w, i32_w]
              rfl
             refine one_ (i := 24) (N := some 97) (bz 38 0x1ffffff) rfl rfl (one_of HT_.out (by kernel_rfl)) (by decide) (fun K hK => ?_)
             refine zg Try.func13 #[.agg #[.slice Ao32 t324.length co32, .slice Ao34 t327.length co34]] ?_
             with_reducible refine (trefoillaw11_Own.calls _ _ t324 _ _ t327 t394 t397 _ ?side1 ?side2 ?side3 ?side4 A235.out).mono ?_
             (case side1 => exact zc (rr HO_332000.out).2.2)
             (case side2 => exact (rr HO_332000.out).2.1)
             (case side3 => exact zc (rr HO_332001.out).2.2)
             (case side4 => exact (rr HO_332001.out).2.1)
             rintro e w268 ⟨v395, v398, rfl, ho0, ho1, hb⟩
             refine ⟨_, rfl, ?_⟩
             have n0_ := Z0 (rm (rt (rt (ro (zr HO_332000) hb) (rb ho0)) (rb ho1)) (fun _ h_ => h_.1))
             have n1_ := Z0 (rm (rt (rt (ro (zr HO_332001) hb) (rb ho0)) (rb ho1)) (fun _ h_ => h_.1))
             have n2_ := Z0 (rm (rt (rt (ro (zr HO338) hb) (rb ho0)) (rb ho1)) (fun _ h_ => h_.1))
             have n3_ := Z0 (rbe (zr HO341) hb)
             have n4_ := Z0 (rm (rt (rt (ro (zr HO344) hb) (rb ho0)) (rb ho1)) (fun _ h_ => h_.1))
             have n5_ := Z0 (rm (rt (rt (ro (zr HO347) hb) (rb ho0)) (rb ho1)) (fun _ h_ => h_.1))
             have n6_ := Z0 (rm (rt (rt (ro (zr HO350) hb) (rb ho0)) (rb ho1)) (fun _ h_ => h_.1))
             have n7_ := Z0 (rm (rt (rt (ro (zr HO353) hb) (rb ho0)) (rb ho1)) (fun _ h_ => h_.1))
             have n8_ := Z0 (rm (rt (rt (ro (zr HO358) hb) (rb ho0)) (rb ho1)) (fun _ h_ => h_.1))
             have n9_ := Z0 (rbe (zr HO361) hb)
             have n10_ := Z0 (rm (rt (rt (ro (zr HO364) hb) (rb ho0)) (rb ho1)) (fun _ h_ => h_.1))
             have n11_ := Z0 (rm (rt (rt (ro (zr HO367) hb) (rb ho0)) (rb ho1)) (fun _ h_ => h_.1))
             have n12_ := Z0 (rm (rt (rt (ro (zr HO370) hb) (rb ho0)) (rb ho1)) (fun _ h_ => h_.1))
             have n13_ := Z0 (rm (rt (rt (ro (zr HO390) hb) (rb ho0)) (rb ho1)) (fun _ h_ => h_.1))
             have n14_ := Z0 (rbe (zr HO393) hb)
             have n15_ := Z0 (rl (rw_ (rw_ (rw_ (rw_ (rw_ (rw_ (rw_ (rw_ (rw_ (rw_ (rw_ (rw_ ho0 (rlt (zr HO_332000))) (rlt (zr HO_332001))) (rlt (zr HO338))) (rlt (zr HO344))) (rlt (zr HO347))) (rlt (zr HO350))) (rlt (zr HO353))) (rlt (zr HO358))) (rlt (zr HO364))) (rlt (zr HO367))) (rlt (zr HO370))) (rlt (zr HO390))) (below_size (zb HB)))
             have n16_ := Z0 (rl (rw_ (rw_ (rw_ (rw_ (rw_ (rw_ (rw_ (rw_ (rw_ (rw_ (rw_ (rw_ ho1 (rlt (zr HO_332000))) (rlt (zr HO_332001))) (rlt (zr HO338))) (rlt (zr HO344))) (rlt (zr HO347))) (rlt (zr HO350))) (rlt (zr HO353))) (rlt (zr HO358))) (rlt (zr HO364))) (rlt (zr HO367))) (rlt (zr HO370))) (rlt (zr HO390))) (below_size (zb HB)))
             have n17_ := Z0 (kb (g := gb307) (o := .cells #[.slice A0_0 l0_0.length c0_0, .slice A0_1 l0_1.length c0_1] 25 (0, 0)) (zk BK307) hb)
             have n18_ := Z0 (kb (g := gb308) (o := .cells #[.slice A1_0 l1_0.length c1_0, .slice A1_1 l1_1.length c1_1] 27 (0, 0)) (zk BK308) hb)
             have n19_ := Z0 (kb (g := gb331) (o := .cells #[.slice Ao32 t324.length co32, .slice Ao34 t327.length co34] 27 (0, 0)) (zk BK331) hb)
             have n20_ := Z0 (kb (g := gb355) (o := .cells #[.slice Ao86 t348.length co86, .slice Ao88 t351.length co88] 27 (0, 0)) (zk BK355) hb)
             have n21_ := Z0 (below_step (zb HB) hb)
             clear HO_332000
             clear HO_332001
             clear HO338
             clear HO341
             clear HO344
             clear HO347
             clear HO350
             clear HO353
             clear HO358
             clear HO361
             clear HO364
             clear HO367
             clear HO370
             clear HO390
             clear HO393
             clear BK307
             clear BK308
             clear BK331
             clear BK355
             clear HB
             have HO_332000 := n0_
             have HO_332001 := n1_
             have HO338 := n2_
             have HO341 := n3_
             have HO344 := n4_
             have HO347 := n5_
             have HO350 := n6_
             have HO353 := n7_
             have HO358 := n8_
             have HO361 := n9_
             have HO364 := n10_
             have HO367 := n11_
             have HO370 := n12_
             have HO390 := n13_
             have HO393 := n14_
             have HO396 := n15_
             have HO399 := n16_
             have BK307 := n17_
             have BK308 := n18_
             have BK331 := n19_
             have BK355 := n20_
             have HB := n21_
             clear n0_ n1_ n2_ n3_ n4_ n5_ n6_ n7_ n8_ n9_ n10_ n11_ n12_ n13_ n14_ n15_ n16_ n17_ n18_ n19_ n20_ n21_
             (try clear hb)
             (try clear hb2)
             (try clear hk)
             (try clear hi)
             (try clear ho0)
             (try clear ho1)
             obtain ⟨Ao269, co269, eo269⟩ := Kd.R_slice HO390.out
             (first | subst eo269 | (injection eo269 with f1_ f2_ f3_; have f4_ := f1_.symm; have f5_ := f3_.symm; clear f1_ f2_ f3_; subst f4_; subst f5_))
             obtain ⟨Ao270, co270, eo270⟩ := Kd.R_slice HO393.out
             (first | subst eo270 | (injection eo270 with f1_ f2_ f3_; have f4_ := f1_.symm; have f5_ := f3_.symm; clear f1_ f2_ f3_; subst f4_; subst f5_))
             obtain ⟨Ao271, co271, eo271⟩ := Kd.R_slice HO396.out
             (first | subst eo271 | (injection eo271 with f1_ f2_ f3_; have f4_ := f1_.symm; have f5_ := f3_.symm; clear f1_ f2_ f3_; subst f4_; subst f5_))
             obtain ⟨Ao272, co272, eo272⟩ := Kd.R_slice HO399.out
             (first | subst eo272 | (injection eo272 with f1_ f2_ f3_; have f4_ := f1_.symm; have f5_ := f3_.symm; clear f1_ f2_ f3_; subst f4_; subst f5_))
             refine hK.out _ _ ⟨(kc BK307.out 0).trans rfl, (kc BK307.out 1).trans rfl, (kc BK331.out 0).trans rfl, (kc BK331.out 1).trans rfl, (kc BK308.out 0).trans rfl, (kc BK308.out 1).trans rfl, (kc BK355.out 0).trans rfl, (kc BK355.out 1).trans rfl⟩ (fun hHeld => ?_)
             clear hK K
             refine norm_ (a' := ?_) ?_ ?_
             rotate_left
             ·show Act.put _ (some 97) _ = _
              simp only [Act.put, y0, y1, y2, i64_w, i32_w]
              rfl
             refine one_ (i := 25) (N := some 98) (bz 38 0x3ffffff) rfl rfl (one_of HT_.out (by kernel_rfl)) (by decide) (fun K hK => ?_)
             refine zg Try.func17 #[.agg #[.slice Ao269 t388.length co269, .slice Ao270 t391.length co270], .agg #[.slice Ao271 t394.length co271, .slice Ao272 t397.length co272]] ?_
             with_reducible refine (list_Check.calls _ _ t388 _ _ t391 _ _ t394 _ _ t397 t400 _ ?side1 ?side2 ?side3 ?side4 ?side5 ?side6 ?side7 ?side8 A236.out).mono ?_
             (case side1 => exact zc (rr HO390.out).2.2)
             (case side2 => exact (rr HO390.out).2.1)
             (case side3 => exact zc (rr HO393.out).2.2)
             (case side4 => exact (rr HO393.out).2.1)
             (case side5 => exact zc (rr HO396.out).2.2)
             (case side6 => exact (rr HO396.out).2.1)
             (case side7 => exact zc (rr HO399.out).2.2)
             (case side8 => exact (rr HO399.out).2.1)
             rintro e w273 ⟨rfl, hb⟩
             refine ⟨_, rfl, ?_⟩
             replace HO_332000 := Z0 (rbe (zr HO_332000) hb)
             replace HO_332001 := Z0 (rbe (zr HO_332001) hb)
             replace HO338 := Z0 (rbe (zr HO338) hb)
             replace HO341 := Z0 (rbe (zr HO341) hb)
             replace HO344 := Z0 (rbe (zr HO344) hb)
             replace HO347 := Z0 (rbe (zr HO347) hb)
             replace HO350 := Z0 (rbe (zr HO350) hb)
             replace HO353 := Z0 (rbe (zr HO353) hb)
             replace HO358 := Z0 (rbe (zr HO358) hb)
             replace HO361 := Z0 (rbe (zr HO361) hb)
             replace HO364 := Z0 (rbe (zr HO364) hb)
             replace HO367 := Z0 (rbe (zr HO367) hb)
             replace HO370 := Z0 (rbe (zr HO370) hb)
             replace HO390 := Z0 (rbe (zr HO390) hb)
             replace HO393 := Z0 (rbe (zr HO393) hb)
             replace HO396 := Z0 (rbe (zr HO396) hb)
             replace HO399 := Z0 (rbe (zr HO399) hb)
             replace BK307 := Z0 (kb (g := gb307) (o := .cells #[.slice A0_0 l0_0.length c0_0, .slice A0_1 l0_1.length c0_1] 25 (0, 0)) (zk BK307) hb)
             replace BK308 := Z0 (kb (g := gb308) (o := .cells #[.slice A1_0 l1_0.length c1_0, .slice A1_1 l1_1.length c1_1] 27 (0, 0)) (zk BK308) hb)
             replace BK331 := Z0 (kb (g := gb331) (o := .cells #[.slice Ao32 t324.length co32, .slice Ao34 t327.length co34] 27 (0, 0)) (zk BK331) hb)
             replace BK355 := Z0 (kb (g := gb355) (o := .cells #[.slice Ao86 t348.length co86, .slice Ao88 t351.length co88] 27 (0, 0)) (zk BK355) hb)
             replace HB := Z0 (below_step (zb HB) hb)
             (try clear hb)
             (try clear hb2)
             (try clear hk)
             (try clear hi)
             refine hK.out _ _ ⟨(kc BK307.out 0).trans rfl, (kc BK307.out 1).trans rfl, (kc BK331.out 0).trans rfl, (kc BK331.out 1).trans rfl, (kc BK308.out 0).trans rfl, (kc BK308.out 1).trans rfl, (kc BK355.out 0).trans rfl, (kc BK355.out 1).trans rfl⟩ (fun hHeld => ?_)
             clear hK K
             refine norm_ (a' := ?_) ?_ ?_
             rotate_left
             ·show Act.put _ (some 98) _ = _
              simp only [Act.put, y0, y1, y2, i64_w, i32_w]
              rfl
             refine pu 26 (some 99) (bz 38 0x7ffffff) HT_ ?_
             refine pu 27 (some 100) (bz 38 0xfffffff) HT_ ?_
             refine pu 28 (some 101) (bz 38 0x1fffffff) HT_ ?_
             refine pu 29 (some 102) (bz 38 0x3fffffff) HT_ ?_
             refine pu 30 (some 103) (bz 38 0x7fffffff) HT_ ?_
             refine pu 31 (some 104) (bz 38 0xffffffff) HT_ ?_
             refine pu 32 (some 105) (bz 38 0x1ffffffff) HT_ ?_
             refine tk8 33 (some 106) (bz 38 0x3ffffffff) HT_ HW_ hHeld ?_
             refine tk8 34 (some 107) (bz 38 0x7ffffffff) HT_ HW_ hHeld ?_
             refine one_ (i := 35) (N := some 108) (bz 38 0xfffffffff) rfl rfl (one_of HT_.out (by kernel_rfl)) (by decide) (fun K hK => ?_)
             refine zg Try.func19 #[.agg #[.slice Ao86 t348.length co86, .slice Ao88 t351.length co88], .agg #[.slice Ao32 t324.length co32, .slice Ao34 t327.length co34]] ?_
             with_reducible refine (trefoilref11_Same.calls k2 _ _ t348 _ _ t351 _ _ t324 _ _ t327 t401 _ ?side1 ?side2 ?side3 ?side4 ?side5 ?side6 ?side7 ?side8 A239.out).mono ?_
             (case side1 => exact zc (rr HO350.out).2.2)
             (case side2 => exact (rr HO350.out).2.1)
             (case side3 => exact zc (rr HO353.out).2.2)
             (case side4 => exact (rr HO353.out).2.1)
             (case side5 => exact zc (rr HO_332000.out).2.2)
             (case side6 => exact (rr HO_332000.out).2.1)
             (case side7 => exact zc (rr HO_332001.out).2.2)
             (case side8 => exact (rr HO_332001.out).2.1)
             rintro e w274 ⟨rfl, hb⟩
             refine ⟨_, rfl, ?_⟩
             replace HO_332000 := Z0 (rbe (zr HO_332000) hb)
             replace HO_332001 := Z0 (rbe (zr HO_332001) hb)
             replace HO338 := Z0 (rbe (zr HO338) hb)
             replace HO341 := Z0 (rbe (zr HO341) hb)
             replace HO344 := Z0 (rbe (zr HO344) hb)
             replace HO347 := Z0 (rbe (zr HO347) hb)
             replace HO350 := Z0 (rbe (zr HO350) hb)
             replace HO353 := Z0 (rbe (zr HO353) hb)
             replace HO358 := Z0 (rbe (zr HO358) hb)
             replace HO361 := Z0 (rbe (zr HO361) hb)
             replace HO364 := Z0 (rbe (zr HO364) hb)
             replace HO367 := Z0 (rbe (zr HO367) hb)
             replace HO370 := Z0 (rbe (zr HO370) hb)
             replace HO390 := Z0 (rbe (zr HO390) hb)
             replace HO393 := Z0 (rbe (zr HO393) hb)
             replace HO396 := Z0 (rbe (zr HO396) hb)
             replace HO399 := Z0 (rbe (zr HO399) hb)
             replace BK307 := Z0 (kb (g := gb307) (o := .cells #[.slice A0_0 l0_0.length c0_0, .slice A0_1 l0_1.length c0_1] 25 (0, 0)) (zk BK307) hb)
             replace BK308 := Z0 (kb (g := gb308) (o := .cells #[.slice A1_0 l1_0.length c1_0, .slice A1_1 l1_1.length c1_1] 27 (0, 0)) (zk BK308) hb)
             replace BK331 := Z0 (kb (g := gb331) (o := .cells #[.slice Ao32 t324.length co32, .slice Ao34 t327.length co34] 27 (0, 0)) (zk BK331) hb)
             replace BK355 := Z0 (kb (g := gb355) (o := .cells #[.slice Ao86 t348.length co86, .slice Ao88 t351.length co88] 27 (0, 0)) (zk BK355) hb)
             replace HB := Z0 (below_step (zb HB) hb)
             (try clear hb)
             (try clear hb2)
             (try clear hk)
             (try clear hi)
             refine hK.out _ _ ⟨(kc BK307.out 0).trans rfl, (kc BK307.out 1).trans rfl, (kc BK331.out 0).trans rfl, (kc BK331.out 1).trans rfl, (kc BK308.out 0).trans rfl, (kc BK308.out 1).trans rfl, (kc BK355.out 0).trans rfl, (kc BK355.out 1).trans rfl⟩ (fun hHeld => ?_)
             clear hK K
             refine norm_ (a' := ?_) ?_ ?_
             rotate_left
             ·show Act.put _ (some 108) _ = _
              simp only [Act.put, y0, y1, y2, i64_w, i32_w]
              rfl
             refine pu 36 (some 109) (bz 38 0x1fffffffff) HT_ ?_
             refine pu 37 (some 4) (bz 38 0x3fffffffff) HT_ ?_
             refine done_ (done_of HT_.out (by kernel_rfl)) ?_
             try go_wp2
             go_ret
             exact ⟨by first | rfl | (simp [errW_none, errW_some] <;> rfl) | (simp [*, errW_none, errW_some] <;> rfl), by repeat (first | (with_reducible first | exact HB.out | apply wa | apply wn | apply wd | refine ws ?_ GE307.out | refine ws ?_ GE308.out | refine ws ?_ GE331.out | refine ws ?_ GE355.out) | exact HB.out)⟩
            ·rw [if_neg c238] at H
             have c238b0 : (t354 == 0) = false := beq_eq_false_iff_ne.mpr c238
             have c238b1 : (t354 != 0) = true := bne_iff_ne.mpr c238
             exact absurd ((Option.some.inj H).trans hrt.out) (by decide)
           ·rw [if_neg c237] at H
            have c237b0 : (t400 == 0) = false := beq_eq_false_iff_ne.mpr c237
            have c237b1 : (t400 != 0) = true := bne_iff_ne.mpr c237
            exact absurd ((Option.some.inj H).trans hrt.out) (by decide)
          ·replace c233 := Bool.eq_false_iff.mpr c233
           subst c233
           have H1 : (some false) = some r := by rw [if_neg (show ¬ (false = true) by decide)] at H; exact H
           clear H
           have H := H1
           clear H1
           exact absurd ((Option.some.inj H).trans hrt.out) (by decide)
    ·rw [if_neg c21] at H
     have c21b0 : (t330 == 0) = false := beq_eq_false_iff_ne.mpr c21
     have c21b1 : (t330 != 0) = true := bne_iff_ne.mpr c21
     replace H := Option.bind_eq_some_iff.mp H
     obtain ⟨t332, A3700, H⟩ := H
     replace H : (some t332) = some r := H
     have A370 := Z0 A3700
     clear A3700
     obtain rfl := Option.some.inj H
     have hnb385 := NB331_307.out
     have hnc385 := NB307_331.out
     have hnb386 := NB331_308.out
     have hnc386 := NB308_331.out
     have hcz387_0 : w31.cell? ⟨gb331, 0, none⟩ = some (.slice none 0 0) := (kc BK331.out 0).trans rfl
     have hcz387_1 : w31.cell? ⟨gb331, 1, none⟩ = some (.slice none 0 0) := (kc BK331.out 1).trans rfl
     have hfz387_0 := blk_frozen BK331.out 0
     have hfz387_1 := blk_frozen BK331.out 1
     try go_wp2_with (first | ((with_reducible refine gate_callee (f := 19) rfl ?_); refine goesL_ (some 31) rfl rfl Try.func19 (by kernel_rfl) rfl #[.agg #[.slice Ao32 t324.length co32, .slice Ao34 t327.length co34], .agg #[.slice none 0 0, .slice none 0 0]] rfl (by (try simp only [List.map_toArray, List.map_cons, List.map_nil]); first | done | rfl | (simp only [List.length_drop, List.length_take]; rfl)) ?_; (refine (trefoilref11_Same.calls kj2 _ _ t324 _ _ t327 _ _ ([] : List Int) _ _ ([] : List Int) t332 _ ?side1 ?side2 ?side3 ?side4 ?side5 ?side6 ?side7 ?side8 A370.out).mono ?_); (case side1 => refine (rr (e := 3) (base := w.heap.size) (ok := fun k_ => (some k_ ≠ (v313 : Value).ownBlock ∧ (some k_ ≠ (v319 : Value).ownBlock ∧ (some k_ ≠ (v322 : Value).ownBlock ∧ some k_ ≠ (.slice Ao34 t327.length co34 : Value).ownBlock)))) (n := t324.length) (c := co32) ?_).2.2; exact (by (with_reducible repeat (first | apply ra | apply rn | apply rd_)); exact (rm (Kd.R_far (p := ⟨gb331, 1, none⟩) (Kd.R_far (p := ⟨gb331, 0, none⟩) (Kd.R_types HO326.out BK331.out (by decide)) (fun _ hk => hk.2) (.slice Ao32 t324.length co32)) (fun _ hk => hk.2) (.slice Ao34 t327.length co34)) (fun _ h_ => h_.1)))); (case side2 => exact (rr HO326.out).2.1); (case side3 => refine (rr (e := 3) (base := w.heap.size) (ok := fun k_ => (some k_ ≠ (v313 : Value).ownBlock ∧ (some k_ ≠ (v319 : Value).ownBlock ∧ (some k_ ≠ (v322 : Value).ownBlock ∧ some k_ ≠ (.slice Ao32 t324.length co32 : Value).ownBlock)))) (n := t327.length) (c := co34) ?_).2.2; exact (by (with_reducible repeat (first | apply ra | apply rn | apply rd_)); exact (rm (Kd.R_far (p := ⟨gb331, 1, none⟩) (Kd.R_far (p := ⟨gb331, 0, none⟩) (Kd.R_types HO329.out BK331.out (by decide)) (fun _ hk => hk.2) (.slice Ao32 t324.length co32)) (fun _ hk => hk.2) (.slice Ao34 t327.length co34)) (fun _ h_ => h_.1)))); (case side4 => exact (rr HO329.out).2.1); (case side5 => exact Kd.C_nil _ _); (case side6 => exact Nat.le_refl _); (case side7 => exact Kd.C_nil _ _); (case side8 => exact Nat.le_refl _); rintro e w388 ⟨rfl, hb⟩; refine ⟨_, rfl, ?_⟩; have n0_ := Z0 (rbe (by (with_reducible repeat (first | apply ra | apply rn | apply rd_)); exact (rm (Kd.R_far (p := ⟨gb331, 1, none⟩) (Kd.R_far (p := ⟨gb331, 0, none⟩) (Kd.R_types HO314.out BK331.out (by decide)) (fun _ hk => hk.2) (.slice Ao32 t324.length co32)) (fun _ hk => hk.2) (.slice Ao34 t327.length co34)) (fun _ h_ => h_.1))) hb); have n1_ := Z0 (rbe (by (with_reducible repeat (first | apply ra | apply rn | apply rd_)); exact (rm (Kd.R_far (p := ⟨gb331, 1, none⟩) (Kd.R_far (p := ⟨gb331, 0, none⟩) (Kd.R_types HO317.out BK331.out (by decide)) (fun _ hk => hk.2) (.slice Ao32 t324.length co32)) (fun _ hk => hk.2) (.slice Ao34 t327.length co34)) (fun _ h_ => h_.1))) hb); have n2_ := Z0 (rbe (by (with_reducible repeat (first | apply ra | apply rn | apply rd_)); exact (rm (Kd.R_far (p := ⟨gb331, 1, none⟩) (Kd.R_far (p := ⟨gb331, 0, none⟩) (Kd.R_types HO320.out BK331.out (by decide)) (fun _ hk => hk.2) (.slice Ao32 t324.length co32)) (fun _ hk => hk.2) (.slice Ao34 t327.length co34)) (fun _ h_ => h_.1))) hb); have n3_ := Z0 (rbe (by (with_reducible repeat (first | apply ra | apply rn | apply rd_)); exact (rm (Kd.R_far (p := ⟨gb331, 1, none⟩) (Kd.R_far (p := ⟨gb331, 0, none⟩) (Kd.R_types HO323.out BK331.out (by decide)) (fun _ hk => hk.2) (.slice Ao32 t324.length co32)) (fun _ hk => hk.2) (.slice Ao34 t327.length co34)) (fun _ h_ => h_.1))) hb); have n4_ := Z0 (rbe (by (with_reducible repeat (first | apply ra | apply rn | apply rd_)); exact (rm (Kd.R_far (p := ⟨gb331, 1, none⟩) (Kd.R_far (p := ⟨gb331, 0, none⟩) (Kd.R_types HO326.out BK331.out (by decide)) (fun _ hk => hk.2) (.slice Ao32 t324.length co32)) (fun _ hk => hk.2) (.slice Ao34 t327.length co34)) (fun _ h_ => h_.1))) hb); have n5_ := Z0 (rbe (by (with_reducible repeat (first | apply ra | apply rn | apply rd_)); exact (rm (Kd.R_far (p := ⟨gb331, 1, none⟩) (Kd.R_far (p := ⟨gb331, 0, none⟩) (Kd.R_types HO329.out BK331.out (by decide)) (fun _ hk => hk.2) (.slice Ao32 t324.length co32)) (fun _ hk => hk.2) (.slice Ao34 t327.length co34)) (fun _ h_ => h_.1))) hb); have n6_ := Z0 (kb (g := gb307) (o := .cells #[.slice A0_0 l0_0.length c0_0, .slice A0_1 l0_1.length c0_1] 25 (0, 0)) (by (with_reducible repeat (first | refine kn ?_ _ | refine kd_ ?_ | refine ka ?_ _)); refine blk_far ?_ NB307_331.out _; (with_reducible repeat (first | refine kn ?_ _ | refine kd_ ?_ | refine ka ?_ _)); refine blk_far ?_ NB307_331.out _; (with_reducible repeat (first | refine kn ?_ _ | refine kd_ ?_ | refine ka ?_ _)); exact BK307.out) hb); have n7_ := Z0 (kb (g := gb308) (o := .cells #[.slice A1_0 l1_0.length c1_0, .slice A1_1 l1_1.length c1_1] 27 (0, 0)) (by (with_reducible repeat (first | refine kn ?_ _ | refine kd_ ?_ | refine ka ?_ _)); refine blk_far ?_ NB308_331.out _; (with_reducible repeat (first | refine kn ?_ _ | refine kd_ ?_ | refine ka ?_ _)); refine blk_far ?_ NB308_331.out _; (with_reducible repeat (first | refine kn ?_ _ | refine kd_ ?_ | refine ka ?_ _)); exact BK308.out) hb); have n8_ := Z0 (kb (g := gb331) (o := .cells #[.slice Ao32 t324.length co32, .slice Ao34 t327.length co34] 27 (0, 0)) (by (with_reducible repeat (first | refine kn ?_ _ | refine kd_ ?_ | refine ka ?_ _)); refine blk_put (cs := #[.slice Ao32 t324.length co32, .slice none 0 0]) ?_ 1 _ rfl; (with_reducible repeat (first | refine kn ?_ _ | refine kd_ ?_ | refine ka ?_ _)); refine blk_put (cs := #[.slice none 0 0, .slice none 0 0]) ?_ 0 _ rfl; (with_reducible repeat (first | refine kn ?_ _ | refine kd_ ?_ | refine ka ?_ _)); exact BK331.out) hb); have n9_ := Z0 (below_step (zb HB) hb); clear HO314; clear HO317; clear HO320; clear HO323; clear HO326; clear HO329; clear BK307; clear BK308; clear BK331; clear HB; have HO314 := n0_; have HO317 := n1_; have HO320 := n2_; have HO323 := n3_; have HO326 := n4_; have HO329 := n5_; have BK307 := n6_; have BK308 := n7_; have BK331 := n8_; have HB := n9_; clear n0_ n1_ n2_ n3_ n4_ n5_ n6_ n7_ n8_ n9_; (try clear hb); (try clear hb2); (try clear hk); (try clear hi)))
     go_ret
     exact ⟨by first | rfl | (simp [errW_none, errW_some] <;> rfl) | (simp [*, errW_none, errW_some] <;> rfl), by repeat (first | (with_reducible first | exact HB.out | apply wa | apply wn | apply wd | refine ws ?_ GE307.out | refine ws ?_ GE308.out | refine ws ?_ GE331.out) | exact HB.out)⟩

end Go.Proofs.Ytmbhjhanafmidaa.PListFill
