/- Written by a program of this work: each theorem says that a call of the Go function comes to what the Lean function beside it tells, under the conditions that it names; Lean checks it. -/
import Derived.Test.YtjkindoedkjnbaaZTPDagTellsx0
import Derived.Test.YtjkindoedkjnbaaZTPDagTellsx2
import Derived.Test.YtjkindoedkjnbaaZTPDagTellsx10
import Derived.Test.YtjkindoedkjnbaaZTPDagTellsx11
import Derived.Test.YtjkindoedkjnbaaZTPDagTellsx13
import Derived.Test.YtjkindoedkjnbaaZTPDagTellsx14
import Derived.Test.YtjkindoedkjnbaaZTPDagTellsx15
import Derived.Test.YtjkindoedkjnbaaZTPDagTellsx16
namespace Go.Proofs.Ytjkindoedkjnbaa.PDagTells
open Go.RowKit Go.Proofs.YtjkindoedkjnbaaW.PrintWords Go.Proofs.YtjkindoedkjnbaaW.PrintLast Go.Proofs.YtjkindoedkjnbaaW.PrintMore
attribute [local go_sem] max2_int min2_int max_two min_two max_three min_three max_four min_four   -- for this text's walks alone
set_option linter.unusedVariables false
set_option linter.unusedSimpArgs false

/-! ### trefoillaw04_DagTells: function 4 -/
mutual
def trefoillaw04_DagTells.j0 : Nat → Int → Int → Bool → List Int → List (S40) → Option (Bool)
  | 0, _, _, _, _, _ => none
  | k + 1, x1, x2, x14, x330000, x330001 => if x14 = true then ((trefoillaw04_awake.f).bind fun t332 => (some t332)) else ((trefoilref04_Check.f k x330000 x330001).bind fun t333 => (if t333 = 0 then (if x1 ≥ 0 then (if x1 < (x330000.length : Int) then (if x2 ≥ 0 then (if x2 < (x330000.length : Int) then ((trefoilref04_Reach.f k x330000 x330001 x1).bind fun t382 => (if 0 ≤ x2 then (if x2 < (t382.length : Int) then (trefoillaw04_DagTells.j1 k x1 x2 (rdOf false t382 x2) x330000 x330001) else (none)) else (none))) else (trefoillaw04_DagTells.j1 k x1 x2 false x330000 x330001)) else (trefoillaw04_DagTells.j1 k x1 x2 false x330000 x330001)) else (trefoillaw04_DagTells.j1 k x1 x2 false x330000 x330001)) else (trefoillaw04_DagTells.j1 k x1 x2 false x330000 x330001)) else ((trefoillaw04_Own.f x330000 x330001).bind fun bt334 => ((dag_Order.f bt334.1 bt334.2).bind fun t340 => (if (t340.length : Int) = 0 then ((trefoillaw04_Own.f x330000 x330001).bind fun bt343 => ((dag_Total.f bt343.1 bt343.2).bind fun t349 => (if t349 = 0 then ((trefoillaw04_Own.f x330000 x330001).bind fun bt350 => ((dag_Long.f bt350.1 bt350.2).bind fun t356 => (if t356 = 0 then ((trefoillaw04_Own.f x330000 x330001).bind fun bt357 => ((dag_Preds.f bt357.1 bt357.2 x1).bind fun t363 => (if (t363.length : Int) = 0 then ((trefoillaw04_Own.f x330000 x330001).bind fun bt366 => ((dag_Succs.f bt366.1 bt366.2 x1).bind fun t372 => (if (t372.length : Int) = 0 then ((trefoillaw04_Own.f x330000 x330001).bind fun bt375 => ((dag_Before.f bt375.1 bt375.2 x1 x2).bind fun t381 => (some (!t381)))) else (some false)))) else (some false)))) else (some false)))) else (some false)))) else (some false))))))
def trefoillaw04_DagTells.j1 : Nat → Int → Int → Bool → List Int → List (S40) → Option (Bool)
  | 0, _, _, _, _, _ => none
  | k + 1, x1, x2, x7, x330000, x330001 => (trefoillaw04_Own.f x330000 x330001).bind fun bt386 => ((dag_Order.f bt386.1 bt386.2).bind fun t392 => ((trefoilref04_Order.f k x330000 x330001).bind fun t395 => ((trefoilref02_Ints.f k t392 t395).bind fun t398 => (if t398 = true then ((trefoillaw04_Own.f x330000 x330001).bind fun bt399 => ((dag_Total.f bt399.1 bt399.2).bind fun t405 => ((trefoilref04_Total.f k x330000 x330001).bind fun t406 => (if t405 = t406 then ((trefoillaw04_Own.f x330000 x330001).bind fun bt407 => ((dag_Long.f bt407.1 bt407.2).bind fun t413 => ((trefoilref04_Long.f k x330000 x330001).bind fun t414 => (if t413 = t414 then ((trefoillaw04_Own.f x330000 x330001).bind fun bt415 => ((dag_Preds.f bt415.1 bt415.2 x1).bind fun t421 => ((trefoilref04_Preds.f k x330000 x330001 x1).bind fun t424 => ((trefoilref02_Ints.f k t421 t424).bind fun t427 => (if t427 = true then ((trefoillaw04_Own.f x330000 x330001).bind fun bt428 => ((dag_Succs.f bt428.1 bt428.2 x1).bind fun t434 => ((trefoilref04_Succs.f k x330000 x330001 x1).bind fun t437 => ((trefoilref02_Ints.f k t434 t437).bind fun t440 => (if t440 = true then ((trefoillaw04_Own.f x330000 x330001).bind fun bt441 => ((dag_Before.f bt441.1 bt441.2 x1 x2).bind fun t447 => (some (t447 == x7)))) else (some false)))))) else (some false)))))) else (some false))))) else (some false))))) else (some false)))))
end
def trefoillaw04_DagTells.f (k : Nat) (l0_0 : List Int) (l0_1 : List (S40)) (a1 : Int) (a2 : Int) : Option (Bool) := (trefoillaw04_awake.f).bind fun t330 => (if t330 = true then ((trefoillaw04_Few.f l0_0 l0_1).bind fun t331 => (trefoillaw04_DagTells.j0 k a1 a2 (!t331) l0_0 l0_1)) else (trefoillaw04_DagTells.j0 k a1 a2 true l0_0 l0_1))
def trefoillaw04_DagTells.T6 : Bool × List (List Nat × List Nat) := (true, [([], []), ([0], [0]), ([1, 1], [1]), ([], []), ([3, 2], [3]), ([2, 4, 4], [2, 4]), ([5, 5], [5]), ([6], [6]), ([7, 6, 6], [6, 7]), ([8, 8, 6], [6, 8]), ([6], [6]), ([10, 9, 6], [6, 10]), ([9, 11, 6], [6, 9, 11]), ([6, 12], [6, 12]), ([13, 11], [13]), ([14], [14]), ([15, 14, 14], [14, 15]), ([16, 16, 14], [14, 16]), ([14], [14]), ([18, 17, 14], [14, 18]), ([17, 19, 14], [14, 17, 19]), ([14, 20], [14, 20]), ([21, 19], [21]), ([22], [22]), ([23, 22, 22], [22, 23]), ([22], [22]), ([24, 25, 24, 22], [22, 24, 25]), ([22], [22]), ([22], [22]), ([27, 28, 26, 22], [22, 27, 28]), ([26, 29, 29, 22], [22, 26, 29]), ([22, 30], [22, 30]), ([31, 30], [31]), ([32], [32]), ([33, 32, 32], [32, 33]), ([32], [32]), ([34, 35, 34, 32], [32, 34, 35]), ([32], [32]), ([32], [32]), ([37, 38, 36, 32], [32, 37, 38]), ([36, 39, 39, 32], [32, 36, 39]), ([32, 40], [32, 40]), ([41, 40], [41]), ([42], [42]), ([43, 42, 42], [42, 43]), ([42], [42]), ([42], [42]), ([44, 45, 46, 44, 42], [42, 44, 45, 46]), ([42], [42]), ([47, 48, 42], [42, 47, 48]), ([42, 49], [42, 49]), ([50, 47, 0, 1, 2, 3, 4, 5, 6, 7, 8, 9, 10, 11, 12, 13, 14, 15, 16, 17, 18, 19, 20, 21, 22, 23, 24, 25, 26, 27, 28, 29, 30, 31, 32, 33, 34, 35, 36, 37, 38, 39, 40, 41, 42, 43, 44, 45, 46, 47, 48, 49, 50], [50])])
def trefoillaw04_DagTells.B6 : List Nat := [0, 1, 3, 0, 15, 31, 63, 127, 255, 511, 127, 2047, 4095, 8191, 16383, 32767, 65535, 131071, 32767, 524287, 1048575, 2097151, 4194303, 8388607, 16777215, 8388607, 67108863, 8388607, 8388607, 536870911, 1073741823, 2147483647, 4294967295, 8589934591, 17179869183, 8589934591, 68719476735, 8589934591, 8589934591, 549755813887, 1099511627775, 2199023255551, 4398046511103, 8796093022207, 17592186044415, 8796093022207, 8796093022207, 140737488355327, 8796093022207, 562949953421311, 1125899906842623, 2251799813685247]
theorem trefoillaw04_DagTells.tab6 : rtab .any (opsOf Try.f4 6) = trefoillaw04_DagTells.T6 := by kernel_rfl
theorem trefoillaw04_DagTells.bits6 : waitsOk trefoillaw04_DagTells.T6.2 trefoillaw04_DagTells.B6 = true := by kernel_rfl
set_option maxHeartbeats 8000000 in
set_option maxRecDepth 100000 in
theorem trefoillaw04_DagTells.calls (k : Nat) (A0_0 : Option Addr) (c0_0 : Nat) (l0_0 : List Int) (A0_1 : Option Addr) (c0_1 : Nat) (l0_1 : List (S40)) (a1 : Int) (a2 : Int) (r : Bool) (w : World) (hr0_0 : Kd.C (Kd.int .i64) w A0_0 l0_0.length l0_0) (hc0_0 : l0_0.length ≤ c0_0) (hr0_1 : Kd.C k40 w A0_1 l0_1.length l0_1) (hc0_1 : l0_1.length ≤ c0_1) (h : trefoillaw04_DagTells.f k l0_0 l0_1 a1 a2 = some r) (hrt0 : r = true) :
    Calls Try.prog 4 #[.agg #[.slice A0_0 l0_0.length c0_0, .slice A0_1 l0_1.length c0_1], .int .i64 a1, .int .i64 a2] w fun e w' => e = .returned (.bool r) ∧ Below w.heap.size w w' := by
  have hrt := Aside0.mk hrt0
  clear hrt0
  have hu25 := Try.underlying25
  have HR0_0 := Aside0.mk hr0_0
  have HC0_0 := Aside0.mk hc0_0
  clear hr0_0 hc0_0
  have HR0_1 := Aside0.mk hr0_1
  have HC0_1 := Aside0.mk hc0_1
  clear hr0_1 hc0_1
  have HB := Aside0.mk (Below.refl w.heap.size w)
  have H : ((trefoillaw04_awake.f).bind fun t330 => (if t330 = true then ((trefoillaw04_Few.f l0_0 l0_1).bind fun t331 => (trefoillaw04_DagTells.j0 k a1 a2 (!t331) l0_0 l0_1)) else (trefoillaw04_DagTells.j0 k a1 a2 true l0_0 l0_1))) = some r := h
  clear h
  have HC4 := Aside0.mk H
  clear H
  go_enter Try.func4, Try.ntmps4
  go_upto_region 1 with (first | ((with_reducible refine gate_dst (N := 3) rfl ?_); (try (refine gate_guard (by rfl) ?_; dsimp only)); refine box_event ?hg (N := 3) ?hd (cs := #[.slice A0_0 l0_0.length c0_0, .slice A0_1 l0_1.length c0_1]) (t := 25) ?hr ?_; (case hd => rfl); (case hg => rfl); (case hr => first | (go_simp; done) | (go_simp; rfl)); intro gb329 hg w5 hbox hb; have n0_ := Aside0.mk (below_step (by repeat (first | (with_reducible first | exact HB.out | apply below_alloc | apply pw_below_drewN | apply below_drew1) | exact HB.out)) hb); have n1_ := Aside0.mk (hbox); have n2_ := Aside0.mk ((by rw [hg]; exact (below_size (by repeat (first | (with_reducible first | exact HB.out | apply below_alloc | apply pw_below_drewN | apply below_drew1) | exact HB.out))) : w.heap.size ≤ gb329)); have n3_ := Aside0.mk ((by rw [hg]; exact (below_size (by repeat (first | (with_reducible first | exact HB.out | apply below_alloc | apply pw_below_drewN | apply below_drew1) | exact HB.out))) : w.heap.size ≤ gb329)); clear HB; have HB := n0_; have BK329 := n1_; have GW329 := n2_; have GE329 := n3_; clear n0_ n1_ n2_ n3_; clear hb hbox hg))
  (try simp only [Act.put, List.setIfInBounds_toArray, List.set_cons_zero, List.set_cons_succ])
  go_cut [14] (fun v14 wc => ∃ (kq : Nat) (x14_3 : Bool), v14 = .bool x14_3 ∧ Aside0 (trefoillaw04_DagTells.j0 kq a1 a2 x14_3 l0_0 l0_1 = some r) ∧ Aside0 (kq ≤ k) ∧ Aside0 (wc.heap[gb329]? = some (.cells #[(.slice A0_0 l0_0.length c0_0), (.slice A0_1 l0_1.length c0_1)] 25 (0, 0))) ∧ Aside0 (Below w.heap.size w wc))
  case first =>
    have H := HC4.out
    clear HC4
    replace H := Option.bind_eq_some_iff.mp H
    obtain ⟨t330, A60, H⟩ := H
    replace H : (if t330 = true then ((trefoillaw04_Few.f l0_0 l0_1).bind fun t331 => (trefoillaw04_DagTells.j0 k a1 a2 (!t331) l0_0 l0_1)) else (trefoillaw04_DagTells.j0 k a1 a2 true l0_0 l0_1)) = some r := H
    have A6 := Aside0.mk A60
    clear A60
    by_cases c7 : t330 = true
    · subst c7
      have H1 : ((trefoillaw04_Few.f l0_0 l0_1).bind fun t331 => (trefoillaw04_DagTells.j0 k a1 a2 (!t331) l0_0 l0_1)) = some r := by rw [if_pos rfl] at H; exact H
      clear H
      have H := H1
      clear H1
      replace H := Option.bind_eq_some_iff.mp H
      obtain ⟨t331, A80, H⟩ := H
      replace H : (trefoillaw04_DagTells.j0 k a1 a2 (!t331) l0_0 l0_1) = some r := H
      have A8 := Aside0.mk A80
      clear A80
      have H' := Aside0.mk H
      clear H
      go_wp2_with (first | ((with_reducible refine gate_callee (f := 10) rfl ?_); refine goesL_ (some 8) rfl rfl Try.func10 (by kernel_rfl) rfl #[] rfl (by (try simp only [List.map_toArray, List.map_cons, List.map_nil]); first | done | rfl | (simp only [List.length_drop, List.length_take]; rfl)) ?_; (with_reducible refine (trefoillaw04_awake.calls  true _ A6.out).mono ?_); rintro e w9 ⟨rfl, hb⟩; refine ⟨_, rfl, ?_⟩; have n0_ := Aside0.mk (blk_below (g := gb329) (o := .cells #[.slice A0_0 l0_0.length c0_0, .slice A0_1 l0_1.length c0_1] 25 (0, 0)) (by (with_reducible repeat (first | refine blk_drewN ?_ _ | refine blk_drew ?_ | refine blk_alloc ?_ _)); exact BK329.out) hb); have n1_ := Aside0.mk (below_step (by repeat (first | (with_reducible first | exact HB.out | apply below_alloc | apply pw_below_drewN | apply below_drew1 | refine below_set ?_ GE329.out) | exact HB.out)) hb); clear BK329; clear HB; have BK329 := n0_; have HB := n1_; clear n0_ n1_; (try clear hb); (try clear hb2); (try clear hk); (try clear hi); have hcz10_0 : w9.cell? ⟨gb329, 0, none⟩ = some (.slice A0_0 l0_0.length c0_0) := (blk_cell BK329.out 0).trans rfl; have hcz10_1 : w9.cell? ⟨gb329, 1, none⟩ = some (.slice A0_1 l0_1.length c0_1) := (blk_cell BK329.out 1).trans rfl; have hfz10_0 := blk_frozen BK329.out 0; have hfz10_1 := blk_frozen BK329.out 1) | (go_at_call 11; (with_reducible refine (trefoillaw04_Few.calls _ _ l0_0 _ _ l0_1 t331 _ ?side1 ?side2 ?side3 ?side4 A8.out).mono ?_); (case side1 => repeat (first | exact (Kd.C_below HR0_0.out HB.out) | (with_reducible refine Kd.C_alloc ?_ _) | (with_reducible refine Kd.C_drewN ?_ _) | (with_reducible refine Kd.C_drew ?_))); (case side2 => exact HC0_0.out); (case side3 => repeat (first | exact (Kd.C_below HR0_1.out HB.out) | (with_reducible refine Kd.C_alloc ?_ _) | (with_reducible refine Kd.C_drewN ?_ _) | (with_reducible refine Kd.C_drew ?_))); (case side4 => exact HC0_1.out); rintro e w11 ⟨rfl, hb⟩; have n0_ := Aside0.mk (blk_below (g := gb329) (o := .cells #[.slice A0_0 l0_0.length c0_0, .slice A0_1 l0_1.length c0_1] 25 (0, 0)) (by (with_reducible repeat (first | refine blk_drewN ?_ _ | refine blk_drew ?_ | refine blk_alloc ?_ _)); exact BK329.out) hb); have n1_ := Aside0.mk (below_step (by repeat (first | (with_reducible first | exact HB.out | apply below_alloc | apply pw_below_drewN | apply below_drew1 | refine below_set ?_ GE329.out) | exact HB.out)) hb); clear BK329; clear HB; have BK329 := n0_; have HB := n1_; clear n0_ n1_; (try clear hb); (try clear hb2); (try clear hk); (try clear hi)))
      go_meet
      case rel => exact ⟨_, (!t331), (by first | rfl | (simp; done) | (simp [*]; done)), H', ⟨by first | omega | exact Nat.le_refl _⟩, ⟨by (with_reducible repeat (first | refine blk_drewN ?_ _ | refine blk_drew ?_ | refine blk_alloc ?_ _)); exact BK329.out⟩, ⟨by repeat (first | (with_reducible first | exact HB.out | apply below_alloc | apply pw_below_drewN | apply below_drew1 | refine below_set ?_ GE329.out) | exact HB.out)⟩⟩
    · replace c7 := Bool.eq_false_iff.mpr c7
      subst c7
      have H1 : (trefoillaw04_DagTells.j0 k a1 a2 true l0_0 l0_1) = some r := by rw [if_neg (show ¬ (false = true) by decide)] at H; exact H
      clear H
      have H := H1
      clear H1
      have H' := Aside0.mk H
      clear H
      go_wp2_with (first | ((with_reducible refine gate_callee (f := 10) rfl ?_); refine goesL_ (some 8) rfl rfl Try.func10 (by kernel_rfl) rfl #[] rfl (by (try simp only [List.map_toArray, List.map_cons, List.map_nil]); first | done | rfl | (simp only [List.length_drop, List.length_take]; rfl)) ?_; (with_reducible refine (trefoillaw04_awake.calls  false _ A6.out).mono ?_); rintro e w12 ⟨rfl, hb⟩; refine ⟨_, rfl, ?_⟩; have n0_ := Aside0.mk (blk_below (g := gb329) (o := .cells #[.slice A0_0 l0_0.length c0_0, .slice A0_1 l0_1.length c0_1] 25 (0, 0)) (by (with_reducible repeat (first | refine blk_drewN ?_ _ | refine blk_drew ?_ | refine blk_alloc ?_ _)); exact BK329.out) hb); have n1_ := Aside0.mk (below_step (by repeat (first | (with_reducible first | exact HB.out | apply below_alloc | apply pw_below_drewN | apply below_drew1 | refine below_set ?_ GE329.out) | exact HB.out)) hb); clear BK329; clear HB; have BK329 := n0_; have HB := n1_; clear n0_ n1_; (try clear hb); (try clear hb2); (try clear hk); (try clear hi)))
      go_meet
      case rel => exact ⟨_, (true), (by first | rfl | (simp; done) | (simp [*]; done)), H', ⟨by first | omega | exact Nat.le_refl _⟩, ⟨by (with_reducible repeat (first | refine blk_drewN ?_ _ | refine blk_drew ?_ | refine blk_alloc ?_ _)); exact BK329.out⟩, ⟨by repeat (first | (with_reducible first | exact HB.out | apply below_alloc | apply pw_below_drewN | apply below_drew1 | refine below_set ?_ GE329.out) | exact HB.out)⟩⟩
  case rest =>
    clear HC4
    try clear c1
    try clear p2
    try clear c4
    try clear c7
    try clear c10
    try clear hcz10_0
    try clear hcz10_1
    try clear hfz10_0
    try clear hfz10_1
    obtain ⟨kq, x14_3, rfl, HA, HJ3, BK329, HB⟩ := hcut
    cases kq with
    | zero => exact absurd HA.out (by simp [trefoillaw04_DagTells.j0])
    | succ kj3 =>
      have H := HA.out
      clear HA
      simp only [trefoillaw04_DagTells.j0] at H
      by_cases c13 : x14_3 = true
      · subst c13
        have H1 : ((trefoillaw04_awake.f).bind fun t332 => (some t332)) = some r := by rw [if_pos rfl] at H; exact H
        clear H
        have H := H1
        clear H1
        replace H := Option.bind_eq_some_iff.mp H
        obtain ⟨t332, A140, H⟩ := H
        replace H : (some t332) = some r := H
        have A14 := Aside0.mk A140
        clear A140
        obtain rfl := Option.some.inj H
        go_wp2_with (first | ((with_reducible refine gate_callee (f := 10) rfl ?_); refine goesL_ (some 15) rfl rfl Try.func10 (by kernel_rfl) rfl #[] rfl (by (try simp only [List.map_toArray, List.map_cons, List.map_nil]); first | done | rfl | (simp only [List.length_drop, List.length_take]; rfl)) ?_; (with_reducible refine (trefoillaw04_awake.calls  t332 _ A14.out).mono ?_); rintro e w15 ⟨rfl, hb⟩; refine ⟨_, rfl, ?_⟩; have n0_ := Aside0.mk (blk_below (g := gb329) (o := .cells #[.slice A0_0 l0_0.length c0_0, .slice A0_1 l0_1.length c0_1] 25 (0, 0)) (by (with_reducible repeat (first | refine blk_drewN ?_ _ | refine blk_drew ?_ | refine blk_alloc ?_ _)); exact BK329.out) hb); have n1_ := Aside0.mk (below_step (by repeat (first | (with_reducible first | exact HB.out | apply below_alloc | apply pw_below_drewN | apply below_drew1 | refine below_set ?_ GE329.out) | exact HB.out)) hb); clear BK329; clear HB; have BK329 := n0_; have HB := n1_; clear n0_ n1_; (try clear hb); (try clear hb2); (try clear hk); (try clear hi)))
        go_ret
        exact ⟨by first | rfl | (simp [errW_none, errW_some] <;> rfl) | (simp [*, errW_none, errW_some] <;> rfl), by repeat (first | (with_reducible first | exact HB.out | apply below_alloc | apply pw_below_drewN | apply below_drew1 | refine below_set ?_ GE329.out) | exact HB.out)⟩
      · replace c13 := Bool.eq_false_iff.mpr c13
        subst c13
        have H1 : ((trefoilref04_Check.f kj3 l0_0 l0_1).bind fun t333 => (if t333 = 0 then (if a1 ≥ 0 then (if a1 < (l0_0.length : Int) then (if a2 ≥ 0 then (if a2 < (l0_0.length : Int) then ((trefoilref04_Reach.f kj3 l0_0 l0_1 a1).bind fun t382 => (if 0 ≤ a2 then (if a2 < (t382.length : Int) then (trefoillaw04_DagTells.j1 kj3 a1 a2 (rdOf false t382 a2) l0_0 l0_1) else (none)) else (none))) else (trefoillaw04_DagTells.j1 kj3 a1 a2 false l0_0 l0_1)) else (trefoillaw04_DagTells.j1 kj3 a1 a2 false l0_0 l0_1)) else (trefoillaw04_DagTells.j1 kj3 a1 a2 false l0_0 l0_1)) else (trefoillaw04_DagTells.j1 kj3 a1 a2 false l0_0 l0_1)) else ((trefoillaw04_Own.f l0_0 l0_1).bind fun bt334 => ((dag_Order.f bt334.1 bt334.2).bind fun t340 => (if (t340.length : Int) = 0 then ((trefoillaw04_Own.f l0_0 l0_1).bind fun bt343 => ((dag_Total.f bt343.1 bt343.2).bind fun t349 => (if t349 = 0 then ((trefoillaw04_Own.f l0_0 l0_1).bind fun bt350 => ((dag_Long.f bt350.1 bt350.2).bind fun t356 => (if t356 = 0 then ((trefoillaw04_Own.f l0_0 l0_1).bind fun bt357 => ((dag_Preds.f bt357.1 bt357.2 a1).bind fun t363 => (if (t363.length : Int) = 0 then ((trefoillaw04_Own.f l0_0 l0_1).bind fun bt366 => ((dag_Succs.f bt366.1 bt366.2 a1).bind fun t372 => (if (t372.length : Int) = 0 then ((trefoillaw04_Own.f l0_0 l0_1).bind fun bt375 => ((dag_Before.f bt375.1 bt375.2 a1 a2).bind fun t381 => (some (!t381)))) else (some false)))) else (some false)))) else (some false)))) else (some false)))) else (some false)))))) = some r := by rw [if_neg (show ¬ (false = true) by decide)] at H; exact H
        clear H
        have H := H1
        clear H1
        replace H := Option.bind_eq_some_iff.mp H
        obtain ⟨t333, A160, H⟩ := H
        replace H : (if t333 = 0 then (if a1 ≥ 0 then (if a1 < (l0_0.length : Int) then (if a2 ≥ 0 then (if a2 < (l0_0.length : Int) then ((trefoilref04_Reach.f kj3 l0_0 l0_1 a1).bind fun t382 => (if 0 ≤ a2 then (if a2 < (t382.length : Int) then (trefoillaw04_DagTells.j1 kj3 a1 a2 (rdOf false t382 a2) l0_0 l0_1) else (none)) else (none))) else (trefoillaw04_DagTells.j1 kj3 a1 a2 false l0_0 l0_1)) else (trefoillaw04_DagTells.j1 kj3 a1 a2 false l0_0 l0_1)) else (trefoillaw04_DagTells.j1 kj3 a1 a2 false l0_0 l0_1)) else (trefoillaw04_DagTells.j1 kj3 a1 a2 false l0_0 l0_1)) else ((trefoillaw04_Own.f l0_0 l0_1).bind fun bt334 => ((dag_Order.f bt334.1 bt334.2).bind fun t340 => (if (t340.length : Int) = 0 then ((trefoillaw04_Own.f l0_0 l0_1).bind fun bt343 => ((dag_Total.f bt343.1 bt343.2).bind fun t349 => (if t349 = 0 then ((trefoillaw04_Own.f l0_0 l0_1).bind fun bt350 => ((dag_Long.f bt350.1 bt350.2).bind fun t356 => (if t356 = 0 then ((trefoillaw04_Own.f l0_0 l0_1).bind fun bt357 => ((dag_Preds.f bt357.1 bt357.2 a1).bind fun t363 => (if (t363.length : Int) = 0 then ((trefoillaw04_Own.f l0_0 l0_1).bind fun bt366 => ((dag_Succs.f bt366.1 bt366.2 a1).bind fun t372 => (if (t372.length : Int) = 0 then ((trefoillaw04_Own.f l0_0 l0_1).bind fun bt375 => ((dag_Before.f bt375.1 bt375.2 a1 a2).bind fun t381 => (some (!t381)))) else (some false)))) else (some false)))) else (some false)))) else (some false)))) else (some false))))) = some r := H
        have A16 := Aside0.mk A160
        clear A160
        by_cases c17 : t333 = 0
        · rw [if_pos c17] at H
          have c17b0 : (t333 == 0) = true := beq_iff_eq.mpr c17
          have c17b1 : (t333 != 0) = false := bne_eq_false_iff_eq.mpr c17
          clear c17
          have HC18 := Aside0.mk H
          clear H
          have hcz19_0 : wc.cell? ⟨gb329, 0, none⟩ = some (.slice A0_0 l0_0.length c0_0) := (blk_cell BK329.out 0).trans rfl
          have hcz19_1 : wc.cell? ⟨gb329, 1, none⟩ = some (.slice A0_1 l0_1.length c0_1) := (blk_cell BK329.out 1).trans rfl
          have hfz19_0 := blk_frozen BK329.out 0
          have hfz19_1 := blk_frozen BK329.out 1
          go_upto_region 5 with (first | ((with_reducible refine gate_callee (f := 14) rfl ?_); refine goesL_ (some 17) rfl rfl Try.func14 (by kernel_rfl) rfl #[.agg #[.slice A0_0 l0_0.length c0_0, .slice A0_1 l0_1.length c0_1]] rfl (by (try simp only [List.map_toArray, List.map_cons, List.map_nil]); first | done | rfl | (simp only [List.length_drop, List.length_take]; rfl)) ?_; (with_reducible refine (trefoilref04_Check.calls kj3 _ _ l0_0 _ _ l0_1 t333 _ ?side1 ?side2 ?side3 ?side4 A16.out).mono ?_); (case side1 => repeat (first | exact (Kd.C_below HR0_0.out HB.out) | (with_reducible refine Kd.C_alloc ?_ _) | (with_reducible refine Kd.C_drewN ?_ _) | (with_reducible refine Kd.C_drew ?_))); (case side2 => exact HC0_0.out); (case side3 => repeat (first | exact (Kd.C_below HR0_1.out HB.out) | (with_reducible refine Kd.C_alloc ?_ _) | (with_reducible refine Kd.C_drewN ?_ _) | (with_reducible refine Kd.C_drew ?_))); (case side4 => exact HC0_1.out); rintro e w20 ⟨rfl, hb⟩; refine ⟨_, rfl, ?_⟩; have n0_ := Aside0.mk (blk_below (g := gb329) (o := .cells #[.slice A0_0 l0_0.length c0_0, .slice A0_1 l0_1.length c0_1] 25 (0, 0)) (by (with_reducible repeat (first | refine blk_drewN ?_ _ | refine blk_drew ?_ | refine blk_alloc ?_ _)); exact BK329.out) hb); have n1_ := Aside0.mk (below_step (by repeat (first | (with_reducible first | exact HB.out | apply below_alloc | apply pw_below_drewN | apply below_drew1 | refine below_set ?_ GE329.out) | exact HB.out)) hb); clear BK329; clear HB; have BK329 := n0_; have HB := n1_; clear n0_ n1_; (try clear hb); (try clear hb2); (try clear hk); (try clear hi)))
          (try simp only [Act.put, List.setIfInBounds_toArray, List.set_cons_zero, List.set_cons_succ])
          go_cut [7] (fun v7 wc => ∃ (kq : Nat) (x7_17 : Bool), v7 = .bool x7_17 ∧ Aside0 (trefoillaw04_DagTells.j1 kq a1 a2 x7_17 l0_0 l0_1 = some r) ∧ Aside0 (kq ≤ kj3) ∧ Aside0 (wc.heap[gb329]? = some (.cells #[(.slice A0_0 l0_0.length c0_0), (.slice A0_1 l0_1.length c0_1)] 25 (0, 0))) ∧ Aside0 (Below w.heap.size w wc))
          case first =>
            have H := HC18.out
            clear HC18
            by_cases c21 : a1 ≥ 0
            · rw [if_pos c21] at H
              have c21b0 : decide (0 ≤ a1) = true := decide_eq_true c21
              clear c21
              (first | rw [c21b0] | (simp only [i64_w, i32_w]; rw [c21b0]) | skip)
              by_cases c22 : a1 < (l0_0.length : Int)
              · rw [if_pos c22] at H
                have c22b0 : decide (a1 < (l0_0.length : Int)) = true := decide_eq_true c22
                clear c22
                by_cases c23 : a2 ≥ 0
                · rw [if_pos c23] at H
                  have c23b0 : decide (0 ≤ a2) = true := decide_eq_true c23
                  clear c23
                  by_cases c24 : a2 < (l0_0.length : Int)
                  · rw [if_pos c24] at H
                    have c24b0 : decide (a2 < (l0_0.length : Int)) = true := decide_eq_true c24
                    clear c24
                    replace H := Option.bind_eq_some_iff.mp H
                    obtain ⟨t382, A250, H⟩ := H
                    replace H : (if 0 ≤ a2 then (if a2 < (t382.length : Int) then (trefoillaw04_DagTells.j1 kj3 a1 a2 (rdOf false t382 a2) l0_0 l0_1) else (none)) else (none)) = some r := H
                    have A25 := Aside0.mk A250
                    clear A250
                    by_cases c26 : 0 ≤ a2
                    · rw [if_pos c26] at H
                      have c26b0 : decide (0 ≤ a2) = true := decide_eq_true c26
                      clear c26
                      by_cases c27 : a2 < (t382.length : Int)
                      · rw [if_pos c27] at H
                        have c27b0 : decide (a2 < (t382.length : Int)) = true := decide_eq_true c27
                        clear c27
                        have H' := Aside0.mk H
                        clear H
                        have hcz28_0 : w20.cell? ⟨gb329, 0, none⟩ = some (.slice A0_0 l0_0.length c0_0) := (blk_cell BK329.out 0).trans rfl
                        have hcz28_1 : w20.cell? ⟨gb329, 1, none⟩ = some (.slice A0_1 l0_1.length c0_1) := (blk_cell BK329.out 1).trans rfl
                        have hfz28_0 := blk_frozen BK329.out 0
                        have hfz28_1 := blk_frozen BK329.out 1
                        go_wp2_with (first | (go_at_call 23; (fail_if_success (have h_once_ := HO384)); (with_reducible refine (trefoilref04_Reach.calls kj3 _ _ l0_0 _ _ l0_1 a1 t382 _ ?side1 ?side2 ?side3 ?side4 A25.out).mono ?_); (case side1 => repeat (first | exact (Kd.C_below HR0_0.out HB.out) | (with_reducible refine Kd.C_alloc ?_ _) | (with_reducible refine Kd.C_drewN ?_ _) | (with_reducible refine Kd.C_drew ?_))); (case side2 => exact HC0_0.out); (case side3 => repeat (first | exact (Kd.C_below HR0_1.out HB.out) | (with_reducible refine Kd.C_alloc ?_ _) | (with_reducible refine Kd.C_drewN ?_ _) | (with_reducible refine Kd.C_drew ?_))); (case side4 => exact HC0_1.out); rintro e w29 ⟨v383, rfl, ho0, hb⟩; have n0_ := Aside0.mk (Kd.R_lower ho0 (below_size (by repeat (first | (with_reducible first | exact HB.out | apply below_alloc | apply pw_below_drewN | apply below_drew1 | refine below_set ?_ GE329.out) | exact HB.out)))); have n1_ := Aside0.mk (blk_below (g := gb329) (o := .cells #[.slice A0_0 l0_0.length c0_0, .slice A0_1 l0_1.length c0_1] 25 (0, 0)) (by (with_reducible repeat (first | refine blk_drewN ?_ _ | refine blk_drew ?_ | refine blk_alloc ?_ _)); exact BK329.out) hb); have n2_ := Aside0.mk (below_step (by repeat (first | (with_reducible first | exact HB.out | apply below_alloc | apply pw_below_drewN | apply below_drew1 | refine below_set ?_ GE329.out) | exact HB.out)) hb); clear BK329; clear HB; have HO384 := n0_; have BK329 := n1_; have HB := n2_; clear n0_ n1_ n2_; (try clear hb); (try clear hb2); (try clear hk); (try clear hi); (try clear ho0); obtain ⟨Ao30, co30, eo30⟩ := Kd.R_slice HO384.out; subst eo30; have p385 : 0 ≤ (a2 : Int) := of_decide_eq_true (by first | (with_reducible assumption) | assumption); have q385 : a2 < (t382.length : Int) := of_decide_eq_true (by first | (with_reducible assumption) | assumption); obtain ⟨ad385, e385, hx385_0⟩ := Kd.at_bool (Kd.R_reads' HO384.out).2.2 a2 p385 q385; cases e385; replace p385 := eq_true p385; replace q385 := eq_true q385))
                        go_meet
                        case rel => exact ⟨_, (rdOf false t382 a2), (by first | rfl | (simp; done) | (simp [*]; done)), H', ⟨by have := HJ3.out; first | omega | exact Nat.le_refl _⟩, ⟨by (with_reducible repeat (first | refine blk_drewN ?_ _ | refine blk_drew ?_ | refine blk_alloc ?_ _)); exact BK329.out⟩, ⟨by repeat (first | (with_reducible first | exact HB.out | apply below_alloc | apply pw_below_drewN | apply below_drew1 | refine below_set ?_ GE329.out) | exact HB.out)⟩⟩
                      · rw [if_neg c27] at H
                        exact absurd H (by simp)
                    · rw [if_neg c26] at H
                      exact absurd H (by simp)
                  · rw [if_neg c24] at H
                    have c24b0 : decide (a2 < (l0_0.length : Int)) = false := decide_eq_false c24
                    clear c24
                    have H' := Aside0.mk H
                    clear H
                    have hcz31_0 : w20.cell? ⟨gb329, 0, none⟩ = some (.slice A0_0 l0_0.length c0_0) := (blk_cell BK329.out 0).trans rfl
                    have hcz31_1 : w20.cell? ⟨gb329, 1, none⟩ = some (.slice A0_1 l0_1.length c0_1) := (blk_cell BK329.out 1).trans rfl
                    have hfz31_0 := blk_frozen BK329.out 0
                    have hfz31_1 := blk_frozen BK329.out 1
                    go_wp2
                    go_meet
                    case rel => exact ⟨_, (false), (by first | rfl | (simp; done) | (simp [*]; done)), H', ⟨by have := HJ3.out; first | omega | exact Nat.le_refl _⟩, ⟨by (with_reducible repeat (first | refine blk_drewN ?_ _ | refine blk_drew ?_ | refine blk_alloc ?_ _)); exact BK329.out⟩, ⟨by repeat (first | (with_reducible first | exact HB.out | apply below_alloc | apply pw_below_drewN | apply below_drew1 | refine below_set ?_ GE329.out) | exact HB.out)⟩⟩
                · rw [if_neg c23] at H
                  have c23b0 : decide (0 ≤ a2) = false := decide_eq_false c23
                  clear c23
                  have H' := Aside0.mk H
                  clear H
                  have hcz32_0 : w20.cell? ⟨gb329, 0, none⟩ = some (.slice A0_0 l0_0.length c0_0) := (blk_cell BK329.out 0).trans rfl
                  have hcz32_1 : w20.cell? ⟨gb329, 1, none⟩ = some (.slice A0_1 l0_1.length c0_1) := (blk_cell BK329.out 1).trans rfl
                  have hfz32_0 := blk_frozen BK329.out 0
                  have hfz32_1 := blk_frozen BK329.out 1
                  go_wp2
                  go_meet
                  case rel => exact ⟨_, (false), (by first | rfl | (simp; done) | (simp [*]; done)), H', ⟨by have := HJ3.out; first | omega | exact Nat.le_refl _⟩, ⟨by (with_reducible repeat (first | refine blk_drewN ?_ _ | refine blk_drew ?_ | refine blk_alloc ?_ _)); exact BK329.out⟩, ⟨by repeat (first | (with_reducible first | exact HB.out | apply below_alloc | apply pw_below_drewN | apply below_drew1 | refine below_set ?_ GE329.out) | exact HB.out)⟩⟩
              · rw [if_neg c22] at H
                have c22b0 : decide (a1 < (l0_0.length : Int)) = false := decide_eq_false c22
                clear c22
                have H' := Aside0.mk H
                clear H
                have hcz33_0 : w20.cell? ⟨gb329, 0, none⟩ = some (.slice A0_0 l0_0.length c0_0) := (blk_cell BK329.out 0).trans rfl
                have hcz33_1 : w20.cell? ⟨gb329, 1, none⟩ = some (.slice A0_1 l0_1.length c0_1) := (blk_cell BK329.out 1).trans rfl
                have hfz33_0 := blk_frozen BK329.out 0
                have hfz33_1 := blk_frozen BK329.out 1
                go_wp2
                go_meet
                case rel => exact ⟨_, (false), (by first | rfl | (simp; done) | (simp [*]; done)), H', ⟨by have := HJ3.out; first | omega | exact Nat.le_refl _⟩, ⟨by (with_reducible repeat (first | refine blk_drewN ?_ _ | refine blk_drew ?_ | refine blk_alloc ?_ _)); exact BK329.out⟩, ⟨by repeat (first | (with_reducible first | exact HB.out | apply below_alloc | apply pw_below_drewN | apply below_drew1 | refine below_set ?_ GE329.out) | exact HB.out)⟩⟩
            · rw [if_neg c21] at H
              have c21b0 : decide (0 ≤ a1) = false := decide_eq_false c21
              clear c21
              (first | rw [c21b0] | (simp only [i64_w, i32_w]; rw [c21b0]) | skip)
              have H' := Aside0.mk H
              clear H
              go_wp2
              go_meet
              case rel => exact ⟨_, (false), (by first | rfl | (simp; done) | (simp [*]; done)), H', ⟨by have := HJ3.out; first | omega | exact Nat.le_refl _⟩, ⟨by (with_reducible repeat (first | refine blk_drewN ?_ _ | refine blk_drew ?_ | refine blk_alloc ?_ _)); exact BK329.out⟩, ⟨by repeat (first | (with_reducible first | exact HB.out | apply below_alloc | apply pw_below_drewN | apply below_drew1 | refine below_set ?_ GE329.out) | exact HB.out)⟩⟩
          case rest =>
            clear HC18
            try clear c1
            try clear c2
            try clear p2
            try clear p3
            try clear q3
            try clear hx3
            try clear c4
            try clear c7
            try clear c10
            try clear c13
            try clear c14
            try clear c17
            try clear c17b0
            try clear c17b1
            try clear c21
            try clear c21b0
            try clear c22
            try clear c22b0
            try clear c23
            try clear c23b0
            try clear c24
            try clear c24b0
            try clear c26
            try clear c26b0
            try clear c27
            try clear c27b0
            try clear hcz10_0
            try clear hcz10_1
            try clear hcz19_0
            try clear hcz19_1
            try clear hcz28_0
            try clear hcz28_1
            try clear hcz31_0
            try clear hcz31_1
            try clear hcz32_0
            try clear hcz32_1
            try clear hcz33_0
            try clear hcz33_1
            try clear hfz10_0
            try clear hfz10_1
            try clear hfz19_0
            try clear hfz19_1
            try clear hfz28_0
            try clear hfz28_1
            try clear hfz31_0
            try clear hfz31_1
            try clear hfz32_0
            try clear hfz32_1
            try clear hfz33_0
            try clear hfz33_1
            try clear hx385_0
            try clear p2
            try clear p385
            try clear q385
            obtain ⟨kq, x7_17, rfl, HA, HJ17, BK329, HB⟩ := hcut
            cases kq with
            | zero => exact absurd HA.out (by simp [trefoillaw04_DagTells.j1])
            | succ kj17 =>
              have H := HA.out
              clear HA
              simp only [trefoillaw04_DagTells.j1] at H
              replace H := Option.bind_eq_some_iff.mp H
              obtain ⟨⟨t386, t389⟩, A340, H⟩ := H
              replace H : ((dag_Order.f t386 t389).bind fun t392 => ((trefoilref04_Order.f kj17 l0_0 l0_1).bind fun t395 => ((trefoilref02_Ints.f kj17 t392 t395).bind fun t398 => (if t398 = true then ((trefoillaw04_Own.f l0_0 l0_1).bind fun bt399 => ((dag_Total.f bt399.1 bt399.2).bind fun t405 => ((trefoilref04_Total.f kj17 l0_0 l0_1).bind fun t406 => (if t405 = t406 then ((trefoillaw04_Own.f l0_0 l0_1).bind fun bt407 => ((dag_Long.f bt407.1 bt407.2).bind fun t413 => ((trefoilref04_Long.f kj17 l0_0 l0_1).bind fun t414 => (if t413 = t414 then ((trefoillaw04_Own.f l0_0 l0_1).bind fun bt415 => ((dag_Preds.f bt415.1 bt415.2 a1).bind fun t421 => ((trefoilref04_Preds.f kj17 l0_0 l0_1 a1).bind fun t424 => ((trefoilref02_Ints.f kj17 t421 t424).bind fun t427 => (if t427 = true then ((trefoillaw04_Own.f l0_0 l0_1).bind fun bt428 => ((dag_Succs.f bt428.1 bt428.2 a1).bind fun t434 => ((trefoilref04_Succs.f kj17 l0_0 l0_1 a1).bind fun t437 => ((trefoilref02_Ints.f kj17 t434 t437).bind fun t440 => (if t440 = true then ((trefoillaw04_Own.f l0_0 l0_1).bind fun bt441 => ((dag_Before.f bt441.1 bt441.2 a1 a2).bind fun t447 => (some (t447 == x7_17)))) else (some false)))))) else (some false)))))) else (some false))))) else (some false))))) else (some false))))) = some r := H
              have A34 := Aside0.mk A340
              clear A340
              replace H := Option.bind_eq_some_iff.mp H
              obtain ⟨t392, A350, H⟩ := H
              replace H : ((trefoilref04_Order.f kj17 l0_0 l0_1).bind fun t395 => ((trefoilref02_Ints.f kj17 t392 t395).bind fun t398 => (if t398 = true then ((trefoillaw04_Own.f l0_0 l0_1).bind fun bt399 => ((dag_Total.f bt399.1 bt399.2).bind fun t405 => ((trefoilref04_Total.f kj17 l0_0 l0_1).bind fun t406 => (if t405 = t406 then ((trefoillaw04_Own.f l0_0 l0_1).bind fun bt407 => ((dag_Long.f bt407.1 bt407.2).bind fun t413 => ((trefoilref04_Long.f kj17 l0_0 l0_1).bind fun t414 => (if t413 = t414 then ((trefoillaw04_Own.f l0_0 l0_1).bind fun bt415 => ((dag_Preds.f bt415.1 bt415.2 a1).bind fun t421 => ((trefoilref04_Preds.f kj17 l0_0 l0_1 a1).bind fun t424 => ((trefoilref02_Ints.f kj17 t421 t424).bind fun t427 => (if t427 = true then ((trefoillaw04_Own.f l0_0 l0_1).bind fun bt428 => ((dag_Succs.f bt428.1 bt428.2 a1).bind fun t434 => ((trefoilref04_Succs.f kj17 l0_0 l0_1 a1).bind fun t437 => ((trefoilref02_Ints.f kj17 t434 t437).bind fun t440 => (if t440 = true then ((trefoillaw04_Own.f l0_0 l0_1).bind fun bt441 => ((dag_Before.f bt441.1 bt441.2 a1 a2).bind fun t447 => (some (t447 == x7_17)))) else (some false)))))) else (some false)))))) else (some false))))) else (some false))))) else (some false)))) = some r := H
              have A35 := Aside0.mk A350
              clear A350
              replace H := Option.bind_eq_some_iff.mp H
              obtain ⟨t395, A360, H⟩ := H
              replace H : ((trefoilref02_Ints.f kj17 t392 t395).bind fun t398 => (if t398 = true then ((trefoillaw04_Own.f l0_0 l0_1).bind fun bt399 => ((dag_Total.f bt399.1 bt399.2).bind fun t405 => ((trefoilref04_Total.f kj17 l0_0 l0_1).bind fun t406 => (if t405 = t406 then ((trefoillaw04_Own.f l0_0 l0_1).bind fun bt407 => ((dag_Long.f bt407.1 bt407.2).bind fun t413 => ((trefoilref04_Long.f kj17 l0_0 l0_1).bind fun t414 => (if t413 = t414 then ((trefoillaw04_Own.f l0_0 l0_1).bind fun bt415 => ((dag_Preds.f bt415.1 bt415.2 a1).bind fun t421 => ((trefoilref04_Preds.f kj17 l0_0 l0_1 a1).bind fun t424 => ((trefoilref02_Ints.f kj17 t421 t424).bind fun t427 => (if t427 = true then ((trefoillaw04_Own.f l0_0 l0_1).bind fun bt428 => ((dag_Succs.f bt428.1 bt428.2 a1).bind fun t434 => ((trefoilref04_Succs.f kj17 l0_0 l0_1 a1).bind fun t437 => ((trefoilref02_Ints.f kj17 t434 t437).bind fun t440 => (if t440 = true then ((trefoillaw04_Own.f l0_0 l0_1).bind fun bt441 => ((dag_Before.f bt441.1 bt441.2 a1 a2).bind fun t447 => (some (t447 == x7_17)))) else (some false)))))) else (some false)))))) else (some false))))) else (some false))))) else (some false))) = some r := H
              have A36 := Aside0.mk A360
              clear A360
              replace H := Option.bind_eq_some_iff.mp H
              obtain ⟨t398, A370, H⟩ := H
              replace H : (if t398 = true then ((trefoillaw04_Own.f l0_0 l0_1).bind fun bt399 => ((dag_Total.f bt399.1 bt399.2).bind fun t405 => ((trefoilref04_Total.f kj17 l0_0 l0_1).bind fun t406 => (if t405 = t406 then ((trefoillaw04_Own.f l0_0 l0_1).bind fun bt407 => ((dag_Long.f bt407.1 bt407.2).bind fun t413 => ((trefoilref04_Long.f kj17 l0_0 l0_1).bind fun t414 => (if t413 = t414 then ((trefoillaw04_Own.f l0_0 l0_1).bind fun bt415 => ((dag_Preds.f bt415.1 bt415.2 a1).bind fun t421 => ((trefoilref04_Preds.f kj17 l0_0 l0_1 a1).bind fun t424 => ((trefoilref02_Ints.f kj17 t421 t424).bind fun t427 => (if t427 = true then ((trefoillaw04_Own.f l0_0 l0_1).bind fun bt428 => ((dag_Succs.f bt428.1 bt428.2 a1).bind fun t434 => ((trefoilref04_Succs.f kj17 l0_0 l0_1 a1).bind fun t437 => ((trefoilref02_Ints.f kj17 t434 t437).bind fun t440 => (if t440 = true then ((trefoillaw04_Own.f l0_0 l0_1).bind fun bt441 => ((dag_Before.f bt441.1 bt441.2 a1 a2).bind fun t447 => (some (t447 == x7_17)))) else (some false)))))) else (some false)))))) else (some false))))) else (some false))))) else (some false)) = some r := H
              have A37 := Aside0.mk A370
              clear A370
              by_cases c38 : t398 = true
              · subst c38
                have H1 : ((trefoillaw04_Own.f l0_0 l0_1).bind fun bt399 => ((dag_Total.f bt399.1 bt399.2).bind fun t405 => ((trefoilref04_Total.f kj17 l0_0 l0_1).bind fun t406 => (if t405 = t406 then ((trefoillaw04_Own.f l0_0 l0_1).bind fun bt407 => ((dag_Long.f bt407.1 bt407.2).bind fun t413 => ((trefoilref04_Long.f kj17 l0_0 l0_1).bind fun t414 => (if t413 = t414 then ((trefoillaw04_Own.f l0_0 l0_1).bind fun bt415 => ((dag_Preds.f bt415.1 bt415.2 a1).bind fun t421 => ((trefoilref04_Preds.f kj17 l0_0 l0_1 a1).bind fun t424 => ((trefoilref02_Ints.f kj17 t421 t424).bind fun t427 => (if t427 = true then ((trefoillaw04_Own.f l0_0 l0_1).bind fun bt428 => ((dag_Succs.f bt428.1 bt428.2 a1).bind fun t434 => ((trefoilref04_Succs.f kj17 l0_0 l0_1 a1).bind fun t437 => ((trefoilref02_Ints.f kj17 t434 t437).bind fun t440 => (if t440 = true then ((trefoillaw04_Own.f l0_0 l0_1).bind fun bt441 => ((dag_Before.f bt441.1 bt441.2 a1 a2).bind fun t447 => (some (t447 == x7_17)))) else (some false)))))) else (some false)))))) else (some false))))) else (some false))))) = some r := by rw [if_pos rfl] at H; exact H
                clear H
                have H := H1
                clear H1
                replace H := Option.bind_eq_some_iff.mp H
                obtain ⟨⟨t399, t402⟩, A390, H⟩ := H
                replace H : ((dag_Total.f t399 t402).bind fun t405 => ((trefoilref04_Total.f kj17 l0_0 l0_1).bind fun t406 => (if t405 = t406 then ((trefoillaw04_Own.f l0_0 l0_1).bind fun bt407 => ((dag_Long.f bt407.1 bt407.2).bind fun t413 => ((trefoilref04_Long.f kj17 l0_0 l0_1).bind fun t414 => (if t413 = t414 then ((trefoillaw04_Own.f l0_0 l0_1).bind fun bt415 => ((dag_Preds.f bt415.1 bt415.2 a1).bind fun t421 => ((trefoilref04_Preds.f kj17 l0_0 l0_1 a1).bind fun t424 => ((trefoilref02_Ints.f kj17 t421 t424).bind fun t427 => (if t427 = true then ((trefoillaw04_Own.f l0_0 l0_1).bind fun bt428 => ((dag_Succs.f bt428.1 bt428.2 a1).bind fun t434 => ((trefoilref04_Succs.f kj17 l0_0 l0_1 a1).bind fun t437 => ((trefoilref02_Ints.f kj17 t434 t437).bind fun t440 => (if t440 = true then ((trefoillaw04_Own.f l0_0 l0_1).bind fun bt441 => ((dag_Before.f bt441.1 bt441.2 a1 a2).bind fun t447 => (some (t447 == x7_17)))) else (some false)))))) else (some false)))))) else (some false))))) else (some false)))) = some r := H
                have A39 := Aside0.mk A390
                clear A390
                replace H := Option.bind_eq_some_iff.mp H
                obtain ⟨t405, A400, H⟩ := H
                replace H : ((trefoilref04_Total.f kj17 l0_0 l0_1).bind fun t406 => (if t405 = t406 then ((trefoillaw04_Own.f l0_0 l0_1).bind fun bt407 => ((dag_Long.f bt407.1 bt407.2).bind fun t413 => ((trefoilref04_Long.f kj17 l0_0 l0_1).bind fun t414 => (if t413 = t414 then ((trefoillaw04_Own.f l0_0 l0_1).bind fun bt415 => ((dag_Preds.f bt415.1 bt415.2 a1).bind fun t421 => ((trefoilref04_Preds.f kj17 l0_0 l0_1 a1).bind fun t424 => ((trefoilref02_Ints.f kj17 t421 t424).bind fun t427 => (if t427 = true then ((trefoillaw04_Own.f l0_0 l0_1).bind fun bt428 => ((dag_Succs.f bt428.1 bt428.2 a1).bind fun t434 => ((trefoilref04_Succs.f kj17 l0_0 l0_1 a1).bind fun t437 => ((trefoilref02_Ints.f kj17 t434 t437).bind fun t440 => (if t440 = true then ((trefoillaw04_Own.f l0_0 l0_1).bind fun bt441 => ((dag_Before.f bt441.1 bt441.2 a1 a2).bind fun t447 => (some (t447 == x7_17)))) else (some false)))))) else (some false)))))) else (some false))))) else (some false))) = some r := H
                have A40 := Aside0.mk A400
                clear A400
                replace H := Option.bind_eq_some_iff.mp H
                obtain ⟨t406, A410, H⟩ := H
                replace H : (if t405 = t406 then ((trefoillaw04_Own.f l0_0 l0_1).bind fun bt407 => ((dag_Long.f bt407.1 bt407.2).bind fun t413 => ((trefoilref04_Long.f kj17 l0_0 l0_1).bind fun t414 => (if t413 = t414 then ((trefoillaw04_Own.f l0_0 l0_1).bind fun bt415 => ((dag_Preds.f bt415.1 bt415.2 a1).bind fun t421 => ((trefoilref04_Preds.f kj17 l0_0 l0_1 a1).bind fun t424 => ((trefoilref02_Ints.f kj17 t421 t424).bind fun t427 => (if t427 = true then ((trefoillaw04_Own.f l0_0 l0_1).bind fun bt428 => ((dag_Succs.f bt428.1 bt428.2 a1).bind fun t434 => ((trefoilref04_Succs.f kj17 l0_0 l0_1 a1).bind fun t437 => ((trefoilref02_Ints.f kj17 t434 t437).bind fun t440 => (if t440 = true then ((trefoillaw04_Own.f l0_0 l0_1).bind fun bt441 => ((dag_Before.f bt441.1 bt441.2 a1 a2).bind fun t447 => (some (t447 == x7_17)))) else (some false)))))) else (some false)))))) else (some false))))) else (some false)) = some r := H
                have A41 := Aside0.mk A410
                clear A410
                by_cases c42 : t405 = t406
                · rw [if_pos c42] at H
                  have c42b0 : (t405 == t406) = true := beq_iff_eq.mpr c42
                  have c42b1 : (t405 != t406) = false := bne_eq_false_iff_eq.mpr c42
                  clear c42
                  replace H := Option.bind_eq_some_iff.mp H
                  obtain ⟨⟨t407, t410⟩, A430, H⟩ := H
                  replace H : ((dag_Long.f t407 t410).bind fun t413 => ((trefoilref04_Long.f kj17 l0_0 l0_1).bind fun t414 => (if t413 = t414 then ((trefoillaw04_Own.f l0_0 l0_1).bind fun bt415 => ((dag_Preds.f bt415.1 bt415.2 a1).bind fun t421 => ((trefoilref04_Preds.f kj17 l0_0 l0_1 a1).bind fun t424 => ((trefoilref02_Ints.f kj17 t421 t424).bind fun t427 => (if t427 = true then ((trefoillaw04_Own.f l0_0 l0_1).bind fun bt428 => ((dag_Succs.f bt428.1 bt428.2 a1).bind fun t434 => ((trefoilref04_Succs.f kj17 l0_0 l0_1 a1).bind fun t437 => ((trefoilref02_Ints.f kj17 t434 t437).bind fun t440 => (if t440 = true then ((trefoillaw04_Own.f l0_0 l0_1).bind fun bt441 => ((dag_Before.f bt441.1 bt441.2 a1 a2).bind fun t447 => (some (t447 == x7_17)))) else (some false)))))) else (some false)))))) else (some false)))) = some r := H
                  have A43 := Aside0.mk A430
                  clear A430
                  replace H := Option.bind_eq_some_iff.mp H
                  obtain ⟨t413, A440, H⟩ := H
                  replace H : ((trefoilref04_Long.f kj17 l0_0 l0_1).bind fun t414 => (if t413 = t414 then ((trefoillaw04_Own.f l0_0 l0_1).bind fun bt415 => ((dag_Preds.f bt415.1 bt415.2 a1).bind fun t421 => ((trefoilref04_Preds.f kj17 l0_0 l0_1 a1).bind fun t424 => ((trefoilref02_Ints.f kj17 t421 t424).bind fun t427 => (if t427 = true then ((trefoillaw04_Own.f l0_0 l0_1).bind fun bt428 => ((dag_Succs.f bt428.1 bt428.2 a1).bind fun t434 => ((trefoilref04_Succs.f kj17 l0_0 l0_1 a1).bind fun t437 => ((trefoilref02_Ints.f kj17 t434 t437).bind fun t440 => (if t440 = true then ((trefoillaw04_Own.f l0_0 l0_1).bind fun bt441 => ((dag_Before.f bt441.1 bt441.2 a1 a2).bind fun t447 => (some (t447 == x7_17)))) else (some false)))))) else (some false)))))) else (some false))) = some r := H
                  have A44 := Aside0.mk A440
                  clear A440
                  replace H := Option.bind_eq_some_iff.mp H
                  obtain ⟨t414, A450, H⟩ := H
                  replace H : (if t413 = t414 then ((trefoillaw04_Own.f l0_0 l0_1).bind fun bt415 => ((dag_Preds.f bt415.1 bt415.2 a1).bind fun t421 => ((trefoilref04_Preds.f kj17 l0_0 l0_1 a1).bind fun t424 => ((trefoilref02_Ints.f kj17 t421 t424).bind fun t427 => (if t427 = true then ((trefoillaw04_Own.f l0_0 l0_1).bind fun bt428 => ((dag_Succs.f bt428.1 bt428.2 a1).bind fun t434 => ((trefoilref04_Succs.f kj17 l0_0 l0_1 a1).bind fun t437 => ((trefoilref02_Ints.f kj17 t434 t437).bind fun t440 => (if t440 = true then ((trefoillaw04_Own.f l0_0 l0_1).bind fun bt441 => ((dag_Before.f bt441.1 bt441.2 a1 a2).bind fun t447 => (some (t447 == x7_17)))) else (some false)))))) else (some false)))))) else (some false)) = some r := H
                  have A45 := Aside0.mk A450
                  clear A450
                  by_cases c46 : t413 = t414
                  · rw [if_pos c46] at H
                    have c46b0 : (t413 == t414) = true := beq_iff_eq.mpr c46
                    have c46b1 : (t413 != t414) = false := bne_eq_false_iff_eq.mpr c46
                    clear c46
                    replace H := Option.bind_eq_some_iff.mp H
                    obtain ⟨⟨t415, t418⟩, A470, H⟩ := H
                    replace H : ((dag_Preds.f t415 t418 a1).bind fun t421 => ((trefoilref04_Preds.f kj17 l0_0 l0_1 a1).bind fun t424 => ((trefoilref02_Ints.f kj17 t421 t424).bind fun t427 => (if t427 = true then ((trefoillaw04_Own.f l0_0 l0_1).bind fun bt428 => ((dag_Succs.f bt428.1 bt428.2 a1).bind fun t434 => ((trefoilref04_Succs.f kj17 l0_0 l0_1 a1).bind fun t437 => ((trefoilref02_Ints.f kj17 t434 t437).bind fun t440 => (if t440 = true then ((trefoillaw04_Own.f l0_0 l0_1).bind fun bt441 => ((dag_Before.f bt441.1 bt441.2 a1 a2).bind fun t447 => (some (t447 == x7_17)))) else (some false)))))) else (some false))))) = some r := H
                    have A47 := Aside0.mk A470
                    clear A470
                    replace H := Option.bind_eq_some_iff.mp H
                    obtain ⟨t421, A480, H⟩ := H
                    replace H : ((trefoilref04_Preds.f kj17 l0_0 l0_1 a1).bind fun t424 => ((trefoilref02_Ints.f kj17 t421 t424).bind fun t427 => (if t427 = true then ((trefoillaw04_Own.f l0_0 l0_1).bind fun bt428 => ((dag_Succs.f bt428.1 bt428.2 a1).bind fun t434 => ((trefoilref04_Succs.f kj17 l0_0 l0_1 a1).bind fun t437 => ((trefoilref02_Ints.f kj17 t434 t437).bind fun t440 => (if t440 = true then ((trefoillaw04_Own.f l0_0 l0_1).bind fun bt441 => ((dag_Before.f bt441.1 bt441.2 a1 a2).bind fun t447 => (some (t447 == x7_17)))) else (some false)))))) else (some false)))) = some r := H
                    have A48 := Aside0.mk A480
                    clear A480
                    replace H := Option.bind_eq_some_iff.mp H
                    obtain ⟨t424, A490, H⟩ := H
                    replace H : ((trefoilref02_Ints.f kj17 t421 t424).bind fun t427 => (if t427 = true then ((trefoillaw04_Own.f l0_0 l0_1).bind fun bt428 => ((dag_Succs.f bt428.1 bt428.2 a1).bind fun t434 => ((trefoilref04_Succs.f kj17 l0_0 l0_1 a1).bind fun t437 => ((trefoilref02_Ints.f kj17 t434 t437).bind fun t440 => (if t440 = true then ((trefoillaw04_Own.f l0_0 l0_1).bind fun bt441 => ((dag_Before.f bt441.1 bt441.2 a1 a2).bind fun t447 => (some (t447 == x7_17)))) else (some false)))))) else (some false))) = some r := H
                    have A49 := Aside0.mk A490
                    clear A490
                    replace H := Option.bind_eq_some_iff.mp H
                    obtain ⟨t427, A500, H⟩ := H
                    replace H : (if t427 = true then ((trefoillaw04_Own.f l0_0 l0_1).bind fun bt428 => ((dag_Succs.f bt428.1 bt428.2 a1).bind fun t434 => ((trefoilref04_Succs.f kj17 l0_0 l0_1 a1).bind fun t437 => ((trefoilref02_Ints.f kj17 t434 t437).bind fun t440 => (if t440 = true then ((trefoillaw04_Own.f l0_0 l0_1).bind fun bt441 => ((dag_Before.f bt441.1 bt441.2 a1 a2).bind fun t447 => (some (t447 == x7_17)))) else (some false)))))) else (some false)) = some r := H
                    have A50 := Aside0.mk A500
                    clear A500
                    by_cases c51 : t427 = true
                    · subst c51
                      have H1 : ((trefoillaw04_Own.f l0_0 l0_1).bind fun bt428 => ((dag_Succs.f bt428.1 bt428.2 a1).bind fun t434 => ((trefoilref04_Succs.f kj17 l0_0 l0_1 a1).bind fun t437 => ((trefoilref02_Ints.f kj17 t434 t437).bind fun t440 => (if t440 = true then ((trefoillaw04_Own.f l0_0 l0_1).bind fun bt441 => ((dag_Before.f bt441.1 bt441.2 a1 a2).bind fun t447 => (some (t447 == x7_17)))) else (some false)))))) = some r := by rw [if_pos rfl] at H; exact H
                      clear H
                      have H := H1
                      clear H1
                      replace H := Option.bind_eq_some_iff.mp H
                      obtain ⟨⟨t428, t431⟩, A520, H⟩ := H
                      replace H : ((dag_Succs.f t428 t431 a1).bind fun t434 => ((trefoilref04_Succs.f kj17 l0_0 l0_1 a1).bind fun t437 => ((trefoilref02_Ints.f kj17 t434 t437).bind fun t440 => (if t440 = true then ((trefoillaw04_Own.f l0_0 l0_1).bind fun bt441 => ((dag_Before.f bt441.1 bt441.2 a1 a2).bind fun t447 => (some (t447 == x7_17)))) else (some false))))) = some r := H
                      have A52 := Aside0.mk A520
                      clear A520
                      replace H := Option.bind_eq_some_iff.mp H
                      obtain ⟨t434, A530, H⟩ := H
                      replace H : ((trefoilref04_Succs.f kj17 l0_0 l0_1 a1).bind fun t437 => ((trefoilref02_Ints.f kj17 t434 t437).bind fun t440 => (if t440 = true then ((trefoillaw04_Own.f l0_0 l0_1).bind fun bt441 => ((dag_Before.f bt441.1 bt441.2 a1 a2).bind fun t447 => (some (t447 == x7_17)))) else (some false)))) = some r := H
                      have A53 := Aside0.mk A530
                      clear A530
                      replace H := Option.bind_eq_some_iff.mp H
                      obtain ⟨t437, A540, H⟩ := H
                      replace H : ((trefoilref02_Ints.f kj17 t434 t437).bind fun t440 => (if t440 = true then ((trefoillaw04_Own.f l0_0 l0_1).bind fun bt441 => ((dag_Before.f bt441.1 bt441.2 a1 a2).bind fun t447 => (some (t447 == x7_17)))) else (some false))) = some r := H
                      have A54 := Aside0.mk A540
                      clear A540
                      replace H := Option.bind_eq_some_iff.mp H
                      obtain ⟨t440, A550, H⟩ := H
                      replace H : (if t440 = true then ((trefoillaw04_Own.f l0_0 l0_1).bind fun bt441 => ((dag_Before.f bt441.1 bt441.2 a1 a2).bind fun t447 => (some (t447 == x7_17)))) else (some false)) = some r := H
                      have A55 := Aside0.mk A550
                      clear A550
                      by_cases c56 : t440 = true
                      · subst c56
                        have H1 : ((trefoillaw04_Own.f l0_0 l0_1).bind fun bt441 => ((dag_Before.f bt441.1 bt441.2 a1 a2).bind fun t447 => (some (t447 == x7_17)))) = some r := by rw [if_pos rfl] at H; exact H
                        clear H
                        have H := H1
                        clear H1
                        replace H := Option.bind_eq_some_iff.mp H
                        obtain ⟨⟨t441, t444⟩, A570, H⟩ := H
                        replace H : ((dag_Before.f t441 t444 a1 a2).bind fun t447 => (some (t447 == x7_17))) = some r := H
                        have A57 := Aside0.mk A570
                        clear A570
                        replace H := Option.bind_eq_some_iff.mp H
                        obtain ⟨t447, A580, H⟩ := H
                        replace H : (some (t447 == x7_17)) = some r := H
                        have A58 := Aside0.mk A580
                        clear A580
                        obtain rfl := Option.some.inj H
                        try go_wp2
                        have n0_ := Aside0.mk (blk_drew BK329.out)
                        have n1_ := Aside0.mk (below_drew1 HB.out)
                        clear BK329
                        clear HB
                        have BK329 := n0_
                        have HB := n1_
                        clear n0_ n1_
                        refine start_ (n := 52) (S := fun w' => w'.cell? ⟨gb329, 0, none⟩ = some (.slice A0_0 l0_0.length c0_0) ∧ w'.cell? ⟨gb329, 1, none⟩ = some (.slice A0_1 l0_1.length c0_1)) (ds := []) #[false, false, false, false, false, false, false, false, false, false, false, false, false, false, false, false, false, false, false, false, false, false, false, false, false, false, false, false, false, false, false, false, false, false, false, false, false, false, false, false, false, false, false, false, false, false, false, false, false, false, false, false] (by kernel_rfl) rfl rfl ⟨(blk_cell BK329.out 0).trans rfl, (blk_cell BK329.out 1).trans rfl⟩ (fun hHeld => ?_); refine with_tabW trefoillaw04_DagTells.tab6 trefoillaw04_DagTells.bits6 (fun HT_ HW_ => ?_)
                        generalize wc.drew = w59 at BK329 HB hHeld ⊢
                        refine take_ (i := 0) (N := some 88) (v := ?_) (a' := ?_) #[true, false, false, false, false, false, false, false, false, false, false, false, false, false, false, false, false, false, false, false, false, false, false, false, false, false, false, false, false, false, false, false, false, false, false, false, false, false, false, false, false, false, false, false, false, false, false, false, false, false, false, false] rfl rfl (take_ofW HT_.out HW_.out (by kernel_rfl)) (fun _ _ _ h => h) (Or.inl ⟨by rfl, ?_⟩) hHeld ?_ ?_
                        rotate_left
                        · rintro w' ⟨s0, s1⟩
                          go_simp
                          with_reducible rfl
                        rotate_left
                        · simp only [Act.put, List.setIfInBounds_toArray, List.set_cons_zero, List.set_cons_succ, i64_w, i32_w]
                          rfl
                        refine take_ (i := 3) (N := some 91) (v := ?_) (a' := ?_) #[true, false, false, true, false, false, false, false, false, false, false, false, false, false, false, false, false, false, false, false, false, false, false, false, false, false, false, false, false, false, false, false, false, false, false, false, false, false, false, false, false, false, false, false, false, false, false, false, false, false, false, false] rfl rfl (take_ofW HT_.out HW_.out (by kernel_rfl)) (fun _ _ _ h => h) (Or.inl ⟨by rfl, ?_⟩) hHeld ?_ ?_
                        rotate_left
                        · rintro w' ⟨s0, s1⟩
                          go_simp
                          with_reducible rfl
                        rotate_left
                        · simp only [Act.put, List.setIfInBounds_toArray, List.set_cons_zero, List.set_cons_succ, i64_w, i32_w]
                          rfl
                        refine one_ (i := 1) (N := some 89) #[true, true, false, true, false, false, false, false, false, false, false, false, false, false, false, false, false, false, false, false, false, false, false, false, false, false, false, false, false, false, false, false, false, false, false, false, false, false, false, false, false, false, false, false, false, false, false, false, false, false, false, false] rfl rfl (one_of HT_.out (by kernel_rfl)) (by decide) (fun K hK => ?_)
                        refine goes_ Try.func13 (by kernel_rfl) rfl #[.agg #[.slice A0_0 l0_0.length c0_0, .slice A0_1 l0_1.length c0_1]] (by rfl) rfl rfl (by (try simp only [List.map_toArray, List.map_cons, List.map_nil]); first | done | rfl | (simp only [List.length_drop, List.length_take]; rfl)) ?_
                        with_reducible refine (trefoillaw04_Own.calls _ _ l0_0 _ _ l0_1 t386 t389 _ ?side1 ?side2 ?side3 ?side4 A34.out).mono ?_
                        (case side1 => repeat (first | exact (Kd.C_below HR0_0.out HB.out) | (with_reducible refine Kd.C_alloc ?_ _) | (with_reducible refine Kd.C_drewN ?_ _) | (with_reducible refine Kd.C_drew ?_)))
                        (case side2 => exact HC0_0.out)
                        (case side3 => repeat (first | exact (Kd.C_below HR0_1.out HB.out) | (with_reducible refine Kd.C_alloc ?_ _) | (with_reducible refine Kd.C_drewN ?_ _) | (with_reducible refine Kd.C_drew ?_)))
                        (case side4 => exact HC0_1.out)
                        rintro e w60 ⟨v387, v390, rfl, ho0, ho1, hb⟩
                        refine ⟨_, rfl, ?_⟩
                        have n0_ := Aside0.mk (Kd.R_lower ho0 (below_size (by repeat (first | (with_reducible first | exact HB.out | apply below_alloc | apply pw_below_drewN | apply below_drew1 | refine below_set ?_ GE329.out) | exact HB.out))))
                        have n1_ := Aside0.mk (Kd.R_lower ho1 (below_size (by repeat (first | (with_reducible first | exact HB.out | apply below_alloc | apply pw_below_drewN | apply below_drew1 | refine below_set ?_ GE329.out) | exact HB.out))))
                        have n2_ := Aside0.mk (blk_below (g := gb329) (o := .cells #[.slice A0_0 l0_0.length c0_0, .slice A0_1 l0_1.length c0_1] 25 (0, 0)) (by (with_reducible repeat (first | refine blk_drewN ?_ _ | refine blk_drew ?_ | refine blk_alloc ?_ _)); exact BK329.out) hb)
                        have n3_ := Aside0.mk (below_step (by repeat (first | (with_reducible first | exact HB.out | apply below_alloc | apply pw_below_drewN | apply below_drew1 | refine below_set ?_ GE329.out) | exact HB.out)) hb)
                        clear BK329
                        clear HB
                        have HO388 := n0_
                        have HO391 := n1_
                        have BK329 := n2_
                        have HB := n3_
                        clear n0_ n1_ n2_ n3_
                        (try clear hb)
                        (try clear hb2)
                        (try clear hk)
                        (try clear hi)
                        (try clear ho0)
                        (try clear ho1)
                        obtain ⟨Ao61, co61, eo61⟩ := Kd.R_slice HO388.out
                        (first | subst eo61 | (injection eo61 with f1_ f2_ f3_; have f4_ := f1_.symm; have f5_ := f3_.symm; clear f1_ f2_ f3_; subst f4_; subst f5_))
                        obtain ⟨Ao62, co62, eo62⟩ := Kd.R_slice HO391.out
                        (first | subst eo62 | (injection eo62 with f1_ f2_ f3_; have f4_ := f1_.symm; have f5_ := f3_.symm; clear f1_ f2_ f3_; subst f4_; subst f5_))
                        refine hK.out _ _ ⟨(blk_cell BK329.out 0).trans rfl, (blk_cell BK329.out 1).trans rfl⟩ (fun hHeld => ?_)
                        clear hK K
                        refine norm_ (a' := ?_) ?_ ?_
                        rotate_left
                        · show Act.put _ (some 89) _ = _
                          simp only [Act.put, List.setIfInBounds_toArray, List.set_cons_zero, List.set_cons_succ, i64_w, i32_w]
                          rfl
                        refine one_ (i := 2) (N := some 90) #[true, true, true, true, false, false, false, false, false, false, false, false, false, false, false, false, false, false, false, false, false, false, false, false, false, false, false, false, false, false, false, false, false, false, false, false, false, false, false, false, false, false, false, false, false, false, false, false, false, false, false, false] rfl rfl (one_of HT_.out (by kernel_rfl)) (by decide) (fun K hK => ?_)
                        refine goes_ Try.func17 (by kernel_rfl) rfl #[.agg #[.slice Ao61 t386.length co61, .slice Ao62 t389.length co62]] (by rfl) rfl rfl (by (try simp only [List.map_toArray, List.map_cons, List.map_nil]); first | done | rfl | (simp only [List.length_drop, List.length_take]; rfl)) ?_
                        with_reducible refine (dag_Order.calls _ _ t386 _ _ t389 t392 _ ?side1 ?side2 ?side3 ?side4 A35.out).mono ?_
                        (case side1 => repeat (first | exact (Kd.R_reads' HO388.out).2.2 | (with_reducible refine Kd.C_alloc ?_ _) | (with_reducible refine Kd.C_drewN ?_ _) | (with_reducible refine Kd.C_drew ?_)))
                        (case side2 => exact (Kd.R_reads' HO388.out).2.1)
                        (case side3 => repeat (first | exact (Kd.R_reads' HO391.out).2.2 | (with_reducible refine Kd.C_alloc ?_ _) | (with_reducible refine Kd.C_drewN ?_ _) | (with_reducible refine Kd.C_drew ?_)))
                        (case side4 => exact (Kd.R_reads' HO391.out).2.1)
                        rintro e w63 ⟨v393, rfl, ho0, hb⟩
                        refine ⟨_, rfl, ?_⟩
                        have n0_ := Aside0.mk (Kd.R_elder' (by (with_reducible repeat (first | apply Kd.R_alloc | apply Kd.R_drewN | apply Kd.R_drew)); exact HO388.out) (Kd.R_base ho0) hb)
                        have n1_ := Aside0.mk (Kd.R_below (by (with_reducible repeat (first | apply Kd.R_alloc | apply Kd.R_drewN | apply Kd.R_drew)); exact HO391.out) hb)
                        have n2_ := Aside0.mk (Kd.R_lower (Kd.R_new' ho0 (Kd.R_lt (by (with_reducible repeat (first | apply Kd.R_alloc | apply Kd.R_drewN | apply Kd.R_drew)); exact HO388.out))) (below_size (by repeat (first | (with_reducible first | exact HB.out | apply below_alloc | apply pw_below_drewN | apply below_drew1 | refine below_set ?_ GE329.out) | exact HB.out))))
                        have n3_ := Aside0.mk (blk_below (g := gb329) (o := .cells #[.slice A0_0 l0_0.length c0_0, .slice A0_1 l0_1.length c0_1] 25 (0, 0)) (by (with_reducible repeat (first | refine blk_drewN ?_ _ | refine blk_drew ?_ | refine blk_alloc ?_ _)); exact BK329.out) hb)
                        have n4_ := Aside0.mk (below_step (by repeat (first | (with_reducible first | exact HB.out | apply below_alloc | apply pw_below_drewN | apply below_drew1 | refine below_set ?_ GE329.out) | exact HB.out)) hb)
                        clear HO388
                        clear HO391
                        clear BK329
                        clear HB
                        have HO388 := n0_
                        have HO391 := n1_
                        have HO394 := n2_
                        have BK329 := n3_
                        have HB := n4_
                        clear n0_ n1_ n2_ n3_ n4_
                        (try clear hb)
                        (try clear hb2)
                        (try clear hk)
                        (try clear hi)
                        (try clear ho0)
                        refine hK.out _ _ ⟨(blk_cell BK329.out 0).trans rfl, (blk_cell BK329.out 1).trans rfl⟩ (fun hHeld => ?_)
                        clear hK K
                        refine norm_ (a' := ?_) ?_ ?_
                        rotate_left
                        · show Act.put _ (some 90) _ = _
                          simp only [Act.put, List.setIfInBounds_toArray, List.set_cons_zero, List.set_cons_succ, i64_w, i32_w]
                          rfl
                        refine one_ (i := 4) (N := some 92) #[true, true, true, true, true, false, false, false, false, false, false, false, false, false, false, false, false, false, false, false, false, false, false, false, false, false, false, false, false, false, false, false, false, false, false, false, false, false, false, false, false, false, false, false, false, false, false, false, false, false, false, false] rfl rfl (one_of HT_.out (by kernel_rfl)) (by decide) (fun K hK => ?_)
                        refine goes_ Try.func25 (by kernel_rfl) rfl #[.agg #[.slice A0_0 l0_0.length c0_0, .slice A0_1 l0_1.length c0_1]] (by rfl) rfl rfl (by (try simp only [List.map_toArray, List.map_cons, List.map_nil]); first | done | rfl | (simp only [List.length_drop, List.length_take]; rfl)) ?_
                        with_reducible refine (trefoilref04_Order.calls kj17 _ _ l0_0 _ _ l0_1 t395 _ ?side1 ?side2 ?side3 ?side4 A36.out).mono ?_
                        (case side1 => repeat (first | exact (Kd.C_below HR0_0.out HB.out) | (with_reducible refine Kd.C_alloc ?_ _) | (with_reducible refine Kd.C_drewN ?_ _) | (with_reducible refine Kd.C_drew ?_)))
                        (case side2 => exact HC0_0.out)
                        (case side3 => repeat (first | exact (Kd.C_below HR0_1.out HB.out) | (with_reducible refine Kd.C_alloc ?_ _) | (with_reducible refine Kd.C_drewN ?_ _) | (with_reducible refine Kd.C_drew ?_)))
                        (case side4 => exact HC0_1.out)
                        rintro e w64 ⟨v396, rfl, ho0, hb⟩
                        refine ⟨_, rfl, ?_⟩
                        have n0_ := Aside0.mk (Kd.R_elder' (by (with_reducible repeat (first | apply Kd.R_alloc | apply Kd.R_drewN | apply Kd.R_drew)); exact HO388.out) (Kd.R_base ho0) hb)
                        have n1_ := Aside0.mk (Kd.R_below (by (with_reducible repeat (first | apply Kd.R_alloc | apply Kd.R_drewN | apply Kd.R_drew)); exact HO391.out) hb)
                        have n2_ := Aside0.mk (Kd.R_elder' (by (with_reducible repeat (first | apply Kd.R_alloc | apply Kd.R_drewN | apply Kd.R_drew)); exact HO394.out) (Kd.R_base ho0) hb)
                        have n3_ := Aside0.mk (Kd.R_lower (Kd.R_new' (Kd.R_new' ho0 (Kd.R_lt (by (with_reducible repeat (first | apply Kd.R_alloc | apply Kd.R_drewN | apply Kd.R_drew)); exact HO388.out))) (Kd.R_lt (by (with_reducible repeat (first | apply Kd.R_alloc | apply Kd.R_drewN | apply Kd.R_drew)); exact HO394.out))) (below_size (by repeat (first | (with_reducible first | exact HB.out | apply below_alloc | apply pw_below_drewN | apply below_drew1 | refine below_set ?_ GE329.out) | exact HB.out))))
                        have n4_ := Aside0.mk (blk_below (g := gb329) (o := .cells #[.slice A0_0 l0_0.length c0_0, .slice A0_1 l0_1.length c0_1] 25 (0, 0)) (by (with_reducible repeat (first | refine blk_drewN ?_ _ | refine blk_drew ?_ | refine blk_alloc ?_ _)); exact BK329.out) hb)
                        have n5_ := Aside0.mk (below_step (by repeat (first | (with_reducible first | exact HB.out | apply below_alloc | apply pw_below_drewN | apply below_drew1 | refine below_set ?_ GE329.out) | exact HB.out)) hb)
                        clear HO388
                        clear HO391
                        clear HO394
                        clear BK329
                        clear HB
                        have HO388 := n0_
                        have HO391 := n1_
                        have HO394 := n2_
                        have HO397 := n3_
                        have BK329 := n4_
                        have HB := n5_
                        clear n0_ n1_ n2_ n3_ n4_ n5_
                        (try clear hb)
                        (try clear hb2)
                        (try clear hk)
                        (try clear hi)
                        (try clear ho0)
                        obtain ⟨Ao65, co65, eo65⟩ := Kd.R_slice HO394.out
                        (first | subst eo65 | (injection eo65 with f1_ f2_ f3_; have f4_ := f1_.symm; have f5_ := f3_.symm; clear f1_ f2_ f3_; subst f4_; subst f5_))
                        obtain ⟨Ao66, co66, eo66⟩ := Kd.R_slice HO397.out
                        (first | subst eo66 | (injection eo66 with f1_ f2_ f3_; have f4_ := f1_.symm; have f5_ := f3_.symm; clear f1_ f2_ f3_; subst f4_; subst f5_))
                        refine hK.out _ _ ⟨(blk_cell BK329.out 0).trans rfl, (blk_cell BK329.out 1).trans rfl⟩ (fun hHeld => ?_)
                        clear hK K
                        refine norm_ (a' := ?_) ?_ ?_
                        rotate_left
                        · show Act.put _ (some 92) _ = _
                          simp only [Act.put, List.setIfInBounds_toArray, List.set_cons_zero, List.set_cons_succ, i64_w, i32_w]
                          rfl
                        refine one_ (i := 5) (N := some 93) #[true, true, true, true, true, true, false, false, false, false, false, false, false, false, false, false, false, false, false, false, false, false, false, false, false, false, false, false, false, false, false, false, false, false, false, false, false, false, false, false, false, false, false, false, false, false, false, false, false, false, false, false] rfl rfl (one_of HT_.out (by kernel_rfl)) (by decide) (fun K hK => ?_)
                        refine goes_ Try.func24 (by kernel_rfl) rfl #[.slice Ao65 t392.length co65, .slice Ao66 t395.length co66] (by rfl) rfl rfl (by (try simp only [List.map_toArray, List.map_cons, List.map_nil]); first | done | rfl | (simp only [List.length_drop, List.length_take]; rfl)) ?_
                        with_reducible refine (trefoilref02_Ints.calls kj17 _ _ t392 _ _ t395 true _ ?side1 ?side2 ?side3 ?side4 A37.out).mono ?_
                        (case side1 => repeat (first | exact (Kd.R_reads' HO394.out).2.2 | (with_reducible refine Kd.C_alloc ?_ _) | (with_reducible refine Kd.C_drewN ?_ _) | (with_reducible refine Kd.C_drew ?_)))
                        (case side2 => exact (Kd.R_reads' HO394.out).2.1)
                        (case side3 => repeat (first | exact (Kd.R_reads' HO397.out).2.2 | (with_reducible refine Kd.C_alloc ?_ _) | (with_reducible refine Kd.C_drewN ?_ _) | (with_reducible refine Kd.C_drew ?_)))
                        (case side4 => exact (Kd.R_reads' HO397.out).2.1)
                        rintro e w' ⟨rfl, ⟨nd, rfl⟩⟩
                        refine ⟨_, rfl, ?_⟩
                        refine hK.out _ _ ⟨(blk_cell BK329.out 0).trans rfl, (blk_cell BK329.out 1).trans rfl⟩ (fun hHeld => ?_)
                        clear hK K
                        refine norm_ (a' := ?_) ?_ ?_
                        rotate_left
                        · show Act.put _ (some 93) _ = _
                          simp only [Act.put, List.setIfInBounds_toArray, List.set_cons_zero, List.set_cons_succ, i64_w, i32_w]
                          rfl
                        refine pure_ (i := 6) (N := some 94) (v := ?_) (a' := ?_) #[true, true, true, true, true, true, true, false, false, false, false, false, false, false, false, false, false, false, false, false, false, false, false, false, false, false, false, false, false, false, false, false, false, false, false, false, false, false, false, false, false, false, false, false, false, false, false, false, false, false, false, false] rfl rfl (any_of HT_.out (by kernel_rfl)) (fun _ _ _ h => h) (Or.inl ⟨by rfl, ?_⟩) ?_ ?_
                        rotate_left
                        · intro w'
                          go_simp
                          with_reducible rfl
                        rotate_left
                        · simp only [Act.put, List.setIfInBounds_toArray, List.set_cons_zero, List.set_cons_succ, i64_w, i32_w]
                          rfl
                        refine take_ (i := 7) (N := some 95) (v := ?_) (a' := ?_) #[true, true, true, true, true, true, true, true, false, false, false, false, false, false, false, false, false, false, false, false, false, false, false, false, false, false, false, false, false, false, false, false, false, false, false, false, false, false, false, false, false, false, false, false, false, false, false, false, false, false, false, false] rfl rfl (take_ofW HT_.out HW_.out (by kernel_rfl)) (fun _ _ _ h => h) (Or.inl ⟨by rfl, ?_⟩) hHeld ?_ ?_
                        rotate_left
                        · rintro w' ⟨s0, s1⟩
                          go_simp
                          with_reducible rfl
                        rotate_left
                        · simp only [Act.put, List.setIfInBounds_toArray, List.set_cons_zero, List.set_cons_succ, i64_w, i32_w]
                          rfl
                        refine take_ (i := 10) (N := some 98) (v := ?_) (a' := ?_) #[true, true, true, true, true, true, true, true, false, false, true, false, false, false, false, false, false, false, false, false, false, false, false, false, false, false, false, false, false, false, false, false, false, false, false, false, false, false, false, false, false, false, false, false, false, false, false, false, false, false, false, false] rfl rfl (take_ofW HT_.out HW_.out (by kernel_rfl)) (fun _ _ _ h => h) (Or.inl ⟨by rfl, ?_⟩) hHeld ?_ ?_
                        rotate_left
                        · rintro w' ⟨s0, s1⟩
                          go_simp
                          with_reducible rfl
                        rotate_left
                        · simp only [Act.put, List.setIfInBounds_toArray, List.set_cons_zero, List.set_cons_succ, i64_w, i32_w]
                          rfl
                        refine one_ (i := 8) (N := some 96) #[true, true, true, true, true, true, true, true, true, false, true, false, false, false, false, false, false, false, false, false, false, false, false, false, false, false, false, false, false, false, false, false, false, false, false, false, false, false, false, false, false, false, false, false, false, false, false, false, false, false, false, false] rfl rfl (one_of HT_.out (by kernel_rfl)) (by decide) (fun K hK => ?_)
                        refine goes_ Try.func13 (by kernel_rfl) rfl #[.agg #[.slice A0_0 l0_0.length c0_0, .slice A0_1 l0_1.length c0_1]] (by rfl) rfl rfl (by (try simp only [List.map_toArray, List.map_cons, List.map_nil]); first | done | rfl | (simp only [List.length_drop, List.length_take]; rfl)) ?_
                        with_reducible refine (trefoillaw04_Own.calls _ _ l0_0 _ _ l0_1 t399 t402 _ ?side1 ?side2 ?side3 ?side4 A39.out).mono ?_
                        (case side1 => repeat (first | exact (Kd.C_below HR0_0.out (by repeat (first | (with_reducible first | exact HB.out | apply below_alloc | apply pw_below_drewN | apply below_drew1 | refine below_set ?_ GE329.out) | exact HB.out))) | (with_reducible refine Kd.C_alloc ?_ _) | (with_reducible refine Kd.C_drewN ?_ _) | (with_reducible refine Kd.C_drew ?_)))
                        (case side2 => exact HC0_0.out)
                        (case side3 => repeat (first | exact (Kd.C_below HR0_1.out (by repeat (first | (with_reducible first | exact HB.out | apply below_alloc | apply pw_below_drewN | apply below_drew1 | refine below_set ?_ GE329.out) | exact HB.out))) | (with_reducible refine Kd.C_alloc ?_ _) | (with_reducible refine Kd.C_drewN ?_ _) | (with_reducible refine Kd.C_drew ?_)))
                        (case side4 => exact HC0_1.out)
                        rintro e w67 ⟨v400, v403, rfl, ho0, ho1, hb⟩
                        refine ⟨_, rfl, ?_⟩
                        have n0_ := Aside0.mk (Kd.R_elder' (by (with_reducible repeat (first | apply Kd.R_alloc | apply Kd.R_drewN | apply Kd.R_drew)); exact HO388.out) (Kd.R_base ho0) hb)
                        have n1_ := Aside0.mk (Kd.R_elder' (by (with_reducible repeat (first | apply Kd.R_alloc | apply Kd.R_drewN | apply Kd.R_drew)); exact HO391.out) (Kd.R_base ho1) hb)
                        have n2_ := Aside0.mk (Kd.R_elder' (by (with_reducible repeat (first | apply Kd.R_alloc | apply Kd.R_drewN | apply Kd.R_drew)); exact HO394.out) (Kd.R_base ho0) hb)
                        have n3_ := Aside0.mk (Kd.R_elder' (by (with_reducible repeat (first | apply Kd.R_alloc | apply Kd.R_drewN | apply Kd.R_drew)); exact HO397.out) (Kd.R_base ho0) hb)
                        have n4_ := Aside0.mk (Kd.R_lower (Kd.R_new' (Kd.R_new' (Kd.R_new' ho0 (Kd.R_lt (by (with_reducible repeat (first | apply Kd.R_alloc | apply Kd.R_drewN | apply Kd.R_drew)); exact HO388.out))) (Kd.R_lt (by (with_reducible repeat (first | apply Kd.R_alloc | apply Kd.R_drewN | apply Kd.R_drew)); exact HO394.out))) (Kd.R_lt (by (with_reducible repeat (first | apply Kd.R_alloc | apply Kd.R_drewN | apply Kd.R_drew)); exact HO397.out))) (below_size (by repeat (first | (with_reducible first | exact HB.out | apply below_alloc | apply pw_below_drewN | apply below_drew1 | refine below_set ?_ GE329.out) | exact HB.out))))
                        have n5_ := Aside0.mk (Kd.R_lower (Kd.R_new' ho1 (Kd.R_lt (by (with_reducible repeat (first | apply Kd.R_alloc | apply Kd.R_drewN | apply Kd.R_drew)); exact HO391.out))) (below_size (by repeat (first | (with_reducible first | exact HB.out | apply below_alloc | apply pw_below_drewN | apply below_drew1 | refine below_set ?_ GE329.out) | exact HB.out))))
                        have n6_ := Aside0.mk (blk_below (g := gb329) (o := .cells #[.slice A0_0 l0_0.length c0_0, .slice A0_1 l0_1.length c0_1] 25 (0, 0)) (by (with_reducible repeat (first | refine blk_drewN ?_ _ | refine blk_drew ?_ | refine blk_alloc ?_ _)); exact BK329.out) hb)
                        have n7_ := Aside0.mk (below_step (by repeat (first | (with_reducible first | exact HB.out | apply below_alloc | apply pw_below_drewN | apply below_drew1 | refine below_set ?_ GE329.out) | exact HB.out)) hb)
                        clear HO388
                        clear HO391
                        clear HO394
                        clear HO397
                        clear BK329
                        clear HB
                        have HO388 := n0_
                        have HO391 := n1_
                        have HO394 := n2_
                        have HO397 := n3_
                        have HO401 := n4_
                        have HO404 := n5_
                        have BK329 := n6_
                        have HB := n7_
                        clear n0_ n1_ n2_ n3_ n4_ n5_ n6_ n7_
                        (try clear hb)
                        (try clear hb2)
                        (try clear hk)
                        (try clear hi)
                        (try clear ho0)
                        (try clear ho1)
                        obtain ⟨Ao68, co68, eo68⟩ := Kd.R_slice HO401.out
                        (first | subst eo68 | (injection eo68 with f1_ f2_ f3_; have f4_ := f1_.symm; have f5_ := f3_.symm; clear f1_ f2_ f3_; subst f4_; subst f5_))
                        obtain ⟨Ao69, co69, eo69⟩ := Kd.R_slice HO404.out
                        (first | subst eo69 | (injection eo69 with f1_ f2_ f3_; have f4_ := f1_.symm; have f5_ := f3_.symm; clear f1_ f2_ f3_; subst f4_; subst f5_))
                        refine hK.out _ _ ⟨(blk_cell BK329.out 0).trans rfl, (blk_cell BK329.out 1).trans rfl⟩ (fun hHeld => ?_)
                        clear hK K
                        refine norm_ (a' := ?_) ?_ ?_
                        rotate_left
                        · show Act.put _ (some 96) _ = _
                          simp only [Act.put, List.setIfInBounds_toArray, List.set_cons_zero, List.set_cons_succ, i64_w, i32_w]
                          rfl
                        refine one_ (i := 9) (N := some 97) #[true, true, true, true, true, true, true, true, true, true, true, false, false, false, false, false, false, false, false, false, false, false, false, false, false, false, false, false, false, false, false, false, false, false, false, false, false, false, false, false, false, false, false, false, false, false, false, false, false, false, false, false] rfl rfl (one_of HT_.out (by kernel_rfl)) (by decide) (fun K hK => ?_)
                        refine goes_ Try.func18 (by kernel_rfl) rfl #[.agg #[.slice Ao68 t399.length co68, .slice Ao69 t402.length co69]] (by rfl) rfl rfl (by (try simp only [List.map_toArray, List.map_cons, List.map_nil]); first | done | rfl | (simp only [List.length_drop, List.length_take]; rfl)) ?_
                        with_reducible refine (dag_Total.calls _ _ t399 _ _ t402 t405 _ ?side1 ?side2 ?side3 ?side4 A40.out).mono ?_
                        (case side1 => repeat (first | exact (Kd.R_reads' HO401.out).2.2 | (with_reducible refine Kd.C_alloc ?_ _) | (with_reducible refine Kd.C_drewN ?_ _) | (with_reducible refine Kd.C_drew ?_)))
                        (case side2 => exact (Kd.R_reads' HO401.out).2.1)
                        (case side3 => repeat (first | exact (Kd.R_reads' HO404.out).2.2 | (with_reducible refine Kd.C_alloc ?_ _) | (with_reducible refine Kd.C_drewN ?_ _) | (with_reducible refine Kd.C_drew ?_)))
                        (case side4 => exact (Kd.R_reads' HO404.out).2.1)
                        rintro e w70 ⟨rfl, hb⟩
                        refine ⟨_, rfl, ?_⟩
                        have n0_ := Aside0.mk (Kd.R_below (by (with_reducible repeat (first | apply Kd.R_alloc | apply Kd.R_drewN | apply Kd.R_drew)); exact HO388.out) hb)
                        have n1_ := Aside0.mk (Kd.R_below (by (with_reducible repeat (first | apply Kd.R_alloc | apply Kd.R_drewN | apply Kd.R_drew)); exact HO391.out) hb)
                        have n2_ := Aside0.mk (Kd.R_below (by (with_reducible repeat (first | apply Kd.R_alloc | apply Kd.R_drewN | apply Kd.R_drew)); exact HO394.out) hb)
                        have n3_ := Aside0.mk (Kd.R_below (by (with_reducible repeat (first | apply Kd.R_alloc | apply Kd.R_drewN | apply Kd.R_drew)); exact HO397.out) hb)
                        have n4_ := Aside0.mk (Kd.R_below (by (with_reducible repeat (first | apply Kd.R_alloc | apply Kd.R_drewN | apply Kd.R_drew)); exact HO401.out) hb)
                        have n5_ := Aside0.mk (Kd.R_below (by (with_reducible repeat (first | apply Kd.R_alloc | apply Kd.R_drewN | apply Kd.R_drew)); exact HO404.out) hb)
                        have n6_ := Aside0.mk (blk_below (g := gb329) (o := .cells #[.slice A0_0 l0_0.length c0_0, .slice A0_1 l0_1.length c0_1] 25 (0, 0)) (by (with_reducible repeat (first | refine blk_drewN ?_ _ | refine blk_drew ?_ | refine blk_alloc ?_ _)); exact BK329.out) hb)
                        have n7_ := Aside0.mk (below_step (by repeat (first | (with_reducible first | exact HB.out | apply below_alloc | apply pw_below_drewN | apply below_drew1 | refine below_set ?_ GE329.out) | exact HB.out)) hb)
                        clear HO388
                        clear HO391
                        clear HO394
                        clear HO397
                        clear HO401
                        clear HO404
                        clear BK329
                        clear HB
                        have HO388 := n0_
                        have HO391 := n1_
                        have HO394 := n2_
                        have HO397 := n3_
                        have HO401 := n4_
                        have HO404 := n5_
                        have BK329 := n6_
                        have HB := n7_
                        clear n0_ n1_ n2_ n3_ n4_ n5_ n6_ n7_
                        (try clear hb)
                        (try clear hb2)
                        (try clear hk)
                        (try clear hi)
                        refine hK.out _ _ ⟨(blk_cell BK329.out 0).trans rfl, (blk_cell BK329.out 1).trans rfl⟩ (fun hHeld => ?_)
                        clear hK K
                        refine norm_ (a' := ?_) ?_ ?_
                        rotate_left
                        · show Act.put _ (some 97) _ = _
                          simp only [Act.put, List.setIfInBounds_toArray, List.set_cons_zero, List.set_cons_succ, i64_w, i32_w]
                          rfl
                        refine one_ (i := 11) (N := some 99) #[true, true, true, true, true, true, true, true, true, true, true, true, false, false, false, false, false, false, false, false, false, false, false, false, false, false, false, false, false, false, false, false, false, false, false, false, false, false, false, false, false, false, false, false, false, false, false, false, false, false, false, false] rfl rfl (one_of HT_.out (by kernel_rfl)) (by decide) (fun K hK => ?_)
                        refine goes_ Try.func26 (by kernel_rfl) rfl #[.agg #[.slice A0_0 l0_0.length c0_0, .slice A0_1 l0_1.length c0_1]] (by rfl) rfl rfl (by (try simp only [List.map_toArray, List.map_cons, List.map_nil]); first | done | rfl | (simp only [List.length_drop, List.length_take]; rfl)) ?_
                        with_reducible refine (trefoilref04_Total.calls kj17 _ _ l0_0 _ _ l0_1 t406 _ ?side1 ?side2 ?side3 ?side4 A41.out).mono ?_
                        (case side1 => repeat (first | exact (Kd.C_below HR0_0.out HB.out) | (with_reducible refine Kd.C_alloc ?_ _) | (with_reducible refine Kd.C_drewN ?_ _) | (with_reducible refine Kd.C_drew ?_)))
                        (case side2 => exact HC0_0.out)
                        (case side3 => repeat (first | exact (Kd.C_below HR0_1.out HB.out) | (with_reducible refine Kd.C_alloc ?_ _) | (with_reducible refine Kd.C_drewN ?_ _) | (with_reducible refine Kd.C_drew ?_)))
                        (case side4 => exact HC0_1.out)
                        rintro e w71 ⟨rfl, hb⟩
                        refine ⟨_, rfl, ?_⟩
                        have n0_ := Aside0.mk (Kd.R_below (by (with_reducible repeat (first | apply Kd.R_alloc | apply Kd.R_drewN | apply Kd.R_drew)); exact HO388.out) hb)
                        have n1_ := Aside0.mk (Kd.R_below (by (with_reducible repeat (first | apply Kd.R_alloc | apply Kd.R_drewN | apply Kd.R_drew)); exact HO391.out) hb)
                        have n2_ := Aside0.mk (Kd.R_below (by (with_reducible repeat (first | apply Kd.R_alloc | apply Kd.R_drewN | apply Kd.R_drew)); exact HO394.out) hb)
                        have n3_ := Aside0.mk (Kd.R_below (by (with_reducible repeat (first | apply Kd.R_alloc | apply Kd.R_drewN | apply Kd.R_drew)); exact HO397.out) hb)
                        have n4_ := Aside0.mk (Kd.R_below (by (with_reducible repeat (first | apply Kd.R_alloc | apply Kd.R_drewN | apply Kd.R_drew)); exact HO401.out) hb)
                        have n5_ := Aside0.mk (Kd.R_below (by (with_reducible repeat (first | apply Kd.R_alloc | apply Kd.R_drewN | apply Kd.R_drew)); exact HO404.out) hb)
                        have n6_ := Aside0.mk (blk_below (g := gb329) (o := .cells #[.slice A0_0 l0_0.length c0_0, .slice A0_1 l0_1.length c0_1] 25 (0, 0)) (by (with_reducible repeat (first | refine blk_drewN ?_ _ | refine blk_drew ?_ | refine blk_alloc ?_ _)); exact BK329.out) hb)
                        have n7_ := Aside0.mk (below_step (by repeat (first | (with_reducible first | exact HB.out | apply below_alloc | apply pw_below_drewN | apply below_drew1 | refine below_set ?_ GE329.out) | exact HB.out)) hb)
                        clear HO388
                        clear HO391
                        clear HO394
                        clear HO397
                        clear HO401
                        clear HO404
                        clear BK329
                        clear HB
                        have HO388 := n0_
                        have HO391 := n1_
                        have HO394 := n2_
                        have HO397 := n3_
                        have HO401 := n4_
                        have HO404 := n5_
                        have BK329 := n6_
                        have HB := n7_
                        clear n0_ n1_ n2_ n3_ n4_ n5_ n6_ n7_
                        (try clear hb)
                        (try clear hb2)
                        (try clear hk)
                        (try clear hi)
                        refine hK.out _ _ ⟨(blk_cell BK329.out 0).trans rfl, (blk_cell BK329.out 1).trans rfl⟩ (fun hHeld => ?_)
                        clear hK K
                        refine norm_ (a' := ?_) ?_ ?_
                        rotate_left
                        · show Act.put _ (some 99) _ = _
                          simp only [Act.put, List.setIfInBounds_toArray, List.set_cons_zero, List.set_cons_succ, i64_w, i32_w]
                          rfl
                        refine pure_ (i := 12) (N := some 100) (v := ?_) (a' := ?_) #[true, true, true, true, true, true, true, true, true, true, true, true, true, false, false, false, false, false, false, false, false, false, false, false, false, false, false, false, false, false, false, false, false, false, false, false, false, false, false, false, false, false, false, false, false, false, false, false, false, false, false, false] rfl rfl (any_of HT_.out (by kernel_rfl)) (fun _ _ _ h => h) (Or.inl ⟨by rfl, ?_⟩) ?_ ?_
                        rotate_left
                        · intro w'
                          go_simp
                          with_reducible rfl
                        rotate_left
                        · simp only [Act.put, List.setIfInBounds_toArray, List.set_cons_zero, List.set_cons_succ, i64_w, i32_w]
                          rfl
                        refine pure_ (i := 13) (N := some 101) (v := ?_) (a' := ?_) #[true, true, true, true, true, true, true, true, true, true, true, true, true, true, false, false, false, false, false, false, false, false, false, false, false, false, false, false, false, false, false, false, false, false, false, false, false, false, false, false, false, false, false, false, false, false, false, false, false, false, false, false] rfl rfl (any_of HT_.out (by kernel_rfl)) (fun _ _ _ h => h) (Or.inl ⟨by rfl, ?_⟩) ?_ ?_
                        rotate_left
                        · intro w'
                          go_simp
                          with_reducible rfl
                        rotate_left
                        · simp only [Act.put, List.setIfInBounds_toArray, List.set_cons_zero, List.set_cons_succ, i64_w, i32_w]
                          rfl
                        refine pure_ (i := 14) (N := some 102) (v := ?_) (a' := ?_) #[true, true, true, true, true, true, true, true, true, true, true, true, true, true, true, false, false, false, false, false, false, false, false, false, false, false, false, false, false, false, false, false, false, false, false, false, false, false, false, false, false, false, false, false, false, false, false, false, false, false, false, false] rfl rfl (any_of HT_.out (by kernel_rfl)) (fun _ _ _ h => h) (Or.inl ⟨by rfl, ?_⟩) ?_ ?_
                        rotate_left
                        · intro w'
                          go_simp
                          with_reducible rfl
                        rotate_left
                        · simp only [Act.put, List.setIfInBounds_toArray, List.set_cons_zero, List.set_cons_succ, i64_w, i32_w]
                          rfl
                        refine take_ (i := 15) (N := some 103) (v := ?_) (a' := ?_) #[true, true, true, true, true, true, true, true, true, true, true, true, true, true, true, true, false, false, false, false, false, false, false, false, false, false, false, false, false, false, false, false, false, false, false, false, false, false, false, false, false, false, false, false, false, false, false, false, false, false, false, false] rfl rfl (take_ofW HT_.out HW_.out (by kernel_rfl)) (fun _ _ _ h => h) (Or.inl ⟨by rfl, ?_⟩) hHeld ?_ ?_
                        rotate_left
                        · rintro w' ⟨s0, s1⟩
                          go_simp
                          with_reducible rfl
                        rotate_left
                        · simp only [Act.put, List.setIfInBounds_toArray, List.set_cons_zero, List.set_cons_succ, i64_w, i32_w]
                          rfl
                        refine take_ (i := 18) (N := some 106) (v := ?_) (a' := ?_) #[true, true, true, true, true, true, true, true, true, true, true, true, true, true, true, true, false, false, true, false, false, false, false, false, false, false, false, false, false, false, false, false, false, false, false, false, false, false, false, false, false, false, false, false, false, false, false, false, false, false, false, false] rfl rfl (take_ofW HT_.out HW_.out (by kernel_rfl)) (fun _ _ _ h => h) (Or.inl ⟨by rfl, ?_⟩) hHeld ?_ ?_
                        rotate_left
                        · rintro w' ⟨s0, s1⟩
                          go_simp
                          with_reducible rfl
                        rotate_left
                        · simp only [Act.put, List.setIfInBounds_toArray, List.set_cons_zero, List.set_cons_succ, i64_w, i32_w]
                          rfl
                        refine one_ (i := 16) (N := some 104) #[true, true, true, true, true, true, true, true, true, true, true, true, true, true, true, true, true, false, true, false, false, false, false, false, false, false, false, false, false, false, false, false, false, false, false, false, false, false, false, false, false, false, false, false, false, false, false, false, false, false, false, false] rfl rfl (one_of HT_.out (by kernel_rfl)) (by decide) (fun K hK => ?_)
                        refine goes_ Try.func13 (by kernel_rfl) rfl #[.agg #[.slice A0_0 l0_0.length c0_0, .slice A0_1 l0_1.length c0_1]] (by rfl) rfl rfl (by (try simp only [List.map_toArray, List.map_cons, List.map_nil]); first | done | rfl | (simp only [List.length_drop, List.length_take]; rfl)) ?_
                        with_reducible refine (trefoillaw04_Own.calls _ _ l0_0 _ _ l0_1 t407 t410 _ ?side1 ?side2 ?side3 ?side4 A43.out).mono ?_
                        (case side1 => repeat (first | exact (Kd.C_below HR0_0.out HB.out) | (with_reducible refine Kd.C_alloc ?_ _) | (with_reducible refine Kd.C_drewN ?_ _) | (with_reducible refine Kd.C_drew ?_)))
                        (case side2 => exact HC0_0.out)
                        (case side3 => repeat (first | exact (Kd.C_below HR0_1.out HB.out) | (with_reducible refine Kd.C_alloc ?_ _) | (with_reducible refine Kd.C_drewN ?_ _) | (with_reducible refine Kd.C_drew ?_)))
                        (case side4 => exact HC0_1.out)
                        rintro e w72 ⟨v408, v411, rfl, ho0, ho1, hb⟩
                        refine ⟨_, rfl, ?_⟩
                        have n0_ := Aside0.mk (Kd.R_elder' (by (with_reducible repeat (first | apply Kd.R_alloc | apply Kd.R_drewN | apply Kd.R_drew)); exact HO388.out) (Kd.R_base ho0) hb)
                        have n1_ := Aside0.mk (Kd.R_elder' (by (with_reducible repeat (first | apply Kd.R_alloc | apply Kd.R_drewN | apply Kd.R_drew)); exact HO391.out) (Kd.R_base ho1) hb)
                        have n2_ := Aside0.mk (Kd.R_elder' (by (with_reducible repeat (first | apply Kd.R_alloc | apply Kd.R_drewN | apply Kd.R_drew)); exact HO394.out) (Kd.R_base ho0) hb)
                        have n3_ := Aside0.mk (Kd.R_elder' (by (with_reducible repeat (first | apply Kd.R_alloc | apply Kd.R_drewN | apply Kd.R_drew)); exact HO397.out) (Kd.R_base ho0) hb)
                        have n4_ := Aside0.mk (Kd.R_elder' (by (with_reducible repeat (first | apply Kd.R_alloc | apply Kd.R_drewN | apply Kd.R_drew)); exact HO401.out) (Kd.R_base ho0) hb)
                        have n5_ := Aside0.mk (Kd.R_elder' (by (with_reducible repeat (first | apply Kd.R_alloc | apply Kd.R_drewN | apply Kd.R_drew)); exact HO404.out) (Kd.R_base ho1) hb)
                        have n6_ := Aside0.mk (Kd.R_lower (Kd.R_new' (Kd.R_new' (Kd.R_new' (Kd.R_new' ho0 (Kd.R_lt (by (with_reducible repeat (first | apply Kd.R_alloc | apply Kd.R_drewN | apply Kd.R_drew)); exact HO388.out))) (Kd.R_lt (by (with_reducible repeat (first | apply Kd.R_alloc | apply Kd.R_drewN | apply Kd.R_drew)); exact HO394.out))) (Kd.R_lt (by (with_reducible repeat (first | apply Kd.R_alloc | apply Kd.R_drewN | apply Kd.R_drew)); exact HO397.out))) (Kd.R_lt (by (with_reducible repeat (first | apply Kd.R_alloc | apply Kd.R_drewN | apply Kd.R_drew)); exact HO401.out))) (below_size (by repeat (first | (with_reducible first | exact HB.out | apply below_alloc | apply pw_below_drewN | apply below_drew1 | refine below_set ?_ GE329.out) | exact HB.out))))
                        have n7_ := Aside0.mk (Kd.R_lower (Kd.R_new' (Kd.R_new' ho1 (Kd.R_lt (by (with_reducible repeat (first | apply Kd.R_alloc | apply Kd.R_drewN | apply Kd.R_drew)); exact HO391.out))) (Kd.R_lt (by (with_reducible repeat (first | apply Kd.R_alloc | apply Kd.R_drewN | apply Kd.R_drew)); exact HO404.out))) (below_size (by repeat (first | (with_reducible first | exact HB.out | apply below_alloc | apply pw_below_drewN | apply below_drew1 | refine below_set ?_ GE329.out) | exact HB.out))))
                        have n8_ := Aside0.mk (blk_below (g := gb329) (o := .cells #[.slice A0_0 l0_0.length c0_0, .slice A0_1 l0_1.length c0_1] 25 (0, 0)) (by (with_reducible repeat (first | refine blk_drewN ?_ _ | refine blk_drew ?_ | refine blk_alloc ?_ _)); exact BK329.out) hb)
                        have n9_ := Aside0.mk (below_step (by repeat (first | (with_reducible first | exact HB.out | apply below_alloc | apply pw_below_drewN | apply below_drew1 | refine below_set ?_ GE329.out) | exact HB.out)) hb)
                        clear HO388
                        clear HO391
                        clear HO394
                        clear HO397
                        clear HO401
                        clear HO404
                        clear BK329
                        clear HB
                        have HO388 := n0_
                        have HO391 := n1_
                        have HO394 := n2_
                        have HO397 := n3_
                        have HO401 := n4_
                        have HO404 := n5_
                        have HO409 := n6_
                        have HO412 := n7_
                        have BK329 := n8_
                        have HB := n9_
                        clear n0_ n1_ n2_ n3_ n4_ n5_ n6_ n7_ n8_ n9_
                        (try clear hb)
                        (try clear hb2)
                        (try clear hk)
                        (try clear hi)
                        (try clear ho0)
                        (try clear ho1)
                        obtain ⟨Ao73, co73, eo73⟩ := Kd.R_slice HO409.out
                        (first | subst eo73 | (injection eo73 with f1_ f2_ f3_; have f4_ := f1_.symm; have f5_ := f3_.symm; clear f1_ f2_ f3_; subst f4_; subst f5_))
                        obtain ⟨Ao74, co74, eo74⟩ := Kd.R_slice HO412.out
                        (first | subst eo74 | (injection eo74 with f1_ f2_ f3_; have f4_ := f1_.symm; have f5_ := f3_.symm; clear f1_ f2_ f3_; subst f4_; subst f5_))
                        refine hK.out _ _ ⟨(blk_cell BK329.out 0).trans rfl, (blk_cell BK329.out 1).trans rfl⟩ (fun hHeld => ?_)
                        clear hK K
                        refine norm_ (a' := ?_) ?_ ?_
                        rotate_left
                        · show Act.put _ (some 104) _ = _
                          simp only [Act.put, List.setIfInBounds_toArray, List.set_cons_zero, List.set_cons_succ, i64_w, i32_w]
                          rfl
                        refine one_ (i := 17) (N := some 105) #[true, true, true, true, true, true, true, true, true, true, true, true, true, true, true, true, true, true, true, false, false, false, false, false, false, false, false, false, false, false, false, false, false, false, false, false, false, false, false, false, false, false, false, false, false, false, false, false, false, false, false, false] rfl rfl (one_of HT_.out (by kernel_rfl)) (by decide) (fun K hK => ?_)
                        refine goes_ Try.func19 (by kernel_rfl) rfl #[.agg #[.slice Ao73 t407.length co73, .slice Ao74 t410.length co74]] (by rfl) rfl rfl (by (try simp only [List.map_toArray, List.map_cons, List.map_nil]); first | done | rfl | (simp only [List.length_drop, List.length_take]; rfl)) ?_
                        with_reducible refine (dag_Long.calls _ _ t407 _ _ t410 t413 _ ?side1 ?side2 ?side3 ?side4 A44.out).mono ?_
                        (case side1 => repeat (first | exact (Kd.R_reads' HO409.out).2.2 | (with_reducible refine Kd.C_alloc ?_ _) | (with_reducible refine Kd.C_drewN ?_ _) | (with_reducible refine Kd.C_drew ?_)))
                        (case side2 => exact (Kd.R_reads' HO409.out).2.1)
                        (case side3 => repeat (first | exact (Kd.R_reads' HO412.out).2.2 | (with_reducible refine Kd.C_alloc ?_ _) | (with_reducible refine Kd.C_drewN ?_ _) | (with_reducible refine Kd.C_drew ?_)))
                        (case side4 => exact (Kd.R_reads' HO412.out).2.1)
                        rintro e w75 ⟨rfl, hb⟩
                        refine ⟨_, rfl, ?_⟩
                        have n0_ := Aside0.mk (Kd.R_below (by (with_reducible repeat (first | apply Kd.R_alloc | apply Kd.R_drewN | apply Kd.R_drew)); exact HO388.out) hb)
                        have n1_ := Aside0.mk (Kd.R_below (by (with_reducible repeat (first | apply Kd.R_alloc | apply Kd.R_drewN | apply Kd.R_drew)); exact HO391.out) hb)
                        have n2_ := Aside0.mk (Kd.R_below (by (with_reducible repeat (first | apply Kd.R_alloc | apply Kd.R_drewN | apply Kd.R_drew)); exact HO394.out) hb)
                        have n3_ := Aside0.mk (Kd.R_below (by (with_reducible repeat (first | apply Kd.R_alloc | apply Kd.R_drewN | apply Kd.R_drew)); exact HO397.out) hb)
                        have n4_ := Aside0.mk (Kd.R_below (by (with_reducible repeat (first | apply Kd.R_alloc | apply Kd.R_drewN | apply Kd.R_drew)); exact HO401.out) hb)
                        have n5_ := Aside0.mk (Kd.R_below (by (with_reducible repeat (first | apply Kd.R_alloc | apply Kd.R_drewN | apply Kd.R_drew)); exact HO404.out) hb)
                        have n6_ := Aside0.mk (Kd.R_below (by (with_reducible repeat (first | apply Kd.R_alloc | apply Kd.R_drewN | apply Kd.R_drew)); exact HO409.out) hb)
                        have n7_ := Aside0.mk (Kd.R_below (by (with_reducible repeat (first | apply Kd.R_alloc | apply Kd.R_drewN | apply Kd.R_drew)); exact HO412.out) hb)
                        have n8_ := Aside0.mk (blk_below (g := gb329) (o := .cells #[.slice A0_0 l0_0.length c0_0, .slice A0_1 l0_1.length c0_1] 25 (0, 0)) (by (with_reducible repeat (first | refine blk_drewN ?_ _ | refine blk_drew ?_ | refine blk_alloc ?_ _)); exact BK329.out) hb)
                        have n9_ := Aside0.mk (below_step (by repeat (first | (with_reducible first | exact HB.out | apply below_alloc | apply pw_below_drewN | apply below_drew1 | refine below_set ?_ GE329.out) | exact HB.out)) hb)
                        clear HO388
                        clear HO391
                        clear HO394
                        clear HO397
                        clear HO401
                        clear HO404
                        clear HO409
                        clear HO412
                        clear BK329
                        clear HB
                        have HO388 := n0_
                        have HO391 := n1_
                        have HO394 := n2_
                        have HO397 := n3_
                        have HO401 := n4_
                        have HO404 := n5_
                        have HO409 := n6_
                        have HO412 := n7_
                        have BK329 := n8_
                        have HB := n9_
                        clear n0_ n1_ n2_ n3_ n4_ n5_ n6_ n7_ n8_ n9_
                        (try clear hb)
                        (try clear hb2)
                        (try clear hk)
                        (try clear hi)
                        refine hK.out _ _ ⟨(blk_cell BK329.out 0).trans rfl, (blk_cell BK329.out 1).trans rfl⟩ (fun hHeld => ?_)
                        clear hK K
                        refine norm_ (a' := ?_) ?_ ?_
                        rotate_left
                        · show Act.put _ (some 105) _ = _
                          simp only [Act.put, List.setIfInBounds_toArray, List.set_cons_zero, List.set_cons_succ, i64_w, i32_w]
                          rfl
                        refine one_ (i := 19) (N := some 107) #[true, true, true, true, true, true, true, true, true, true, true, true, true, true, true, true, true, true, true, true, false, false, false, false, false, false, false, false, false, false, false, false, false, false, false, false, false, false, false, false, false, false, false, false, false, false, false, false, false, false, false, false] rfl rfl (one_of HT_.out (by kernel_rfl)) (by decide) (fun K hK => ?_)
                        refine goes_ Try.func27 (by kernel_rfl) rfl #[.agg #[.slice A0_0 l0_0.length c0_0, .slice A0_1 l0_1.length c0_1]] (by rfl) rfl rfl (by (try simp only [List.map_toArray, List.map_cons, List.map_nil]); first | done | rfl | (simp only [List.length_drop, List.length_take]; rfl)) ?_
                        with_reducible refine (trefoilref04_Long.calls kj17 _ _ l0_0 _ _ l0_1 t414 _ ?side1 ?side2 ?side3 ?side4 A45.out).mono ?_
                        (case side1 => repeat (first | exact (Kd.C_below HR0_0.out HB.out) | (with_reducible refine Kd.C_alloc ?_ _) | (with_reducible refine Kd.C_drewN ?_ _) | (with_reducible refine Kd.C_drew ?_)))
                        (case side2 => exact HC0_0.out)
                        (case side3 => repeat (first | exact (Kd.C_below HR0_1.out HB.out) | (with_reducible refine Kd.C_alloc ?_ _) | (with_reducible refine Kd.C_drewN ?_ _) | (with_reducible refine Kd.C_drew ?_)))
                        (case side4 => exact HC0_1.out)
                        rintro e w76 ⟨rfl, hb⟩
                        refine ⟨_, rfl, ?_⟩
                        have n0_ := Aside0.mk (Kd.R_below (by (with_reducible repeat (first | apply Kd.R_alloc | apply Kd.R_drewN | apply Kd.R_drew)); exact HO388.out) hb)
                        have n1_ := Aside0.mk (Kd.R_below (by (with_reducible repeat (first | apply Kd.R_alloc | apply Kd.R_drewN | apply Kd.R_drew)); exact HO391.out) hb)
                        have n2_ := Aside0.mk (Kd.R_below (by (with_reducible repeat (first | apply Kd.R_alloc | apply Kd.R_drewN | apply Kd.R_drew)); exact HO394.out) hb)
                        have n3_ := Aside0.mk (Kd.R_below (by (with_reducible repeat (first | apply Kd.R_alloc | apply Kd.R_drewN | apply Kd.R_drew)); exact HO397.out) hb)
                        have n4_ := Aside0.mk (Kd.R_below (by (with_reducible repeat (first | apply Kd.R_alloc | apply Kd.R_drewN | apply Kd.R_drew)); exact HO401.out) hb)
                        have n5_ := Aside0.mk (Kd.R_below (by (with_reducible repeat (first | apply Kd.R_alloc | apply Kd.R_drewN | apply Kd.R_drew)); exact HO404.out) hb)
                        have n6_ := Aside0.mk (Kd.R_below (by (with_reducible repeat (first | apply Kd.R_alloc | apply Kd.R_drewN | apply Kd.R_drew)); exact HO409.out) hb)
                        have n7_ := Aside0.mk (Kd.R_below (by (with_reducible repeat (first | apply Kd.R_alloc | apply Kd.R_drewN | apply Kd.R_drew)); exact HO412.out) hb)
                        have n8_ := Aside0.mk (blk_below (g := gb329) (o := .cells #[.slice A0_0 l0_0.length c0_0, .slice A0_1 l0_1.length c0_1] 25 (0, 0)) (by (with_reducible repeat (first | refine blk_drewN ?_ _ | refine blk_drew ?_ | refine blk_alloc ?_ _)); exact BK329.out) hb)
                        have n9_ := Aside0.mk (below_step (by repeat (first | (with_reducible first | exact HB.out | apply below_alloc | apply pw_below_drewN | apply below_drew1 | refine below_set ?_ GE329.out) | exact HB.out)) hb)
                        clear HO388
                        clear HO391
                        clear HO394
                        clear HO397
                        clear HO401
                        clear HO404
                        clear HO409
                        clear HO412
                        clear BK329
                        clear HB
                        have HO388 := n0_
                        have HO391 := n1_
                        have HO394 := n2_
                        have HO397 := n3_
                        have HO401 := n4_
                        have HO404 := n5_
                        have HO409 := n6_
                        have HO412 := n7_
                        have BK329 := n8_
                        have HB := n9_
                        clear n0_ n1_ n2_ n3_ n4_ n5_ n6_ n7_ n8_ n9_
                        (try clear hb)
                        (try clear hb2)
                        (try clear hk)
                        (try clear hi)
                        refine hK.out _ _ ⟨(blk_cell BK329.out 0).trans rfl, (blk_cell BK329.out 1).trans rfl⟩ (fun hHeld => ?_)
                        clear hK K
                        refine norm_ (a' := ?_) ?_ ?_
                        rotate_left
                        · show Act.put _ (some 107) _ = _
                          simp only [Act.put, List.setIfInBounds_toArray, List.set_cons_zero, List.set_cons_succ, i64_w, i32_w]
                          rfl
                        refine pure_ (i := 20) (N := some 108) (v := ?_) (a' := ?_) #[true, true, true, true, true, true, true, true, true, true, true, true, true, true, true, true, true, true, true, true, true, false, false, false, false, false, false, false, false, false, false, false, false, false, false, false, false, false, false, false, false, false, false, false, false, false, false, false, false, false, false, false] rfl rfl (any_of HT_.out (by kernel_rfl)) (fun _ _ _ h => h) (Or.inl ⟨by rfl, ?_⟩) ?_ ?_
                        rotate_left
                        · intro w'
                          go_simp
                          with_reducible rfl
                        rotate_left
                        · simp only [Act.put, List.setIfInBounds_toArray, List.set_cons_zero, List.set_cons_succ, i64_w, i32_w]
                          rfl
                        refine pure_ (i := 21) (N := some 109) (v := ?_) (a' := ?_) #[true, true, true, true, true, true, true, true, true, true, true, true, true, true, true, true, true, true, true, true, true, true, false, false, false, false, false, false, false, false, false, false, false, false, false, false, false, false, false, false, false, false, false, false, false, false, false, false, false, false, false, false] rfl rfl (any_of HT_.out (by kernel_rfl)) (fun _ _ _ h => h) (Or.inl ⟨by rfl, ?_⟩) ?_ ?_
                        rotate_left
                        · intro w'
                          go_simp
                          with_reducible rfl
                        rotate_left
                        · simp only [Act.put, List.setIfInBounds_toArray, List.set_cons_zero, List.set_cons_succ, i64_w, i32_w]
                          rfl
                        refine pure_ (i := 22) (N := some 110) (v := ?_) (a' := ?_) #[true, true, true, true, true, true, true, true, true, true, true, true, true, true, true, true, true, true, true, true, true, true, true, false, false, false, false, false, false, false, false, false, false, false, false, false, false, false, false, false, false, false, false, false, false, false, false, false, false, false, false, false] rfl rfl (any_of HT_.out (by kernel_rfl)) (fun _ _ _ h => h) (Or.inl ⟨by rfl, ?_⟩) ?_ ?_
                        rotate_left
                        · intro w'
                          go_simp
                          with_reducible rfl
                        rotate_left
                        · simp only [Act.put, List.setIfInBounds_toArray, List.set_cons_zero, List.set_cons_succ, i64_w, i32_w]
                          rfl
                        refine pure_ (i := 25) (N := some 113) (v := ?_) (a' := ?_) #[true, true, true, true, true, true, true, true, true, true, true, true, true, true, true, true, true, true, true, true, true, true, true, false, false, true, false, false, false, false, false, false, false, false, false, false, false, false, false, false, false, false, false, false, false, false, false, false, false, false, false, false] rfl rfl (any_of HT_.out (by kernel_rfl)) (fun _ _ _ h => h) (Or.inl ⟨by rfl, ?_⟩) ?_ ?_
                        rotate_left
                        · intro w'
                          go_simp
                          with_reducible rfl
                        rotate_left
                        · simp only [Act.put, List.setIfInBounds_toArray, List.set_cons_zero, List.set_cons_succ, i64_w, i32_w]
                          rfl
                        refine pure_ (i := 28) (N := some 116) (v := ?_) (a' := ?_) #[true, true, true, true, true, true, true, true, true, true, true, true, true, true, true, true, true, true, true, true, true, true, true, false, false, true, false, false, true, false, false, false, false, false, false, false, false, false, false, false, false, false, false, false, false, false, false, false, false, false, false, false] rfl rfl (any_of HT_.out (by kernel_rfl)) (fun _ _ _ h => h) (Or.inl ⟨by rfl, ?_⟩) ?_ ?_
                        rotate_left
                        · intro w'
                          go_simp
                          with_reducible rfl
                        rotate_left
                        · simp only [Act.put, List.setIfInBounds_toArray, List.set_cons_zero, List.set_cons_succ, i64_w, i32_w]
                          rfl
                        refine take_ (i := 23) (N := some 111) (v := ?_) (a' := ?_) #[true, true, true, true, true, true, true, true, true, true, true, true, true, true, true, true, true, true, true, true, true, true, true, true, false, true, false, false, true, false, false, false, false, false, false, false, false, false, false, false, false, false, false, false, false, false, false, false, false, false, false, false] rfl rfl (take_ofW HT_.out HW_.out (by kernel_rfl)) (fun _ _ _ h => h) (Or.inl ⟨by rfl, ?_⟩) hHeld ?_ ?_
                        rotate_left
                        · rintro w' ⟨s0, s1⟩
                          go_simp
                          with_reducible rfl
                        rotate_left
                        · simp only [Act.put, List.setIfInBounds_toArray, List.set_cons_zero, List.set_cons_succ, i64_w, i32_w]
                          rfl
                        refine take_ (i := 27) (N := some 115) (v := ?_) (a' := ?_) #[true, true, true, true, true, true, true, true, true, true, true, true, true, true, true, true, true, true, true, true, true, true, true, true, false, true, false, true, true, false, false, false, false, false, false, false, false, false, false, false, false, false, false, false, false, false, false, false, false, false, false, false] rfl rfl (take_ofW HT_.out HW_.out (by kernel_rfl)) (fun _ _ _ h => h) (Or.inl ⟨by rfl, ?_⟩) hHeld ?_ ?_
                        rotate_left
                        · rintro w' ⟨s0, s1⟩
                          go_simp
                          with_reducible rfl
                        rotate_left
                        · simp only [Act.put, List.setIfInBounds_toArray, List.set_cons_zero, List.set_cons_succ, i64_w, i32_w]
                          rfl
                        refine one_ (i := 24) (N := some 112) #[true, true, true, true, true, true, true, true, true, true, true, true, true, true, true, true, true, true, true, true, true, true, true, true, true, true, false, true, true, false, false, false, false, false, false, false, false, false, false, false, false, false, false, false, false, false, false, false, false, false, false, false] rfl rfl (one_of HT_.out (by kernel_rfl)) (by decide) (fun K hK => ?_)
                        refine goes_ Try.func13 (by kernel_rfl) rfl #[.agg #[.slice A0_0 l0_0.length c0_0, .slice A0_1 l0_1.length c0_1]] (by rfl) rfl rfl (by (try simp only [List.map_toArray, List.map_cons, List.map_nil]); first | done | rfl | (simp only [List.length_drop, List.length_take]; rfl)) ?_
                        with_reducible refine (trefoillaw04_Own.calls _ _ l0_0 _ _ l0_1 t415 t418 _ ?side1 ?side2 ?side3 ?side4 A47.out).mono ?_
                        (case side1 => repeat (first | exact (Kd.C_below HR0_0.out HB.out) | (with_reducible refine Kd.C_alloc ?_ _) | (with_reducible refine Kd.C_drewN ?_ _) | (with_reducible refine Kd.C_drew ?_)))
                        (case side2 => exact HC0_0.out)
                        (case side3 => repeat (first | exact (Kd.C_below HR0_1.out HB.out) | (with_reducible refine Kd.C_alloc ?_ _) | (with_reducible refine Kd.C_drewN ?_ _) | (with_reducible refine Kd.C_drew ?_)))
                        (case side4 => exact HC0_1.out)
                        rintro e w77 ⟨v416, v419, rfl, ho0, ho1, hb⟩
                        refine ⟨_, rfl, ?_⟩
                        have n0_ := Aside0.mk (Kd.R_elder' (by (with_reducible repeat (first | apply Kd.R_alloc | apply Kd.R_drewN | apply Kd.R_drew)); exact HO388.out) (Kd.R_base ho0) hb)
                        have n1_ := Aside0.mk (Kd.R_elder' (by (with_reducible repeat (first | apply Kd.R_alloc | apply Kd.R_drewN | apply Kd.R_drew)); exact HO391.out) (Kd.R_base ho1) hb)
                        have n2_ := Aside0.mk (Kd.R_elder' (by (with_reducible repeat (first | apply Kd.R_alloc | apply Kd.R_drewN | apply Kd.R_drew)); exact HO394.out) (Kd.R_base ho0) hb)
                        have n3_ := Aside0.mk (Kd.R_elder' (by (with_reducible repeat (first | apply Kd.R_alloc | apply Kd.R_drewN | apply Kd.R_drew)); exact HO397.out) (Kd.R_base ho0) hb)
                        have n4_ := Aside0.mk (Kd.R_elder' (by (with_reducible repeat (first | apply Kd.R_alloc | apply Kd.R_drewN | apply Kd.R_drew)); exact HO401.out) (Kd.R_base ho0) hb)
                        have n5_ := Aside0.mk (Kd.R_elder' (by (with_reducible repeat (first | apply Kd.R_alloc | apply Kd.R_drewN | apply Kd.R_drew)); exact HO404.out) (Kd.R_base ho1) hb)
                        have n6_ := Aside0.mk (Kd.R_elder' (by (with_reducible repeat (first | apply Kd.R_alloc | apply Kd.R_drewN | apply Kd.R_drew)); exact HO409.out) (Kd.R_base ho0) hb)
                        have n7_ := Aside0.mk (Kd.R_elder' (by (with_reducible repeat (first | apply Kd.R_alloc | apply Kd.R_drewN | apply Kd.R_drew)); exact HO412.out) (Kd.R_base ho1) hb)
                        have n8_ := Aside0.mk (Kd.R_lower (Kd.R_new' (Kd.R_new' (Kd.R_new' (Kd.R_new' (Kd.R_new' ho0 (Kd.R_lt (by (with_reducible repeat (first | apply Kd.R_alloc | apply Kd.R_drewN | apply Kd.R_drew)); exact HO388.out))) (Kd.R_lt (by (with_reducible repeat (first | apply Kd.R_alloc | apply Kd.R_drewN | apply Kd.R_drew)); exact HO394.out))) (Kd.R_lt (by (with_reducible repeat (first | apply Kd.R_alloc | apply Kd.R_drewN | apply Kd.R_drew)); exact HO397.out))) (Kd.R_lt (by (with_reducible repeat (first | apply Kd.R_alloc | apply Kd.R_drewN | apply Kd.R_drew)); exact HO401.out))) (Kd.R_lt (by (with_reducible repeat (first | apply Kd.R_alloc | apply Kd.R_drewN | apply Kd.R_drew)); exact HO409.out))) (below_size (by repeat (first | (with_reducible first | exact HB.out | apply below_alloc | apply pw_below_drewN | apply below_drew1 | refine below_set ?_ GE329.out) | exact HB.out))))
                        have n9_ := Aside0.mk (Kd.R_lower (Kd.R_new' (Kd.R_new' (Kd.R_new' ho1 (Kd.R_lt (by (with_reducible repeat (first | apply Kd.R_alloc | apply Kd.R_drewN | apply Kd.R_drew)); exact HO391.out))) (Kd.R_lt (by (with_reducible repeat (first | apply Kd.R_alloc | apply Kd.R_drewN | apply Kd.R_drew)); exact HO404.out))) (Kd.R_lt (by (with_reducible repeat (first | apply Kd.R_alloc | apply Kd.R_drewN | apply Kd.R_drew)); exact HO412.out))) (below_size (by repeat (first | (with_reducible first | exact HB.out | apply below_alloc | apply pw_below_drewN | apply below_drew1 | refine below_set ?_ GE329.out) | exact HB.out))))
                        have n10_ := Aside0.mk (blk_below (g := gb329) (o := .cells #[.slice A0_0 l0_0.length c0_0, .slice A0_1 l0_1.length c0_1] 25 (0, 0)) (by (with_reducible repeat (first | refine blk_drewN ?_ _ | refine blk_drew ?_ | refine blk_alloc ?_ _)); exact BK329.out) hb)
                        have n11_ := Aside0.mk (below_step (by repeat (first | (with_reducible first | exact HB.out | apply below_alloc | apply pw_below_drewN | apply below_drew1 | refine below_set ?_ GE329.out) | exact HB.out)) hb)
                        clear HO388
                        clear HO391
                        clear HO394
                        clear HO397
                        clear HO401
                        clear HO404
                        clear HO409
                        clear HO412
                        clear BK329
                        clear HB
                        have HO388 := n0_
                        have HO391 := n1_
                        have HO394 := n2_
                        have HO397 := n3_
                        have HO401 := n4_
                        have HO404 := n5_
                        have HO409 := n6_
                        have HO412 := n7_
                        have HO417 := n8_
                        have HO420 := n9_
                        have BK329 := n10_
                        have HB := n11_
                        clear n0_ n1_ n2_ n3_ n4_ n5_ n6_ n7_ n8_ n9_ n10_ n11_
                        (try clear hb)
                        (try clear hb2)
                        (try clear hk)
                        (try clear hi)
                        (try clear ho0)
                        (try clear ho1)
                        obtain ⟨Ao78, co78, eo78⟩ := Kd.R_slice HO417.out
                        (first | subst eo78 | (injection eo78 with f1_ f2_ f3_; have f4_ := f1_.symm; have f5_ := f3_.symm; clear f1_ f2_ f3_; subst f4_; subst f5_))
                        obtain ⟨Ao79, co79, eo79⟩ := Kd.R_slice HO420.out
                        (first | subst eo79 | (injection eo79 with f1_ f2_ f3_; have f4_ := f1_.symm; have f5_ := f3_.symm; clear f1_ f2_ f3_; subst f4_; subst f5_))
                        refine hK.out _ _ ⟨(blk_cell BK329.out 0).trans rfl, (blk_cell BK329.out 1).trans rfl⟩ (fun hHeld => ?_)
                        clear hK K
                        refine norm_ (a' := ?_) ?_ ?_
                        rotate_left
                        · show Act.put _ (some 112) _ = _
                          simp only [Act.put, List.setIfInBounds_toArray, List.set_cons_zero, List.set_cons_succ, i64_w, i32_w]
                          rfl
                        refine one_ (i := 26) (N := some 114) #[true, true, true, true, true, true, true, true, true, true, true, true, true, true, true, true, true, true, true, true, true, true, true, true, true, true, true, true, true, false, false, false, false, false, false, false, false, false, false, false, false, false, false, false, false, false, false, false, false, false, false, false] rfl rfl (one_of HT_.out (by kernel_rfl)) (by decide) (fun K hK => ?_)
                        refine goes_ Try.func20 (by kernel_rfl) rfl #[.agg #[.slice Ao78 t415.length co78, .slice Ao79 t418.length co79], .int .i64 a1] (by rfl) rfl rfl (by (try simp only [List.map_toArray, List.map_cons, List.map_nil]); first | done | rfl | (simp only [List.length_drop, List.length_take]; rfl)) ?_
                        with_reducible refine (dag_Preds.calls _ _ t415 _ _ t418 a1 t421 _ ?side1 ?side2 ?side3 ?side4 A48.out).mono ?_
                        (case side1 => repeat (first | exact (Kd.R_reads' HO417.out).2.2 | (with_reducible refine Kd.C_alloc ?_ _) | (with_reducible refine Kd.C_drewN ?_ _) | (with_reducible refine Kd.C_drew ?_)))
                        (case side2 => exact (Kd.R_reads' HO417.out).2.1)
                        (case side3 => repeat (first | exact (Kd.R_reads' HO420.out).2.2 | (with_reducible refine Kd.C_alloc ?_ _) | (with_reducible refine Kd.C_drewN ?_ _) | (with_reducible refine Kd.C_drew ?_)))
                        (case side4 => exact (Kd.R_reads' HO420.out).2.1)
                        rintro e w80 ⟨v422, rfl, ho0, hb⟩
                        refine ⟨_, rfl, ?_⟩
                        have n0_ := Aside0.mk (Kd.R_elder' (by (with_reducible repeat (first | apply Kd.R_alloc | apply Kd.R_drewN | apply Kd.R_drew)); exact HO388.out) (Kd.R_base ho0) hb)
                        have n1_ := Aside0.mk (Kd.R_below (by (with_reducible repeat (first | apply Kd.R_alloc | apply Kd.R_drewN | apply Kd.R_drew)); exact HO391.out) hb)
                        have n2_ := Aside0.mk (Kd.R_elder' (by (with_reducible repeat (first | apply Kd.R_alloc | apply Kd.R_drewN | apply Kd.R_drew)); exact HO394.out) (Kd.R_base ho0) hb)
                        have n3_ := Aside0.mk (Kd.R_elder' (by (with_reducible repeat (first | apply Kd.R_alloc | apply Kd.R_drewN | apply Kd.R_drew)); exact HO397.out) (Kd.R_base ho0) hb)
                        have n4_ := Aside0.mk (Kd.R_elder' (by (with_reducible repeat (first | apply Kd.R_alloc | apply Kd.R_drewN | apply Kd.R_drew)); exact HO401.out) (Kd.R_base ho0) hb)
                        have n5_ := Aside0.mk (Kd.R_below (by (with_reducible repeat (first | apply Kd.R_alloc | apply Kd.R_drewN | apply Kd.R_drew)); exact HO404.out) hb)
                        have n6_ := Aside0.mk (Kd.R_elder' (by (with_reducible repeat (first | apply Kd.R_alloc | apply Kd.R_drewN | apply Kd.R_drew)); exact HO409.out) (Kd.R_base ho0) hb)
                        have n7_ := Aside0.mk (Kd.R_below (by (with_reducible repeat (first | apply Kd.R_alloc | apply Kd.R_drewN | apply Kd.R_drew)); exact HO412.out) hb)
                        have n8_ := Aside0.mk (Kd.R_elder' (by (with_reducible repeat (first | apply Kd.R_alloc | apply Kd.R_drewN | apply Kd.R_drew)); exact HO417.out) (Kd.R_base ho0) hb)
                        have n9_ := Aside0.mk (Kd.R_below (by (with_reducible repeat (first | apply Kd.R_alloc | apply Kd.R_drewN | apply Kd.R_drew)); exact HO420.out) hb)
                        have n10_ := Aside0.mk (Kd.R_lower (Kd.R_new' (Kd.R_new' (Kd.R_new' (Kd.R_new' (Kd.R_new' (Kd.R_new' ho0 (Kd.R_lt (by (with_reducible repeat (first | apply Kd.R_alloc | apply Kd.R_drewN | apply Kd.R_drew)); exact HO388.out))) (Kd.R_lt (by (with_reducible repeat (first | apply Kd.R_alloc | apply Kd.R_drewN | apply Kd.R_drew)); exact HO394.out))) (Kd.R_lt (by (with_reducible repeat (first | apply Kd.R_alloc | apply Kd.R_drewN | apply Kd.R_drew)); exact HO397.out))) (Kd.R_lt (by (with_reducible repeat (first | apply Kd.R_alloc | apply Kd.R_drewN | apply Kd.R_drew)); exact HO401.out))) (Kd.R_lt (by (with_reducible repeat (first | apply Kd.R_alloc | apply Kd.R_drewN | apply Kd.R_drew)); exact HO409.out))) (Kd.R_lt (by (with_reducible repeat (first | apply Kd.R_alloc | apply Kd.R_drewN | apply Kd.R_drew)); exact HO417.out))) (below_size (by repeat (first | (with_reducible first | exact HB.out | apply below_alloc | apply pw_below_drewN | apply below_drew1 | refine below_set ?_ GE329.out) | exact HB.out))))
                        have n11_ := Aside0.mk (blk_below (g := gb329) (o := .cells #[.slice A0_0 l0_0.length c0_0, .slice A0_1 l0_1.length c0_1] 25 (0, 0)) (by (with_reducible repeat (first | refine blk_drewN ?_ _ | refine blk_drew ?_ | refine blk_alloc ?_ _)); exact BK329.out) hb)
                        have n12_ := Aside0.mk (below_step (by repeat (first | (with_reducible first | exact HB.out | apply below_alloc | apply pw_below_drewN | apply below_drew1 | refine below_set ?_ GE329.out) | exact HB.out)) hb)
                        clear HO388
                        clear HO391
                        clear HO394
                        clear HO397
                        clear HO401
                        clear HO404
                        clear HO409
                        clear HO412
                        clear HO417
                        clear HO420
                        clear BK329
                        clear HB
                        have HO388 := n0_
                        have HO391 := n1_
                        have HO394 := n2_
                        have HO397 := n3_
                        have HO401 := n4_
                        have HO404 := n5_
                        have HO409 := n6_
                        have HO412 := n7_
                        have HO417 := n8_
                        have HO420 := n9_
                        have HO423 := n10_
                        have BK329 := n11_
                        have HB := n12_
                        clear n0_ n1_ n2_ n3_ n4_ n5_ n6_ n7_ n8_ n9_ n10_ n11_ n12_
                        (try clear hb)
                        (try clear hb2)
                        (try clear hk)
                        (try clear hi)
                        (try clear ho0)
                        refine hK.out _ _ ⟨(blk_cell BK329.out 0).trans rfl, (blk_cell BK329.out 1).trans rfl⟩ (fun hHeld => ?_)
                        clear hK K
                        refine norm_ (a' := ?_) ?_ ?_
                        rotate_left
                        · show Act.put _ (some 114) _ = _
                          simp only [Act.put, List.setIfInBounds_toArray, List.set_cons_zero, List.set_cons_succ, i64_w, i32_w]
                          rfl
                        refine one_ (i := 29) (N := some 117) #[true, true, true, true, true, true, true, true, true, true, true, true, true, true, true, true, true, true, true, true, true, true, true, true, true, true, true, true, true, true, false, false, false, false, false, false, false, false, false, false, false, false, false, false, false, false, false, false, false, false, false, false] rfl rfl (one_of HT_.out (by kernel_rfl)) (by decide) (fun K hK => ?_)
                        refine goes_ Try.func28 (by kernel_rfl) rfl #[.agg #[.slice A0_0 l0_0.length c0_0, .slice A0_1 l0_1.length c0_1], .int .i64 a1] (by rfl) rfl rfl (by (try simp only [List.map_toArray, List.map_cons, List.map_nil]); first | done | rfl | (simp only [List.length_drop, List.length_take]; rfl)) ?_
                        with_reducible refine (trefoilref04_Preds.calls kj17 _ _ l0_0 _ _ l0_1 a1 t424 _ ?side1 ?side2 ?side3 ?side4 A49.out).mono ?_
                        (case side1 => repeat (first | exact (Kd.C_below HR0_0.out HB.out) | (with_reducible refine Kd.C_alloc ?_ _) | (with_reducible refine Kd.C_drewN ?_ _) | (with_reducible refine Kd.C_drew ?_)))
                        (case side2 => exact HC0_0.out)
                        (case side3 => repeat (first | exact (Kd.C_below HR0_1.out HB.out) | (with_reducible refine Kd.C_alloc ?_ _) | (with_reducible refine Kd.C_drewN ?_ _) | (with_reducible refine Kd.C_drew ?_)))
                        (case side4 => exact HC0_1.out)
                        rintro e w81 ⟨v425, rfl, ho0, hb⟩
                        refine ⟨_, rfl, ?_⟩
                        have n0_ := Aside0.mk (Kd.R_elder' (by (with_reducible repeat (first | apply Kd.R_alloc | apply Kd.R_drewN | apply Kd.R_drew)); exact HO388.out) (Kd.R_base ho0) hb)
                        have n1_ := Aside0.mk (Kd.R_below (by (with_reducible repeat (first | apply Kd.R_alloc | apply Kd.R_drewN | apply Kd.R_drew)); exact HO391.out) hb)
                        have n2_ := Aside0.mk (Kd.R_elder' (by (with_reducible repeat (first | apply Kd.R_alloc | apply Kd.R_drewN | apply Kd.R_drew)); exact HO394.out) (Kd.R_base ho0) hb)
                        have n3_ := Aside0.mk (Kd.R_elder' (by (with_reducible repeat (first | apply Kd.R_alloc | apply Kd.R_drewN | apply Kd.R_drew)); exact HO397.out) (Kd.R_base ho0) hb)
                        have n4_ := Aside0.mk (Kd.R_elder' (by (with_reducible repeat (first | apply Kd.R_alloc | apply Kd.R_drewN | apply Kd.R_drew)); exact HO401.out) (Kd.R_base ho0) hb)
                        have n5_ := Aside0.mk (Kd.R_below (by (with_reducible repeat (first | apply Kd.R_alloc | apply Kd.R_drewN | apply Kd.R_drew)); exact HO404.out) hb)
                        have n6_ := Aside0.mk (Kd.R_elder' (by (with_reducible repeat (first | apply Kd.R_alloc | apply Kd.R_drewN | apply Kd.R_drew)); exact HO409.out) (Kd.R_base ho0) hb)
                        have n7_ := Aside0.mk (Kd.R_below (by (with_reducible repeat (first | apply Kd.R_alloc | apply Kd.R_drewN | apply Kd.R_drew)); exact HO412.out) hb)
                        have n8_ := Aside0.mk (Kd.R_elder' (by (with_reducible repeat (first | apply Kd.R_alloc | apply Kd.R_drewN | apply Kd.R_drew)); exact HO417.out) (Kd.R_base ho0) hb)
                        have n9_ := Aside0.mk (Kd.R_below (by (with_reducible repeat (first | apply Kd.R_alloc | apply Kd.R_drewN | apply Kd.R_drew)); exact HO420.out) hb)
                        have n10_ := Aside0.mk (Kd.R_elder' (by (with_reducible repeat (first | apply Kd.R_alloc | apply Kd.R_drewN | apply Kd.R_drew)); exact HO423.out) (Kd.R_base ho0) hb)
                        have n11_ := Aside0.mk (Kd.R_lower (Kd.R_new' (Kd.R_new' (Kd.R_new' (Kd.R_new' (Kd.R_new' (Kd.R_new' (Kd.R_new' ho0 (Kd.R_lt (by (with_reducible repeat (first | apply Kd.R_alloc | apply Kd.R_drewN | apply Kd.R_drew)); exact HO388.out))) (Kd.R_lt (by (with_reducible repeat (first | apply Kd.R_alloc | apply Kd.R_drewN | apply Kd.R_drew)); exact HO394.out))) (Kd.R_lt (by (with_reducible repeat (first | apply Kd.R_alloc | apply Kd.R_drewN | apply Kd.R_drew)); exact HO397.out))) (Kd.R_lt (by (with_reducible repeat (first | apply Kd.R_alloc | apply Kd.R_drewN | apply Kd.R_drew)); exact HO401.out))) (Kd.R_lt (by (with_reducible repeat (first | apply Kd.R_alloc | apply Kd.R_drewN | apply Kd.R_drew)); exact HO409.out))) (Kd.R_lt (by (with_reducible repeat (first | apply Kd.R_alloc | apply Kd.R_drewN | apply Kd.R_drew)); exact HO417.out))) (Kd.R_lt (by (with_reducible repeat (first | apply Kd.R_alloc | apply Kd.R_drewN | apply Kd.R_drew)); exact HO423.out))) (below_size (by repeat (first | (with_reducible first | exact HB.out | apply below_alloc | apply pw_below_drewN | apply below_drew1 | refine below_set ?_ GE329.out) | exact HB.out))))
                        have n12_ := Aside0.mk (blk_below (g := gb329) (o := .cells #[.slice A0_0 l0_0.length c0_0, .slice A0_1 l0_1.length c0_1] 25 (0, 0)) (by (with_reducible repeat (first | refine blk_drewN ?_ _ | refine blk_drew ?_ | refine blk_alloc ?_ _)); exact BK329.out) hb)
                        have n13_ := Aside0.mk (below_step (by repeat (first | (with_reducible first | exact HB.out | apply below_alloc | apply pw_below_drewN | apply below_drew1 | refine below_set ?_ GE329.out) | exact HB.out)) hb)
                        clear HO388
                        clear HO391
                        clear HO394
                        clear HO397
                        clear HO401
                        clear HO404
                        clear HO409
                        clear HO412
                        clear HO417
                        clear HO420
                        clear HO423
                        clear BK329
                        clear HB
                        have HO388 := n0_
                        have HO391 := n1_
                        have HO394 := n2_
                        have HO397 := n3_
                        have HO401 := n4_
                        have HO404 := n5_
                        have HO409 := n6_
                        have HO412 := n7_
                        have HO417 := n8_
                        have HO420 := n9_
                        have HO423 := n10_
                        have HO426 := n11_
                        have BK329 := n12_
                        have HB := n13_
                        clear n0_ n1_ n2_ n3_ n4_ n5_ n6_ n7_ n8_ n9_ n10_ n11_ n12_ n13_
                        (try clear hb)
                        (try clear hb2)
                        (try clear hk)
                        (try clear hi)
                        (try clear ho0)
                        obtain ⟨Ao82, co82, eo82⟩ := Kd.R_slice HO423.out
                        (first | subst eo82 | (injection eo82 with f1_ f2_ f3_; have f4_ := f1_.symm; have f5_ := f3_.symm; clear f1_ f2_ f3_; subst f4_; subst f5_))
                        obtain ⟨Ao83, co83, eo83⟩ := Kd.R_slice HO426.out
                        (first | subst eo83 | (injection eo83 with f1_ f2_ f3_; have f4_ := f1_.symm; have f5_ := f3_.symm; clear f1_ f2_ f3_; subst f4_; subst f5_))
                        refine hK.out _ _ ⟨(blk_cell BK329.out 0).trans rfl, (blk_cell BK329.out 1).trans rfl⟩ (fun hHeld => ?_)
                        clear hK K
                        refine norm_ (a' := ?_) ?_ ?_
                        rotate_left
                        · show Act.put _ (some 117) _ = _
                          simp only [Act.put, List.setIfInBounds_toArray, List.set_cons_zero, List.set_cons_succ, i64_w, i32_w]
                          rfl
                        refine one_ (i := 30) (N := some 118) #[true, true, true, true, true, true, true, true, true, true, true, true, true, true, true, true, true, true, true, true, true, true, true, true, true, true, true, true, true, true, true, false, false, false, false, false, false, false, false, false, false, false, false, false, false, false, false, false, false, false, false, false] rfl rfl (one_of HT_.out (by kernel_rfl)) (by decide) (fun K hK => ?_)
                        refine goes_ Try.func24 (by kernel_rfl) rfl #[.slice Ao82 t421.length co82, .slice Ao83 t424.length co83] (by rfl) rfl rfl (by (try simp only [List.map_toArray, List.map_cons, List.map_nil]); first | done | rfl | (simp only [List.length_drop, List.length_take]; rfl)) ?_
                        with_reducible refine (trefoilref02_Ints.calls kj17 _ _ t421 _ _ t424 true _ ?side1 ?side2 ?side3 ?side4 A50.out).mono ?_
                        (case side1 => repeat (first | exact (Kd.R_reads' HO423.out).2.2 | (with_reducible refine Kd.C_alloc ?_ _) | (with_reducible refine Kd.C_drewN ?_ _) | (with_reducible refine Kd.C_drew ?_)))
                        (case side2 => exact (Kd.R_reads' HO423.out).2.1)
                        (case side3 => repeat (first | exact (Kd.R_reads' HO426.out).2.2 | (with_reducible refine Kd.C_alloc ?_ _) | (with_reducible refine Kd.C_drewN ?_ _) | (with_reducible refine Kd.C_drew ?_)))
                        (case side4 => exact (Kd.R_reads' HO426.out).2.1)
                        rintro e w' ⟨rfl, ⟨nd, rfl⟩⟩
                        refine ⟨_, rfl, ?_⟩
                        refine hK.out _ _ ⟨(blk_cell BK329.out 0).trans rfl, (blk_cell BK329.out 1).trans rfl⟩ (fun hHeld => ?_)
                        clear hK K
                        refine norm_ (a' := ?_) ?_ ?_
                        rotate_left
                        · show Act.put _ (some 118) _ = _
                          simp only [Act.put, List.setIfInBounds_toArray, List.set_cons_zero, List.set_cons_succ, i64_w, i32_w]
                          rfl
                        refine pure_ (i := 31) (N := some 119) (v := ?_) (a' := ?_) #[true, true, true, true, true, true, true, true, true, true, true, true, true, true, true, true, true, true, true, true, true, true, true, true, true, true, true, true, true, true, true, true, false, false, false, false, false, false, false, false, false, false, false, false, false, false, false, false, false, false, false, false] rfl rfl (any_of HT_.out (by kernel_rfl)) (fun _ _ _ h => h) (Or.inl ⟨by rfl, ?_⟩) ?_ ?_
                        rotate_left
                        · intro w'
                          go_simp
                          with_reducible rfl
                        rotate_left
                        · simp only [Act.put, List.setIfInBounds_toArray, List.set_cons_zero, List.set_cons_succ, i64_w, i32_w]
                          rfl
                        refine pure_ (i := 32) (N := some 120) (v := ?_) (a' := ?_) #[true, true, true, true, true, true, true, true, true, true, true, true, true, true, true, true, true, true, true, true, true, true, true, true, true, true, true, true, true, true, true, true, true, false, false, false, false, false, false, false, false, false, false, false, false, false, false, false, false, false, false, false] rfl rfl (any_of HT_.out (by kernel_rfl)) (fun _ _ _ h => h) (Or.inl ⟨by rfl, ?_⟩) ?_ ?_
                        rotate_left
                        · intro w'
                          go_simp
                          with_reducible rfl
                        rotate_left
                        · simp only [Act.put, List.setIfInBounds_toArray, List.set_cons_zero, List.set_cons_succ, i64_w, i32_w]
                          rfl
                        refine pure_ (i := 35) (N := some 123) (v := ?_) (a' := ?_) #[true, true, true, true, true, true, true, true, true, true, true, true, true, true, true, true, true, true, true, true, true, true, true, true, true, true, true, true, true, true, true, true, true, false, false, true, false, false, false, false, false, false, false, false, false, false, false, false, false, false, false, false] rfl rfl (any_of HT_.out (by kernel_rfl)) (fun _ _ _ h => h) (Or.inl ⟨by rfl, ?_⟩) ?_ ?_
                        rotate_left
                        · intro w'
                          go_simp
                          with_reducible rfl
                        rotate_left
                        · simp only [Act.put, List.setIfInBounds_toArray, List.set_cons_zero, List.set_cons_succ, i64_w, i32_w]
                          rfl
                        refine pure_ (i := 38) (N := some 126) (v := ?_) (a' := ?_) #[true, true, true, true, true, true, true, true, true, true, true, true, true, true, true, true, true, true, true, true, true, true, true, true, true, true, true, true, true, true, true, true, true, false, false, true, false, false, true, false, false, false, false, false, false, false, false, false, false, false, false, false] rfl rfl (any_of HT_.out (by kernel_rfl)) (fun _ _ _ h => h) (Or.inl ⟨by rfl, ?_⟩) ?_ ?_
                        rotate_left
                        · intro w'
                          go_simp
                          with_reducible rfl
                        rotate_left
                        · simp only [Act.put, List.setIfInBounds_toArray, List.set_cons_zero, List.set_cons_succ, i64_w, i32_w]
                          rfl
                        refine take_ (i := 33) (N := some 121) (v := ?_) (a' := ?_) #[true, true, true, true, true, true, true, true, true, true, true, true, true, true, true, true, true, true, true, true, true, true, true, true, true, true, true, true, true, true, true, true, true, true, false, true, false, false, true, false, false, false, false, false, false, false, false, false, false, false, false, false] rfl rfl (take_ofW HT_.out HW_.out (by kernel_rfl)) (fun _ _ _ h => h) (Or.inl ⟨by rfl, ?_⟩) hHeld ?_ ?_
                        rotate_left
                        · rintro w' ⟨s0, s1⟩
                          go_simp
                          with_reducible rfl
                        rotate_left
                        · simp only [Act.put, List.setIfInBounds_toArray, List.set_cons_zero, List.set_cons_succ, i64_w, i32_w]
                          rfl
                        refine take_ (i := 37) (N := some 125) (v := ?_) (a' := ?_) #[true, true, true, true, true, true, true, true, true, true, true, true, true, true, true, true, true, true, true, true, true, true, true, true, true, true, true, true, true, true, true, true, true, true, false, true, false, true, true, false, false, false, false, false, false, false, false, false, false, false, false, false] rfl rfl (take_ofW HT_.out HW_.out (by kernel_rfl)) (fun _ _ _ h => h) (Or.inl ⟨by rfl, ?_⟩) hHeld ?_ ?_
                        rotate_left
                        · rintro w' ⟨s0, s1⟩
                          go_simp
                          with_reducible rfl
                        rotate_left
                        · simp only [Act.put, List.setIfInBounds_toArray, List.set_cons_zero, List.set_cons_succ, i64_w, i32_w]
                          rfl
                        refine one_ (i := 34) (N := some 122) #[true, true, true, true, true, true, true, true, true, true, true, true, true, true, true, true, true, true, true, true, true, true, true, true, true, true, true, true, true, true, true, true, true, true, true, true, false, true, true, false, false, false, false, false, false, false, false, false, false, false, false, false] rfl rfl (one_of HT_.out (by kernel_rfl)) (by decide) (fun K hK => ?_)
                        refine goes_ Try.func13 (by kernel_rfl) rfl #[.agg #[.slice A0_0 l0_0.length c0_0, .slice A0_1 l0_1.length c0_1]] (by rfl) rfl rfl (by (try simp only [List.map_toArray, List.map_cons, List.map_nil]); first | done | rfl | (simp only [List.length_drop, List.length_take]; rfl)) ?_
                        with_reducible refine (trefoillaw04_Own.calls _ _ l0_0 _ _ l0_1 t428 t431 _ ?side1 ?side2 ?side3 ?side4 A52.out).mono ?_
                        (case side1 => repeat (first | exact (Kd.C_below HR0_0.out (by repeat (first | (with_reducible first | exact HB.out | apply below_alloc | apply pw_below_drewN | apply below_drew1 | refine below_set ?_ GE329.out) | exact HB.out))) | (with_reducible refine Kd.C_alloc ?_ _) | (with_reducible refine Kd.C_drewN ?_ _) | (with_reducible refine Kd.C_drew ?_)))
                        (case side2 => exact HC0_0.out)
                        (case side3 => repeat (first | exact (Kd.C_below HR0_1.out (by repeat (first | (with_reducible first | exact HB.out | apply below_alloc | apply pw_below_drewN | apply below_drew1 | refine below_set ?_ GE329.out) | exact HB.out))) | (with_reducible refine Kd.C_alloc ?_ _) | (with_reducible refine Kd.C_drewN ?_ _) | (with_reducible refine Kd.C_drew ?_)))
                        (case side4 => exact HC0_1.out)
                        rintro e w84 ⟨v429, v432, rfl, ho0, ho1, hb⟩
                        refine ⟨_, rfl, ?_⟩
                        have n0_ := Aside0.mk (Kd.R_elder' (by (with_reducible repeat (first | apply Kd.R_alloc | apply Kd.R_drewN | apply Kd.R_drew)); exact HO388.out) (Kd.R_base ho0) hb)
                        have n1_ := Aside0.mk (Kd.R_elder' (by (with_reducible repeat (first | apply Kd.R_alloc | apply Kd.R_drewN | apply Kd.R_drew)); exact HO391.out) (Kd.R_base ho1) hb)
                        have n2_ := Aside0.mk (Kd.R_elder' (by (with_reducible repeat (first | apply Kd.R_alloc | apply Kd.R_drewN | apply Kd.R_drew)); exact HO394.out) (Kd.R_base ho0) hb)
                        have n3_ := Aside0.mk (Kd.R_elder' (by (with_reducible repeat (first | apply Kd.R_alloc | apply Kd.R_drewN | apply Kd.R_drew)); exact HO397.out) (Kd.R_base ho0) hb)
                        have n4_ := Aside0.mk (Kd.R_elder' (by (with_reducible repeat (first | apply Kd.R_alloc | apply Kd.R_drewN | apply Kd.R_drew)); exact HO401.out) (Kd.R_base ho0) hb)
                        have n5_ := Aside0.mk (Kd.R_elder' (by (with_reducible repeat (first | apply Kd.R_alloc | apply Kd.R_drewN | apply Kd.R_drew)); exact HO404.out) (Kd.R_base ho1) hb)
                        have n6_ := Aside0.mk (Kd.R_elder' (by (with_reducible repeat (first | apply Kd.R_alloc | apply Kd.R_drewN | apply Kd.R_drew)); exact HO409.out) (Kd.R_base ho0) hb)
                        have n7_ := Aside0.mk (Kd.R_elder' (by (with_reducible repeat (first | apply Kd.R_alloc | apply Kd.R_drewN | apply Kd.R_drew)); exact HO412.out) (Kd.R_base ho1) hb)
                        have n8_ := Aside0.mk (Kd.R_elder' (by (with_reducible repeat (first | apply Kd.R_alloc | apply Kd.R_drewN | apply Kd.R_drew)); exact HO417.out) (Kd.R_base ho0) hb)
                        have n9_ := Aside0.mk (Kd.R_elder' (by (with_reducible repeat (first | apply Kd.R_alloc | apply Kd.R_drewN | apply Kd.R_drew)); exact HO420.out) (Kd.R_base ho1) hb)
                        have n10_ := Aside0.mk (Kd.R_elder' (by (with_reducible repeat (first | apply Kd.R_alloc | apply Kd.R_drewN | apply Kd.R_drew)); exact HO423.out) (Kd.R_base ho0) hb)
                        have n11_ := Aside0.mk (Kd.R_elder' (by (with_reducible repeat (first | apply Kd.R_alloc | apply Kd.R_drewN | apply Kd.R_drew)); exact HO426.out) (Kd.R_base ho0) hb)
                        have n12_ := Aside0.mk (Kd.R_lower (Kd.R_new' (Kd.R_new' (Kd.R_new' (Kd.R_new' (Kd.R_new' (Kd.R_new' (Kd.R_new' (Kd.R_new' ho0 (Kd.R_lt (by (with_reducible repeat (first | apply Kd.R_alloc | apply Kd.R_drewN | apply Kd.R_drew)); exact HO388.out))) (Kd.R_lt (by (with_reducible repeat (first | apply Kd.R_alloc | apply Kd.R_drewN | apply Kd.R_drew)); exact HO394.out))) (Kd.R_lt (by (with_reducible repeat (first | apply Kd.R_alloc | apply Kd.R_drewN | apply Kd.R_drew)); exact HO397.out))) (Kd.R_lt (by (with_reducible repeat (first | apply Kd.R_alloc | apply Kd.R_drewN | apply Kd.R_drew)); exact HO401.out))) (Kd.R_lt (by (with_reducible repeat (first | apply Kd.R_alloc | apply Kd.R_drewN | apply Kd.R_drew)); exact HO409.out))) (Kd.R_lt (by (with_reducible repeat (first | apply Kd.R_alloc | apply Kd.R_drewN | apply Kd.R_drew)); exact HO417.out))) (Kd.R_lt (by (with_reducible repeat (first | apply Kd.R_alloc | apply Kd.R_drewN | apply Kd.R_drew)); exact HO423.out))) (Kd.R_lt (by (with_reducible repeat (first | apply Kd.R_alloc | apply Kd.R_drewN | apply Kd.R_drew)); exact HO426.out))) (below_size (by repeat (first | (with_reducible first | exact HB.out | apply below_alloc | apply pw_below_drewN | apply below_drew1 | refine below_set ?_ GE329.out) | exact HB.out))))
                        have n13_ := Aside0.mk (Kd.R_lower (Kd.R_new' (Kd.R_new' (Kd.R_new' (Kd.R_new' ho1 (Kd.R_lt (by (with_reducible repeat (first | apply Kd.R_alloc | apply Kd.R_drewN | apply Kd.R_drew)); exact HO391.out))) (Kd.R_lt (by (with_reducible repeat (first | apply Kd.R_alloc | apply Kd.R_drewN | apply Kd.R_drew)); exact HO404.out))) (Kd.R_lt (by (with_reducible repeat (first | apply Kd.R_alloc | apply Kd.R_drewN | apply Kd.R_drew)); exact HO412.out))) (Kd.R_lt (by (with_reducible repeat (first | apply Kd.R_alloc | apply Kd.R_drewN | apply Kd.R_drew)); exact HO420.out))) (below_size (by repeat (first | (with_reducible first | exact HB.out | apply below_alloc | apply pw_below_drewN | apply below_drew1 | refine below_set ?_ GE329.out) | exact HB.out))))
                        have n14_ := Aside0.mk (blk_below (g := gb329) (o := .cells #[.slice A0_0 l0_0.length c0_0, .slice A0_1 l0_1.length c0_1] 25 (0, 0)) (by (with_reducible repeat (first | refine blk_drewN ?_ _ | refine blk_drew ?_ | refine blk_alloc ?_ _)); exact BK329.out) hb)
                        have n15_ := Aside0.mk (below_step (by repeat (first | (with_reducible first | exact HB.out | apply below_alloc | apply pw_below_drewN | apply below_drew1 | refine below_set ?_ GE329.out) | exact HB.out)) hb)
                        clear HO388
                        clear HO391
                        clear HO394
                        clear HO397
                        clear HO401
                        clear HO404
                        clear HO409
                        clear HO412
                        clear HO417
                        clear HO420
                        clear HO423
                        clear HO426
                        clear BK329
                        clear HB
                        have HO388 := n0_
                        have HO391 := n1_
                        have HO394 := n2_
                        have HO397 := n3_
                        have HO401 := n4_
                        have HO404 := n5_
                        have HO409 := n6_
                        have HO412 := n7_
                        have HO417 := n8_
                        have HO420 := n9_
                        have HO423 := n10_
                        have HO426 := n11_
                        have HO430 := n12_
                        have HO433 := n13_
                        have BK329 := n14_
                        have HB := n15_
                        clear n0_ n1_ n2_ n3_ n4_ n5_ n6_ n7_ n8_ n9_ n10_ n11_ n12_ n13_ n14_ n15_
                        (try clear hb)
                        (try clear hb2)
                        (try clear hk)
                        (try clear hi)
                        (try clear ho0)
                        (try clear ho1)
                        obtain ⟨Ao85, co85, eo85⟩ := Kd.R_slice HO430.out
                        (first | subst eo85 | (injection eo85 with f1_ f2_ f3_; have f4_ := f1_.symm; have f5_ := f3_.symm; clear f1_ f2_ f3_; subst f4_; subst f5_))
                        obtain ⟨Ao86, co86, eo86⟩ := Kd.R_slice HO433.out
                        (first | subst eo86 | (injection eo86 with f1_ f2_ f3_; have f4_ := f1_.symm; have f5_ := f3_.symm; clear f1_ f2_ f3_; subst f4_; subst f5_))
                        refine hK.out _ _ ⟨(blk_cell BK329.out 0).trans rfl, (blk_cell BK329.out 1).trans rfl⟩ (fun hHeld => ?_)
                        clear hK K
                        refine norm_ (a' := ?_) ?_ ?_
                        rotate_left
                        · show Act.put _ (some 122) _ = _
                          simp only [Act.put, List.setIfInBounds_toArray, List.set_cons_zero, List.set_cons_succ, i64_w, i32_w]
                          rfl
                        refine one_ (i := 36) (N := some 124) #[true, true, true, true, true, true, true, true, true, true, true, true, true, true, true, true, true, true, true, true, true, true, true, true, true, true, true, true, true, true, true, true, true, true, true, true, true, true, true, false, false, false, false, false, false, false, false, false, false, false, false, false] rfl rfl (one_of HT_.out (by kernel_rfl)) (by decide) (fun K hK => ?_)
                        refine goes_ Try.func21 (by kernel_rfl) rfl #[.agg #[.slice Ao85 t428.length co85, .slice Ao86 t431.length co86], .int .i64 a1] (by rfl) rfl rfl (by (try simp only [List.map_toArray, List.map_cons, List.map_nil]); first | done | rfl | (simp only [List.length_drop, List.length_take]; rfl)) ?_
                        with_reducible refine (dag_Succs.calls _ _ t428 _ _ t431 a1 t434 _ ?side1 ?side2 ?side3 ?side4 A53.out).mono ?_
                        (case side1 => repeat (first | exact (Kd.R_reads' HO430.out).2.2 | (with_reducible refine Kd.C_alloc ?_ _) | (with_reducible refine Kd.C_drewN ?_ _) | (with_reducible refine Kd.C_drew ?_)))
                        (case side2 => exact (Kd.R_reads' HO430.out).2.1)
                        (case side3 => repeat (first | exact (Kd.R_reads' HO433.out).2.2 | (with_reducible refine Kd.C_alloc ?_ _) | (with_reducible refine Kd.C_drewN ?_ _) | (with_reducible refine Kd.C_drew ?_)))
                        (case side4 => exact (Kd.R_reads' HO433.out).2.1)
                        rintro e w87 ⟨v435, rfl, ho0, hb⟩
                        refine ⟨_, rfl, ?_⟩
                        have n0_ := Aside0.mk (Kd.R_elder' (by (with_reducible repeat (first | apply Kd.R_alloc | apply Kd.R_drewN | apply Kd.R_drew)); exact HO388.out) (Kd.R_base ho0) hb)
                        have n1_ := Aside0.mk (Kd.R_below (by (with_reducible repeat (first | apply Kd.R_alloc | apply Kd.R_drewN | apply Kd.R_drew)); exact HO391.out) hb)
                        have n2_ := Aside0.mk (Kd.R_elder' (by (with_reducible repeat (first | apply Kd.R_alloc | apply Kd.R_drewN | apply Kd.R_drew)); exact HO394.out) (Kd.R_base ho0) hb)
                        have n3_ := Aside0.mk (Kd.R_elder' (by (with_reducible repeat (first | apply Kd.R_alloc | apply Kd.R_drewN | apply Kd.R_drew)); exact HO397.out) (Kd.R_base ho0) hb)
                        have n4_ := Aside0.mk (Kd.R_elder' (by (with_reducible repeat (first | apply Kd.R_alloc | apply Kd.R_drewN | apply Kd.R_drew)); exact HO401.out) (Kd.R_base ho0) hb)
                        have n5_ := Aside0.mk (Kd.R_below (by (with_reducible repeat (first | apply Kd.R_alloc | apply Kd.R_drewN | apply Kd.R_drew)); exact HO404.out) hb)
                        have n6_ := Aside0.mk (Kd.R_elder' (by (with_reducible repeat (first | apply Kd.R_alloc | apply Kd.R_drewN | apply Kd.R_drew)); exact HO409.out) (Kd.R_base ho0) hb)
                        have n7_ := Aside0.mk (Kd.R_below (by (with_reducible repeat (first | apply Kd.R_alloc | apply Kd.R_drewN | apply Kd.R_drew)); exact HO412.out) hb)
                        have n8_ := Aside0.mk (Kd.R_elder' (by (with_reducible repeat (first | apply Kd.R_alloc | apply Kd.R_drewN | apply Kd.R_drew)); exact HO417.out) (Kd.R_base ho0) hb)
                        have n9_ := Aside0.mk (Kd.R_below (by (with_reducible repeat (first | apply Kd.R_alloc | apply Kd.R_drewN | apply Kd.R_drew)); exact HO420.out) hb)
                        have n10_ := Aside0.mk (Kd.R_elder' (by (with_reducible repeat (first | apply Kd.R_alloc | apply Kd.R_drewN | apply Kd.R_drew)); exact HO423.out) (Kd.R_base ho0) hb)
                        have n11_ := Aside0.mk (Kd.R_elder' (by (with_reducible repeat (first | apply Kd.R_alloc | apply Kd.R_drewN | apply Kd.R_drew)); exact HO426.out) (Kd.R_base ho0) hb)
                        have n12_ := Aside0.mk (Kd.R_elder' (by (with_reducible repeat (first | apply Kd.R_alloc | apply Kd.R_drewN | apply Kd.R_drew)); exact HO430.out) (Kd.R_base ho0) hb)
                        have n13_ := Aside0.mk (Kd.R_below (by (with_reducible repeat (first | apply Kd.R_alloc | apply Kd.R_drewN | apply Kd.R_drew)); exact HO433.out) hb)
                        have n14_ := Aside0.mk (Kd.R_lower (Kd.R_new' (Kd.R_new' (Kd.R_new' (Kd.R_new' (Kd.R_new' (Kd.R_new' (Kd.R_new' (Kd.R_new' (Kd.R_new' ho0 (Kd.R_lt (by (with_reducible repeat (first | apply Kd.R_alloc | apply Kd.R_drewN | apply Kd.R_drew)); exact HO388.out))) (Kd.R_lt (by (with_reducible repeat (first | apply Kd.R_alloc | apply Kd.R_drewN | apply Kd.R_drew)); exact HO394.out))) (Kd.R_lt (by (with_reducible repeat (first | apply Kd.R_alloc | apply Kd.R_drewN | apply Kd.R_drew)); exact HO397.out))) (Kd.R_lt (by (with_reducible repeat (first | apply Kd.R_alloc | apply Kd.R_drewN | apply Kd.R_drew)); exact HO401.out))) (Kd.R_lt (by (with_reducible repeat (first | apply Kd.R_alloc | apply Kd.R_drewN | apply Kd.R_drew)); exact HO409.out))) (Kd.R_lt (by (with_reducible repeat (first | apply Kd.R_alloc | apply Kd.R_drewN | apply Kd.R_drew)); exact HO417.out))) (Kd.R_lt (by (with_reducible repeat (first | apply Kd.R_alloc | apply Kd.R_drewN | apply Kd.R_drew)); exact HO423.out))) (Kd.R_lt (by (with_reducible repeat (first | apply Kd.R_alloc | apply Kd.R_drewN | apply Kd.R_drew)); exact HO426.out))) (Kd.R_lt (by (with_reducible repeat (first | apply Kd.R_alloc | apply Kd.R_drewN | apply Kd.R_drew)); exact HO430.out))) (below_size (by repeat (first | (with_reducible first | exact HB.out | apply below_alloc | apply pw_below_drewN | apply below_drew1 | refine below_set ?_ GE329.out) | exact HB.out))))
                        have n15_ := Aside0.mk (blk_below (g := gb329) (o := .cells #[.slice A0_0 l0_0.length c0_0, .slice A0_1 l0_1.length c0_1] 25 (0, 0)) (by (with_reducible repeat (first | refine blk_drewN ?_ _ | refine blk_drew ?_ | refine blk_alloc ?_ _)); exact BK329.out) hb)
                        have n16_ := Aside0.mk (below_step (by repeat (first | (with_reducible first | exact HB.out | apply below_alloc | apply pw_below_drewN | apply below_drew1 | refine below_set ?_ GE329.out) | exact HB.out)) hb)
                        clear HO388
                        clear HO391
                        clear HO394
                        clear HO397
                        clear HO401
                        clear HO404
                        clear HO409
                        clear HO412
                        clear HO417
                        clear HO420
                        clear HO423
                        clear HO426
                        clear HO430
                        clear HO433
                        clear BK329
                        clear HB
                        have HO388 := n0_
                        have HO391 := n1_
                        have HO394 := n2_
                        have HO397 := n3_
                        have HO401 := n4_
                        have HO404 := n5_
                        have HO409 := n6_
                        have HO412 := n7_
                        have HO417 := n8_
                        have HO420 := n9_
                        have HO423 := n10_
                        have HO426 := n11_
                        have HO430 := n12_
                        have HO433 := n13_
                        have HO436 := n14_
                        have BK329 := n15_
                        have HB := n16_
                        clear n0_ n1_ n2_ n3_ n4_ n5_ n6_ n7_ n8_ n9_ n10_ n11_ n12_ n13_ n14_ n15_ n16_
                        (try clear hb)
                        (try clear hb2)
                        (try clear hk)
                        (try clear hi)
                        (try clear ho0)
                        refine hK.out _ _ ⟨(blk_cell BK329.out 0).trans rfl, (blk_cell BK329.out 1).trans rfl⟩ (fun hHeld => ?_)
                        clear hK K
                        refine norm_ (a' := ?_) ?_ ?_
                        rotate_left
                        · show Act.put _ (some 124) _ = _
                          simp only [Act.put, List.setIfInBounds_toArray, List.set_cons_zero, List.set_cons_succ, i64_w, i32_w]
                          rfl
                        refine one_ (i := 39) (N := some 127) #[true, true, true, true, true, true, true, true, true, true, true, true, true, true, true, true, true, true, true, true, true, true, true, true, true, true, true, true, true, true, true, true, true, true, true, true, true, true, true, true, false, false, false, false, false, false, false, false, false, false, false, false] rfl rfl (one_of HT_.out (by kernel_rfl)) (by decide) (fun K hK => ?_)
                        refine goes_ Try.func29 (by kernel_rfl) rfl #[.agg #[.slice A0_0 l0_0.length c0_0, .slice A0_1 l0_1.length c0_1], .int .i64 a1] (by rfl) rfl rfl (by (try simp only [List.map_toArray, List.map_cons, List.map_nil]); first | done | rfl | (simp only [List.length_drop, List.length_take]; rfl)) ?_
                        with_reducible refine (trefoilref04_Succs.calls kj17 _ _ l0_0 _ _ l0_1 a1 t437 _ ?side1 ?side2 ?side3 ?side4 A54.out).mono ?_
                        (case side1 => repeat (first | exact (Kd.C_below HR0_0.out HB.out) | (with_reducible refine Kd.C_alloc ?_ _) | (with_reducible refine Kd.C_drewN ?_ _) | (with_reducible refine Kd.C_drew ?_)))
                        (case side2 => exact HC0_0.out)
                        (case side3 => repeat (first | exact (Kd.C_below HR0_1.out HB.out) | (with_reducible refine Kd.C_alloc ?_ _) | (with_reducible refine Kd.C_drewN ?_ _) | (with_reducible refine Kd.C_drew ?_)))
                        (case side4 => exact HC0_1.out)
                        rintro e w88 ⟨v438, rfl, ho0, hb⟩
                        refine ⟨_, rfl, ?_⟩
                        have n0_ := Aside0.mk (Kd.R_elder' (by (with_reducible repeat (first | apply Kd.R_alloc | apply Kd.R_drewN | apply Kd.R_drew)); exact HO388.out) (Kd.R_base ho0) hb)
                        have n1_ := Aside0.mk (Kd.R_below (by (with_reducible repeat (first | apply Kd.R_alloc | apply Kd.R_drewN | apply Kd.R_drew)); exact HO391.out) hb)
                        have n2_ := Aside0.mk (Kd.R_elder' (by (with_reducible repeat (first | apply Kd.R_alloc | apply Kd.R_drewN | apply Kd.R_drew)); exact HO394.out) (Kd.R_base ho0) hb)
                        have n3_ := Aside0.mk (Kd.R_elder' (by (with_reducible repeat (first | apply Kd.R_alloc | apply Kd.R_drewN | apply Kd.R_drew)); exact HO397.out) (Kd.R_base ho0) hb)
                        have n4_ := Aside0.mk (Kd.R_elder' (by (with_reducible repeat (first | apply Kd.R_alloc | apply Kd.R_drewN | apply Kd.R_drew)); exact HO401.out) (Kd.R_base ho0) hb)
                        have n5_ := Aside0.mk (Kd.R_below (by (with_reducible repeat (first | apply Kd.R_alloc | apply Kd.R_drewN | apply Kd.R_drew)); exact HO404.out) hb)
                        have n6_ := Aside0.mk (Kd.R_elder' (by (with_reducible repeat (first | apply Kd.R_alloc | apply Kd.R_drewN | apply Kd.R_drew)); exact HO409.out) (Kd.R_base ho0) hb)
                        have n7_ := Aside0.mk (Kd.R_below (by (with_reducible repeat (first | apply Kd.R_alloc | apply Kd.R_drewN | apply Kd.R_drew)); exact HO412.out) hb)
                        have n8_ := Aside0.mk (Kd.R_elder' (by (with_reducible repeat (first | apply Kd.R_alloc | apply Kd.R_drewN | apply Kd.R_drew)); exact HO417.out) (Kd.R_base ho0) hb)
                        have n9_ := Aside0.mk (Kd.R_below (by (with_reducible repeat (first | apply Kd.R_alloc | apply Kd.R_drewN | apply Kd.R_drew)); exact HO420.out) hb)
                        have n10_ := Aside0.mk (Kd.R_elder' (by (with_reducible repeat (first | apply Kd.R_alloc | apply Kd.R_drewN | apply Kd.R_drew)); exact HO423.out) (Kd.R_base ho0) hb)
                        have n11_ := Aside0.mk (Kd.R_elder' (by (with_reducible repeat (first | apply Kd.R_alloc | apply Kd.R_drewN | apply Kd.R_drew)); exact HO426.out) (Kd.R_base ho0) hb)
                        have n12_ := Aside0.mk (Kd.R_elder' (by (with_reducible repeat (first | apply Kd.R_alloc | apply Kd.R_drewN | apply Kd.R_drew)); exact HO430.out) (Kd.R_base ho0) hb)
                        have n13_ := Aside0.mk (Kd.R_below (by (with_reducible repeat (first | apply Kd.R_alloc | apply Kd.R_drewN | apply Kd.R_drew)); exact HO433.out) hb)
                        have n14_ := Aside0.mk (Kd.R_elder' (by (with_reducible repeat (first | apply Kd.R_alloc | apply Kd.R_drewN | apply Kd.R_drew)); exact HO436.out) (Kd.R_base ho0) hb)
                        have n15_ := Aside0.mk (Kd.R_lower (Kd.R_new' (Kd.R_new' (Kd.R_new' (Kd.R_new' (Kd.R_new' (Kd.R_new' (Kd.R_new' (Kd.R_new' (Kd.R_new' (Kd.R_new' ho0 (Kd.R_lt (by (with_reducible repeat (first | apply Kd.R_alloc | apply Kd.R_drewN | apply Kd.R_drew)); exact HO388.out))) (Kd.R_lt (by (with_reducible repeat (first | apply Kd.R_alloc | apply Kd.R_drewN | apply Kd.R_drew)); exact HO394.out))) (Kd.R_lt (by (with_reducible repeat (first | apply Kd.R_alloc | apply Kd.R_drewN | apply Kd.R_drew)); exact HO397.out))) (Kd.R_lt (by (with_reducible repeat (first | apply Kd.R_alloc | apply Kd.R_drewN | apply Kd.R_drew)); exact HO401.out))) (Kd.R_lt (by (with_reducible repeat (first | apply Kd.R_alloc | apply Kd.R_drewN | apply Kd.R_drew)); exact HO409.out))) (Kd.R_lt (by (with_reducible repeat (first | apply Kd.R_alloc | apply Kd.R_drewN | apply Kd.R_drew)); exact HO417.out))) (Kd.R_lt (by (with_reducible repeat (first | apply Kd.R_alloc | apply Kd.R_drewN | apply Kd.R_drew)); exact HO423.out))) (Kd.R_lt (by (with_reducible repeat (first | apply Kd.R_alloc | apply Kd.R_drewN | apply Kd.R_drew)); exact HO426.out))) (Kd.R_lt (by (with_reducible repeat (first | apply Kd.R_alloc | apply Kd.R_drewN | apply Kd.R_drew)); exact HO430.out))) (Kd.R_lt (by (with_reducible repeat (first | apply Kd.R_alloc | apply Kd.R_drewN | apply Kd.R_drew)); exact HO436.out))) (below_size (by repeat (first | (with_reducible first | exact HB.out | apply below_alloc | apply pw_below_drewN | apply below_drew1 | refine below_set ?_ GE329.out) | exact HB.out))))
                        have n16_ := Aside0.mk (blk_below (g := gb329) (o := .cells #[.slice A0_0 l0_0.length c0_0, .slice A0_1 l0_1.length c0_1] 25 (0, 0)) (by (with_reducible repeat (first | refine blk_drewN ?_ _ | refine blk_drew ?_ | refine blk_alloc ?_ _)); exact BK329.out) hb)
                        have n17_ := Aside0.mk (below_step (by repeat (first | (with_reducible first | exact HB.out | apply below_alloc | apply pw_below_drewN | apply below_drew1 | refine below_set ?_ GE329.out) | exact HB.out)) hb)
                        clear HO388
                        clear HO391
                        clear HO394
                        clear HO397
                        clear HO401
                        clear HO404
                        clear HO409
                        clear HO412
                        clear HO417
                        clear HO420
                        clear HO423
                        clear HO426
                        clear HO430
                        clear HO433
                        clear HO436
                        clear BK329
                        clear HB
                        have HO388 := n0_
                        have HO391 := n1_
                        have HO394 := n2_
                        have HO397 := n3_
                        have HO401 := n4_
                        have HO404 := n5_
                        have HO409 := n6_
                        have HO412 := n7_
                        have HO417 := n8_
                        have HO420 := n9_
                        have HO423 := n10_
                        have HO426 := n11_
                        have HO430 := n12_
                        have HO433 := n13_
                        have HO436 := n14_
                        have HO439 := n15_
                        have BK329 := n16_
                        have HB := n17_
                        clear n0_ n1_ n2_ n3_ n4_ n5_ n6_ n7_ n8_ n9_ n10_ n11_ n12_ n13_ n14_ n15_ n16_ n17_
                        (try clear hb)
                        (try clear hb2)
                        (try clear hk)
                        (try clear hi)
                        (try clear ho0)
                        obtain ⟨Ao89, co89, eo89⟩ := Kd.R_slice HO436.out
                        (first | subst eo89 | (injection eo89 with f1_ f2_ f3_; have f4_ := f1_.symm; have f5_ := f3_.symm; clear f1_ f2_ f3_; subst f4_; subst f5_))
                        obtain ⟨Ao90, co90, eo90⟩ := Kd.R_slice HO439.out
                        (first | subst eo90 | (injection eo90 with f1_ f2_ f3_; have f4_ := f1_.symm; have f5_ := f3_.symm; clear f1_ f2_ f3_; subst f4_; subst f5_))
                        refine hK.out _ _ ⟨(blk_cell BK329.out 0).trans rfl, (blk_cell BK329.out 1).trans rfl⟩ (fun hHeld => ?_)
                        clear hK K
                        refine norm_ (a' := ?_) ?_ ?_
                        rotate_left
                        · show Act.put _ (some 127) _ = _
                          simp only [Act.put, List.setIfInBounds_toArray, List.set_cons_zero, List.set_cons_succ, i64_w, i32_w]
                          rfl
                        refine one_ (i := 40) (N := some 128) #[true, true, true, true, true, true, true, true, true, true, true, true, true, true, true, true, true, true, true, true, true, true, true, true, true, true, true, true, true, true, true, true, true, true, true, true, true, true, true, true, true, false, false, false, false, false, false, false, false, false, false, false] rfl rfl (one_of HT_.out (by kernel_rfl)) (by decide) (fun K hK => ?_)
                        refine goes_ Try.func24 (by kernel_rfl) rfl #[.slice Ao89 t434.length co89, .slice Ao90 t437.length co90] (by rfl) rfl rfl (by (try simp only [List.map_toArray, List.map_cons, List.map_nil]); first | done | rfl | (simp only [List.length_drop, List.length_take]; rfl)) ?_
                        with_reducible refine (trefoilref02_Ints.calls kj17 _ _ t434 _ _ t437 true _ ?side1 ?side2 ?side3 ?side4 A55.out).mono ?_
                        (case side1 => repeat (first | exact (Kd.R_reads' HO436.out).2.2 | (with_reducible refine Kd.C_alloc ?_ _) | (with_reducible refine Kd.C_drewN ?_ _) | (with_reducible refine Kd.C_drew ?_)))
                        (case side2 => exact (Kd.R_reads' HO436.out).2.1)
                        (case side3 => repeat (first | exact (Kd.R_reads' HO439.out).2.2 | (with_reducible refine Kd.C_alloc ?_ _) | (with_reducible refine Kd.C_drewN ?_ _) | (with_reducible refine Kd.C_drew ?_)))
                        (case side4 => exact (Kd.R_reads' HO439.out).2.1)
                        rintro e w' ⟨rfl, ⟨nd, rfl⟩⟩
                        refine ⟨_, rfl, ?_⟩
                        refine hK.out _ _ ⟨(blk_cell BK329.out 0).trans rfl, (blk_cell BK329.out 1).trans rfl⟩ (fun hHeld => ?_)
                        clear hK K
                        refine norm_ (a' := ?_) ?_ ?_
                        rotate_left
                        · show Act.put _ (some 128) _ = _
                          simp only [Act.put, List.setIfInBounds_toArray, List.set_cons_zero, List.set_cons_succ, i64_w, i32_w]
                          rfl
                        refine pure_ (i := 41) (N := some 129) (v := ?_) (a' := ?_) #[true, true, true, true, true, true, true, true, true, true, true, true, true, true, true, true, true, true, true, true, true, true, true, true, true, true, true, true, true, true, true, true, true, true, true, true, true, true, true, true, true, true, false, false, false, false, false, false, false, false, false, false] rfl rfl (any_of HT_.out (by kernel_rfl)) (fun _ _ _ h => h) (Or.inl ⟨by rfl, ?_⟩) ?_ ?_
                        rotate_left
                        · intro w'
                          go_simp
                          with_reducible rfl
                        rotate_left
                        · simp only [Act.put, List.setIfInBounds_toArray, List.set_cons_zero, List.set_cons_succ, i64_w, i32_w]
                          rfl
                        refine pure_ (i := 42) (N := some 130) (v := ?_) (a' := ?_) #[true, true, true, true, true, true, true, true, true, true, true, true, true, true, true, true, true, true, true, true, true, true, true, true, true, true, true, true, true, true, true, true, true, true, true, true, true, true, true, true, true, true, true, false, false, false, false, false, false, false, false, false] rfl rfl (any_of HT_.out (by kernel_rfl)) (fun _ _ _ h => h) (Or.inl ⟨by rfl, ?_⟩) ?_ ?_
                        rotate_left
                        · intro w'
                          go_simp
                          with_reducible rfl
                        rotate_left
                        · simp only [Act.put, List.setIfInBounds_toArray, List.set_cons_zero, List.set_cons_succ, i64_w, i32_w]
                          rfl
                        refine pure_ (i := 45) (N := some 133) (v := ?_) (a' := ?_) #[true, true, true, true, true, true, true, true, true, true, true, true, true, true, true, true, true, true, true, true, true, true, true, true, true, true, true, true, true, true, true, true, true, true, true, true, true, true, true, true, true, true, true, false, false, true, false, false, false, false, false, false] rfl rfl (any_of HT_.out (by kernel_rfl)) (fun _ _ _ h => h) (Or.inl ⟨by rfl, ?_⟩) ?_ ?_
                        rotate_left
                        · intro w'
                          go_simp
                          with_reducible rfl
                        rotate_left
                        · simp only [Act.put, List.setIfInBounds_toArray, List.set_cons_zero, List.set_cons_succ, i64_w, i32_w]
                          rfl
                        refine pure_ (i := 46) (N := some 134) (v := ?_) (a' := ?_) #[true, true, true, true, true, true, true, true, true, true, true, true, true, true, true, true, true, true, true, true, true, true, true, true, true, true, true, true, true, true, true, true, true, true, true, true, true, true, true, true, true, true, true, false, false, true, true, false, false, false, false, false] rfl rfl (any_of HT_.out (by kernel_rfl)) (fun _ _ _ h => h) (Or.inl ⟨by rfl, ?_⟩) ?_ ?_
                        rotate_left
                        · intro w'
                          go_simp
                          with_reducible rfl
                        rotate_left
                        · simp only [Act.put, List.setIfInBounds_toArray, List.set_cons_zero, List.set_cons_succ, i64_w, i32_w]
                          rfl
                        refine pure_ (i := 48) (N := some 136) (v := ?_) (a' := ?_) #[true, true, true, true, true, true, true, true, true, true, true, true, true, true, true, true, true, true, true, true, true, true, true, true, true, true, true, true, true, true, true, true, true, true, true, true, true, true, true, true, true, true, true, false, false, true, true, false, true, false, false, false] rfl rfl (any_of HT_.out (by kernel_rfl)) (fun _ _ _ h => h) (Or.inl ⟨by rfl, ?_⟩) ?_ ?_
                        rotate_left
                        · intro w'
                          go_simp
                          with_reducible rfl
                        rotate_left
                        · simp only [Act.put, List.setIfInBounds_toArray, List.set_cons_zero, List.set_cons_succ, i64_w, i32_w]
                          rfl
                        refine take_ (i := 43) (N := some 131) (v := ?_) (a' := ?_) #[true, true, true, true, true, true, true, true, true, true, true, true, true, true, true, true, true, true, true, true, true, true, true, true, true, true, true, true, true, true, true, true, true, true, true, true, true, true, true, true, true, true, true, true, false, true, true, false, true, false, false, false] rfl rfl (take_ofW HT_.out HW_.out (by kernel_rfl)) (fun _ _ _ h => h) (Or.inl ⟨by rfl, ?_⟩) hHeld ?_ ?_
                        rotate_left
                        · rintro w' ⟨s0, s1⟩
                          go_simp
                          with_reducible rfl
                        rotate_left
                        · simp only [Act.put, List.setIfInBounds_toArray, List.set_cons_zero, List.set_cons_succ, i64_w, i32_w]
                          rfl
                        refine one_ (i := 44) (N := some 132) #[true, true, true, true, true, true, true, true, true, true, true, true, true, true, true, true, true, true, true, true, true, true, true, true, true, true, true, true, true, true, true, true, true, true, true, true, true, true, true, true, true, true, true, true, true, true, true, false, true, false, false, false] rfl rfl (one_of HT_.out (by kernel_rfl)) (by decide) (fun K hK => ?_)
                        refine goes_ Try.func13 (by kernel_rfl) rfl #[.agg #[.slice A0_0 l0_0.length c0_0, .slice A0_1 l0_1.length c0_1]] (by rfl) rfl rfl (by (try simp only [List.map_toArray, List.map_cons, List.map_nil]); first | done | rfl | (simp only [List.length_drop, List.length_take]; rfl)) ?_
                        with_reducible refine (trefoillaw04_Own.calls _ _ l0_0 _ _ l0_1 t441 t444 _ ?side1 ?side2 ?side3 ?side4 A57.out).mono ?_
                        (case side1 => repeat (first | exact (Kd.C_below HR0_0.out (by repeat (first | (with_reducible first | exact HB.out | apply below_alloc | apply pw_below_drewN | apply below_drew1 | refine below_set ?_ GE329.out) | exact HB.out))) | (with_reducible refine Kd.C_alloc ?_ _) | (with_reducible refine Kd.C_drewN ?_ _) | (with_reducible refine Kd.C_drew ?_)))
                        (case side2 => exact HC0_0.out)
                        (case side3 => repeat (first | exact (Kd.C_below HR0_1.out (by repeat (first | (with_reducible first | exact HB.out | apply below_alloc | apply pw_below_drewN | apply below_drew1 | refine below_set ?_ GE329.out) | exact HB.out))) | (with_reducible refine Kd.C_alloc ?_ _) | (with_reducible refine Kd.C_drewN ?_ _) | (with_reducible refine Kd.C_drew ?_)))
                        (case side4 => exact HC0_1.out)
                        rintro e w91 ⟨v442, v445, rfl, ho0, ho1, hb⟩
                        refine ⟨_, rfl, ?_⟩
                        have n0_ := Aside0.mk (Kd.R_elder' (by (with_reducible repeat (first | apply Kd.R_alloc | apply Kd.R_drewN | apply Kd.R_drew)); exact HO388.out) (Kd.R_base ho0) hb)
                        have n1_ := Aside0.mk (Kd.R_elder' (by (with_reducible repeat (first | apply Kd.R_alloc | apply Kd.R_drewN | apply Kd.R_drew)); exact HO391.out) (Kd.R_base ho1) hb)
                        have n2_ := Aside0.mk (Kd.R_elder' (by (with_reducible repeat (first | apply Kd.R_alloc | apply Kd.R_drewN | apply Kd.R_drew)); exact HO394.out) (Kd.R_base ho0) hb)
                        have n3_ := Aside0.mk (Kd.R_elder' (by (with_reducible repeat (first | apply Kd.R_alloc | apply Kd.R_drewN | apply Kd.R_drew)); exact HO397.out) (Kd.R_base ho0) hb)
                        have n4_ := Aside0.mk (Kd.R_elder' (by (with_reducible repeat (first | apply Kd.R_alloc | apply Kd.R_drewN | apply Kd.R_drew)); exact HO401.out) (Kd.R_base ho0) hb)
                        have n5_ := Aside0.mk (Kd.R_elder' (by (with_reducible repeat (first | apply Kd.R_alloc | apply Kd.R_drewN | apply Kd.R_drew)); exact HO404.out) (Kd.R_base ho1) hb)
                        have n6_ := Aside0.mk (Kd.R_elder' (by (with_reducible repeat (first | apply Kd.R_alloc | apply Kd.R_drewN | apply Kd.R_drew)); exact HO409.out) (Kd.R_base ho0) hb)
                        have n7_ := Aside0.mk (Kd.R_elder' (by (with_reducible repeat (first | apply Kd.R_alloc | apply Kd.R_drewN | apply Kd.R_drew)); exact HO412.out) (Kd.R_base ho1) hb)
                        have n8_ := Aside0.mk (Kd.R_elder' (by (with_reducible repeat (first | apply Kd.R_alloc | apply Kd.R_drewN | apply Kd.R_drew)); exact HO417.out) (Kd.R_base ho0) hb)
                        have n9_ := Aside0.mk (Kd.R_elder' (by (with_reducible repeat (first | apply Kd.R_alloc | apply Kd.R_drewN | apply Kd.R_drew)); exact HO420.out) (Kd.R_base ho1) hb)
                        have n10_ := Aside0.mk (Kd.R_elder' (by (with_reducible repeat (first | apply Kd.R_alloc | apply Kd.R_drewN | apply Kd.R_drew)); exact HO423.out) (Kd.R_base ho0) hb)
                        have n11_ := Aside0.mk (Kd.R_elder' (by (with_reducible repeat (first | apply Kd.R_alloc | apply Kd.R_drewN | apply Kd.R_drew)); exact HO426.out) (Kd.R_base ho0) hb)
                        have n12_ := Aside0.mk (Kd.R_elder' (by (with_reducible repeat (first | apply Kd.R_alloc | apply Kd.R_drewN | apply Kd.R_drew)); exact HO430.out) (Kd.R_base ho0) hb)
                        have n13_ := Aside0.mk (Kd.R_elder' (by (with_reducible repeat (first | apply Kd.R_alloc | apply Kd.R_drewN | apply Kd.R_drew)); exact HO433.out) (Kd.R_base ho1) hb)
                        have n14_ := Aside0.mk (Kd.R_elder' (by (with_reducible repeat (first | apply Kd.R_alloc | apply Kd.R_drewN | apply Kd.R_drew)); exact HO436.out) (Kd.R_base ho0) hb)
                        have n15_ := Aside0.mk (Kd.R_elder' (by (with_reducible repeat (first | apply Kd.R_alloc | apply Kd.R_drewN | apply Kd.R_drew)); exact HO439.out) (Kd.R_base ho0) hb)
                        have n16_ := Aside0.mk (Kd.R_lower (Kd.R_new' (Kd.R_new' (Kd.R_new' (Kd.R_new' (Kd.R_new' (Kd.R_new' (Kd.R_new' (Kd.R_new' (Kd.R_new' (Kd.R_new' (Kd.R_new' ho0 (Kd.R_lt (by (with_reducible repeat (first | apply Kd.R_alloc | apply Kd.R_drewN | apply Kd.R_drew)); exact HO388.out))) (Kd.R_lt (by (with_reducible repeat (first | apply Kd.R_alloc | apply Kd.R_drewN | apply Kd.R_drew)); exact HO394.out))) (Kd.R_lt (by (with_reducible repeat (first | apply Kd.R_alloc | apply Kd.R_drewN | apply Kd.R_drew)); exact HO397.out))) (Kd.R_lt (by (with_reducible repeat (first | apply Kd.R_alloc | apply Kd.R_drewN | apply Kd.R_drew)); exact HO401.out))) (Kd.R_lt (by (with_reducible repeat (first | apply Kd.R_alloc | apply Kd.R_drewN | apply Kd.R_drew)); exact HO409.out))) (Kd.R_lt (by (with_reducible repeat (first | apply Kd.R_alloc | apply Kd.R_drewN | apply Kd.R_drew)); exact HO417.out))) (Kd.R_lt (by (with_reducible repeat (first | apply Kd.R_alloc | apply Kd.R_drewN | apply Kd.R_drew)); exact HO423.out))) (Kd.R_lt (by (with_reducible repeat (first | apply Kd.R_alloc | apply Kd.R_drewN | apply Kd.R_drew)); exact HO426.out))) (Kd.R_lt (by (with_reducible repeat (first | apply Kd.R_alloc | apply Kd.R_drewN | apply Kd.R_drew)); exact HO430.out))) (Kd.R_lt (by (with_reducible repeat (first | apply Kd.R_alloc | apply Kd.R_drewN | apply Kd.R_drew)); exact HO436.out))) (Kd.R_lt (by (with_reducible repeat (first | apply Kd.R_alloc | apply Kd.R_drewN | apply Kd.R_drew)); exact HO439.out))) (below_size (by repeat (first | (with_reducible first | exact HB.out | apply below_alloc | apply pw_below_drewN | apply below_drew1 | refine below_set ?_ GE329.out) | exact HB.out))))
                        have n17_ := Aside0.mk (Kd.R_lower (Kd.R_new' (Kd.R_new' (Kd.R_new' (Kd.R_new' (Kd.R_new' ho1 (Kd.R_lt (by (with_reducible repeat (first | apply Kd.R_alloc | apply Kd.R_drewN | apply Kd.R_drew)); exact HO391.out))) (Kd.R_lt (by (with_reducible repeat (first | apply Kd.R_alloc | apply Kd.R_drewN | apply Kd.R_drew)); exact HO404.out))) (Kd.R_lt (by (with_reducible repeat (first | apply Kd.R_alloc | apply Kd.R_drewN | apply Kd.R_drew)); exact HO412.out))) (Kd.R_lt (by (with_reducible repeat (first | apply Kd.R_alloc | apply Kd.R_drewN | apply Kd.R_drew)); exact HO420.out))) (Kd.R_lt (by (with_reducible repeat (first | apply Kd.R_alloc | apply Kd.R_drewN | apply Kd.R_drew)); exact HO433.out))) (below_size (by repeat (first | (with_reducible first | exact HB.out | apply below_alloc | apply pw_below_drewN | apply below_drew1 | refine below_set ?_ GE329.out) | exact HB.out))))
                        have n18_ := Aside0.mk (blk_below (g := gb329) (o := .cells #[.slice A0_0 l0_0.length c0_0, .slice A0_1 l0_1.length c0_1] 25 (0, 0)) (by (with_reducible repeat (first | refine blk_drewN ?_ _ | refine blk_drew ?_ | refine blk_alloc ?_ _)); exact BK329.out) hb)
                        have n19_ := Aside0.mk (below_step (by repeat (first | (with_reducible first | exact HB.out | apply below_alloc | apply pw_below_drewN | apply below_drew1 | refine below_set ?_ GE329.out) | exact HB.out)) hb)
                        clear HO388
                        clear HO391
                        clear HO394
                        clear HO397
                        clear HO401
                        clear HO404
                        clear HO409
                        clear HO412
                        clear HO417
                        clear HO420
                        clear HO423
                        clear HO426
                        clear HO430
                        clear HO433
                        clear HO436
                        clear HO439
                        clear BK329
                        clear HB
                        have HO388 := n0_
                        have HO391 := n1_
                        have HO394 := n2_
                        have HO397 := n3_
                        have HO401 := n4_
                        have HO404 := n5_
                        have HO409 := n6_
                        have HO412 := n7_
                        have HO417 := n8_
                        have HO420 := n9_
                        have HO423 := n10_
                        have HO426 := n11_
                        have HO430 := n12_
                        have HO433 := n13_
                        have HO436 := n14_
                        have HO439 := n15_
                        have HO443 := n16_
                        have HO446 := n17_
                        have BK329 := n18_
                        have HB := n19_
                        clear n0_ n1_ n2_ n3_ n4_ n5_ n6_ n7_ n8_ n9_ n10_ n11_ n12_ n13_ n14_ n15_ n16_ n17_ n18_ n19_
                        (try clear hb)
                        (try clear hb2)
                        (try clear hk)
                        (try clear hi)
                        (try clear ho0)
                        (try clear ho1)
                        obtain ⟨Ao92, co92, eo92⟩ := Kd.R_slice HO443.out
                        (first | subst eo92 | (injection eo92 with f1_ f2_ f3_; have f4_ := f1_.symm; have f5_ := f3_.symm; clear f1_ f2_ f3_; subst f4_; subst f5_))
                        obtain ⟨Ao93, co93, eo93⟩ := Kd.R_slice HO446.out
                        (first | subst eo93 | (injection eo93 with f1_ f2_ f3_; have f4_ := f1_.symm; have f5_ := f3_.symm; clear f1_ f2_ f3_; subst f4_; subst f5_))
                        refine hK.out _ _ ⟨(blk_cell BK329.out 0).trans rfl, (blk_cell BK329.out 1).trans rfl⟩ (fun hHeld => ?_)
                        clear hK K
                        refine norm_ (a' := ?_) ?_ ?_
                        rotate_left
                        · show Act.put _ (some 132) _ = _
                          simp only [Act.put, List.setIfInBounds_toArray, List.set_cons_zero, List.set_cons_succ, i64_w, i32_w]
                          rfl
                        refine one_ (i := 47) (N := some 135) #[true, true, true, true, true, true, true, true, true, true, true, true, true, true, true, true, true, true, true, true, true, true, true, true, true, true, true, true, true, true, true, true, true, true, true, true, true, true, true, true, true, true, true, true, true, true, true, true, true, false, false, false] rfl rfl (one_of HT_.out (by kernel_rfl)) (by decide) (fun K hK => ?_)
                        refine goes_ Try.func22 (by kernel_rfl) rfl #[.agg #[.slice Ao92 t441.length co92, .slice Ao93 t444.length co93], .int .i64 a1, .int .i64 a2] (by rfl) rfl rfl (by (try simp only [List.map_toArray, List.map_cons, List.map_nil]); first | done | rfl | (simp only [List.length_drop, List.length_take]; rfl)) ?_
                        with_reducible refine (dag_Before.calls _ _ t441 _ _ t444 a1 a2 t447 _ ?side1 ?side2 ?side3 ?side4 A58.out).mono ?_
                        (case side1 => repeat (first | exact (Kd.R_reads' HO443.out).2.2 | (with_reducible refine Kd.C_alloc ?_ _) | (with_reducible refine Kd.C_drewN ?_ _) | (with_reducible refine Kd.C_drew ?_)))
                        (case side2 => exact (Kd.R_reads' HO443.out).2.1)
                        (case side3 => repeat (first | exact (Kd.R_reads' HO446.out).2.2 | (with_reducible refine Kd.C_alloc ?_ _) | (with_reducible refine Kd.C_drewN ?_ _) | (with_reducible refine Kd.C_drew ?_)))
                        (case side4 => exact (Kd.R_reads' HO446.out).2.1)
                        rintro e w94 ⟨rfl, hb⟩
                        refine ⟨_, rfl, ?_⟩
                        have n0_ := Aside0.mk (Kd.R_below (by (with_reducible repeat (first | apply Kd.R_alloc | apply Kd.R_drewN | apply Kd.R_drew)); exact HO388.out) hb)
                        have n1_ := Aside0.mk (Kd.R_below (by (with_reducible repeat (first | apply Kd.R_alloc | apply Kd.R_drewN | apply Kd.R_drew)); exact HO391.out) hb)
                        have n2_ := Aside0.mk (Kd.R_below (by (with_reducible repeat (first | apply Kd.R_alloc | apply Kd.R_drewN | apply Kd.R_drew)); exact HO394.out) hb)
                        have n3_ := Aside0.mk (Kd.R_below (by (with_reducible repeat (first | apply Kd.R_alloc | apply Kd.R_drewN | apply Kd.R_drew)); exact HO397.out) hb)
                        have n4_ := Aside0.mk (Kd.R_below (by (with_reducible repeat (first | apply Kd.R_alloc | apply Kd.R_drewN | apply Kd.R_drew)); exact HO401.out) hb)
                        have n5_ := Aside0.mk (Kd.R_below (by (with_reducible repeat (first | apply Kd.R_alloc | apply Kd.R_drewN | apply Kd.R_drew)); exact HO404.out) hb)
                        have n6_ := Aside0.mk (Kd.R_below (by (with_reducible repeat (first | apply Kd.R_alloc | apply Kd.R_drewN | apply Kd.R_drew)); exact HO409.out) hb)
                        have n7_ := Aside0.mk (Kd.R_below (by (with_reducible repeat (first | apply Kd.R_alloc | apply Kd.R_drewN | apply Kd.R_drew)); exact HO412.out) hb)
                        have n8_ := Aside0.mk (Kd.R_below (by (with_reducible repeat (first | apply Kd.R_alloc | apply Kd.R_drewN | apply Kd.R_drew)); exact HO417.out) hb)
                        have n9_ := Aside0.mk (Kd.R_below (by (with_reducible repeat (first | apply Kd.R_alloc | apply Kd.R_drewN | apply Kd.R_drew)); exact HO420.out) hb)
                        have n10_ := Aside0.mk (Kd.R_below (by (with_reducible repeat (first | apply Kd.R_alloc | apply Kd.R_drewN | apply Kd.R_drew)); exact HO423.out) hb)
                        have n11_ := Aside0.mk (Kd.R_below (by (with_reducible repeat (first | apply Kd.R_alloc | apply Kd.R_drewN | apply Kd.R_drew)); exact HO426.out) hb)
                        have n12_ := Aside0.mk (Kd.R_below (by (with_reducible repeat (first | apply Kd.R_alloc | apply Kd.R_drewN | apply Kd.R_drew)); exact HO430.out) hb)
                        have n13_ := Aside0.mk (Kd.R_below (by (with_reducible repeat (first | apply Kd.R_alloc | apply Kd.R_drewN | apply Kd.R_drew)); exact HO433.out) hb)
                        have n14_ := Aside0.mk (Kd.R_below (by (with_reducible repeat (first | apply Kd.R_alloc | apply Kd.R_drewN | apply Kd.R_drew)); exact HO436.out) hb)
                        have n15_ := Aside0.mk (Kd.R_below (by (with_reducible repeat (first | apply Kd.R_alloc | apply Kd.R_drewN | apply Kd.R_drew)); exact HO439.out) hb)
                        have n16_ := Aside0.mk (Kd.R_below (by (with_reducible repeat (first | apply Kd.R_alloc | apply Kd.R_drewN | apply Kd.R_drew)); exact HO443.out) hb)
                        have n17_ := Aside0.mk (Kd.R_below (by (with_reducible repeat (first | apply Kd.R_alloc | apply Kd.R_drewN | apply Kd.R_drew)); exact HO446.out) hb)
                        have n18_ := Aside0.mk (blk_below (g := gb329) (o := .cells #[.slice A0_0 l0_0.length c0_0, .slice A0_1 l0_1.length c0_1] 25 (0, 0)) (by (with_reducible repeat (first | refine blk_drewN ?_ _ | refine blk_drew ?_ | refine blk_alloc ?_ _)); exact BK329.out) hb)
                        have n19_ := Aside0.mk (below_step (by repeat (first | (with_reducible first | exact HB.out | apply below_alloc | apply pw_below_drewN | apply below_drew1 | refine below_set ?_ GE329.out) | exact HB.out)) hb)
                        clear HO388
                        clear HO391
                        clear HO394
                        clear HO397
                        clear HO401
                        clear HO404
                        clear HO409
                        clear HO412
                        clear HO417
                        clear HO420
                        clear HO423
                        clear HO426
                        clear HO430
                        clear HO433
                        clear HO436
                        clear HO439
                        clear HO443
                        clear HO446
                        clear BK329
                        clear HB
                        have HO388 := n0_
                        have HO391 := n1_
                        have HO394 := n2_
                        have HO397 := n3_
                        have HO401 := n4_
                        have HO404 := n5_
                        have HO409 := n6_
                        have HO412 := n7_
                        have HO417 := n8_
                        have HO420 := n9_
                        have HO423 := n10_
                        have HO426 := n11_
                        have HO430 := n12_
                        have HO433 := n13_
                        have HO436 := n14_
                        have HO439 := n15_
                        have HO443 := n16_
                        have HO446 := n17_
                        have BK329 := n18_
                        have HB := n19_
                        clear n0_ n1_ n2_ n3_ n4_ n5_ n6_ n7_ n8_ n9_ n10_ n11_ n12_ n13_ n14_ n15_ n16_ n17_ n18_ n19_
                        (try clear hb)
                        (try clear hb2)
                        (try clear hk)
                        (try clear hi)
                        refine hK.out _ _ ⟨(blk_cell BK329.out 0).trans rfl, (blk_cell BK329.out 1).trans rfl⟩ (fun hHeld => ?_)
                        clear hK K
                        refine norm_ (a' := ?_) ?_ ?_
                        rotate_left
                        · show Act.put _ (some 135) _ = _
                          simp only [Act.put, List.setIfInBounds_toArray, List.set_cons_zero, List.set_cons_succ, i64_w, i32_w]
                          rfl
                        refine pure_ (i := 49) (N := some 137) (v := ?_) (a' := ?_) #[true, true, true, true, true, true, true, true, true, true, true, true, true, true, true, true, true, true, true, true, true, true, true, true, true, true, true, true, true, true, true, true, true, true, true, true, true, true, true, true, true, true, true, true, true, true, true, true, true, true, false, false] rfl rfl (any_of HT_.out (by kernel_rfl)) (fun _ _ _ h => h) (Or.inl ⟨by rfl, ?_⟩) ?_ ?_
                        rotate_left
                        · intro w'
                          go_simp
                          with_reducible rfl
                        rotate_left
                        · simp only [Act.put, List.setIfInBounds_toArray, List.set_cons_zero, List.set_cons_succ, i64_w, i32_w]
                          rfl
                        refine pure_ (i := 50) (N := some 138) (v := ?_) (a' := ?_) #[true, true, true, true, true, true, true, true, true, true, true, true, true, true, true, true, true, true, true, true, true, true, true, true, true, true, true, true, true, true, true, true, true, true, true, true, true, true, true, true, true, true, true, true, true, true, true, true, true, true, true, false] rfl rfl (any_of HT_.out (by kernel_rfl)) (fun _ _ _ h => h) (Or.inl ⟨by rfl, ?_⟩) ?_ ?_
                        rotate_left
                        · intro w'
                          go_simp
                          with_reducible rfl
                        rotate_left
                        · simp only [Act.put, List.setIfInBounds_toArray, List.set_cons_zero, List.set_cons_succ, i64_w, i32_w]
                          rfl
                        refine pure_ (i := 51) (N := some 6) (v := ?_) (a' := ?_) #[true, true, true, true, true, true, true, true, true, true, true, true, true, true, true, true, true, true, true, true, true, true, true, true, true, true, true, true, true, true, true, true, true, true, true, true, true, true, true, true, true, true, true, true, true, true, true, true, true, true, true, true] rfl rfl (any_of HT_.out (by kernel_rfl)) (fun _ _ _ h => h) (Or.inl ⟨by rfl, ?_⟩) ?_ ?_
                        rotate_left
                        · intro w'
                          go_simp
                          with_reducible rfl
                        rotate_left
                        · simp only [Act.put, List.setIfInBounds_toArray, List.set_cons_zero, List.set_cons_succ, i64_w, i32_w]
                          rfl
                        refine done_ (done_of HT_.out (by kernel_rfl)) ?_
                        try go_wp2
                        go_ret
                        exact ⟨by first | rfl | (simp [errW_none, errW_some] <;> rfl) | (simp [*, errW_none, errW_some] <;> rfl), by repeat (first | (with_reducible first | exact HB.out | apply below_alloc | apply pw_below_drewN | apply below_drew1 | refine below_set ?_ GE329.out) | exact HB.out)⟩
                      · replace c56 := Bool.eq_false_iff.mpr c56
                        subst c56
                        have H1 : (some false) = some r := by rw [if_neg (show ¬ (false = true) by decide)] at H; exact H
                        clear H
                        have H := H1
                        clear H1
                        exact absurd ((Option.some.inj H).trans hrt.out) (by decide)
                    · replace c51 := Bool.eq_false_iff.mpr c51
                      subst c51
                      have H1 : (some false) = some r := by rw [if_neg (show ¬ (false = true) by decide)] at H; exact H
                      clear H
                      have H := H1
                      clear H1
                      exact absurd ((Option.some.inj H).trans hrt.out) (by decide)
                  · rw [if_neg c46] at H
                    have c46b0 : (t413 == t414) = false := beq_eq_false_iff_ne.mpr c46
                    have c46b1 : (t413 != t414) = true := bne_iff_ne.mpr c46
                    exact absurd ((Option.some.inj H).trans hrt.out) (by decide)
                · rw [if_neg c42] at H
                  have c42b0 : (t405 == t406) = false := beq_eq_false_iff_ne.mpr c42
                  have c42b1 : (t405 != t406) = true := bne_iff_ne.mpr c42
                  exact absurd ((Option.some.inj H).trans hrt.out) (by decide)
              · replace c38 := Bool.eq_false_iff.mpr c38
                subst c38
                have H1 : (some false) = some r := by rw [if_neg (show ¬ (false = true) by decide)] at H; exact H
                clear H
                have H := H1
                clear H1
                exact absurd ((Option.some.inj H).trans hrt.out) (by decide)
        · rw [if_neg c17] at H
          have c17b0 : (t333 == 0) = false := beq_eq_false_iff_ne.mpr c17
          have c17b1 : (t333 != 0) = true := bne_iff_ne.mpr c17
          replace H := Option.bind_eq_some_iff.mp H
          obtain ⟨⟨t334, t337⟩, A1910, H⟩ := H
          replace H : ((dag_Order.f t334 t337).bind fun t340 => (if (t340.length : Int) = 0 then ((trefoillaw04_Own.f l0_0 l0_1).bind fun bt343 => ((dag_Total.f bt343.1 bt343.2).bind fun t349 => (if t349 = 0 then ((trefoillaw04_Own.f l0_0 l0_1).bind fun bt350 => ((dag_Long.f bt350.1 bt350.2).bind fun t356 => (if t356 = 0 then ((trefoillaw04_Own.f l0_0 l0_1).bind fun bt357 => ((dag_Preds.f bt357.1 bt357.2 a1).bind fun t363 => (if (t363.length : Int) = 0 then ((trefoillaw04_Own.f l0_0 l0_1).bind fun bt366 => ((dag_Succs.f bt366.1 bt366.2 a1).bind fun t372 => (if (t372.length : Int) = 0 then ((trefoillaw04_Own.f l0_0 l0_1).bind fun bt375 => ((dag_Before.f bt375.1 bt375.2 a1 a2).bind fun t381 => (some (!t381)))) else (some false)))) else (some false)))) else (some false)))) else (some false)))) else (some false))) = some r := H
          have A191 := Aside0.mk A1910
          clear A1910
          replace H := Option.bind_eq_some_iff.mp H
          obtain ⟨t340, A1920, H⟩ := H
          replace H : (if (t340.length : Int) = 0 then ((trefoillaw04_Own.f l0_0 l0_1).bind fun bt343 => ((dag_Total.f bt343.1 bt343.2).bind fun t349 => (if t349 = 0 then ((trefoillaw04_Own.f l0_0 l0_1).bind fun bt350 => ((dag_Long.f bt350.1 bt350.2).bind fun t356 => (if t356 = 0 then ((trefoillaw04_Own.f l0_0 l0_1).bind fun bt357 => ((dag_Preds.f bt357.1 bt357.2 a1).bind fun t363 => (if (t363.length : Int) = 0 then ((trefoillaw04_Own.f l0_0 l0_1).bind fun bt366 => ((dag_Succs.f bt366.1 bt366.2 a1).bind fun t372 => (if (t372.length : Int) = 0 then ((trefoillaw04_Own.f l0_0 l0_1).bind fun bt375 => ((dag_Before.f bt375.1 bt375.2 a1 a2).bind fun t381 => (some (!t381)))) else (some false)))) else (some false)))) else (some false)))) else (some false)))) else (some false)) = some r := H
          have A192 := Aside0.mk A1920
          clear A1920
          by_cases c193 : (t340.length : Int) = 0
          · rw [if_pos c193] at H
            have c193b0 : ((t340.length : Int) == 0) = true := beq_iff_eq.mpr c193
            have c193b1 : ((t340.length : Int) != 0) = false := bne_eq_false_iff_eq.mpr c193
            clear c193
            replace H := Option.bind_eq_some_iff.mp H
            obtain ⟨⟨t343, t346⟩, A1940, H⟩ := H
            replace H : ((dag_Total.f t343 t346).bind fun t349 => (if t349 = 0 then ((trefoillaw04_Own.f l0_0 l0_1).bind fun bt350 => ((dag_Long.f bt350.1 bt350.2).bind fun t356 => (if t356 = 0 then ((trefoillaw04_Own.f l0_0 l0_1).bind fun bt357 => ((dag_Preds.f bt357.1 bt357.2 a1).bind fun t363 => (if (t363.length : Int) = 0 then ((trefoillaw04_Own.f l0_0 l0_1).bind fun bt366 => ((dag_Succs.f bt366.1 bt366.2 a1).bind fun t372 => (if (t372.length : Int) = 0 then ((trefoillaw04_Own.f l0_0 l0_1).bind fun bt375 => ((dag_Before.f bt375.1 bt375.2 a1 a2).bind fun t381 => (some (!t381)))) else (some false)))) else (some false)))) else (some false)))) else (some false))) = some r := H
            have A194 := Aside0.mk A1940
            clear A1940
            replace H := Option.bind_eq_some_iff.mp H
            obtain ⟨t349, A1950, H⟩ := H
            replace H : (if t349 = 0 then ((trefoillaw04_Own.f l0_0 l0_1).bind fun bt350 => ((dag_Long.f bt350.1 bt350.2).bind fun t356 => (if t356 = 0 then ((trefoillaw04_Own.f l0_0 l0_1).bind fun bt357 => ((dag_Preds.f bt357.1 bt357.2 a1).bind fun t363 => (if (t363.length : Int) = 0 then ((trefoillaw04_Own.f l0_0 l0_1).bind fun bt366 => ((dag_Succs.f bt366.1 bt366.2 a1).bind fun t372 => (if (t372.length : Int) = 0 then ((trefoillaw04_Own.f l0_0 l0_1).bind fun bt375 => ((dag_Before.f bt375.1 bt375.2 a1 a2).bind fun t381 => (some (!t381)))) else (some false)))) else (some false)))) else (some false)))) else (some false)) = some r := H
            have A195 := Aside0.mk A1950
            clear A1950
            by_cases c196 : t349 = 0
            · rw [if_pos c196] at H
              have c196b0 : (t349 == 0) = true := beq_iff_eq.mpr c196
              have c196b1 : (t349 != 0) = false := bne_eq_false_iff_eq.mpr c196
              clear c196
              replace H := Option.bind_eq_some_iff.mp H
              obtain ⟨⟨t350, t353⟩, A1970, H⟩ := H
              replace H : ((dag_Long.f t350 t353).bind fun t356 => (if t356 = 0 then ((trefoillaw04_Own.f l0_0 l0_1).bind fun bt357 => ((dag_Preds.f bt357.1 bt357.2 a1).bind fun t363 => (if (t363.length : Int) = 0 then ((trefoillaw04_Own.f l0_0 l0_1).bind fun bt366 => ((dag_Succs.f bt366.1 bt366.2 a1).bind fun t372 => (if (t372.length : Int) = 0 then ((trefoillaw04_Own.f l0_0 l0_1).bind fun bt375 => ((dag_Before.f bt375.1 bt375.2 a1 a2).bind fun t381 => (some (!t381)))) else (some false)))) else (some false)))) else (some false))) = some r := H
              have A197 := Aside0.mk A1970
              clear A1970
              replace H := Option.bind_eq_some_iff.mp H
              obtain ⟨t356, A1980, H⟩ := H
              replace H : (if t356 = 0 then ((trefoillaw04_Own.f l0_0 l0_1).bind fun bt357 => ((dag_Preds.f bt357.1 bt357.2 a1).bind fun t363 => (if (t363.length : Int) = 0 then ((trefoillaw04_Own.f l0_0 l0_1).bind fun bt366 => ((dag_Succs.f bt366.1 bt366.2 a1).bind fun t372 => (if (t372.length : Int) = 0 then ((trefoillaw04_Own.f l0_0 l0_1).bind fun bt375 => ((dag_Before.f bt375.1 bt375.2 a1 a2).bind fun t381 => (some (!t381)))) else (some false)))) else (some false)))) else (some false)) = some r := H
              have A198 := Aside0.mk A1980
              clear A1980
              by_cases c199 : t356 = 0
              · rw [if_pos c199] at H
                have c199b0 : (t356 == 0) = true := beq_iff_eq.mpr c199
                have c199b1 : (t356 != 0) = false := bne_eq_false_iff_eq.mpr c199
                clear c199
                replace H := Option.bind_eq_some_iff.mp H
                obtain ⟨⟨t357, t360⟩, A2000, H⟩ := H
                replace H : ((dag_Preds.f t357 t360 a1).bind fun t363 => (if (t363.length : Int) = 0 then ((trefoillaw04_Own.f l0_0 l0_1).bind fun bt366 => ((dag_Succs.f bt366.1 bt366.2 a1).bind fun t372 => (if (t372.length : Int) = 0 then ((trefoillaw04_Own.f l0_0 l0_1).bind fun bt375 => ((dag_Before.f bt375.1 bt375.2 a1 a2).bind fun t381 => (some (!t381)))) else (some false)))) else (some false))) = some r := H
                have A200 := Aside0.mk A2000
                clear A2000
                replace H := Option.bind_eq_some_iff.mp H
                obtain ⟨t363, A2010, H⟩ := H
                replace H : (if (t363.length : Int) = 0 then ((trefoillaw04_Own.f l0_0 l0_1).bind fun bt366 => ((dag_Succs.f bt366.1 bt366.2 a1).bind fun t372 => (if (t372.length : Int) = 0 then ((trefoillaw04_Own.f l0_0 l0_1).bind fun bt375 => ((dag_Before.f bt375.1 bt375.2 a1 a2).bind fun t381 => (some (!t381)))) else (some false)))) else (some false)) = some r := H
                have A201 := Aside0.mk A2010
                clear A2010
                by_cases c202 : (t363.length : Int) = 0
                · rw [if_pos c202] at H
                  have c202b0 : ((t363.length : Int) == 0) = true := beq_iff_eq.mpr c202
                  have c202b1 : ((t363.length : Int) != 0) = false := bne_eq_false_iff_eq.mpr c202
                  clear c202
                  replace H := Option.bind_eq_some_iff.mp H
                  obtain ⟨⟨t366, t369⟩, A2030, H⟩ := H
                  replace H : ((dag_Succs.f t366 t369 a1).bind fun t372 => (if (t372.length : Int) = 0 then ((trefoillaw04_Own.f l0_0 l0_1).bind fun bt375 => ((dag_Before.f bt375.1 bt375.2 a1 a2).bind fun t381 => (some (!t381)))) else (some false))) = some r := H
                  have A203 := Aside0.mk A2030
                  clear A2030
                  replace H := Option.bind_eq_some_iff.mp H
                  obtain ⟨t372, A2040, H⟩ := H
                  replace H : (if (t372.length : Int) = 0 then ((trefoillaw04_Own.f l0_0 l0_1).bind fun bt375 => ((dag_Before.f bt375.1 bt375.2 a1 a2).bind fun t381 => (some (!t381)))) else (some false)) = some r := H
                  have A204 := Aside0.mk A2040
                  clear A2040
                  by_cases c205 : (t372.length : Int) = 0
                  · rw [if_pos c205] at H
                    have c205b0 : ((t372.length : Int) == 0) = true := beq_iff_eq.mpr c205
                    have c205b1 : ((t372.length : Int) != 0) = false := bne_eq_false_iff_eq.mpr c205
                    clear c205
                    replace H := Option.bind_eq_some_iff.mp H
                    obtain ⟨⟨t375, t378⟩, A2060, H⟩ := H
                    replace H : ((dag_Before.f t375 t378 a1 a2).bind fun t381 => (some (!t381))) = some r := H
                    have A206 := Aside0.mk A2060
                    clear A2060
                    replace H := Option.bind_eq_some_iff.mp H
                    obtain ⟨t381, A2070, H⟩ := H
                    replace H : (some (!t381)) = some r := H
                    have A207 := Aside0.mk A2070
                    clear A2070
                    obtain rfl := Option.some.inj H
                    have hcz208_0 : wc.cell? ⟨gb329, 0, none⟩ = some (.slice A0_0 l0_0.length c0_0) := (blk_cell BK329.out 0).trans rfl
                    have hcz208_1 : wc.cell? ⟨gb329, 1, none⟩ = some (.slice A0_1 l0_1.length c0_1) := (blk_cell BK329.out 1).trans rfl
                    have hfz208_0 := blk_frozen BK329.out 0
                    have hfz208_1 := blk_frozen BK329.out 1
                    go_wp2_with (first | ((with_reducible refine gate_callee (f := 14) rfl ?_); refine goesL_ (some 17) rfl rfl Try.func14 (by kernel_rfl) rfl #[.agg #[.slice A0_0 l0_0.length c0_0, .slice A0_1 l0_1.length c0_1]] rfl (by (try simp only [List.map_toArray, List.map_cons, List.map_nil]); first | done | rfl | (simp only [List.length_drop, List.length_take]; rfl)) ?_; (with_reducible refine (trefoilref04_Check.calls kj3 _ _ l0_0 _ _ l0_1 t333 _ ?side1 ?side2 ?side3 ?side4 A16.out).mono ?_); (case side1 => repeat (first | exact (Kd.C_below HR0_0.out HB.out) | (with_reducible refine Kd.C_alloc ?_ _) | (with_reducible refine Kd.C_drewN ?_ _) | (with_reducible refine Kd.C_drew ?_))); (case side2 => exact HC0_0.out); (case side3 => repeat (first | exact (Kd.C_below HR0_1.out HB.out) | (with_reducible refine Kd.C_alloc ?_ _) | (with_reducible refine Kd.C_drewN ?_ _) | (with_reducible refine Kd.C_drew ?_))); (case side4 => exact HC0_1.out); rintro e w209 ⟨rfl, hb⟩; refine ⟨_, rfl, ?_⟩; have n0_ := Aside0.mk (blk_below (g := gb329) (o := .cells #[.slice A0_0 l0_0.length c0_0, .slice A0_1 l0_1.length c0_1] 25 (0, 0)) (by (with_reducible repeat (first | refine blk_drewN ?_ _ | refine blk_drew ?_ | refine blk_alloc ?_ _)); exact BK329.out) hb); have n1_ := Aside0.mk (below_step (by repeat (first | (with_reducible first | exact HB.out | apply below_alloc | apply pw_below_drewN | apply below_drew1 | refine below_set ?_ GE329.out) | exact HB.out)) hb); clear BK329; clear HB; have BK329 := n0_; have HB := n1_; clear n0_ n1_; (try clear hb); (try clear hb2); (try clear hk); (try clear hi); have hcz210_0 : w209.cell? ⟨gb329, 0, none⟩ = some (.slice A0_0 l0_0.length c0_0) := (blk_cell BK329.out 0).trans rfl; have hcz210_1 : w209.cell? ⟨gb329, 1, none⟩ = some (.slice A0_1 l0_1.length c0_1) := (blk_cell BK329.out 1).trans rfl; have hfz210_0 := blk_frozen BK329.out 0; have hfz210_1 := blk_frozen BK329.out 1) | ((with_reducible refine gate_callee (f := 13) rfl ?_); refine goesL_ (some 20) rfl rfl Try.func13 (by kernel_rfl) rfl #[.agg #[.slice A0_0 l0_0.length c0_0, .slice A0_1 l0_1.length c0_1]] rfl (by (try simp only [List.map_toArray, List.map_cons, List.map_nil]); first | done | rfl | (simp only [List.length_drop, List.length_take]; rfl)) ?_; (with_reducible refine (trefoillaw04_Own.calls _ _ l0_0 _ _ l0_1 t334 t337 _ ?side1 ?side2 ?side3 ?side4 A191.out).mono ?_); (case side1 => repeat (first | exact (Kd.C_below HR0_0.out HB.out) | (with_reducible refine Kd.C_alloc ?_ _) | (with_reducible refine Kd.C_drewN ?_ _) | (with_reducible refine Kd.C_drew ?_))); (case side2 => exact HC0_0.out); (case side3 => repeat (first | exact (Kd.C_below HR0_1.out HB.out) | (with_reducible refine Kd.C_alloc ?_ _) | (with_reducible refine Kd.C_drewN ?_ _) | (with_reducible refine Kd.C_drew ?_))); (case side4 => exact HC0_1.out); rintro e w211 ⟨v335, v338, rfl, ho0, ho1, hb⟩; refine ⟨_, rfl, ?_⟩; have n0_ := Aside0.mk (Kd.R_lower ho0 (below_size (by repeat (first | (with_reducible first | exact HB.out | apply below_alloc | apply pw_below_drewN | apply below_drew1 | refine below_set ?_ GE329.out) | exact HB.out)))); have n1_ := Aside0.mk (Kd.R_lower ho1 (below_size (by repeat (first | (with_reducible first | exact HB.out | apply below_alloc | apply pw_below_drewN | apply below_drew1 | refine below_set ?_ GE329.out) | exact HB.out)))); have n2_ := Aside0.mk (blk_below (g := gb329) (o := .cells #[.slice A0_0 l0_0.length c0_0, .slice A0_1 l0_1.length c0_1] 25 (0, 0)) (by (with_reducible repeat (first | refine blk_drewN ?_ _ | refine blk_drew ?_ | refine blk_alloc ?_ _)); exact BK329.out) hb); have n3_ := Aside0.mk (below_step (by repeat (first | (with_reducible first | exact HB.out | apply below_alloc | apply pw_below_drewN | apply below_drew1 | refine below_set ?_ GE329.out) | exact HB.out)) hb); clear BK329; clear HB; have HO336 := n0_; have HO339 := n1_; have BK329 := n2_; have HB := n3_; clear n0_ n1_ n2_ n3_; (try clear hb); (try clear hb2); (try clear hk); (try clear hi); (try clear ho0); (try clear ho1); obtain ⟨Ao212, co212, eo212⟩ := Kd.R_slice HO336.out; subst eo212; obtain ⟨Ao213, co213, eo213⟩ := Kd.R_slice HO339.out; subst eo213) | ((with_reducible refine gate_callee (f := 17) rfl ?_); refine goesL_ (some 21) rfl rfl Try.func17 (by kernel_rfl) rfl #[.agg #[.slice Ao212 t334.length co212, .slice Ao213 t337.length co213]] rfl (by (try simp only [List.map_toArray, List.map_cons, List.map_nil]); first | done | rfl | (simp only [List.length_drop, List.length_take]; rfl)) ?_; (with_reducible refine (dag_Order.calls _ _ t334 _ _ t337 t340 _ ?side1 ?side2 ?side3 ?side4 A192.out).mono ?_); (case side1 => repeat (first | exact (Kd.R_reads' HO336.out).2.2 | (with_reducible refine Kd.C_alloc ?_ _) | (with_reducible refine Kd.C_drewN ?_ _) | (with_reducible refine Kd.C_drew ?_))); (case side2 => exact (Kd.R_reads' HO336.out).2.1); (case side3 => repeat (first | exact (Kd.R_reads' HO339.out).2.2 | (with_reducible refine Kd.C_alloc ?_ _) | (with_reducible refine Kd.C_drewN ?_ _) | (with_reducible refine Kd.C_drew ?_))); (case side4 => exact (Kd.R_reads' HO339.out).2.1); rintro e w214 ⟨v341, rfl, ho0, hb⟩; refine ⟨_, rfl, ?_⟩; have n0_ := Aside0.mk (Kd.R_elder' (by (with_reducible repeat (first | apply Kd.R_alloc | apply Kd.R_drewN | apply Kd.R_drew)); exact HO336.out) (Kd.R_base ho0) hb); have n1_ := Aside0.mk (Kd.R_below (by (with_reducible repeat (first | apply Kd.R_alloc | apply Kd.R_drewN | apply Kd.R_drew)); exact HO339.out) hb); have n2_ := Aside0.mk (Kd.R_lower (Kd.R_new' ho0 (Kd.R_lt (by (with_reducible repeat (first | apply Kd.R_alloc | apply Kd.R_drewN | apply Kd.R_drew)); exact HO336.out))) (below_size (by repeat (first | (with_reducible first | exact HB.out | apply below_alloc | apply pw_below_drewN | apply below_drew1 | refine below_set ?_ GE329.out) | exact HB.out)))); have n3_ := Aside0.mk (blk_below (g := gb329) (o := .cells #[.slice A0_0 l0_0.length c0_0, .slice A0_1 l0_1.length c0_1] 25 (0, 0)) (by (with_reducible repeat (first | refine blk_drewN ?_ _ | refine blk_drew ?_ | refine blk_alloc ?_ _)); exact BK329.out) hb); have n4_ := Aside0.mk (below_step (by repeat (first | (with_reducible first | exact HB.out | apply below_alloc | apply pw_below_drewN | apply below_drew1 | refine below_set ?_ GE329.out) | exact HB.out)) hb); clear HO336; clear HO339; clear BK329; clear HB; have HO336 := n0_; have HO339 := n1_; have HO342 := n2_; have BK329 := n3_; have HB := n4_; clear n0_ n1_ n2_ n3_ n4_; (try clear hb); (try clear hb2); (try clear hk); (try clear hi); (try clear ho0); obtain ⟨Ao215, co215, eo215⟩ := Kd.R_slice HO342.out; subst eo215; have hcz216_0 : w214.cell? ⟨gb329, 0, none⟩ = some (.slice A0_0 l0_0.length c0_0) := (blk_cell BK329.out 0).trans rfl; have hcz216_1 : w214.cell? ⟨gb329, 1, none⟩ = some (.slice A0_1 l0_1.length c0_1) := (blk_cell BK329.out 1).trans rfl; have hfz216_0 := blk_frozen BK329.out 0; have hfz216_1 := blk_frozen BK329.out 1) | (go_at_call 13; (fail_if_success (have h_once_ := HO345)); (with_reducible refine (trefoillaw04_Own.calls _ _ l0_0 _ _ l0_1 t343 t346 _ ?side1 ?side2 ?side3 ?side4 A194.out).mono ?_); (case side1 => repeat (first | exact (Kd.C_below HR0_0.out HB.out) | (with_reducible refine Kd.C_alloc ?_ _) | (with_reducible refine Kd.C_drewN ?_ _) | (with_reducible refine Kd.C_drew ?_))); (case side2 => exact HC0_0.out); (case side3 => repeat (first | exact (Kd.C_below HR0_1.out HB.out) | (with_reducible refine Kd.C_alloc ?_ _) | (with_reducible refine Kd.C_drewN ?_ _) | (with_reducible refine Kd.C_drew ?_))); (case side4 => exact HC0_1.out); rintro e w217 ⟨v344, v347, rfl, ho0, ho1, hb⟩; have n0_ := Aside0.mk (Kd.R_elder' (by (with_reducible repeat (first | apply Kd.R_alloc | apply Kd.R_drewN | apply Kd.R_drew)); exact HO336.out) (Kd.R_base ho0) hb); have n1_ := Aside0.mk (Kd.R_elder' (by (with_reducible repeat (first | apply Kd.R_alloc | apply Kd.R_drewN | apply Kd.R_drew)); exact HO339.out) (Kd.R_base ho1) hb); have n2_ := Aside0.mk (Kd.R_elder' (by (with_reducible repeat (first | apply Kd.R_alloc | apply Kd.R_drewN | apply Kd.R_drew)); exact HO342.out) (Kd.R_base ho0) hb); have n3_ := Aside0.mk (Kd.R_lower (Kd.R_new' (Kd.R_new' ho0 (Kd.R_lt (by (with_reducible repeat (first | apply Kd.R_alloc | apply Kd.R_drewN | apply Kd.R_drew)); exact HO336.out))) (Kd.R_lt (by (with_reducible repeat (first | apply Kd.R_alloc | apply Kd.R_drewN | apply Kd.R_drew)); exact HO342.out))) (below_size (by repeat (first | (with_reducible first | exact HB.out | apply below_alloc | apply pw_below_drewN | apply below_drew1 | refine below_set ?_ GE329.out) | exact HB.out)))); have n4_ := Aside0.mk (Kd.R_lower (Kd.R_new' ho1 (Kd.R_lt (by (with_reducible repeat (first | apply Kd.R_alloc | apply Kd.R_drewN | apply Kd.R_drew)); exact HO339.out))) (below_size (by repeat (first | (with_reducible first | exact HB.out | apply below_alloc | apply pw_below_drewN | apply below_drew1 | refine below_set ?_ GE329.out) | exact HB.out)))); have n5_ := Aside0.mk (blk_below (g := gb329) (o := .cells #[.slice A0_0 l0_0.length c0_0, .slice A0_1 l0_1.length c0_1] 25 (0, 0)) (by (with_reducible repeat (first | refine blk_drewN ?_ _ | refine blk_drew ?_ | refine blk_alloc ?_ _)); exact BK329.out) hb); have n6_ := Aside0.mk (below_step (by repeat (first | (with_reducible first | exact HB.out | apply below_alloc | apply pw_below_drewN | apply below_drew1 | refine below_set ?_ GE329.out) | exact HB.out)) hb); clear HO336; clear HO339; clear HO342; clear BK329; clear HB; have HO336 := n0_; have HO339 := n1_; have HO342 := n2_; have HO345 := n3_; have HO348 := n4_; have BK329 := n5_; have HB := n6_; clear n0_ n1_ n2_ n3_ n4_ n5_ n6_; (try clear hb); (try clear hb2); (try clear hk); (try clear hi); (try clear ho0); (try clear ho1); obtain ⟨Ao218, co218, eo218⟩ := Kd.R_slice HO345.out; subst eo218; obtain ⟨Ao219, co219, eo219⟩ := Kd.R_slice HO348.out; subst eo219) | (go_at_call 18; (with_reducible refine (dag_Total.calls _ _ t343 _ _ t346 t349 _ ?side1 ?side2 ?side3 ?side4 A195.out).mono ?_); (case side1 => repeat (first | exact (Kd.R_reads' HO345.out).2.2 | (with_reducible refine Kd.C_alloc ?_ _) | (with_reducible refine Kd.C_drewN ?_ _) | (with_reducible refine Kd.C_drew ?_))); (case side2 => exact (Kd.R_reads' HO345.out).2.1); (case side3 => repeat (first | exact (Kd.R_reads' HO348.out).2.2 | (with_reducible refine Kd.C_alloc ?_ _) | (with_reducible refine Kd.C_drewN ?_ _) | (with_reducible refine Kd.C_drew ?_))); (case side4 => exact (Kd.R_reads' HO348.out).2.1); rintro e w220 ⟨rfl, hb⟩; have n0_ := Aside0.mk (Kd.R_below (by (with_reducible repeat (first | apply Kd.R_alloc | apply Kd.R_drewN | apply Kd.R_drew)); exact HO336.out) hb); have n1_ := Aside0.mk (Kd.R_below (by (with_reducible repeat (first | apply Kd.R_alloc | apply Kd.R_drewN | apply Kd.R_drew)); exact HO339.out) hb); have n2_ := Aside0.mk (Kd.R_below (by (with_reducible repeat (first | apply Kd.R_alloc | apply Kd.R_drewN | apply Kd.R_drew)); exact HO342.out) hb); have n3_ := Aside0.mk (Kd.R_below (by (with_reducible repeat (first | apply Kd.R_alloc | apply Kd.R_drewN | apply Kd.R_drew)); exact HO345.out) hb); have n4_ := Aside0.mk (Kd.R_below (by (with_reducible repeat (first | apply Kd.R_alloc | apply Kd.R_drewN | apply Kd.R_drew)); exact HO348.out) hb); have n5_ := Aside0.mk (blk_below (g := gb329) (o := .cells #[.slice A0_0 l0_0.length c0_0, .slice A0_1 l0_1.length c0_1] 25 (0, 0)) (by (with_reducible repeat (first | refine blk_drewN ?_ _ | refine blk_drew ?_ | refine blk_alloc ?_ _)); exact BK329.out) hb); have n6_ := Aside0.mk (below_step (by repeat (first | (with_reducible first | exact HB.out | apply below_alloc | apply pw_below_drewN | apply below_drew1 | refine below_set ?_ GE329.out) | exact HB.out)) hb); clear HO336; clear HO339; clear HO342; clear HO345; clear HO348; clear BK329; clear HB; have HO336 := n0_; have HO339 := n1_; have HO342 := n2_; have HO345 := n3_; have HO348 := n4_; have BK329 := n5_; have HB := n6_; clear n0_ n1_ n2_ n3_ n4_ n5_ n6_; (try clear hb); (try clear hb2); (try clear hk); (try clear hi); have hcz221_0 : w220.cell? ⟨gb329, 0, none⟩ = some (.slice A0_0 l0_0.length c0_0) := (blk_cell BK329.out 0).trans rfl; have hcz221_1 : w220.cell? ⟨gb329, 1, none⟩ = some (.slice A0_1 l0_1.length c0_1) := (blk_cell BK329.out 1).trans rfl; have hfz221_0 := blk_frozen BK329.out 0; have hfz221_1 := blk_frozen BK329.out 1) | (go_at_call 13; (fail_if_success (have h_once_ := HO352)); (with_reducible refine (trefoillaw04_Own.calls _ _ l0_0 _ _ l0_1 t350 t353 _ ?side1 ?side2 ?side3 ?side4 A197.out).mono ?_); (case side1 => repeat (first | exact (Kd.C_below HR0_0.out HB.out) | (with_reducible refine Kd.C_alloc ?_ _) | (with_reducible refine Kd.C_drewN ?_ _) | (with_reducible refine Kd.C_drew ?_))); (case side2 => exact HC0_0.out); (case side3 => repeat (first | exact (Kd.C_below HR0_1.out HB.out) | (with_reducible refine Kd.C_alloc ?_ _) | (with_reducible refine Kd.C_drewN ?_ _) | (with_reducible refine Kd.C_drew ?_))); (case side4 => exact HC0_1.out); rintro e w222 ⟨v351, v354, rfl, ho0, ho1, hb⟩; have n0_ := Aside0.mk (Kd.R_elder' (by (with_reducible repeat (first | apply Kd.R_alloc | apply Kd.R_drewN | apply Kd.R_drew)); exact HO336.out) (Kd.R_base ho0) hb); have n1_ := Aside0.mk (Kd.R_elder' (by (with_reducible repeat (first | apply Kd.R_alloc | apply Kd.R_drewN | apply Kd.R_drew)); exact HO339.out) (Kd.R_base ho1) hb); have n2_ := Aside0.mk (Kd.R_elder' (by (with_reducible repeat (first | apply Kd.R_alloc | apply Kd.R_drewN | apply Kd.R_drew)); exact HO342.out) (Kd.R_base ho0) hb); have n3_ := Aside0.mk (Kd.R_elder' (by (with_reducible repeat (first | apply Kd.R_alloc | apply Kd.R_drewN | apply Kd.R_drew)); exact HO345.out) (Kd.R_base ho0) hb); have n4_ := Aside0.mk (Kd.R_elder' (by (with_reducible repeat (first | apply Kd.R_alloc | apply Kd.R_drewN | apply Kd.R_drew)); exact HO348.out) (Kd.R_base ho1) hb); have n5_ := Aside0.mk (Kd.R_lower (Kd.R_new' (Kd.R_new' (Kd.R_new' ho0 (Kd.R_lt (by (with_reducible repeat (first | apply Kd.R_alloc | apply Kd.R_drewN | apply Kd.R_drew)); exact HO336.out))) (Kd.R_lt (by (with_reducible repeat (first | apply Kd.R_alloc | apply Kd.R_drewN | apply Kd.R_drew)); exact HO342.out))) (Kd.R_lt (by (with_reducible repeat (first | apply Kd.R_alloc | apply Kd.R_drewN | apply Kd.R_drew)); exact HO345.out))) (below_size (by repeat (first | (with_reducible first | exact HB.out | apply below_alloc | apply pw_below_drewN | apply below_drew1 | refine below_set ?_ GE329.out) | exact HB.out)))); have n6_ := Aside0.mk (Kd.R_lower (Kd.R_new' (Kd.R_new' ho1 (Kd.R_lt (by (with_reducible repeat (first | apply Kd.R_alloc | apply Kd.R_drewN | apply Kd.R_drew)); exact HO339.out))) (Kd.R_lt (by (with_reducible repeat (first | apply Kd.R_alloc | apply Kd.R_drewN | apply Kd.R_drew)); exact HO348.out))) (below_size (by repeat (first | (with_reducible first | exact HB.out | apply below_alloc | apply pw_below_drewN | apply below_drew1 | refine below_set ?_ GE329.out) | exact HB.out)))); have n7_ := Aside0.mk (blk_below (g := gb329) (o := .cells #[.slice A0_0 l0_0.length c0_0, .slice A0_1 l0_1.length c0_1] 25 (0, 0)) (by (with_reducible repeat (first | refine blk_drewN ?_ _ | refine blk_drew ?_ | refine blk_alloc ?_ _)); exact BK329.out) hb); have n8_ := Aside0.mk (below_step (by repeat (first | (with_reducible first | exact HB.out | apply below_alloc | apply pw_below_drewN | apply below_drew1 | refine below_set ?_ GE329.out) | exact HB.out)) hb); clear HO336; clear HO339; clear HO342; clear HO345; clear HO348; clear BK329; clear HB; have HO336 := n0_; have HO339 := n1_; have HO342 := n2_; have HO345 := n3_; have HO348 := n4_; have HO352 := n5_; have HO355 := n6_; have BK329 := n7_; have HB := n8_; clear n0_ n1_ n2_ n3_ n4_ n5_ n6_ n7_ n8_; (try clear hb); (try clear hb2); (try clear hk); (try clear hi); (try clear ho0); (try clear ho1); obtain ⟨Ao223, co223, eo223⟩ := Kd.R_slice HO352.out; subst eo223; obtain ⟨Ao224, co224, eo224⟩ := Kd.R_slice HO355.out; subst eo224) | (go_at_call 19; (with_reducible refine (dag_Long.calls _ _ t350 _ _ t353 t356 _ ?side1 ?side2 ?side3 ?side4 A198.out).mono ?_); (case side1 => repeat (first | exact (Kd.R_reads' HO352.out).2.2 | (with_reducible refine Kd.C_alloc ?_ _) | (with_reducible refine Kd.C_drewN ?_ _) | (with_reducible refine Kd.C_drew ?_))); (case side2 => exact (Kd.R_reads' HO352.out).2.1); (case side3 => repeat (first | exact (Kd.R_reads' HO355.out).2.2 | (with_reducible refine Kd.C_alloc ?_ _) | (with_reducible refine Kd.C_drewN ?_ _) | (with_reducible refine Kd.C_drew ?_))); (case side4 => exact (Kd.R_reads' HO355.out).2.1); rintro e w225 ⟨rfl, hb⟩; have n0_ := Aside0.mk (Kd.R_below (by (with_reducible repeat (first | apply Kd.R_alloc | apply Kd.R_drewN | apply Kd.R_drew)); exact HO336.out) hb); have n1_ := Aside0.mk (Kd.R_below (by (with_reducible repeat (first | apply Kd.R_alloc | apply Kd.R_drewN | apply Kd.R_drew)); exact HO339.out) hb); have n2_ := Aside0.mk (Kd.R_below (by (with_reducible repeat (first | apply Kd.R_alloc | apply Kd.R_drewN | apply Kd.R_drew)); exact HO342.out) hb); have n3_ := Aside0.mk (Kd.R_below (by (with_reducible repeat (first | apply Kd.R_alloc | apply Kd.R_drewN | apply Kd.R_drew)); exact HO345.out) hb); have n4_ := Aside0.mk (Kd.R_below (by (with_reducible repeat (first | apply Kd.R_alloc | apply Kd.R_drewN | apply Kd.R_drew)); exact HO348.out) hb); have n5_ := Aside0.mk (Kd.R_below (by (with_reducible repeat (first | apply Kd.R_alloc | apply Kd.R_drewN | apply Kd.R_drew)); exact HO352.out) hb); have n6_ := Aside0.mk (Kd.R_below (by (with_reducible repeat (first | apply Kd.R_alloc | apply Kd.R_drewN | apply Kd.R_drew)); exact HO355.out) hb); have n7_ := Aside0.mk (blk_below (g := gb329) (o := .cells #[.slice A0_0 l0_0.length c0_0, .slice A0_1 l0_1.length c0_1] 25 (0, 0)) (by (with_reducible repeat (first | refine blk_drewN ?_ _ | refine blk_drew ?_ | refine blk_alloc ?_ _)); exact BK329.out) hb); have n8_ := Aside0.mk (below_step (by repeat (first | (with_reducible first | exact HB.out | apply below_alloc | apply pw_below_drewN | apply below_drew1 | refine below_set ?_ GE329.out) | exact HB.out)) hb); clear HO336; clear HO339; clear HO342; clear HO345; clear HO348; clear HO352; clear HO355; clear BK329; clear HB; have HO336 := n0_; have HO339 := n1_; have HO342 := n2_; have HO345 := n3_; have HO348 := n4_; have HO352 := n5_; have HO355 := n6_; have BK329 := n7_; have HB := n8_; clear n0_ n1_ n2_ n3_ n4_ n5_ n6_ n7_ n8_; (try clear hb); (try clear hb2); (try clear hk); (try clear hi); have hcz226_0 : w225.cell? ⟨gb329, 0, none⟩ = some (.slice A0_0 l0_0.length c0_0) := (blk_cell BK329.out 0).trans rfl; have hcz226_1 : w225.cell? ⟨gb329, 1, none⟩ = some (.slice A0_1 l0_1.length c0_1) := (blk_cell BK329.out 1).trans rfl; have hfz226_0 := blk_frozen BK329.out 0; have hfz226_1 := blk_frozen BK329.out 1) | (go_at_call 13; (fail_if_success (have h_once_ := HO359)); (with_reducible refine (trefoillaw04_Own.calls _ _ l0_0 _ _ l0_1 t357 t360 _ ?side1 ?side2 ?side3 ?side4 A200.out).mono ?_); (case side1 => repeat (first | exact (Kd.C_below HR0_0.out HB.out) | (with_reducible refine Kd.C_alloc ?_ _) | (with_reducible refine Kd.C_drewN ?_ _) | (with_reducible refine Kd.C_drew ?_))); (case side2 => exact HC0_0.out); (case side3 => repeat (first | exact (Kd.C_below HR0_1.out HB.out) | (with_reducible refine Kd.C_alloc ?_ _) | (with_reducible refine Kd.C_drewN ?_ _) | (with_reducible refine Kd.C_drew ?_))); (case side4 => exact HC0_1.out); rintro e w227 ⟨v358, v361, rfl, ho0, ho1, hb⟩; have n0_ := Aside0.mk (Kd.R_elder' (by (with_reducible repeat (first | apply Kd.R_alloc | apply Kd.R_drewN | apply Kd.R_drew)); exact HO336.out) (Kd.R_base ho0) hb); have n1_ := Aside0.mk (Kd.R_elder' (by (with_reducible repeat (first | apply Kd.R_alloc | apply Kd.R_drewN | apply Kd.R_drew)); exact HO339.out) (Kd.R_base ho1) hb); have n2_ := Aside0.mk (Kd.R_elder' (by (with_reducible repeat (first | apply Kd.R_alloc | apply Kd.R_drewN | apply Kd.R_drew)); exact HO342.out) (Kd.R_base ho0) hb); have n3_ := Aside0.mk (Kd.R_elder' (by (with_reducible repeat (first | apply Kd.R_alloc | apply Kd.R_drewN | apply Kd.R_drew)); exact HO345.out) (Kd.R_base ho0) hb); have n4_ := Aside0.mk (Kd.R_elder' (by (with_reducible repeat (first | apply Kd.R_alloc | apply Kd.R_drewN | apply Kd.R_drew)); exact HO348.out) (Kd.R_base ho1) hb); have n5_ := Aside0.mk (Kd.R_elder' (by (with_reducible repeat (first | apply Kd.R_alloc | apply Kd.R_drewN | apply Kd.R_drew)); exact HO352.out) (Kd.R_base ho0) hb); have n6_ := Aside0.mk (Kd.R_elder' (by (with_reducible repeat (first | apply Kd.R_alloc | apply Kd.R_drewN | apply Kd.R_drew)); exact HO355.out) (Kd.R_base ho1) hb); have n7_ := Aside0.mk (Kd.R_lower (Kd.R_new' (Kd.R_new' (Kd.R_new' (Kd.R_new' ho0 (Kd.R_lt (by (with_reducible repeat (first | apply Kd.R_alloc | apply Kd.R_drewN | apply Kd.R_drew)); exact HO336.out))) (Kd.R_lt (by (with_reducible repeat (first | apply Kd.R_alloc | apply Kd.R_drewN | apply Kd.R_drew)); exact HO342.out))) (Kd.R_lt (by (with_reducible repeat (first | apply Kd.R_alloc | apply Kd.R_drewN | apply Kd.R_drew)); exact HO345.out))) (Kd.R_lt (by (with_reducible repeat (first | apply Kd.R_alloc | apply Kd.R_drewN | apply Kd.R_drew)); exact HO352.out))) (below_size (by repeat (first | (with_reducible first | exact HB.out | apply below_alloc | apply pw_below_drewN | apply below_drew1 | refine below_set ?_ GE329.out) | exact HB.out)))); have n8_ := Aside0.mk (Kd.R_lower (Kd.R_new' (Kd.R_new' (Kd.R_new' ho1 (Kd.R_lt (by (with_reducible repeat (first | apply Kd.R_alloc | apply Kd.R_drewN | apply Kd.R_drew)); exact HO339.out))) (Kd.R_lt (by (with_reducible repeat (first | apply Kd.R_alloc | apply Kd.R_drewN | apply Kd.R_drew)); exact HO348.out))) (Kd.R_lt (by (with_reducible repeat (first | apply Kd.R_alloc | apply Kd.R_drewN | apply Kd.R_drew)); exact HO355.out))) (below_size (by repeat (first | (with_reducible first | exact HB.out | apply below_alloc | apply pw_below_drewN | apply below_drew1 | refine below_set ?_ GE329.out) | exact HB.out)))); have n9_ := Aside0.mk (blk_below (g := gb329) (o := .cells #[.slice A0_0 l0_0.length c0_0, .slice A0_1 l0_1.length c0_1] 25 (0, 0)) (by (with_reducible repeat (first | refine blk_drewN ?_ _ | refine blk_drew ?_ | refine blk_alloc ?_ _)); exact BK329.out) hb); have n10_ := Aside0.mk (below_step (by repeat (first | (with_reducible first | exact HB.out | apply below_alloc | apply pw_below_drewN | apply below_drew1 | refine below_set ?_ GE329.out) | exact HB.out)) hb); clear HO336; clear HO339; clear HO342; clear HO345; clear HO348; clear HO352; clear HO355; clear BK329; clear HB; have HO336 := n0_; have HO339 := n1_; have HO342 := n2_; have HO345 := n3_; have HO348 := n4_; have HO352 := n5_; have HO355 := n6_; have HO359 := n7_; have HO362 := n8_; have BK329 := n9_; have HB := n10_; clear n0_ n1_ n2_ n3_ n4_ n5_ n6_ n7_ n8_ n9_ n10_; (try clear hb); (try clear hb2); (try clear hk); (try clear hi); (try clear ho0); (try clear ho1); obtain ⟨Ao228, co228, eo228⟩ := Kd.R_slice HO359.out; subst eo228; obtain ⟨Ao229, co229, eo229⟩ := Kd.R_slice HO362.out; subst eo229) | (go_at_call 20; (fail_if_success (have h_once_ := HO365)); (with_reducible refine (dag_Preds.calls _ _ t357 _ _ t360 a1 t363 _ ?side1 ?side2 ?side3 ?side4 A201.out).mono ?_); (case side1 => repeat (first | exact (Kd.R_reads' HO359.out).2.2 | (with_reducible refine Kd.C_alloc ?_ _) | (with_reducible refine Kd.C_drewN ?_ _) | (with_reducible refine Kd.C_drew ?_))); (case side2 => exact (Kd.R_reads' HO359.out).2.1); (case side3 => repeat (first | exact (Kd.R_reads' HO362.out).2.2 | (with_reducible refine Kd.C_alloc ?_ _) | (with_reducible refine Kd.C_drewN ?_ _) | (with_reducible refine Kd.C_drew ?_))); (case side4 => exact (Kd.R_reads' HO362.out).2.1); rintro e w230 ⟨v364, rfl, ho0, hb⟩; have n0_ := Aside0.mk (Kd.R_elder' (by (with_reducible repeat (first | apply Kd.R_alloc | apply Kd.R_drewN | apply Kd.R_drew)); exact HO336.out) (Kd.R_base ho0) hb); have n1_ := Aside0.mk (Kd.R_below (by (with_reducible repeat (first | apply Kd.R_alloc | apply Kd.R_drewN | apply Kd.R_drew)); exact HO339.out) hb); have n2_ := Aside0.mk (Kd.R_elder' (by (with_reducible repeat (first | apply Kd.R_alloc | apply Kd.R_drewN | apply Kd.R_drew)); exact HO342.out) (Kd.R_base ho0) hb); have n3_ := Aside0.mk (Kd.R_elder' (by (with_reducible repeat (first | apply Kd.R_alloc | apply Kd.R_drewN | apply Kd.R_drew)); exact HO345.out) (Kd.R_base ho0) hb); have n4_ := Aside0.mk (Kd.R_below (by (with_reducible repeat (first | apply Kd.R_alloc | apply Kd.R_drewN | apply Kd.R_drew)); exact HO348.out) hb); have n5_ := Aside0.mk (Kd.R_elder' (by (with_reducible repeat (first | apply Kd.R_alloc | apply Kd.R_drewN | apply Kd.R_drew)); exact HO352.out) (Kd.R_base ho0) hb); have n6_ := Aside0.mk (Kd.R_below (by (with_reducible repeat (first | apply Kd.R_alloc | apply Kd.R_drewN | apply Kd.R_drew)); exact HO355.out) hb); have n7_ := Aside0.mk (Kd.R_elder' (by (with_reducible repeat (first | apply Kd.R_alloc | apply Kd.R_drewN | apply Kd.R_drew)); exact HO359.out) (Kd.R_base ho0) hb); have n8_ := Aside0.mk (Kd.R_below (by (with_reducible repeat (first | apply Kd.R_alloc | apply Kd.R_drewN | apply Kd.R_drew)); exact HO362.out) hb); have n9_ := Aside0.mk (Kd.R_lower (Kd.R_new' (Kd.R_new' (Kd.R_new' (Kd.R_new' (Kd.R_new' ho0 (Kd.R_lt (by (with_reducible repeat (first | apply Kd.R_alloc | apply Kd.R_drewN | apply Kd.R_drew)); exact HO336.out))) (Kd.R_lt (by (with_reducible repeat (first | apply Kd.R_alloc | apply Kd.R_drewN | apply Kd.R_drew)); exact HO342.out))) (Kd.R_lt (by (with_reducible repeat (first | apply Kd.R_alloc | apply Kd.R_drewN | apply Kd.R_drew)); exact HO345.out))) (Kd.R_lt (by (with_reducible repeat (first | apply Kd.R_alloc | apply Kd.R_drewN | apply Kd.R_drew)); exact HO352.out))) (Kd.R_lt (by (with_reducible repeat (first | apply Kd.R_alloc | apply Kd.R_drewN | apply Kd.R_drew)); exact HO359.out))) (below_size (by repeat (first | (with_reducible first | exact HB.out | apply below_alloc | apply pw_below_drewN | apply below_drew1 | refine below_set ?_ GE329.out) | exact HB.out)))); have n10_ := Aside0.mk (blk_below (g := gb329) (o := .cells #[.slice A0_0 l0_0.length c0_0, .slice A0_1 l0_1.length c0_1] 25 (0, 0)) (by (with_reducible repeat (first | refine blk_drewN ?_ _ | refine blk_drew ?_ | refine blk_alloc ?_ _)); exact BK329.out) hb); have n11_ := Aside0.mk (below_step (by repeat (first | (with_reducible first | exact HB.out | apply below_alloc | apply pw_below_drewN | apply below_drew1 | refine below_set ?_ GE329.out) | exact HB.out)) hb); clear HO336; clear HO339; clear HO342; clear HO345; clear HO348; clear HO352; clear HO355; clear HO359; clear HO362; clear BK329; clear HB; have HO336 := n0_; have HO339 := n1_; have HO342 := n2_; have HO345 := n3_; have HO348 := n4_; have HO352 := n5_; have HO355 := n6_; have HO359 := n7_; have HO362 := n8_; have HO365 := n9_; have BK329 := n10_; have HB := n11_; clear n0_ n1_ n2_ n3_ n4_ n5_ n6_ n7_ n8_ n9_ n10_ n11_; (try clear hb); (try clear hb2); (try clear hk); (try clear hi); (try clear ho0); obtain ⟨Ao231, co231, eo231⟩ := Kd.R_slice HO365.out; subst eo231; have hcz232_0 : w230.cell? ⟨gb329, 0, none⟩ = some (.slice A0_0 l0_0.length c0_0) := (blk_cell BK329.out 0).trans rfl; have hcz232_1 : w230.cell? ⟨gb329, 1, none⟩ = some (.slice A0_1 l0_1.length c0_1) := (blk_cell BK329.out 1).trans rfl; have hfz232_0 := blk_frozen BK329.out 0; have hfz232_1 := blk_frozen BK329.out 1) | (go_at_call 13; (fail_if_success (have h_once_ := HO368)); (with_reducible refine (trefoillaw04_Own.calls _ _ l0_0 _ _ l0_1 t366 t369 _ ?side1 ?side2 ?side3 ?side4 A203.out).mono ?_); (case side1 => repeat (first | exact (Kd.C_below HR0_0.out HB.out) | (with_reducible refine Kd.C_alloc ?_ _) | (with_reducible refine Kd.C_drewN ?_ _) | (with_reducible refine Kd.C_drew ?_))); (case side2 => exact HC0_0.out); (case side3 => repeat (first | exact (Kd.C_below HR0_1.out HB.out) | (with_reducible refine Kd.C_alloc ?_ _) | (with_reducible refine Kd.C_drewN ?_ _) | (with_reducible refine Kd.C_drew ?_))); (case side4 => exact HC0_1.out); rintro e w233 ⟨v367, v370, rfl, ho0, ho1, hb⟩; have n0_ := Aside0.mk (Kd.R_elder' (by (with_reducible repeat (first | apply Kd.R_alloc | apply Kd.R_drewN | apply Kd.R_drew)); exact HO336.out) (Kd.R_base ho0) hb); have n1_ := Aside0.mk (Kd.R_elder' (by (with_reducible repeat (first | apply Kd.R_alloc | apply Kd.R_drewN | apply Kd.R_drew)); exact HO339.out) (Kd.R_base ho1) hb); have n2_ := Aside0.mk (Kd.R_elder' (by (with_reducible repeat (first | apply Kd.R_alloc | apply Kd.R_drewN | apply Kd.R_drew)); exact HO342.out) (Kd.R_base ho0) hb); have n3_ := Aside0.mk (Kd.R_elder' (by (with_reducible repeat (first | apply Kd.R_alloc | apply Kd.R_drewN | apply Kd.R_drew)); exact HO345.out) (Kd.R_base ho0) hb); have n4_ := Aside0.mk (Kd.R_elder' (by (with_reducible repeat (first | apply Kd.R_alloc | apply Kd.R_drewN | apply Kd.R_drew)); exact HO348.out) (Kd.R_base ho1) hb); have n5_ := Aside0.mk (Kd.R_elder' (by (with_reducible repeat (first | apply Kd.R_alloc | apply Kd.R_drewN | apply Kd.R_drew)); exact HO352.out) (Kd.R_base ho0) hb); have n6_ := Aside0.mk (Kd.R_elder' (by (with_reducible repeat (first | apply Kd.R_alloc | apply Kd.R_drewN | apply Kd.R_drew)); exact HO355.out) (Kd.R_base ho1) hb); have n7_ := Aside0.mk (Kd.R_elder' (by (with_reducible repeat (first | apply Kd.R_alloc | apply Kd.R_drewN | apply Kd.R_drew)); exact HO359.out) (Kd.R_base ho0) hb); have n8_ := Aside0.mk (Kd.R_elder' (by (with_reducible repeat (first | apply Kd.R_alloc | apply Kd.R_drewN | apply Kd.R_drew)); exact HO362.out) (Kd.R_base ho1) hb); have n9_ := Aside0.mk (Kd.R_elder' (by (with_reducible repeat (first | apply Kd.R_alloc | apply Kd.R_drewN | apply Kd.R_drew)); exact HO365.out) (Kd.R_base ho0) hb); have n10_ := Aside0.mk (Kd.R_lower (Kd.R_new' (Kd.R_new' (Kd.R_new' (Kd.R_new' (Kd.R_new' (Kd.R_new' ho0 (Kd.R_lt (by (with_reducible repeat (first | apply Kd.R_alloc | apply Kd.R_drewN | apply Kd.R_drew)); exact HO336.out))) (Kd.R_lt (by (with_reducible repeat (first | apply Kd.R_alloc | apply Kd.R_drewN | apply Kd.R_drew)); exact HO342.out))) (Kd.R_lt (by (with_reducible repeat (first | apply Kd.R_alloc | apply Kd.R_drewN | apply Kd.R_drew)); exact HO345.out))) (Kd.R_lt (by (with_reducible repeat (first | apply Kd.R_alloc | apply Kd.R_drewN | apply Kd.R_drew)); exact HO352.out))) (Kd.R_lt (by (with_reducible repeat (first | apply Kd.R_alloc | apply Kd.R_drewN | apply Kd.R_drew)); exact HO359.out))) (Kd.R_lt (by (with_reducible repeat (first | apply Kd.R_alloc | apply Kd.R_drewN | apply Kd.R_drew)); exact HO365.out))) (below_size (by repeat (first | (with_reducible first | exact HB.out | apply below_alloc | apply pw_below_drewN | apply below_drew1 | refine below_set ?_ GE329.out) | exact HB.out)))); have n11_ := Aside0.mk (Kd.R_lower (Kd.R_new' (Kd.R_new' (Kd.R_new' (Kd.R_new' ho1 (Kd.R_lt (by (with_reducible repeat (first | apply Kd.R_alloc | apply Kd.R_drewN | apply Kd.R_drew)); exact HO339.out))) (Kd.R_lt (by (with_reducible repeat (first | apply Kd.R_alloc | apply Kd.R_drewN | apply Kd.R_drew)); exact HO348.out))) (Kd.R_lt (by (with_reducible repeat (first | apply Kd.R_alloc | apply Kd.R_drewN | apply Kd.R_drew)); exact HO355.out))) (Kd.R_lt (by (with_reducible repeat (first | apply Kd.R_alloc | apply Kd.R_drewN | apply Kd.R_drew)); exact HO362.out))) (below_size (by repeat (first | (with_reducible first | exact HB.out | apply below_alloc | apply pw_below_drewN | apply below_drew1 | refine below_set ?_ GE329.out) | exact HB.out)))); have n12_ := Aside0.mk (blk_below (g := gb329) (o := .cells #[.slice A0_0 l0_0.length c0_0, .slice A0_1 l0_1.length c0_1] 25 (0, 0)) (by (with_reducible repeat (first | refine blk_drewN ?_ _ | refine blk_drew ?_ | refine blk_alloc ?_ _)); exact BK329.out) hb); have n13_ := Aside0.mk (below_step (by repeat (first | (with_reducible first | exact HB.out | apply below_alloc | apply pw_below_drewN | apply below_drew1 | refine below_set ?_ GE329.out) | exact HB.out)) hb); clear HO336; clear HO339; clear HO342; clear HO345; clear HO348; clear HO352; clear HO355; clear HO359; clear HO362; clear HO365; clear BK329; clear HB; have HO336 := n0_; have HO339 := n1_; have HO342 := n2_; have HO345 := n3_; have HO348 := n4_; have HO352 := n5_; have HO355 := n6_; have HO359 := n7_; have HO362 := n8_; have HO365 := n9_; have HO368 := n10_; have HO371 := n11_; have BK329 := n12_; have HB := n13_; clear n0_ n1_ n2_ n3_ n4_ n5_ n6_ n7_ n8_ n9_ n10_ n11_ n12_ n13_; (try clear hb); (try clear hb2); (try clear hk); (try clear hi); (try clear ho0); (try clear ho1); obtain ⟨Ao234, co234, eo234⟩ := Kd.R_slice HO368.out; subst eo234; obtain ⟨Ao235, co235, eo235⟩ := Kd.R_slice HO371.out; subst eo235) | (go_at_call 21; (fail_if_success (have h_once_ := HO374)); (with_reducible refine (dag_Succs.calls _ _ t366 _ _ t369 a1 t372 _ ?side1 ?side2 ?side3 ?side4 A204.out).mono ?_); (case side1 => repeat (first | exact (Kd.R_reads' HO368.out).2.2 | (with_reducible refine Kd.C_alloc ?_ _) | (with_reducible refine Kd.C_drewN ?_ _) | (with_reducible refine Kd.C_drew ?_))); (case side2 => exact (Kd.R_reads' HO368.out).2.1); (case side3 => repeat (first | exact (Kd.R_reads' HO371.out).2.2 | (with_reducible refine Kd.C_alloc ?_ _) | (with_reducible refine Kd.C_drewN ?_ _) | (with_reducible refine Kd.C_drew ?_))); (case side4 => exact (Kd.R_reads' HO371.out).2.1); rintro e w236 ⟨v373, rfl, ho0, hb⟩; have n0_ := Aside0.mk (Kd.R_elder' (by (with_reducible repeat (first | apply Kd.R_alloc | apply Kd.R_drewN | apply Kd.R_drew)); exact HO336.out) (Kd.R_base ho0) hb); have n1_ := Aside0.mk (Kd.R_below (by (with_reducible repeat (first | apply Kd.R_alloc | apply Kd.R_drewN | apply Kd.R_drew)); exact HO339.out) hb); have n2_ := Aside0.mk (Kd.R_elder' (by (with_reducible repeat (first | apply Kd.R_alloc | apply Kd.R_drewN | apply Kd.R_drew)); exact HO342.out) (Kd.R_base ho0) hb); have n3_ := Aside0.mk (Kd.R_elder' (by (with_reducible repeat (first | apply Kd.R_alloc | apply Kd.R_drewN | apply Kd.R_drew)); exact HO345.out) (Kd.R_base ho0) hb); have n4_ := Aside0.mk (Kd.R_below (by (with_reducible repeat (first | apply Kd.R_alloc | apply Kd.R_drewN | apply Kd.R_drew)); exact HO348.out) hb); have n5_ := Aside0.mk (Kd.R_elder' (by (with_reducible repeat (first | apply Kd.R_alloc | apply Kd.R_drewN | apply Kd.R_drew)); exact HO352.out) (Kd.R_base ho0) hb); have n6_ := Aside0.mk (Kd.R_below (by (with_reducible repeat (first | apply Kd.R_alloc | apply Kd.R_drewN | apply Kd.R_drew)); exact HO355.out) hb); have n7_ := Aside0.mk (Kd.R_elder' (by (with_reducible repeat (first | apply Kd.R_alloc | apply Kd.R_drewN | apply Kd.R_drew)); exact HO359.out) (Kd.R_base ho0) hb); have n8_ := Aside0.mk (Kd.R_below (by (with_reducible repeat (first | apply Kd.R_alloc | apply Kd.R_drewN | apply Kd.R_drew)); exact HO362.out) hb); have n9_ := Aside0.mk (Kd.R_elder' (by (with_reducible repeat (first | apply Kd.R_alloc | apply Kd.R_drewN | apply Kd.R_drew)); exact HO365.out) (Kd.R_base ho0) hb); have n10_ := Aside0.mk (Kd.R_elder' (by (with_reducible repeat (first | apply Kd.R_alloc | apply Kd.R_drewN | apply Kd.R_drew)); exact HO368.out) (Kd.R_base ho0) hb); have n11_ := Aside0.mk (Kd.R_below (by (with_reducible repeat (first | apply Kd.R_alloc | apply Kd.R_drewN | apply Kd.R_drew)); exact HO371.out) hb); have n12_ := Aside0.mk (Kd.R_lower (Kd.R_new' (Kd.R_new' (Kd.R_new' (Kd.R_new' (Kd.R_new' (Kd.R_new' (Kd.R_new' ho0 (Kd.R_lt (by (with_reducible repeat (first | apply Kd.R_alloc | apply Kd.R_drewN | apply Kd.R_drew)); exact HO336.out))) (Kd.R_lt (by (with_reducible repeat (first | apply Kd.R_alloc | apply Kd.R_drewN | apply Kd.R_drew)); exact HO342.out))) (Kd.R_lt (by (with_reducible repeat (first | apply Kd.R_alloc | apply Kd.R_drewN | apply Kd.R_drew)); exact HO345.out))) (Kd.R_lt (by (with_reducible repeat (first | apply Kd.R_alloc | apply Kd.R_drewN | apply Kd.R_drew)); exact HO352.out))) (Kd.R_lt (by (with_reducible repeat (first | apply Kd.R_alloc | apply Kd.R_drewN | apply Kd.R_drew)); exact HO359.out))) (Kd.R_lt (by (with_reducible repeat (first | apply Kd.R_alloc | apply Kd.R_drewN | apply Kd.R_drew)); exact HO365.out))) (Kd.R_lt (by (with_reducible repeat (first | apply Kd.R_alloc | apply Kd.R_drewN | apply Kd.R_drew)); exact HO368.out))) (below_size (by repeat (first | (with_reducible first | exact HB.out | apply below_alloc | apply pw_below_drewN | apply below_drew1 | refine below_set ?_ GE329.out) | exact HB.out)))); have n13_ := Aside0.mk (blk_below (g := gb329) (o := .cells #[.slice A0_0 l0_0.length c0_0, .slice A0_1 l0_1.length c0_1] 25 (0, 0)) (by (with_reducible repeat (first | refine blk_drewN ?_ _ | refine blk_drew ?_ | refine blk_alloc ?_ _)); exact BK329.out) hb); have n14_ := Aside0.mk (below_step (by repeat (first | (with_reducible first | exact HB.out | apply below_alloc | apply pw_below_drewN | apply below_drew1 | refine below_set ?_ GE329.out) | exact HB.out)) hb); clear HO336; clear HO339; clear HO342; clear HO345; clear HO348; clear HO352; clear HO355; clear HO359; clear HO362; clear HO365; clear HO368; clear HO371; clear BK329; clear HB; have HO336 := n0_; have HO339 := n1_; have HO342 := n2_; have HO345 := n3_; have HO348 := n4_; have HO352 := n5_; have HO355 := n6_; have HO359 := n7_; have HO362 := n8_; have HO365 := n9_; have HO368 := n10_; have HO371 := n11_; have HO374 := n12_; have BK329 := n13_; have HB := n14_; clear n0_ n1_ n2_ n3_ n4_ n5_ n6_ n7_ n8_ n9_ n10_ n11_ n12_ n13_ n14_; (try clear hb); (try clear hb2); (try clear hk); (try clear hi); (try clear ho0); obtain ⟨Ao237, co237, eo237⟩ := Kd.R_slice HO374.out; subst eo237; have hcz238_0 : w236.cell? ⟨gb329, 0, none⟩ = some (.slice A0_0 l0_0.length c0_0) := (blk_cell BK329.out 0).trans rfl; have hcz238_1 : w236.cell? ⟨gb329, 1, none⟩ = some (.slice A0_1 l0_1.length c0_1) := (blk_cell BK329.out 1).trans rfl; have hfz238_0 := blk_frozen BK329.out 0; have hfz238_1 := blk_frozen BK329.out 1) | (go_at_call 13; (fail_if_success (have h_once_ := HO377)); (with_reducible refine (trefoillaw04_Own.calls _ _ l0_0 _ _ l0_1 t375 t378 _ ?side1 ?side2 ?side3 ?side4 A206.out).mono ?_); (case side1 => repeat (first | exact (Kd.C_below HR0_0.out HB.out) | (with_reducible refine Kd.C_alloc ?_ _) | (with_reducible refine Kd.C_drewN ?_ _) | (with_reducible refine Kd.C_drew ?_))); (case side2 => exact HC0_0.out); (case side3 => repeat (first | exact (Kd.C_below HR0_1.out HB.out) | (with_reducible refine Kd.C_alloc ?_ _) | (with_reducible refine Kd.C_drewN ?_ _) | (with_reducible refine Kd.C_drew ?_))); (case side4 => exact HC0_1.out); rintro e w239 ⟨v376, v379, rfl, ho0, ho1, hb⟩; have n0_ := Aside0.mk (Kd.R_elder' (by (with_reducible repeat (first | apply Kd.R_alloc | apply Kd.R_drewN | apply Kd.R_drew)); exact HO336.out) (Kd.R_base ho0) hb); have n1_ := Aside0.mk (Kd.R_elder' (by (with_reducible repeat (first | apply Kd.R_alloc | apply Kd.R_drewN | apply Kd.R_drew)); exact HO339.out) (Kd.R_base ho1) hb); have n2_ := Aside0.mk (Kd.R_elder' (by (with_reducible repeat (first | apply Kd.R_alloc | apply Kd.R_drewN | apply Kd.R_drew)); exact HO342.out) (Kd.R_base ho0) hb); have n3_ := Aside0.mk (Kd.R_elder' (by (with_reducible repeat (first | apply Kd.R_alloc | apply Kd.R_drewN | apply Kd.R_drew)); exact HO345.out) (Kd.R_base ho0) hb); have n4_ := Aside0.mk (Kd.R_elder' (by (with_reducible repeat (first | apply Kd.R_alloc | apply Kd.R_drewN | apply Kd.R_drew)); exact HO348.out) (Kd.R_base ho1) hb); have n5_ := Aside0.mk (Kd.R_elder' (by (with_reducible repeat (first | apply Kd.R_alloc | apply Kd.R_drewN | apply Kd.R_drew)); exact HO352.out) (Kd.R_base ho0) hb); have n6_ := Aside0.mk (Kd.R_elder' (by (with_reducible repeat (first | apply Kd.R_alloc | apply Kd.R_drewN | apply Kd.R_drew)); exact HO355.out) (Kd.R_base ho1) hb); have n7_ := Aside0.mk (Kd.R_elder' (by (with_reducible repeat (first | apply Kd.R_alloc | apply Kd.R_drewN | apply Kd.R_drew)); exact HO359.out) (Kd.R_base ho0) hb); have n8_ := Aside0.mk (Kd.R_elder' (by (with_reducible repeat (first | apply Kd.R_alloc | apply Kd.R_drewN | apply Kd.R_drew)); exact HO362.out) (Kd.R_base ho1) hb); have n9_ := Aside0.mk (Kd.R_elder' (by (with_reducible repeat (first | apply Kd.R_alloc | apply Kd.R_drewN | apply Kd.R_drew)); exact HO365.out) (Kd.R_base ho0) hb); have n10_ := Aside0.mk (Kd.R_elder' (by (with_reducible repeat (first | apply Kd.R_alloc | apply Kd.R_drewN | apply Kd.R_drew)); exact HO368.out) (Kd.R_base ho0) hb); have n11_ := Aside0.mk (Kd.R_elder' (by (with_reducible repeat (first | apply Kd.R_alloc | apply Kd.R_drewN | apply Kd.R_drew)); exact HO371.out) (Kd.R_base ho1) hb); have n12_ := Aside0.mk (Kd.R_elder' (by (with_reducible repeat (first | apply Kd.R_alloc | apply Kd.R_drewN | apply Kd.R_drew)); exact HO374.out) (Kd.R_base ho0) hb); have n13_ := Aside0.mk (Kd.R_lower (Kd.R_new' (Kd.R_new' (Kd.R_new' (Kd.R_new' (Kd.R_new' (Kd.R_new' (Kd.R_new' (Kd.R_new' ho0 (Kd.R_lt (by (with_reducible repeat (first | apply Kd.R_alloc | apply Kd.R_drewN | apply Kd.R_drew)); exact HO336.out))) (Kd.R_lt (by (with_reducible repeat (first | apply Kd.R_alloc | apply Kd.R_drewN | apply Kd.R_drew)); exact HO342.out))) (Kd.R_lt (by (with_reducible repeat (first | apply Kd.R_alloc | apply Kd.R_drewN | apply Kd.R_drew)); exact HO345.out))) (Kd.R_lt (by (with_reducible repeat (first | apply Kd.R_alloc | apply Kd.R_drewN | apply Kd.R_drew)); exact HO352.out))) (Kd.R_lt (by (with_reducible repeat (first | apply Kd.R_alloc | apply Kd.R_drewN | apply Kd.R_drew)); exact HO359.out))) (Kd.R_lt (by (with_reducible repeat (first | apply Kd.R_alloc | apply Kd.R_drewN | apply Kd.R_drew)); exact HO365.out))) (Kd.R_lt (by (with_reducible repeat (first | apply Kd.R_alloc | apply Kd.R_drewN | apply Kd.R_drew)); exact HO368.out))) (Kd.R_lt (by (with_reducible repeat (first | apply Kd.R_alloc | apply Kd.R_drewN | apply Kd.R_drew)); exact HO374.out))) (below_size (by repeat (first | (with_reducible first | exact HB.out | apply below_alloc | apply pw_below_drewN | apply below_drew1 | refine below_set ?_ GE329.out) | exact HB.out)))); have n14_ := Aside0.mk (Kd.R_lower (Kd.R_new' (Kd.R_new' (Kd.R_new' (Kd.R_new' (Kd.R_new' ho1 (Kd.R_lt (by (with_reducible repeat (first | apply Kd.R_alloc | apply Kd.R_drewN | apply Kd.R_drew)); exact HO339.out))) (Kd.R_lt (by (with_reducible repeat (first | apply Kd.R_alloc | apply Kd.R_drewN | apply Kd.R_drew)); exact HO348.out))) (Kd.R_lt (by (with_reducible repeat (first | apply Kd.R_alloc | apply Kd.R_drewN | apply Kd.R_drew)); exact HO355.out))) (Kd.R_lt (by (with_reducible repeat (first | apply Kd.R_alloc | apply Kd.R_drewN | apply Kd.R_drew)); exact HO362.out))) (Kd.R_lt (by (with_reducible repeat (first | apply Kd.R_alloc | apply Kd.R_drewN | apply Kd.R_drew)); exact HO371.out))) (below_size (by repeat (first | (with_reducible first | exact HB.out | apply below_alloc | apply pw_below_drewN | apply below_drew1 | refine below_set ?_ GE329.out) | exact HB.out)))); have n15_ := Aside0.mk (blk_below (g := gb329) (o := .cells #[.slice A0_0 l0_0.length c0_0, .slice A0_1 l0_1.length c0_1] 25 (0, 0)) (by (with_reducible repeat (first | refine blk_drewN ?_ _ | refine blk_drew ?_ | refine blk_alloc ?_ _)); exact BK329.out) hb); have n16_ := Aside0.mk (below_step (by repeat (first | (with_reducible first | exact HB.out | apply below_alloc | apply pw_below_drewN | apply below_drew1 | refine below_set ?_ GE329.out) | exact HB.out)) hb); clear HO336; clear HO339; clear HO342; clear HO345; clear HO348; clear HO352; clear HO355; clear HO359; clear HO362; clear HO365; clear HO368; clear HO371; clear HO374; clear BK329; clear HB; have HO336 := n0_; have HO339 := n1_; have HO342 := n2_; have HO345 := n3_; have HO348 := n4_; have HO352 := n5_; have HO355 := n6_; have HO359 := n7_; have HO362 := n8_; have HO365 := n9_; have HO368 := n10_; have HO371 := n11_; have HO374 := n12_; have HO377 := n13_; have HO380 := n14_; have BK329 := n15_; have HB := n16_; clear n0_ n1_ n2_ n3_ n4_ n5_ n6_ n7_ n8_ n9_ n10_ n11_ n12_ n13_ n14_ n15_ n16_; (try clear hb); (try clear hb2); (try clear hk); (try clear hi); (try clear ho0); (try clear ho1); obtain ⟨Ao240, co240, eo240⟩ := Kd.R_slice HO377.out; subst eo240; obtain ⟨Ao241, co241, eo241⟩ := Kd.R_slice HO380.out; subst eo241) | (go_at_call 22; (with_reducible refine (dag_Before.calls _ _ t375 _ _ t378 a1 a2 t381 _ ?side1 ?side2 ?side3 ?side4 A207.out).mono ?_); (case side1 => repeat (first | exact (Kd.R_reads' HO377.out).2.2 | (with_reducible refine Kd.C_alloc ?_ _) | (with_reducible refine Kd.C_drewN ?_ _) | (with_reducible refine Kd.C_drew ?_))); (case side2 => exact (Kd.R_reads' HO377.out).2.1); (case side3 => repeat (first | exact (Kd.R_reads' HO380.out).2.2 | (with_reducible refine Kd.C_alloc ?_ _) | (with_reducible refine Kd.C_drewN ?_ _) | (with_reducible refine Kd.C_drew ?_))); (case side4 => exact (Kd.R_reads' HO380.out).2.1); rintro e w242 ⟨rfl, hb⟩; have n0_ := Aside0.mk (Kd.R_below (by (with_reducible repeat (first | apply Kd.R_alloc | apply Kd.R_drewN | apply Kd.R_drew)); exact HO336.out) hb); have n1_ := Aside0.mk (Kd.R_below (by (with_reducible repeat (first | apply Kd.R_alloc | apply Kd.R_drewN | apply Kd.R_drew)); exact HO339.out) hb); have n2_ := Aside0.mk (Kd.R_below (by (with_reducible repeat (first | apply Kd.R_alloc | apply Kd.R_drewN | apply Kd.R_drew)); exact HO342.out) hb); have n3_ := Aside0.mk (Kd.R_below (by (with_reducible repeat (first | apply Kd.R_alloc | apply Kd.R_drewN | apply Kd.R_drew)); exact HO345.out) hb); have n4_ := Aside0.mk (Kd.R_below (by (with_reducible repeat (first | apply Kd.R_alloc | apply Kd.R_drewN | apply Kd.R_drew)); exact HO348.out) hb); have n5_ := Aside0.mk (Kd.R_below (by (with_reducible repeat (first | apply Kd.R_alloc | apply Kd.R_drewN | apply Kd.R_drew)); exact HO352.out) hb); have n6_ := Aside0.mk (Kd.R_below (by (with_reducible repeat (first | apply Kd.R_alloc | apply Kd.R_drewN | apply Kd.R_drew)); exact HO355.out) hb); have n7_ := Aside0.mk (Kd.R_below (by (with_reducible repeat (first | apply Kd.R_alloc | apply Kd.R_drewN | apply Kd.R_drew)); exact HO359.out) hb); have n8_ := Aside0.mk (Kd.R_below (by (with_reducible repeat (first | apply Kd.R_alloc | apply Kd.R_drewN | apply Kd.R_drew)); exact HO362.out) hb); have n9_ := Aside0.mk (Kd.R_below (by (with_reducible repeat (first | apply Kd.R_alloc | apply Kd.R_drewN | apply Kd.R_drew)); exact HO365.out) hb); have n10_ := Aside0.mk (Kd.R_below (by (with_reducible repeat (first | apply Kd.R_alloc | apply Kd.R_drewN | apply Kd.R_drew)); exact HO368.out) hb); have n11_ := Aside0.mk (Kd.R_below (by (with_reducible repeat (first | apply Kd.R_alloc | apply Kd.R_drewN | apply Kd.R_drew)); exact HO371.out) hb); have n12_ := Aside0.mk (Kd.R_below (by (with_reducible repeat (first | apply Kd.R_alloc | apply Kd.R_drewN | apply Kd.R_drew)); exact HO374.out) hb); have n13_ := Aside0.mk (Kd.R_below (by (with_reducible repeat (first | apply Kd.R_alloc | apply Kd.R_drewN | apply Kd.R_drew)); exact HO377.out) hb); have n14_ := Aside0.mk (Kd.R_below (by (with_reducible repeat (first | apply Kd.R_alloc | apply Kd.R_drewN | apply Kd.R_drew)); exact HO380.out) hb); have n15_ := Aside0.mk (blk_below (g := gb329) (o := .cells #[.slice A0_0 l0_0.length c0_0, .slice A0_1 l0_1.length c0_1] 25 (0, 0)) (by (with_reducible repeat (first | refine blk_drewN ?_ _ | refine blk_drew ?_ | refine blk_alloc ?_ _)); exact BK329.out) hb); have n16_ := Aside0.mk (below_step (by repeat (first | (with_reducible first | exact HB.out | apply below_alloc | apply pw_below_drewN | apply below_drew1 | refine below_set ?_ GE329.out) | exact HB.out)) hb); clear HO336; clear HO339; clear HO342; clear HO345; clear HO348; clear HO352; clear HO355; clear HO359; clear HO362; clear HO365; clear HO368; clear HO371; clear HO374; clear HO377; clear HO380; clear BK329; clear HB; have HO336 := n0_; have HO339 := n1_; have HO342 := n2_; have HO345 := n3_; have HO348 := n4_; have HO352 := n5_; have HO355 := n6_; have HO359 := n7_; have HO362 := n8_; have HO365 := n9_; have HO368 := n10_; have HO371 := n11_; have HO374 := n12_; have HO377 := n13_; have HO380 := n14_; have BK329 := n15_; have HB := n16_; clear n0_ n1_ n2_ n3_ n4_ n5_ n6_ n7_ n8_ n9_ n10_ n11_ n12_ n13_ n14_ n15_ n16_; (try clear hb); (try clear hb2); (try clear hk); (try clear hi)))
                    go_ret
                    exact ⟨by first | rfl | (simp [errW_none, errW_some] <;> rfl) | (simp [*, errW_none, errW_some] <;> rfl), by repeat (first | (with_reducible first | exact HB.out | apply below_alloc | apply pw_below_drewN | apply below_drew1 | refine below_set ?_ GE329.out) | exact HB.out)⟩
                  · rw [if_neg c205] at H
                    have c205b0 : ((t372.length : Int) == 0) = false := beq_eq_false_iff_ne.mpr c205
                    have c205b1 : ((t372.length : Int) != 0) = true := bne_iff_ne.mpr c205
                    have c205b2 : ¬ (t372 = []) := fun h_ => c205 (by rw [h_]; rfl)
                    exact absurd ((Option.some.inj H).trans hrt.out) (by decide)
                · rw [if_neg c202] at H
                  have c202b0 : ((t363.length : Int) == 0) = false := beq_eq_false_iff_ne.mpr c202
                  have c202b1 : ((t363.length : Int) != 0) = true := bne_iff_ne.mpr c202
                  have c202b2 : ¬ (t363 = []) := fun h_ => c202 (by rw [h_]; rfl)
                  exact absurd ((Option.some.inj H).trans hrt.out) (by decide)
              · rw [if_neg c199] at H
                have c199b0 : (t356 == 0) = false := beq_eq_false_iff_ne.mpr c199
                have c199b1 : (t356 != 0) = true := bne_iff_ne.mpr c199
                exact absurd ((Option.some.inj H).trans hrt.out) (by decide)
            · rw [if_neg c196] at H
              have c196b0 : (t349 == 0) = false := beq_eq_false_iff_ne.mpr c196
              have c196b1 : (t349 != 0) = true := bne_iff_ne.mpr c196
              exact absurd ((Option.some.inj H).trans hrt.out) (by decide)
          · rw [if_neg c193] at H
            have c193b0 : ((t340.length : Int) == 0) = false := beq_eq_false_iff_ne.mpr c193
            have c193b1 : ((t340.length : Int) != 0) = true := bne_iff_ne.mpr c193
            have c193b2 : ¬ (t340 = []) := fun h_ => c193 (by rw [h_]; rfl)
            exact absurd ((Option.some.inj H).trans hrt.out) (by decide)
end Go.Proofs.Ytjkindoedkjnbaa.PDagTells
