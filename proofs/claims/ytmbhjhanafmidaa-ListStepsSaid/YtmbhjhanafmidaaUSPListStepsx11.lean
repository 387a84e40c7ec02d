/- Written by a program of this work: each theorem says that a call of the Go function comes to what the Lean function beside it tells, under the conditions that it names; Lean checks it. -/
import Derived.Test.YtmbhjhanafmidaaUSPListStepsx0
import Derived.Test.YtmbhjhanafmidaaUSZr
import Derived.Test.YtmbhjhanafmidaaUSZq
namespace Go.Proofs.Ytmbhjhanafmidaa.PListSteps
open Go.Proofs.Ytmbhjhanafmidaa.PAw Go.Proofs.Ytmbhjhanafmidaa.Zr Go.RowKit Go.Proofs.YtmbhjhanafmidaaW.PrintWords Go.Proofs.YtmbhjhanafmidaaW.PrintLast Go.Proofs.YtmbhjhanafmidaaW.PrintMore
attribute [local go_sem] max2_int min2_int max_two min_two max_three min_three max_four min_four   -- for this text's walks alone
set_option linter.unusedVariables false
set_option linter.unusedSimpArgs false
def trefoillaw04_Own.f (l0_0 : List Int) (l0_1 : List (S85)) : Option (List Int × (List (S85))) := (some (([] : List Int) : List Int)).bind fun y276 => (if y276.length + l0_0.length < 17592186044416 then ((some (([] : List (S85)) : List (S85))).bind fun y282 => (if y282.length + l0_1.length < 8796093022208 then (some ((y276 ++ l0_0), (y282 ++ l0_1))) else (none))) else (none))
def trefoillaw04_Own.T1 : Bool × List (List Nat × List Nat) := (true, [([], []), ([], []), ([1], [1]), ([0, 2], [0, 2]), ([], []), ([], []), ([5], [5]), ([4, 6, 3], [4, 6]), ([3, 7], [3, 7]), ([8, 7, 0, 1, 2, 3, 4, 5, 6, 7, 8], [8])])
def trefoillaw04_Own.B1 : List Nat := [0, 0, 2, 7, 0, 0, 32, 127, 255, 511]
theorem trefoillaw04_Own.tab1 : rtab .any (opsOf Try.f12 1) = trefoillaw04_Own.T1 := by kernel_rfl
theorem trefoillaw04_Own.bits1 : waitsOk trefoillaw04_Own.T1.2 trefoillaw04_Own.B1 = true := by kernel_rfl
set_option maxHeartbeats 8000000 in
set_option maxRecDepth 100000 in
theorem trefoillaw04_Own.calls (A0_0 : Option Addr) (c0_0 : Nat) (l0_0 : List Int) (A0_1 : Option Addr) (c0_1 : Nat) (l0_1 : List (S85)) (r1 : List Int) (r2 : List (S85)) (w : World) (hr0_0 : Kd.C (Kd.int .i64) w A0_0 l0_0.length l0_0) (hc0_0 : l0_0.length ≤ c0_0) (hr0_1 : Kd.C k85 w A0_1 l0_1.length l0_1) (hc0_1 : l0_1.length ≤ c0_1) (h : trefoillaw04_Own.f l0_0 l0_1 = some (r1, r2)) :
  Calls Try.prog 12 #[.agg #[.slice A0_0 l0_0.length c0_0, .slice A0_1 l0_1.length c0_1]] w fun e w' => ∃ v0_ v1_ : Value, e = .returned (.agg #[v0_, v1_]) ∧ Kd.R (Kd.int .i64) 3 w' w.heap.size (fun _ => True) v0_ r1 ∧ Kd.R k85 85 w' w.heap.size (fun _ => True) v1_ r2 ∧ Below w.heap.size w w' := by
 have hu25 := Try.underlying25
 have HR0_0 := Z0 hr0_0
 have HC0_0 := Z0 hc0_0
 clear hr0_0 hc0_0
 have HR0_1 := Z0 hr0_1
 have HC0_1 := Z0 hc0_1
 clear hr0_1 hc0_1
 have HB := Z0 (Below.refl w.heap.size w)
 have H : ((some (([] : List Int) : List Int)).bind fun y276 => (if y276.length + l0_0.length < 17592186044416 then ((some (([] : List (S85)) : List (S85))).bind fun y282 => (if y282.length + l0_1.length < 8796093022208 then (some ((y276 ++ l0_0), (y282 ++ l0_1))) else (none))) else (none))) = some (r1, r2) := h
 clear h
 obtain ⟨y276, hy276⟩ : ∃ y_ : List Int, y_ = (([] : List Int)) := ⟨_, rfl⟩
 replace H : (if y276.length + l0_0.length < 17592186044416 then ((some (([] : List (S85)) : List (S85))).bind fun y282 => (if y282.length + l0_1.length < 8796093022208 then (some ((y276 ++ l0_0), (y282 ++ l0_1))) else (none))) else (none)) = some (r1, r2) := by first | (rw [hy276]; with_reducible exact H) | (have H2_ := (Option.bind_some _ _).symm.trans H; rw [hy276]; with_reducible exact H2_) | (have H2_ := (Option.bind_some _ _).symm.trans H; with_reducible exact H2_) | with_reducible exact H | (rw [hy276]; exact H) | exact H
 have Ny276 := Z0 hy276
 clear hy276
 by_cases c2 : y276.length + l0_0.length < 17592186044416
 rotate_left
 ·rw [if_neg c2] at H
  exact absurd H (by simp)
 rw [if_pos c2] at H
 have LMc2 := Z0 c2
 clear c2
 obtain ⟨y279, hy279⟩ : ∃ y_ : List Int, y_ = (y276 ++ l0_0) := ⟨_, rfl⟩
 replace H : ((some (([] : List (S85)) : List (S85))).bind fun y282 => (if y282.length + l0_1.length < 8796093022208 then (some (y279, (y282 ++ l0_1))) else (none))) = some (r1, r2) := by first | (rw [hy279]; with_reducible exact H) | (have H2_ := (Option.bind_some _ _).symm.trans H; rw [hy279]; with_reducible exact H2_) | (have H2_ := (Option.bind_some _ _).symm.trans H; with_reducible exact H2_) | with_reducible exact H | (rw [hy279]; exact H) | exact H
 have Ny279 := Z0 hy279
 clear hy279
 obtain ⟨y282, hy282⟩ : ∃ y_ : List (S85), y_ = (([] : List (S85))) := ⟨_, rfl⟩
 replace H : (if y282.length + l0_1.length < 8796093022208 then (some (y279, (y282 ++ l0_1))) else (none)) = some (r1, r2) := by first | (rw [hy282]; with_reducible exact H) | (have H2_ := (Option.bind_some _ _).symm.trans H; rw [hy282]; with_reducible exact H2_) | (have H2_ := (Option.bind_some _ _).symm.trans H; with_reducible exact H2_) | with_reducible exact H | (rw [hy282]; exact H) | exact H
 have Ny282 := Z0 hy282
 clear hy282
 by_cases c3 : y282.length + l0_1.length < 8796093022208
 rotate_left
 ·rw [if_neg c3] at H
  exact absurd H (by simp)
 rw [if_pos c3] at H
 have LMc3 := Z0 c3
 clear c3
 obtain ⟨y285, hy285⟩ : ∃ y_ : List (S85), y_ = (y282 ++ l0_1) := ⟨_, rfl⟩
 replace H : (some (y279, y285)) = some (r1, r2) := by first | (rw [hy285]; with_reducible exact H) | (have H2_ := (Option.bind_some _ _).symm.trans H; rw [hy285]; with_reducible exact H2_) | (have H2_ := (Option.bind_some _ _).symm.trans H; with_reducible exact H2_) | with_reducible exact H | (rw [hy285]; exact H) | exact H
 have Ny285 := Z0 hy285
 clear hy285
 simp only [Option.some.injEq, Prod.mk.injEq] at H
 obtain ⟨rfl, rfl⟩ := H
 go_enter Try.func12, Try.ntmps12
 try go_wp2_with (first | ((with_reducible refine gate_dst (N := 1) rfl ?_); refine zx (N := 1) #[.slice A0_0 l0_0.length c0_0, .slice A0_1 l0_1.length c0_1] 25 ?_; intro gb274 hg w4 hbox hb; have BK274 := Z0 (hbox); have GW274 := Z0 (zh w hg HB); have GE274 := Z0 (zh w hg HB); replace HB := Z0 (below_step (zb HB) hb); clear hb hbox hg) | ((with_reducible refine gate_dst (N := 2) rfl ?_); refine zx (N := 2) #[.slice none 0 0, .slice none 0 0] 25 ?_; intro gb275 hg w5 hbox hb; have BK275 := Z0 (hbox); have GW275 := Z0 (zh w hg HB); have GE275 := Z0 (zh w hg HB); replace HB := Z0 (below_step (zb HB) hb); have NB274_275 := Z0 (zl hg BK274); have NB275_274 := Z0 (zu hg BK274); replace BK274 := Z0 (zkb BK274 hb); clear hb hbox hg))
 replace BK274 := Z0 (kd_ BK274.out)
 replace BK275 := Z0 (kd_ BK275.out)
 replace HB := Z0 (wd HB.out)
 refine start_ (n := 10) (S := fun w' => w'.cell? ⟨gb274, 0, none⟩ = some (.slice A0_0 l0_0.length c0_0) ∧ w'.cell? ⟨gb274, 1, none⟩ = some (.slice A0_1 l0_1.length c0_1)) (ds := []) (bz 10 0) (by kernel_rfl) rfl rfl ⟨kz0 BK274, kz1 BK274⟩ (fun hHeld => ?_); refine with_tabW trefoillaw04_Own.tab1 trefoillaw04_Own.bits1 (fun HT_ HW_ => ?_)
 generalize w5.drew = w6 at BK274 BK275 HB hHeld ⊢
 refine pu 1 (some 4) (bz 10 2) HT_ ?_
 refine pu 5 (some 8) (bz 10 34) HT_ ?_
 refine tk2 2 (some 5) (bz 10 38) HT_ HW_ hHeld ?_
 refine tk2 6 (some 9) (bz 10 102) HT_ HW_ hHeld ?_
 refine join_ (σ := Value × Value × Value) 3 (bz 10 127) (fun s_ => [(3, s_.1), (6, s_.2.1), (7, s_.2.2)]) (fun s_ w' => (w'.cell? ⟨gb274, 0, none⟩ = some (.slice A0_0 l0_0.length c0_0) ∧ w'.cell? ⟨gb274, 1, none⟩ = some (.slice A0_1 l0_1.length c0_1)) ∧ (Kd.R (Kd.int .i64) 3 w' w.heap.size (fun _ => True) s_.2.1 y279) ∧ (Kd.R k85 85 w' w.heap.size (fun _ => True) s_.2.2 y282) ∧ (w'.heap[gb274]? = some (.cells #[.slice A0_0 l0_0.length c0_0, .slice A0_1 l0_1.length c0_1] 25 (0, 0))) ∧ (w'.heap[gb275]? = some (.cells #[.slice none 0 0, .slice none 0 0] 25 (0, 0))) ∧ (Below w.heap.size w w')) ?_ ?_
 rotate_left
 ·intro hCont
  refine two_ (i := 0) (j := 4) (Ni := some 3) (Nj := some 7) (bz 10 103) (bz 10 118) rfl rfl rfl rfl (two_of HT_.out (by kernel_rfl)) (by decide) (by decide) (fun K hK => ?_) (fun K hK => ?_)
  ·skip
   refine Kd.R_lit_step (Kd.int .i64) _ 3 ?hg (N := 3) ?hd (xs := ([] : List Int)) (inner := []) (ok := fun _ => True) (okp := fun _ => True) ?hr ?hp (fun _ hk => hk) trivial (Below.refl _ _) (Nat.le_refl _) (by simp) ?_; (case hd => rfl); (case hg => rfl); (case hr => first | (go_simp; done) | (go_simp; rfl)); (case hp => exact (Reps.none _ _))
   intro v277 w7 ho8 hb hg_ hnew_
   clear hg_ hnew_
   (first | rw [← Ny276.out] at ho8 | (simp only [Int.reduceToNat] at ho8; rw [← Ny276.out] at ho8))
   have HO278 := Z0 (rl ho8 (below_size (zb HB)))
   replace BK274 := Z0 (zkb BK274 hb)
   replace BK275 := Z0 (zkb BK275 hb)
   replace HB := Z0 (below_step (zb HB) hb)
   clear hb ho8
   refine hK.out _ _ ⟨kz0 BK274, kz1 BK274⟩ (fun hHeld => ?_)
   clear hK K
   refine norm_ (a' := ?_) ?_ ?_
   rotate_left
   ·show Act.put _ (some 3) _ = _
    simp only [Act.put, y0, y1, y2, i64_w, i32_w]
    rfl
   refine two_ (i := 3) (j := 4) (Ni := some 6) (Nj := some 7) (bz 10 111) (bz 10 119) rfl rfl rfl rfl (two_of HT_.out (by kernel_rfl)) (by decide) (by decide) (fun K hK => ?_) (fun K hK => ?_)
   ·skip
    refine Kd.R_append_rows_step (Kd.int .i64) (w0 := w) w.heap.size (by rfl) (.tmp 3) (.tmp 5) 22 3 (.int .i64 0) 8 rfl Try.underlying22 info3 rfl (by decide) (by omega) v277 y276 l0_0 _ _ _ (fun _ => True) (fun _ => False) rfl rfl ?aO ?aR (fun _ _ h => h) (fun _ h => h.elim) ?aF ?aB ?aS ?aL ?_
    (case aR => repeat (first | exact (Kd.C_below HR0_0.out HB.out) | (with_reducible refine Kd.C_alloc ?_ _) | (with_reducible refine Kd.C_drewN ?_ _) | (with_reducible refine Kd.C_drew ?_)))
    (case aB => exact (zb HB))
    (case aF => exact (fun _ _ => trivial))
    (case aO => exact (zr HO278))
    (case aS => exact (below_size (zb HB)))
    (case aL => have := LMc2.out; omega)
    intro v280 w9 ho hb hg hat
    rw [← Ny279.out] at ho
    replace BK274 := Z0 (blk_grown (g := gb274) (o := .cells #[.slice A0_0 l0_0.length c0_0, .slice A0_1 l0_1.length c0_1] 25 (0, 0)) (zk BK274) hg (Kd.R_ne HO278.out BK274.out (by decide)))
    replace BK275 := Z0 (blk_grown (g := gb275) (o := .cells #[.slice none 0 0, .slice none 0 0] 25 (0, 0)) (zk BK275) hg (Kd.R_ne HO278.out BK275.out (by decide)))
    replace HB := Z0 (hb)
    have HO281 := Z0 (ho)
    clear HO278
    clear ho hb hg hat
    refine hK.out _ _ ⟨kz0 BK274, kz1 BK274⟩ (fun hHeld => ?_)
    clear hK K
    refine norm_ (a' := ?_) ?_ ?_
    rotate_left
    ·show Act.put _ (some 6) _ = _
     simp only [Act.put, y0, y1, y2, i64_w, i32_w]
     rfl
    refine one_ (i := 4) (N := some 7) (bz 10 127) rfl rfl (one_of HT_.out (by kernel_rfl)) (by decide) (fun K hK => ?_)
    refine Kd.R_lit_step k85 _ 85 ?hg (N := 7) ?hd (xs := ([] : List (S85))) (inner := []) (ok := fun _ => True) (okp := fun _ => True) ?hr ?hp (fun _ hk => hk) trivial (Below.refl _ _) (Nat.le_refl _) (by simp) ?_; (case hd => rfl); (case hg => rfl); (case hr => first | (go_simp; done) | (go_simp; rfl)); (case hp => exact (Reps.none _ _))
    intro v283 w10 ho11 hb hg_ hnew_
    clear hg_ hnew_
    (first | rw [← Ny282.out] at ho11 | (simp only [Int.reduceToNat] at ho11; rw [← Ny282.out] at ho11))
    replace HO281 := Z0 (rbe (zr HO281) hb)
    have HO284 := Z0 (rl ho11 (below_size (zb HB)))
    replace BK274 := Z0 (zkb BK274 hb)
    replace BK275 := Z0 (zkb BK275 hb)
    replace HB := Z0 (below_step (zb HB) hb)
    clear hb ho11
    refine hK.out _ _ ⟨kz0 BK274, kz1 BK274⟩ (fun hHeld => ?_)
    clear hK K
    refine norm_ (a' := ?_) ?_ ?_
    rotate_left
    ·show Act.put _ (some 7) _ = _
     simp only [Act.put, y0, y1, y2, i64_w, i32_w]
     rfl
    exact norm_ (by simp only [putAll, Act.put, y0, y1, y2]) (hCont (v277, v280, v283) _ ⟨hHeld, (zr HO281), (zr HO284), (zk BK274), (zk BK275), (zb HB)⟩)
   ·skip
    refine Kd.R_lit_step k85 _ 85 ?hg (N := 7) ?hd (xs := ([] : List (S85))) (inner := []) (ok := fun _ => True) (okp := fun _ => True) ?hr ?hp (fun _ hk => hk) trivial (Below.refl _ _) (Nat.le_refl _) (by simp) ?_; (case hd => rfl); (case hg => rfl); (case hr => first | (go_simp; done) | (go_simp; rfl)); (case hp => exact (Reps.none _ _))
    intro v283 w9 ho10 hb hg_ hnew_
    clear hg_ hnew_
    (first | rw [← Ny282.out] at ho10 | (simp only [Int.reduceToNat] at ho10; rw [← Ny282.out] at ho10))
    replace HO278 := Z0 (rbe (zr HO278) hb)
    have HO284 := Z0 (rl ho10 (below_size (zb HB)))
    replace BK274 := Z0 (zkb BK274 hb)
    replace BK275 := Z0 (zkb BK275 hb)
    replace HB := Z0 (below_step (zb HB) hb)
    clear hb ho10
    refine hK.out _ _ ⟨kz0 BK274, kz1 BK274⟩ (fun hHeld => ?_)
    clear hK K
    refine norm_ (a' := ?_) ?_ ?_
    rotate_left
    ·show Act.put _ (some 7) _ = _
     simp only [Act.put, y0, y1, y2, i64_w, i32_w]
     rfl
    refine one_ (i := 3) (N := some 6) (bz 10 127) rfl rfl (one_of HT_.out (by kernel_rfl)) (by decide) (fun K hK => ?_)
    refine Kd.R_append_rows_step (Kd.int .i64) (w0 := w) w.heap.size (by rfl) (.tmp 3) (.tmp 5) 22 3 (.int .i64 0) 8 rfl Try.underlying22 info3 rfl (by decide) (by omega) v277 y276 l0_0 _ _ _ (fun _ => True) (fun _ => False) rfl rfl ?aO ?aR (fun _ _ h => h) (fun _ h => h.elim) ?aF ?aB ?aS ?aL ?_
    (case aR => repeat (first | exact (Kd.C_below HR0_0.out HB.out) | (with_reducible refine Kd.C_alloc ?_ _) | (with_reducible refine Kd.C_drewN ?_ _) | (with_reducible refine Kd.C_drew ?_)))
    (case aB => exact (zb HB))
    (case aF => exact (fun _ _ => trivial))
    (case aO => exact (zr HO278))
    (case aS => exact (below_size (zb HB)))
    (case aL => have := LMc2.out; omega)
    intro v280 w11 ho hb hg hat
    rw [← Ny279.out] at ho
    replace BK274 := Z0 (blk_grown (g := gb274) (o := .cells #[.slice A0_0 l0_0.length c0_0, .slice A0_1 l0_1.length c0_1] 25 (0, 0)) (zk BK274) hg (Kd.R_ne HO278.out BK274.out (by decide)))
    replace BK275 := Z0 (blk_grown (g := gb275) (o := .cells #[.slice none 0 0, .slice none 0 0] 25 (0, 0)) (zk BK275) hg (Kd.R_ne HO278.out BK275.out (by decide)))
    replace HO284 := Z0 (Kd.R_over' (zr HO284) (Kd.R_typed (zr HO278)) (by decide) hg)
    replace HB := Z0 (hb)
    have HO281 := Z0 (ho)
    clear HO278
    clear ho hb hg hat
    refine hK.out _ _ ⟨kz0 BK274, kz1 BK274⟩ (fun hHeld => ?_)
    clear hK K
    refine norm_ (a' := ?_) ?_ ?_
    rotate_left
    ·show Act.put _ (some 6) _ = _
     simp only [Act.put, y0, y1, y2, i64_w, i32_w]
     rfl
    exact norm_ (by simp only [putAll, Act.put, y0, y1, y2]) (hCont (v277, v280, v283) _ ⟨hHeld, (zr HO281), (zr HO284), (zk BK274), (zk BK275), (zb HB)⟩)
  ·skip
   refine Kd.R_lit_step k85 _ 85 ?hg (N := 7) ?hd (xs := ([] : List (S85))) (inner := []) (ok := fun _ => True) (okp := fun _ => True) ?hr ?hp (fun _ hk => hk) trivial (Below.refl _ _) (Nat.le_refl _) (by simp) ?_; (case hd => rfl); (case hg => rfl); (case hr => first | (go_simp; done) | (go_simp; rfl)); (case hp => exact (Reps.none _ _))
   intro v283 w7 ho8 hb hg_ hnew_
   clear hg_ hnew_
   (first | rw [← Ny282.out] at ho8 | (simp only [Int.reduceToNat] at ho8; rw [← Ny282.out] at ho8))
   have HO284 := Z0 (rl ho8 (below_size (zb HB)))
   replace BK274 := Z0 (zkb BK274 hb)
   replace BK275 := Z0 (zkb BK275 hb)
   replace HB := Z0 (below_step (zb HB) hb)
   clear hb ho8
   refine hK.out _ _ ⟨kz0 BK274, kz1 BK274⟩ (fun hHeld => ?_)
   clear hK K
   refine norm_ (a' := ?_) ?_ ?_
   rotate_left
   ·show Act.put _ (some 7) _ = _
    simp only [Act.put, y0, y1, y2, i64_w, i32_w]
    rfl
   refine one_ (i := 0) (N := some 3) (bz 10 119) rfl rfl (one_of HT_.out (by kernel_rfl)) (by decide) (fun K hK => ?_)
   refine Kd.R_lit_step (Kd.int .i64) _ 3 ?hg (N := 3) ?hd (xs := ([] : List Int)) (inner := []) (ok := fun _ => True) (okp := fun _ => True) ?hr ?hp (fun _ hk => hk) trivial (Below.refl _ _) (Nat.le_refl _) (by simp) ?_; (case hd => rfl); (case hg => rfl); (case hr => first | (go_simp; done) | (go_simp; rfl)); (case hp => exact (Reps.none _ _))
   intro v277 w9 ho10 hb hg_ hnew_
   clear hg_ hnew_
   (first | rw [← Ny276.out] at ho10 | (simp only [Int.reduceToNat] at ho10; rw [← Ny276.out] at ho10))
   replace HO284 := Z0 (rbe (zr HO284) hb)
   have HO278 := Z0 (rl ho10 (below_size (zb HB)))
   replace BK274 := Z0 (zkb BK274 hb)
   replace BK275 := Z0 (zkb BK275 hb)
   replace HB := Z0 (below_step (zb HB) hb)
   clear hb ho10
   refine hK.out _ _ ⟨kz0 BK274, kz1 BK274⟩ (fun hHeld => ?_)
   clear hK K
   refine norm_ (a' := ?_) ?_ ?_
   rotate_left
   ·show Act.put _ (some 3) _ = _
    simp only [Act.put, y0, y1, y2, i64_w, i32_w]
    rfl
   refine one_ (i := 3) (N := some 6) (bz 10 127) rfl rfl (one_of HT_.out (by kernel_rfl)) (by decide) (fun K hK => ?_)
   refine Kd.R_append_rows_step (Kd.int .i64) (w0 := w) w.heap.size (by rfl) (.tmp 3) (.tmp 5) 22 3 (.int .i64 0) 8 rfl Try.underlying22 info3 rfl (by decide) (by omega) v277 y276 l0_0 _ _ _ (fun _ => True) (fun _ => False) rfl rfl ?aO ?aR (fun _ _ h => h) (fun _ h => h.elim) ?aF ?aB ?aS ?aL ?_
   (case aR => repeat (first | exact (Kd.C_below HR0_0.out HB.out) | (with_reducible refine Kd.C_alloc ?_ _) | (with_reducible refine Kd.C_drewN ?_ _) | (with_reducible refine Kd.C_drew ?_)))
   (case aB => exact (zb HB))
   (case aF => exact (fun _ _ => trivial))
   (case aO => exact (zr HO278))
   (case aS => exact (below_size (zb HB)))
   (case aL => have := LMc2.out; omega)
   intro v280 w11 ho hb hg hat
   rw [← Ny279.out] at ho
   replace BK274 := Z0 (blk_grown (g := gb274) (o := .cells #[.slice A0_0 l0_0.length c0_0, .slice A0_1 l0_1.length c0_1] 25 (0, 0)) (zk BK274) hg (Kd.R_ne HO278.out BK274.out (by decide)))
   replace BK275 := Z0 (blk_grown (g := gb275) (o := .cells #[.slice none 0 0, .slice none 0 0] 25 (0, 0)) (zk BK275) hg (Kd.R_ne HO278.out BK275.out (by decide)))
   replace HO284 := Z0 (Kd.R_over' (zr HO284) (Kd.R_typed (zr HO278)) (by decide) hg)
   replace HB := Z0 (hb)
   have HO281 := Z0 (ho)
   clear HO278
   clear ho hb hg hat
   refine hK.out _ _ ⟨kz0 BK274, kz1 BK274⟩ (fun hHeld => ?_)
   clear hK K
   refine norm_ (a' := ?_) ?_ ?_
   rotate_left
   ·show Act.put _ (some 6) _ = _
    simp only [Act.put, y0, y1, y2, i64_w, i32_w]
    rfl
   exact norm_ (by simp only [putAll, Act.put, y0, y1, y2]) (hCont (v277, v280, v283) _ ⟨hHeld, (zr HO281), (zr HO284), (zk BK274), (zk BK275), (zb HB)⟩)
 rintro ⟨v277, v280, v283⟩ w12 ⟨hS_, h0_, h1_, h2_, h3_, h4_⟩
 clear BK274
 clear BK275
 clear HB
 dsimp only at h0_ h1_ h2_ h3_ h4_
 have HO281 := Z0 h0_
 have HO284 := Z0 h1_
 have BK274 := Z0 h2_
 have BK275 := Z0 h3_
 have HB := Z0 h4_
 clear h0_ h1_ h2_ h3_ h4_
 have hHeld : w12.cell? ⟨gb274, 0, none⟩ = some (.slice A0_0 l0_0.length c0_0) ∧ w12.cell? ⟨gb274, 1, none⟩ = some (.slice A0_1 l0_1.length c0_1) := hS_
 refine norm_ (a' := ?_) ?_ ?_; rotate_left; simp only [putAll, Act.put, y0, y1, y2]; rfl
 refine one_ (i := 7) (N := some 10) (bz 10 255) rfl rfl (one_of HT_.out (by kernel_rfl)) (by decide) (fun K hK => ?_)
 refine Kd.R_append_rows_step k85 (w0 := w) w.heap.size (by rfl) (.tmp 7) (.tmp 9) 23 85 (.agg #[(.int .i64 0), (.int .i64 0)]) 16 rfl Try.underlying23 info85 rfl (by decide) (by omega) v283 y282 l0_1 _ _ _ (fun _ => True) (fun _ => False) rfl rfl ?aO ?aR (fun _ _ h => h) (fun _ h => h.elim) ?aF ?aB ?aS ?aL ?_
 (case aR => repeat (first | exact (Kd.C_below HR0_1.out HB.out) | (with_reducible refine Kd.C_alloc ?_ _) | (with_reducible refine Kd.C_drewN ?_ _) | (with_reducible refine Kd.C_drew ?_)))
 (case aB => exact (zb HB))
 (case aF => exact (fun _ _ => trivial))
 (case aO => exact (zr HO284))
 (case aS => exact (below_size (zb HB)))
 (case aL => have := LMc3.out; omega)
 intro v286 w13 ho hb hg hat
 rw [← Ny285.out] at ho
 replace BK274 := Z0 (blk_grown (g := gb274) (o := .cells #[.slice A0_0 l0_0.length c0_0, .slice A0_1 l0_1.length c0_1] 25 (0, 0)) (zk BK274) hg (Kd.R_ne HO284.out BK274.out (by decide)))
 replace BK275 := Z0 (blk_grown (g := gb275) (o := .cells #[.slice none 0 0, .slice none 0 0] 25 (0, 0)) (zk BK275) hg (Kd.R_ne HO284.out BK275.out (by decide)))
 replace HO281 := Z0 (Kd.R_over' (zr HO281) (Kd.R_typed (zr HO284)) (by decide) hg)
 replace HB := Z0 (hb)
 have HO287 := Z0 (ho)
 clear HO284
 clear ho hb hg hat
 obtain ⟨Ao14, co14, eo14⟩ := Kd.R_slice HO287.out
 subst eo14
 obtain ⟨Ao15, co15, eo15⟩ := Kd.R_slice HO281.out
 subst eo15
 refine hK.out _ _ ⟨kz0 BK274, kz1 BK274⟩ (fun hHeld => ?_)
 clear hK K
 refine norm_ (a' := ?_) ?_ ?_
 rotate_left
 ·show Act.put _ (some 10) _ = _
  simp only [Act.put, y0, y1, y2, i64_w, i32_w]
  rfl
 refine pu 8 (some 11) (bz 10 511) HT_ ?_
 refine one_ (i := 9) (N := none) (bz 10 1023) rfl rfl (one_of HT_.out (by kernel_rfl)) (by decide) (fun K hK => ?_)
 have hs16 : w13.cell? ⟨gb275, 0, none⟩ = some (.slice none 0 0) := (kc BK275.out 0).trans rfl
 have hfs16 := blk_frozen BK275.out 0
 have hns16_0 := NB274_275.out
 have hms16_0 := NB275_274.out
 have hs17 : w13.cell? ⟨gb275, 1, none⟩ = some (.slice none 0 0) := (kc BK275.out 1).trans rfl
 have hfs17 := blk_frozen BK275.out 1
 have hns17_0 := NB274_275.out
 have hms17_0 := NB275_274.out
 refine skip_ (w1 := ?_) (by rfl) rfl ?_ ?_; rotate_left; go_simp; rfl
 refine hK.out _ _ ⟨((cell_far (p := ⟨gb275, _, none⟩) NB274_275.out _).trans (((cell_far (p := ⟨gb275, _, none⟩) NB274_275.out _).trans (hHeld.1)))), ((cell_far (p := ⟨gb275, _, none⟩) NB274_275.out _).trans (((cell_far (p := ⟨gb275, _, none⟩) NB274_275.out _).trans (hHeld.2))))⟩ (fun hHeld => ?_)
 clear hK K
 refine done_ (done_of HT_.out (by kernel_rfl)) ?_
 try go_wp2
 refine bodyPost_ret (results_cell_row rfl _ _ gb275 25 #[.slice Ao15 y279.length co15, .slice Ao14 y285.length co14] (0, 0) _ rfl (by (with_reducible repeat (first | refine kn ?_ _ | refine kd_ ?_ | refine ka ?_ _)); refine blk_put (cs := #[.slice Ao15 y279.length co15, .slice none 0 0]) ?_ 1 _ rfl; (with_reducible repeat (first | refine kn ?_ _ | refine kd_ ?_ | refine ka ?_ _)); refine blk_put (cs := #[.slice none 0 0, .slice none 0 0]) ?_ 0 _ rfl; (with_reducible repeat (first | refine kn ?_ _ | refine kd_ ?_ | refine ka ?_ _)); exact BK275.out) Try.underlying25 rfl (by kernel_rfl)) rfl ?_
 exact ⟨_, _, ze, by (with_reducible repeat (first | apply ra | apply rn | apply rd_)); exact rm (Kd.R_far (p := ⟨gb275, 1, none⟩) (Kd.R_far (p := ⟨gb275, 0, none⟩) (Kd.R_types HO281.out BK275.out (by decide)) (fun _ hk => hk.2) (.slice Ao15 y279.length co15)) (fun _ hk => hk.2) (.slice Ao14 y285.length co14)) (fun _ hk => trivial), by (with_reducible repeat (first | apply ra | apply rn | apply rd_)); exact rm (Kd.R_far (p := ⟨gb275, 1, none⟩) (Kd.R_far (p := ⟨gb275, 0, none⟩) (Kd.R_types HO287.out BK275.out (by decide)) (fun _ hk => hk.2) (.slice Ao15 y279.length co15)) (fun _ hk => hk.2) (.slice Ao14 y285.length co14)) (fun _ hk => trivial), zb HB⟩
def trefoillaw11_Own.f (l0_0 : List Int) (l0_1 : List Int) : Option (List Int × List Int) := (some (([] : List Int) : List Int)).bind fun y290 => (if y290.length + l0_0.length < 17592186044416 then ((some (([] : List Int) : List Int)).bind fun y296 => (if y296.length + l0_1.length < 17592186044416 then (some ((y290 ++ l0_0), (y296 ++ l0_1))) else (none))) else (none))
def trefoillaw11_Own.T1 : Bool × List (List Nat × List Nat) := (true, [([], []), ([], []), ([1], [1]), ([0, 2], [0, 2]), ([], []), ([], []), ([5], [5]), ([4, 6, 3], [4, 6]), ([3, 7], [3, 7]), ([8, 7, 0, 1, 2, 3, 4, 5, 6, 7, 8], [8])])
def trefoillaw11_Own.B1 : List Nat := [0, 0, 2, 7, 0, 0, 32, 127, 255, 511]
theorem trefoillaw11_Own.tab1 : rtab .any (opsOf Try.f13 1) = trefoillaw11_Own.T1 := by kernel_rfl
theorem trefoillaw11_Own.bits1 : waitsOk trefoillaw11_Own.T1.2 trefoillaw11_Own.B1 = true := by kernel_rfl
set_option maxHeartbeats 8000000 in
set_option maxRecDepth 100000 in
theorem trefoillaw11_Own.calls (A0_0 : Option Addr) (c0_0 : Nat) (l0_0 : List Int) (A0_1 : Option Addr) (c0_1 : Nat) (l0_1 : List Int) (r1 : List Int) (r2 : List Int) (w : World) (hr0_0 : Kd.C (Kd.int .i64) w A0_0 l0_0.length l0_0) (hc0_0 : l0_0.length ≤ c0_0) (hr0_1 : Kd.C (Kd.int .i64) w A0_1 l0_1.length l0_1) (hc0_1 : l0_1.length ≤ c0_1) (h : trefoillaw11_Own.f l0_0 l0_1 = some (r1, r2)) :
  Calls Try.prog 13 #[.agg #[.slice A0_0 l0_0.length c0_0, .slice A0_1 l0_1.length c0_1]] w fun e w' => ∃ v0_ v1_ : Value, e = .returned (.agg #[v0_, v1_]) ∧ Kd.R (Kd.int .i64) 3 w' w.heap.size (fun k_ => some k_ ≠ (v1_ : Value).ownBlock) v0_ r1 ∧ Kd.R (Kd.int .i64) 3 w' w.heap.size (fun k_ => some k_ ≠ (v0_ : Value).ownBlock) v1_ r2 ∧ Below w.heap.size w w' := by
 have hu27 := Try.underlying27
 have HR0_0 := Z0 hr0_0
 have HC0_0 := Z0 hc0_0
 clear hr0_0 hc0_0
 have HR0_1 := Z0 hr0_1
 have HC0_1 := Z0 hc0_1
 clear hr0_1 hc0_1
 have HB := Z0 (Below.refl w.heap.size w)
 have H : ((some (([] : List Int) : List Int)).bind fun y290 => (if y290.length + l0_0.length < 17592186044416 then ((some (([] : List Int) : List Int)).bind fun y296 => (if y296.length + l0_1.length < 17592186044416 then (some ((y290 ++ l0_0), (y296 ++ l0_1))) else (none))) else (none))) = some (r1, r2) := h
 clear h
 obtain ⟨y290, hy290⟩ : ∃ y_ : List Int, y_ = (([] : List Int)) := ⟨_, rfl⟩
 replace H : (if y290.length + l0_0.length < 17592186044416 then ((some (([] : List Int) : List Int)).bind fun y296 => (if y296.length + l0_1.length < 17592186044416 then (some ((y290 ++ l0_0), (y296 ++ l0_1))) else (none))) else (none)) = some (r1, r2) := by first | (rw [hy290]; with_reducible exact H) | (have H2_ := (Option.bind_some _ _).symm.trans H; rw [hy290]; with_reducible exact H2_) | (have H2_ := (Option.bind_some _ _).symm.trans H; with_reducible exact H2_) | with_reducible exact H | (rw [hy290]; exact H) | exact H
 have Ny290 := Z0 hy290
 clear hy290
 by_cases c2 : y290.length + l0_0.length < 17592186044416
 rotate_left
 ·rw [if_neg c2] at H
  exact absurd H (by simp)
 rw [if_pos c2] at H
 have LMc2 := Z0 c2
 clear c2
 obtain ⟨y293, hy293⟩ : ∃ y_ : List Int, y_ = (y290 ++ l0_0) := ⟨_, rfl⟩
 replace H : ((some (([] : List Int) : List Int)).bind fun y296 => (if y296.length + l0_1.length < 17592186044416 then (some (y293, (y296 ++ l0_1))) else (none))) = some (r1, r2) := by first | (rw [hy293]; with_reducible exact H) | (have H2_ := (Option.bind_some _ _).symm.trans H; rw [hy293]; with_reducible exact H2_) | (have H2_ := (Option.bind_some _ _).symm.trans H; with_reducible exact H2_) | with_reducible exact H | (rw [hy293]; exact H) | exact H
 have Ny293 := Z0 hy293
 clear hy293
 obtain ⟨y296, hy296⟩ : ∃ y_ : List Int, y_ = (([] : List Int)) := ⟨_, rfl⟩
 replace H : (if y296.length + l0_1.length < 17592186044416 then (some (y293, (y296 ++ l0_1))) else (none)) = some (r1, r2) := by first | (rw [hy296]; with_reducible exact H) | (have H2_ := (Option.bind_some _ _).symm.trans H; rw [hy296]; with_reducible exact H2_) | (have H2_ := (Option.bind_some _ _).symm.trans H; with_reducible exact H2_) | with_reducible exact H | (rw [hy296]; exact H) | exact H
 have Ny296 := Z0 hy296
 clear hy296
 by_cases c3 : y296.length + l0_1.length < 17592186044416
 rotate_left
 ·rw [if_neg c3] at H
  exact absurd H (by simp)
 rw [if_pos c3] at H
 have LMc3 := Z0 c3
 clear c3
 obtain ⟨y299, hy299⟩ : ∃ y_ : List Int, y_ = (y296 ++ l0_1) := ⟨_, rfl⟩
 replace H : (some (y293, y299)) = some (r1, r2) := by first | (rw [hy299]; with_reducible exact H) | (have H2_ := (Option.bind_some _ _).symm.trans H; rw [hy299]; with_reducible exact H2_) | (have H2_ := (Option.bind_some _ _).symm.trans H; with_reducible exact H2_) | with_reducible exact H | (rw [hy299]; exact H) | exact H
 have Ny299 := Z0 hy299
 clear hy299
 simp only [Option.some.injEq, Prod.mk.injEq] at H
 obtain ⟨rfl, rfl⟩ := H
 go_enter Try.func13, Try.ntmps13
 try go_wp2_with (first | ((with_reducible refine gate_dst (N := 1) rfl ?_); refine zx (N := 1) #[.slice A0_0 l0_0.length c0_0, .slice A0_1 l0_1.length c0_1] 27 ?_; intro gb288 hg w4 hbox hb; have BK288 := Z0 (hbox); have GW288 := Z0 (zh w hg HB); have GE288 := Z0 (zh w hg HB); replace HB := Z0 (below_step (zb HB) hb); clear hb hbox hg) | ((with_reducible refine gate_dst (N := 2) rfl ?_); refine zx (N := 2) #[.slice none 0 0, .slice none 0 0] 27 ?_; intro gb289 hg w5 hbox hb; have BK289 := Z0 (hbox); have GW289 := Z0 (zh w hg HB); have GE289 := Z0 (zh w hg HB); replace HB := Z0 (below_step (zb HB) hb); have NB288_289 := Z0 (zl hg BK288); have NB289_288 := Z0 (zu hg BK288); replace BK288 := Z0 (zkb BK288 hb); clear hb hbox hg))
 replace BK288 := Z0 (kd_ BK288.out)
 replace BK289 := Z0 (kd_ BK289.out)
 replace HB := Z0 (wd HB.out)
 refine start_ (n := 10) (S := fun w' => w'.cell? ⟨gb288, 0, none⟩ = some (.slice A0_0 l0_0.length c0_0) ∧ w'.cell? ⟨gb288, 1, none⟩ = some (.slice A0_1 l0_1.length c0_1)) (ds := []) (bz 10 0) (by kernel_rfl) rfl rfl ⟨kz0 BK288, kz1 BK288⟩ (fun hHeld => ?_); refine with_tabW trefoillaw11_Own.tab1 trefoillaw11_Own.bits1 (fun HT_ HW_ => ?_)
 generalize w5.drew = w6 at BK288 BK289 HB hHeld ⊢
 refine pu 1 (some 4) (bz 10 2) HT_ ?_
 refine pu 5 (some 8) (bz 10 34) HT_ ?_
 refine tk2 2 (some 5) (bz 10 38) HT_ HW_ hHeld ?_
 refine tk2 6 (some 9) (bz 10 102) HT_ HW_ hHeld ?_
 refine join_ (σ := Value × Value × Value) 3 (bz 10 127) (fun s_ => [(3, s_.1), (6, s_.2.1), (7, s_.2.2)]) (fun s_ w' => (w'.cell? ⟨gb288, 0, none⟩ = some (.slice A0_0 l0_0.length c0_0) ∧ w'.cell? ⟨gb288, 1, none⟩ = some (.slice A0_1 l0_1.length c0_1)) ∧ (Kd.R (Kd.int .i64) 3 w' w.heap.size (fun k_ => some k_ ≠ (s_.2.2 : Value).ownBlock) s_.2.1 y293) ∧ (Kd.R (Kd.int .i64) 3 w' w.heap.size (fun k_ => some k_ ≠ (s_.2.1 : Value).ownBlock) s_.2.2 y296) ∧ (w'.heap[gb288]? = some (.cells #[.slice A0_0 l0_0.length c0_0, .slice A0_1 l0_1.length c0_1] 27 (0, 0))) ∧ (w'.heap[gb289]? = some (.cells #[.slice none 0 0, .slice none 0 0] 27 (0, 0))) ∧ (Below w.heap.size w w')) ?_ ?_
 rotate_left
 ·intro hCont
  refine two_ (i := 0) (j := 4) (Ni := some 3) (Nj := some 7) (bz 10 103) (bz 10 118) rfl rfl rfl rfl (two_of HT_.out (by kernel_rfl)) (by decide) (by decide) (fun K hK => ?_) (fun K hK => ?_)
  ·skip
   refine Kd.R_lit_step (Kd.int .i64) _ 3 ?hg (N := 3) ?hd (xs := ([] : List Int)) (inner := []) (ok := fun _ => True) (okp := fun _ => True) ?hr ?hp (fun _ hk => hk) trivial (Below.refl _ _) (Nat.le_refl _) (by simp) ?_; (case hd => rfl); (case hg => rfl); (case hr => first | (go_simp; done) | (go_simp; rfl)); (case hp => exact (Reps.none _ _))
   intro v291 w7 ho8 hb hg_ hnew_
   clear hg_ hnew_
   (first | rw [← Ny290.out] at ho8 | (simp only [Int.reduceToNat] at ho8; rw [← Ny290.out] at ho8))
   have HO292 := Z0 (rl ho8 (below_size (zb HB)))
   replace BK288 := Z0 (zkb BK288 hb)
   replace BK289 := Z0 (zkb BK289 hb)
   replace HB := Z0 (below_step (zb HB) hb)
   clear hb ho8
   refine hK.out _ _ ⟨kz0 BK288, kz1 BK288⟩ (fun hHeld => ?_)
   clear hK K
   refine norm_ (a' := ?_) ?_ ?_
   rotate_left
   ·show Act.put _ (some 3) _ = _
    simp only [Act.put, y0, y1, y2, i64_w, i32_w]
    rfl
   refine two_ (i := 3) (j := 4) (Ni := some 6) (Nj := some 7) (bz 10 111) (bz 10 119) rfl rfl rfl rfl (two_of HT_.out (by kernel_rfl)) (by decide) (by decide) (fun K hK => ?_) (fun K hK => ?_)
   ·skip
    refine Kd.R_append_rows_step (Kd.int .i64) (w0 := w) w.heap.size (by rfl) (.tmp 3) (.tmp 5) 22 3 (.int .i64 0) 8 rfl Try.underlying22 info3 rfl (by decide) (by omega) v291 y290 l0_0 _ _ _ (fun _ => True) (fun _ => False) rfl rfl ?aO ?aR (fun _ _ h => h) (fun _ h => h.elim) ?aF ?aB ?aS ?aL ?_
    (case aR => repeat (first | exact (Kd.C_below HR0_0.out HB.out) | (with_reducible refine Kd.C_alloc ?_ _) | (with_reducible refine Kd.C_drewN ?_ _) | (with_reducible refine Kd.C_drew ?_)))
    (case aB => exact (zb HB))
    (case aF => exact (fun _ _ => trivial))
    (case aO => exact (zr HO292))
    (case aS => exact (below_size (zb HB)))
    (case aL => have := LMc2.out; omega)
    intro v294 w9 ho hb hg hat
    rw [← Ny293.out] at ho
    replace BK288 := Z0 (blk_grown (g := gb288) (o := .cells #[.slice A0_0 l0_0.length c0_0, .slice A0_1 l0_1.length c0_1] 27 (0, 0)) (zk BK288) hg (Kd.R_ne HO292.out BK288.out (by decide)))
    replace BK289 := Z0 (blk_grown (g := gb289) (o := .cells #[.slice none 0 0, .slice none 0 0] 27 (0, 0)) (zk BK289) hg (Kd.R_ne HO292.out BK289.out (by decide)))
    replace HB := Z0 (hb)
    have HO295 := Z0 (ho)
    clear HO292
    clear ho hb hg hat
    refine hK.out _ _ ⟨kz0 BK288, kz1 BK288⟩ (fun hHeld => ?_)
    clear hK K
    refine norm_ (a' := ?_) ?_ ?_
    rotate_left
    ·show Act.put _ (some 6) _ = _
     simp only [Act.put, y0, y1, y2, i64_w, i32_w]
     rfl
    refine one_ (i := 4) (N := some 7) (bz 10 127) rfl rfl (one_of HT_.out (by kernel_rfl)) (by decide) (fun K hK => ?_)
    refine Kd.R_lit_step (Kd.int .i64) _ 3 ?hg (N := 7) ?hd (xs := ([] : List Int)) (inner := []) (ok := fun _ => True) (okp := fun _ => True) ?hr ?hp (fun _ hk => hk) trivial (Below.refl _ _) (Nat.le_refl _) (by simp) ?_; (case hd => rfl); (case hg => rfl); (case hr => first | (go_simp; done) | (go_simp; rfl)); (case hp => exact (Reps.none _ _))
    intro v297 w10 ho11 hb hg_ hnew_
    clear hg_ hnew_
    (first | rw [← Ny296.out] at ho11 | (simp only [Int.reduceToNat] at ho11; rw [← Ny296.out] at ho11))
    have HO298 := Z0 (rl (rw_ ho11 (rlt (zr HO295))) (below_size (zb HB)))
    replace HO295 := Z0 (Kd.R_elder' (zr HO295) (rb ho11) hb)
    replace BK288 := Z0 (zkb BK288 hb)
    replace BK289 := Z0 (zkb BK289 hb)
    replace HB := Z0 (below_step (zb HB) hb)
    clear hb ho11
    refine hK.out _ _ ⟨kz0 BK288, kz1 BK288⟩ (fun hHeld => ?_)
    clear hK K
    refine norm_ (a' := ?_) ?_ ?_
    rotate_left
    ·show Act.put _ (some 7) _ = _
     simp only [Act.put, y0, y1, y2, i64_w, i32_w]
     rfl
    exact norm_ (by simp only [putAll, Act.put, y0, y1, y2]) (hCont (v291, v294, v297) _ ⟨hHeld, (by (with_reducible repeat (first | apply ra | apply rn | apply rd_)); exact rm HO295.out (fun _ hk => hk.2)), (by (with_reducible repeat (first | apply ra | apply rn | apply rd_)); exact rm HO298.out (fun _ hk => hk.2)), (zk BK288), (zk BK289), (zb HB)⟩)
   ·skip
    refine Kd.R_lit_step (Kd.int .i64) _ 3 ?hg (N := 7) ?hd (xs := ([] : List Int)) (inner := []) (ok := fun _ => True) (okp := fun _ => True) ?hr ?hp (fun _ hk => hk) trivial (Below.refl _ _) (Nat.le_refl _) (by simp) ?_; (case hd => rfl); (case hg => rfl); (case hr => first | (go_simp; done) | (go_simp; rfl)); (case hp => exact (Reps.none _ _))
    intro v297 w9 ho10 hb hg_ hnew_
    clear hg_ hnew_
    (first | rw [← Ny296.out] at ho10 | (simp only [Int.reduceToNat] at ho10; rw [← Ny296.out] at ho10))
    have HO298 := Z0 (rl (rw_ ho10 (rlt (zr HO292))) (below_size (zb HB)))
    replace HO292 := Z0 (Kd.R_elder' (zr HO292) (rb ho10) hb)
    replace BK288 := Z0 (zkb BK288 hb)
    replace BK289 := Z0 (zkb BK289 hb)
    replace HB := Z0 (below_step (zb HB) hb)
    clear hb ho10
    refine hK.out _ _ ⟨kz0 BK288, kz1 BK288⟩ (fun hHeld => ?_)
    clear hK K
    refine norm_ (a' := ?_) ?_ ?_
    rotate_left
    ·show Act.put _ (some 7) _ = _
     simp only [Act.put, y0, y1, y2, i64_w, i32_w]
     rfl
    refine one_ (i := 3) (N := some 6) (bz 10 127) rfl rfl (one_of HT_.out (by kernel_rfl)) (by decide) (fun K hK => ?_)
    refine Kd.R_append_rows_step (Kd.int .i64) (w0 := w) w.heap.size (by rfl) (.tmp 3) (.tmp 5) 22 3 (.int .i64 0) 8 rfl Try.underlying22 info3 rfl (by decide) (by omega) v291 y290 l0_0 _ _ _ (fun k_ => some k_ ≠ (v297 : Value).ownBlock) (fun _ => False) rfl rfl ?aO ?aR (fun _ _ h => h) (fun _ h => h.elim) ?aF ?aB ?aS ?aL ?_
    (case aR => repeat (first | exact (Kd.C_below HR0_0.out HB.out) | (with_reducible refine Kd.C_alloc ?_ _) | (with_reducible refine Kd.C_drewN ?_ _) | (with_reducible refine Kd.C_drew ?_)))
    (case aB => exact (zb HB))
    (case aF => exact (fun k_ hk => Kd.fresh' (rlt (zr HO298)) k_ hk))
    (case aO => exact (by (with_reducible repeat (first | apply ra | apply rn | apply rd_)); exact rm HO292.out (fun _ hk => hk.2)))
    (case aS => exact (below_size (zb HB)))
    (case aL => have := LMc2.out; omega)
    intro v294 w11 ho hb hg hat
    rw [← Ny293.out] at ho
    replace BK288 := Z0 (blk_grown (g := gb288) (o := .cells #[.slice A0_0 l0_0.length c0_0, .slice A0_1 l0_1.length c0_1] 27 (0, 0)) (zk BK288) hg (Kd.R_ne HO292.out BK288.out (by decide)))
    replace BK289 := Z0 (blk_grown (g := gb289) (o := .cells #[.slice none 0 0, .slice none 0 0] 27 (0, 0)) (zk BK289) hg (Kd.R_ne HO292.out BK289.out (by decide)))
    replace HO298 := Z0 (Kd.R_after (ok := (fun _ => True)) (zr HO298) hg hat)
    replace HB := Z0 (hb)
    have HO295 := Z0 (ho)
    clear HO292
    clear ho hb hg hat
    refine hK.out _ _ ⟨kz0 BK288, kz1 BK288⟩ (fun hHeld => ?_)
    clear hK K
    refine norm_ (a' := ?_) ?_ ?_
    rotate_left
    ·show Act.put _ (some 6) _ = _
     simp only [Act.put, y0, y1, y2, i64_w, i32_w]
     rfl
    exact norm_ (by simp only [putAll, Act.put, y0, y1, y2]) (hCont (v291, v294, v297) _ ⟨hHeld, (zr HO295), (by (with_reducible repeat (first | apply ra | apply rn | apply rd_)); exact rm HO298.out (fun _ hk => hk.2)), (zk BK288), (zk BK289), (zb HB)⟩)
  ·skip
   refine Kd.R_lit_step (Kd.int .i64) _ 3 ?hg (N := 7) ?hd (xs := ([] : List Int)) (inner := []) (ok := fun _ => True) (okp := fun _ => True) ?hr ?hp (fun _ hk => hk) trivial (Below.refl _ _) (Nat.le_refl _) (by simp) ?_; (case hd => rfl); (case hg => rfl); (case hr => first | (go_simp; done) | (go_simp; rfl)); (case hp => exact (Reps.none _ _))
   intro v297 w7 ho8 hb hg_ hnew_
   clear hg_ hnew_
   (first | rw [← Ny296.out] at ho8 | (simp only [Int.reduceToNat] at ho8; rw [← Ny296.out] at ho8))
   have HO298 := Z0 (rl ho8 (below_size (zb HB)))
   replace BK288 := Z0 (zkb BK288 hb)
   replace BK289 := Z0 (zkb BK289 hb)
   replace HB := Z0 (below_step (zb HB) hb)
   clear hb ho8
   refine hK.out _ _ ⟨kz0 BK288, kz1 BK288⟩ (fun hHeld => ?_)
   clear hK K
   refine norm_ (a' := ?_) ?_ ?_
   rotate_left
   ·show Act.put _ (some 7) _ = _
    simp only [Act.put, y0, y1, y2, i64_w, i32_w]
    rfl
   refine one_ (i := 0) (N := some 3) (bz 10 119) rfl rfl (one_of HT_.out (by kernel_rfl)) (by decide) (fun K hK => ?_)
   refine Kd.R_lit_step (Kd.int .i64) _ 3 ?hg (N := 3) ?hd (xs := ([] : List Int)) (inner := []) (ok := fun _ => True) (okp := fun _ => True) ?hr ?hp (fun _ hk => hk) trivial (Below.refl _ _) (Nat.le_refl _) (by simp) ?_; (case hd => rfl); (case hg => rfl); (case hr => first | (go_simp; done) | (go_simp; rfl)); (case hp => exact (Reps.none _ _))
   intro v291 w9 ho10 hb hg_ hnew_
   clear hg_ hnew_
   (first | rw [← Ny290.out] at ho10 | (simp only [Int.reduceToNat] at ho10; rw [← Ny290.out] at ho10))
   have HO292 := Z0 (rl (rw_ ho10 (rlt (zr HO298))) (below_size (zb HB)))
   replace HO298 := Z0 (Kd.R_elder' (zr HO298) (rb ho10) hb)
   replace BK288 := Z0 (zkb BK288 hb)
   replace BK289 := Z0 (zkb BK289 hb)
   replace HB := Z0 (below_step (zb HB) hb)
   clear hb ho10
   refine hK.out _ _ ⟨kz0 BK288, kz1 BK288⟩ (fun hHeld => ?_)
   clear hK K
   refine norm_ (a' := ?_) ?_ ?_
   rotate_left
   ·show Act.put _ (some 3) _ = _
    simp only [Act.put, y0, y1, y2, i64_w, i32_w]
    rfl
   refine one_ (i := 3) (N := some 6) (bz 10 127) rfl rfl (one_of HT_.out (by kernel_rfl)) (by decide) (fun K hK => ?_)
   refine Kd.R_append_rows_step (Kd.int .i64) (w0 := w) w.heap.size (by rfl) (.tmp 3) (.tmp 5) 22 3 (.int .i64 0) 8 rfl Try.underlying22 info3 rfl (by decide) (by omega) v291 y290 l0_0 _ _ _ (fun k_ => some k_ ≠ (v297 : Value).ownBlock) (fun _ => False) rfl rfl ?aO ?aR (fun _ _ h => h) (fun _ h => h.elim) ?aF ?aB ?aS ?aL ?_
   (case aR => repeat (first | exact (Kd.C_below HR0_0.out HB.out) | (with_reducible refine Kd.C_alloc ?_ _) | (with_reducible refine Kd.C_drewN ?_ _) | (with_reducible refine Kd.C_drew ?_)))
   (case aB => exact (zb HB))
   (case aF => exact (fun k_ hk => Kd.fresh' (rlt (zr HO298)) k_ hk))
   (case aO => exact (by (with_reducible repeat (first | apply ra | apply rn | apply rd_)); exact rm HO292.out (fun _ hk => hk.2)))
   (case aS => exact (below_size (zb HB)))
   (case aL => have := LMc2.out; omega)
   intro v294 w11 ho hb hg hat
   rw [← Ny293.out] at ho
   replace BK288 := Z0 (blk_grown (g := gb288) (o := .cells #[.slice A0_0 l0_0.length c0_0, .slice A0_1 l0_1.length c0_1] 27 (0, 0)) (zk BK288) hg (Kd.R_ne HO292.out BK288.out (by decide)))
   replace BK289 := Z0 (blk_grown (g := gb289) (o := .cells #[.slice none 0 0, .slice none 0 0] 27 (0, 0)) (zk BK289) hg (Kd.R_ne HO292.out BK289.out (by decide)))
   replace HO298 := Z0 (Kd.R_after (ok := (fun _ => True)) (zr HO298) hg hat)
   replace HB := Z0 (hb)
   have HO295 := Z0 (ho)
   clear HO292
   clear ho hb hg hat
   refine hK.out _ _ ⟨kz0 BK288, kz1 BK288⟩ (fun hHeld => ?_)
   clear hK K
   refine norm_ (a' := ?_) ?_ ?_
   rotate_left
   ·show Act.put _ (some 6) _ = _
    simp only [Act.put, y0, y1, y2, i64_w, i32_w]
    rfl
   exact norm_ (by simp only [putAll, Act.put, y0, y1, y2]) (hCont (v291, v294, v297) _ ⟨hHeld, (zr HO295), (by (with_reducible repeat (first | apply ra | apply rn | apply rd_)); exact rm HO298.out (fun _ hk => hk.2)), (zk BK288), (zk BK289), (zb HB)⟩)
 rintro ⟨v291, v294, v297⟩ w12 ⟨hS_, h0_, h1_, h2_, h3_, h4_⟩
 clear BK288
 clear BK289
 clear HB
 dsimp only at h0_ h1_ h2_ h3_ h4_
 have HO295 := Z0 h0_
 have HO298 := Z0 h1_
 have BK288 := Z0 h2_
 have BK289 := Z0 h3_
 have HB := Z0 h4_
 clear h0_ h1_ h2_ h3_ h4_
 have hHeld : w12.cell? ⟨gb288, 0, none⟩ = some (.slice A0_0 l0_0.length c0_0) ∧ w12.cell? ⟨gb288, 1, none⟩ = some (.slice A0_1 l0_1.length c0_1) := hS_
 refine norm_ (a' := ?_) ?_ ?_; rotate_left; simp only [putAll, Act.put, y0, y1, y2]; rfl
 refine one_ (i := 7) (N := some 10) (bz 10 255) rfl rfl (one_of HT_.out (by kernel_rfl)) (by decide) (fun K hK => ?_)
 refine Kd.R_append_rows_step (Kd.int .i64) (w0 := w) w.heap.size (by rfl) (.tmp 7) (.tmp 9) 22 3 (.int .i64 0) 8 rfl Try.underlying22 info3 rfl (by decide) (by omega) v297 y296 l0_1 _ _ _ (fun k_ => some k_ ≠ (v294 : Value).ownBlock) (fun _ => False) rfl rfl ?aO ?aR (fun _ _ h => h) (fun _ h => h.elim) ?aF ?aB ?aS ?aL ?_
 (case aR => repeat (first | exact (Kd.C_below HR0_1.out HB.out) | (with_reducible refine Kd.C_alloc ?_ _) | (with_reducible refine Kd.C_drewN ?_ _) | (with_reducible refine Kd.C_drew ?_)))
 (case aB => exact (zb HB))
 (case aF => exact (fun k_ hk => Kd.fresh' (rlt (zr HO295)) k_ hk))
 (case aO => exact (zr HO298))
 (case aS => exact (below_size (zb HB)))
 (case aL => have := LMc3.out; omega)
 intro v300 w13 ho hb hg hat
 rw [← Ny299.out] at ho
 replace BK288 := Z0 (blk_grown (g := gb288) (o := .cells #[.slice A0_0 l0_0.length c0_0, .slice A0_1 l0_1.length c0_1] 27 (0, 0)) (zk BK288) hg (Kd.R_ne HO298.out BK288.out (by decide)))
 replace BK289 := Z0 (blk_grown (g := gb289) (o := .cells #[.slice none 0 0, .slice none 0 0] 27 (0, 0)) (zk BK289) hg (Kd.R_ne HO298.out BK289.out (by decide)))
 replace HO295 := Z0 (Kd.R_after (ok := (fun _ => True)) (by (with_reducible repeat (first | apply ra | apply rn | apply rd_)); exact rm HO295.out (fun _ hk => ⟨trivial, hk⟩)) hg hat)
 replace HB := Z0 (hb)
 have HO301 := Z0 (ho)
 clear HO298
 clear ho hb hg hat
 obtain ⟨Ao14, co14, eo14⟩ := Kd.R_slice HO301.out
 subst eo14
 obtain ⟨Ao15, co15, eo15⟩ := Kd.R_slice HO295.out
 subst eo15
 refine hK.out _ _ ⟨kz0 BK288, kz1 BK288⟩ (fun hHeld => ?_)
 clear hK K
 refine norm_ (a' := ?_) ?_ ?_
 rotate_left
 ·show Act.put _ (some 10) _ = _
  simp only [Act.put, y0, y1, y2, i64_w, i32_w]
  rfl
 refine pu 8 (some 11) (bz 10 511) HT_ ?_
 refine one_ (i := 9) (N := none) (bz 10 1023) rfl rfl (one_of HT_.out (by kernel_rfl)) (by decide) (fun K hK => ?_)
 have hs16 : w13.cell? ⟨gb289, 0, none⟩ = some (.slice none 0 0) := (kc BK289.out 0).trans rfl
 have hfs16 := blk_frozen BK289.out 0
 have hns16_0 := NB288_289.out
 have hms16_0 := NB289_288.out
 have hs17 : w13.cell? ⟨gb289, 1, none⟩ = some (.slice none 0 0) := (kc BK289.out 1).trans rfl
 have hfs17 := blk_frozen BK289.out 1
 have hns17_0 := NB288_289.out
 have hms17_0 := NB289_288.out
 refine skip_ (w1 := ?_) (by rfl) rfl ?_ ?_; rotate_left; go_simp; rfl
 refine hK.out _ _ ⟨((cell_far (p := ⟨gb289, _, none⟩) NB288_289.out _).trans (((cell_far (p := ⟨gb289, _, none⟩) NB288_289.out _).trans (hHeld.1)))), ((cell_far (p := ⟨gb289, _, none⟩) NB288_289.out _).trans (((cell_far (p := ⟨gb289, _, none⟩) NB288_289.out _).trans (hHeld.2))))⟩ (fun hHeld => ?_)
 clear hK K
 refine done_ (done_of HT_.out (by kernel_rfl)) ?_
 try go_wp2
 refine bodyPost_ret (results_cell_row rfl _ _ gb289 27 #[.slice Ao15 y293.length co15, .slice Ao14 y299.length co14] (0, 0) _ rfl (by (with_reducible repeat (first | refine kn ?_ _ | refine kd_ ?_ | refine ka ?_ _)); refine blk_put (cs := #[.slice Ao15 y293.length co15, .slice none 0 0]) ?_ 1 _ rfl; (with_reducible repeat (first | refine kn ?_ _ | refine kd_ ?_ | refine ka ?_ _)); refine blk_put (cs := #[.slice none 0 0, .slice none 0 0]) ?_ 0 _ rfl; (with_reducible repeat (first | refine kn ?_ _ | refine kd_ ?_ | refine ka ?_ _)); exact BK289.out) Try.underlying27 rfl (by kernel_rfl)) rfl ?_
 exact ⟨_, _, ze, by (with_reducible repeat (first | apply ra | apply rn | apply rd_)); exact rm (Kd.R_far (p := ⟨gb289, 1, none⟩) (Kd.R_far (p := ⟨gb289, 0, none⟩) (Kd.R_types HO295.out BK289.out (by decide)) (fun _ hk => hk.2) (.slice Ao15 y293.length co15)) (fun _ hk => hk.2) (.slice Ao14 y299.length co14)) (fun _ hk => hk.1.2), by (with_reducible repeat (first | apply ra | apply rn | apply rd_)); exact rm (Kd.R_far (p := ⟨gb289, 1, none⟩) (Kd.R_far (p := ⟨gb289, 0, none⟩) (Kd.R_types HO301.out BK289.out (by decide)) (fun _ hk => hk.2) (.slice Ao15 y293.length co15)) (fun _ hk => hk.2) (.slice Ao14 y299.length co14)) (fun _ hk => hk.1), zb HB⟩
end Go.Proofs.Ytmbhjhanafmidaa.PListSteps
