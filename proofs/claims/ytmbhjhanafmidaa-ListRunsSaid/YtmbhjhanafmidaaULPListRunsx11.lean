/- Written by a program of this work: each theorem says that a call of the Go function comes to what the Lean function beside it tells, under the conditions that it names; Lean checks it. -/
import Derived.Test.YtmbhjhanafmidaaULPListRunsx0
import Derived.Test.YtmbhjhanafmidaaULPListRunsx10
import Derived.Test.YtmbhjhanafmidaaULZr
namespace Go.Proofs.Ytmbhjhanafmidaa.PListRuns
open Go.Proofs.Ytmbhjhanafmidaa.Zr Go.RowKit Go.Proofs.YtmbhjhanafmidaaW.PrintWords Go.Proofs.YtmbhjhanafmidaaW.PrintLast Go.Proofs.YtmbhjhanafmidaaW.PrintMore
attribute [local go_sem] max2_int min2_int max_two min_two max_three min_three max_four min_four   -- for this text's walks alone
set_option linter.unusedVariables false
set_option linter.unusedSimpArgs false
def trefoillaw04_Own.f (l0_0 : List Int) (l0_1 : List (S85)) : Option (List Int × (List (S85))) := (some (([] : List Int) : List Int)).bind fun y272 => (if y272.length + l0_0.length < 17592186044416 then ((some (([] : List (S85)) : List (S85))).bind fun y278 => (if y278.length + l0_1.length < 8796093022208 then (some ((y272 ++ l0_0), (y278 ++ l0_1))) else (none))) else (none))
def trefoillaw04_Own.T1 : Bool × List (List Nat × List Nat) := (true, [([], []), ([], []), ([1], [1]), ([0, 2], [0, 2]), ([], []), ([], []), ([5], [5]), ([4, 6, 3], [4, 6]), ([3, 7], [3, 7]), ([8, 7, 0, 1, 2, 3, 4, 5, 6, 7, 8], [8])])
def trefoillaw04_Own.B1 : List Nat := [0, 0, 2, 7, 0, 0, 32, 127, 255, 511]
theorem trefoillaw04_Own.tab1 : rtab .any (opsOf Try.f12 1) = trefoillaw04_Own.T1 := by kernel_rfl
theorem trefoillaw04_Own.bits1 : waitsOk trefoillaw04_Own.T1.2 trefoillaw04_Own.B1 = true := by kernel_rfl
set_option maxHeartbeats 8000000 in
set_option maxRecDepth 100000 in
theorem trefoillaw04_Own.calls (A0_0 : Option Addr) (c0_0 : Nat) (l0_0 : List Int) (A0_1 : Option Addr) (c0_1 : Nat) (l0_1 : List (S85)) (r1 : List Int) (r2 : List (S85)) (w : World) (hr0_0 : Kd.C (Kd.int .i64) w A0_0 l0_0.length l0_0) (hc0_0 : l0_0.length ≤ c0_0) (hr0_1 : Kd.C k85 w A0_1 l0_1.length l0_1) (hc0_1 : l0_1.length ≤ c0_1) (h : trefoillaw04_Own.f l0_0 l0_1 = some (r1, r2)) :
  Calls Try.prog 12 #[.agg #[.slice A0_0 l0_0.length c0_0, .slice A0_1 l0_1.length c0_1]] w fun e w' => ∃ v0_ v1_ : Value, e = .returned (.agg #[v0_, v1_]) ∧ Kd.R (Kd.int .i64) 3 w' w.heap.size (fun _ => True) v0_ r1 ∧ Kd.R k85 85 w' w.heap.size (fun _ => True) v1_ r2 ∧ Below w.heap.size w w' := by
 have hu25 := Try.underlying25
 have HR0_0 := Z0 hr0_0
 have HC0_0 := Z0 hc0_0
 clear hr0_0 hc0_0
 have HR0_1 := Z0 hr0_1
 have HC0_1 := Z0 hc0_1
 clear hr0_1 hc0_1
 have HB := Z0 (Below.refl w.heap.size w)
 have H : ((some (([] : List Int) : List Int)).bind fun y272 => (if y272.length + l0_0.length < 17592186044416 then ((some (([] : List (S85)) : List (S85))).bind fun y278 => (if y278.length + l0_1.length < 8796093022208 then (some ((y272 ++ l0_0), (y278 ++ l0_1))) else (none))) else (none))) = some (r1, r2) := h
 clear h
 obtain ⟨y272, hy272⟩ : ∃ y_ : List Int, y_ = (([] : List Int)) := ⟨_, rfl⟩
 replace H : (if y272.length + l0_0.length < 17592186044416 then ((some (([] : List (S85)) : List (S85))).bind fun y278 => (if y278.length + l0_1.length < 8796093022208 then (some ((y272 ++ l0_0), (y278 ++ l0_1))) else (none))) else (none)) = some (r1, r2) := by first | (rw [hy272]; with_reducible exact H) | (have H2_ := (Option.bind_some _ _).symm.trans H; rw [hy272]; with_reducible exact H2_) | (have H2_ := (Option.bind_some _ _).symm.trans H; with_reducible exact H2_) | with_reducible exact H | (rw [hy272]; exact H) | exact H
 have Ny272 := Z0 hy272
 clear hy272
 by_cases c2 : y272.length + l0_0.length < 17592186044416
 ·rw [if_pos c2] at H
  have LMc2 := Z0 c2
  clear c2
  obtain ⟨y275, hy275⟩ : ∃ y_ : List Int, y_ = (y272 ++ l0_0) := ⟨_, rfl⟩
  replace H : ((some (([] : List (S85)) : List (S85))).bind fun y278 => (if y278.length + l0_1.length < 8796093022208 then (some (y275, (y278 ++ l0_1))) else (none))) = some (r1, r2) := by first | (rw [hy275]; with_reducible exact H) | (have H2_ := (Option.bind_some _ _).symm.trans H; rw [hy275]; with_reducible exact H2_) | (have H2_ := (Option.bind_some _ _).symm.trans H; with_reducible exact H2_) | with_reducible exact H | (rw [hy275]; exact H) | exact H
  have Ny275 := Z0 hy275
  clear hy275
  obtain ⟨y278, hy278⟩ : ∃ y_ : List (S85), y_ = (([] : List (S85))) := ⟨_, rfl⟩
  replace H : (if y278.length + l0_1.length < 8796093022208 then (some (y275, (y278 ++ l0_1))) else (none)) = some (r1, r2) := by first | (rw [hy278]; with_reducible exact H) | (have H2_ := (Option.bind_some _ _).symm.trans H; rw [hy278]; with_reducible exact H2_) | (have H2_ := (Option.bind_some _ _).symm.trans H; with_reducible exact H2_) | with_reducible exact H | (rw [hy278]; exact H) | exact H
  have Ny278 := Z0 hy278
  clear hy278
  by_cases c3 : y278.length + l0_1.length < 8796093022208
  ·rw [if_pos c3] at H
   have LMc3 := Z0 c3
   clear c3
   obtain ⟨y281, hy281⟩ : ∃ y_ : List (S85), y_ = (y278 ++ l0_1) := ⟨_, rfl⟩
   replace H : (some (y275, y281)) = some (r1, r2) := by first | (rw [hy281]; with_reducible exact H) | (have H2_ := (Option.bind_some _ _).symm.trans H; rw [hy281]; with_reducible exact H2_) | (have H2_ := (Option.bind_some _ _).symm.trans H; with_reducible exact H2_) | with_reducible exact H | (rw [hy281]; exact H) | exact H
   have Ny281 := Z0 hy281
   clear hy281
   simp only [Option.some.injEq, Prod.mk.injEq] at H
   obtain ⟨rfl, rfl⟩ := H
   go_enter Try.func12, Try.ntmps12
   try go_wp2_with (first | ((with_reducible refine gate_dst (N := 1) rfl ?_); refine zx (N := 1) #[.slice A0_0 l0_0.length c0_0, .slice A0_1 l0_1.length c0_1] 25 ?_; intro gb270 hg w4 hbox hb; have BK270 := Z0 (hbox); have GW270 := Z0 (zh w hg HB); have GE270 := Z0 (zh w hg HB); replace HB := Z0 (below_step (zb HB) hb); clear hb hbox hg) | ((with_reducible refine gate_dst (N := 2) rfl ?_); refine zx (N := 2) #[.slice none 0 0, .slice none 0 0] 25 ?_; intro gb271 hg w5 hbox hb; have BK271 := Z0 (hbox); have GW271 := Z0 (zh w hg HB); have GE271 := Z0 (zh w hg HB); replace HB := Z0 (below_step (zb HB) hb); have NB270_271 := Z0 (zl hg BK270); have NB271_270 := Z0 (zu hg BK270); replace BK270 := Z0 (zkb BK270 hb); clear hb hbox hg))
   replace BK270 := Z0 (kd_ BK270.out)
   replace BK271 := Z0 (kd_ BK271.out)
   replace HB := Z0 (wd HB.out)
   refine start_ (n := 10) (S := fun w' => w'.cell? ⟨gb270, 0, none⟩ = some (.slice A0_0 l0_0.length c0_0) ∧ w'.cell? ⟨gb270, 1, none⟩ = some (.slice A0_1 l0_1.length c0_1)) (ds := []) (bz 10 0) (by kernel_rfl) rfl rfl ⟨(kc BK270.out 0).trans rfl, (kc BK270.out 1).trans rfl⟩ (fun hHeld => ?_); refine with_tabW trefoillaw04_Own.tab1 trefoillaw04_Own.bits1 (fun HT_ HW_ => ?_)
   generalize w5.drew = w6 at BK270 BK271 HB hHeld ⊢
   refine pu 1 (some 4) (bz 10 2) HT_ ?_
   refine pu 5 (some 8) (bz 10 34) HT_ ?_
   refine tk2 2 (some 5) (bz 10 38) HT_ HW_ hHeld ?_
   refine tk2 6 (some 9) (bz 10 102) HT_ HW_ hHeld ?_
   refine join_ (σ := Value × Value × Value) 3 (bz 10 127) (fun s_ => [(3, s_.1), (6, s_.2.1), (7, s_.2.2)]) (fun s_ w' => (w'.cell? ⟨gb270, 0, none⟩ = some (.slice A0_0 l0_0.length c0_0) ∧ w'.cell? ⟨gb270, 1, none⟩ = some (.slice A0_1 l0_1.length c0_1)) ∧ (Kd.R (Kd.int .i64) 3 w' w.heap.size (fun _ => True) s_.2.1 y275) ∧ (Kd.R k85 85 w' w.heap.size (fun _ => True) s_.2.2 y278) ∧ (w'.heap[gb270]? = some (.cells #[.slice A0_0 l0_0.length c0_0, .slice A0_1 l0_1.length c0_1] 25 (0, 0))) ∧ (w'.heap[gb271]? = some (.cells #[.slice none 0 0, .slice none 0 0] 25 (0, 0))) ∧ (Below w.heap.size w w')) ?_ ?_
   rotate_left
   ·intro hCont
    refine two_ (i := 0) (j := 4) (Ni := some 3) (Nj := some 7) (bz 10 103) (bz 10 118) rfl rfl rfl rfl (two_of HT_.out (by kernel_rfl)) (by decide) (by decide) (fun K hK => ?_) (fun K hK => ?_)
    ·skip
     refine Kd.R_lit_step (Kd.int .i64) _ 3 ?hg (N := 3) ?hd (xs := ([] : List Int)) (inner := []) (ok := fun _ => True) (okp := fun _ => True) ?hr ?hp (fun _ hk => hk) trivial (Below.refl _ _) (Nat.le_refl _) (by simp) ?_; (case hd => rfl); (case hg => rfl); (case hr => first | (go_simp; done) | (go_simp; rfl)); (case hp => exact (Reps.none _ _))
     intro v273 w7 ho8 hb hg_ hnew_
     clear hg_ hnew_
     (first | rw [← Ny272.out] at ho8 | (simp only [Int.reduceToNat] at ho8; rw [← Ny272.out] at ho8))
     have HO274 := Z0 (rl ho8 (below_size (zb HB)))
     replace BK270 := Z0 (zkb BK270 hb)
     replace BK271 := Z0 (zkb BK271 hb)
     replace HB := Z0 (below_step (zb HB) hb)
     clear hb ho8
     refine hK.out _ _ ⟨(kc BK270.out 0).trans rfl, (kc BK270.out 1).trans rfl⟩ (fun hHeld => ?_)
     clear hK K
     refine norm_ (a' := ?_) ?_ ?_
     rotate_left
     ·show Act.put _ (some 3) _ = _
      simp only [Act.put, y0, y1, y2, i64_w, i32_w]
      rfl
     refine two_ (i := 3) (j := 4) (Ni := some 6) (Nj := some 7) (bz 10 111) (bz 10 119) rfl rfl rfl rfl (two_of HT_.out (by kernel_rfl)) (by decide) (by decide) (fun K hK => ?_) (fun K hK => ?_)
     ·skip
      refine Kd.R_append_rows_step (Kd.int .i64) (w0 := w) w.heap.size (by rfl) (.tmp 3) (.tmp 5) 22 3 (.int .i64 0) 8 rfl Try.underlying22 info3 rfl (by decide) (by omega) v273 y272 l0_0 _ _ _ (fun _ => True) (fun _ => False) rfl rfl ?aO ?aR (fun _ _ h => h) (fun _ h => h.elim) ?aF ?aB ?aS ?aL ?_
      (case aR => repeat (first | exact (Kd.C_below HR0_0.out HB.out) | (with_reducible refine Kd.C_alloc ?_ _) | (with_reducible refine Kd.C_drewN ?_ _) | (with_reducible refine Kd.C_drew ?_)))
      (case aB => exact (zb HB))
      (case aF => exact (fun _ _ => trivial))
      (case aO => exact (zr HO274))
      (case aS => exact (below_size (zb HB)))
      (case aL => have := LMc2.out; omega)
      intro v276 w9 ho hb hg hat
      rw [← Ny275.out] at ho
      replace BK270 := Z0 (blk_grown (g := gb270) (o := .cells #[.slice A0_0 l0_0.length c0_0, .slice A0_1 l0_1.length c0_1] 25 (0, 0)) (zk BK270) hg (Kd.R_ne HO274.out BK270.out (by decide)))
      replace BK271 := Z0 (blk_grown (g := gb271) (o := .cells #[.slice none 0 0, .slice none 0 0] 25 (0, 0)) (zk BK271) hg (Kd.R_ne HO274.out BK271.out (by decide)))
      replace HB := Z0 (hb)
      have HO277 := Z0 (ho)
      clear HO274
      clear ho hb hg hat
      refine hK.out _ _ ⟨(kc BK270.out 0).trans rfl, (kc BK270.out 1).trans rfl⟩ (fun hHeld => ?_)
      clear hK K
      refine norm_ (a' := ?_) ?_ ?_
      rotate_left
      ·show Act.put _ (some 6) _ = _
       simp only [Act.put, y0, y1, y2, i64_w, i32_w]
       rfl
      refine one_ (i := 4) (N := some 7) (bz 10 127) rfl rfl (one_of HT_.out (by kernel_rfl)) (by decide) (fun K hK => ?_)
      refine Kd.R_lit_step k85 _ 85 ?hg (N := 7) ?hd (xs := ([] : List (S85))) (inner := []) (ok := fun _ => True) (okp := fun _ => True) ?hr ?hp (fun _ hk => hk) trivial (Below.refl _ _) (Nat.le_refl _) (by simp) ?_; (case hd => rfl); (case hg => rfl); (case hr => first | (go_simp; done) | (go_simp; rfl)); (case hp => exact (Reps.none _ _))
      intro v279 w10 ho11 hb hg_ hnew_
      clear hg_ hnew_
      (first | rw [← Ny278.out] at ho11 | (simp only [Int.reduceToNat] at ho11; rw [← Ny278.out] at ho11))
      replace HO277 := Z0 (rbe (zr HO277) hb)
      have HO280 := Z0 (rl ho11 (below_size (zb HB)))
      replace BK270 := Z0 (zkb BK270 hb)
      replace BK271 := Z0 (zkb BK271 hb)
      replace HB := Z0 (below_step (zb HB) hb)
      clear hb ho11
      refine hK.out _ _ ⟨(kc BK270.out 0).trans rfl, (kc BK270.out 1).trans rfl⟩ (fun hHeld => ?_)
      clear hK K
      refine norm_ (a' := ?_) ?_ ?_
      rotate_left
      ·show Act.put _ (some 7) _ = _
       simp only [Act.put, y0, y1, y2, i64_w, i32_w]
       rfl
      exact norm_ (by simp only [putAll, Act.put, y0, y1, y2]) (hCont (v273, v276, v279) _ ⟨hHeld, (zr HO277), (zr HO280), (zk BK270), (zk BK271), (zb HB)⟩)
     ·skip
      refine Kd.R_lit_step k85 _ 85 ?hg (N := 7) ?hd (xs := ([] : List (S85))) (inner := []) (ok := fun _ => True) (okp := fun _ => True) ?hr ?hp (fun _ hk => hk) trivial (Below.refl _ _) (Nat.le_refl _) (by simp) ?_; (case hd => rfl); (case hg => rfl); (case hr => first | (go_simp; done) | (go_simp; rfl)); (case hp => exact (Reps.none _ _))
      intro v279 w9 ho10 hb hg_ hnew_
      clear hg_ hnew_
      (first | rw [← Ny278.out] at ho10 | (simp only [Int.reduceToNat] at ho10; rw [← Ny278.out] at ho10))
      replace HO274 := Z0 (rbe (zr HO274) hb)
      have HO280 := Z0 (rl ho10 (below_size (zb HB)))
      replace BK270 := Z0 (zkb BK270 hb)
      replace BK271 := Z0 (zkb BK271 hb)
      replace HB := Z0 (below_step (zb HB) hb)
      clear hb ho10
      refine hK.out _ _ ⟨(kc BK270.out 0).trans rfl, (kc BK270.out 1).trans rfl⟩ (fun hHeld => ?_)
      clear hK K
      refine norm_ (a' := ?_) ?_ ?_
      rotate_left
      ·show Act.put _ (some 7) _ = _
       simp only [Act.put, y0, y1, y2, i64_w, i32_w]
       rfl
      refine one_ (i := 3) (N := some 6) (bz 10 127) rfl rfl (one_of HT_.out (by kernel_rfl)) (by decide) (fun K hK => ?_)
      refine Kd.R_append_rows_step (Kd.int .i64) (w0 := w) w.heap.size (by rfl) (.tmp 3) (.tmp 5) 22 3 (.int .i64 0) 8 rfl Try.underlying22 info3 rfl (by decide) (by omega) v273 y272 l0_0 _ _ _ (fun _ => True) (fun _ => False) rfl rfl ?aO ?aR (fun _ _ h => h) (fun _ h => h.elim) ?aF ?aB ?aS ?aL ?_
      (case aR => repeat (first | exact (Kd.C_below HR0_0.out HB.out) | (with_reducible refine Kd.C_alloc ?_ _) | (with_reducible refine Kd.C_drewN ?_ _) | (with_reducible refine Kd.C_drew ?_)))
      (case aB => exact (zb HB))
      (case aF => exact (fun _ _ => trivial))
      (case aO => exact (zr HO274))
      (case aS => exact (below_size (zb HB)))
      (case aL => have := LMc2.out; omega)
      intro v276 w11 ho hb hg hat
      rw [← Ny275.out] at ho
      replace BK270 := Z0 (blk_grown (g := gb270) (o := .cells #[.slice A0_0 l0_0.length c0_0, .slice A0_1 l0_1.length c0_1] 25 (0, 0)) (zk BK270) hg (Kd.R_ne HO274.out BK270.out (by decide)))
      replace BK271 := Z0 (blk_grown (g := gb271) (o := .cells #[.slice none 0 0, .slice none 0 0] 25 (0, 0)) (zk BK271) hg (Kd.R_ne HO274.out BK271.out (by decide)))
      replace HO280 := Z0 (Kd.R_over' (zr HO280) (Kd.R_typed (zr HO274)) (by decide) hg)
      replace HB := Z0 (hb)
      have HO277 := Z0 (ho)
      clear HO274
      clear ho hb hg hat
      refine hK.out _ _ ⟨(kc BK270.out 0).trans rfl, (kc BK270.out 1).trans rfl⟩ (fun hHeld => ?_)
      clear hK K
      refine norm_ (a' := ?_) ?_ ?_
      rotate_left
      ·show Act.put _ (some 6) _ = _
       simp only [Act.put, y0, y1, y2, i64_w, i32_w]
       rfl
      exact norm_ (by simp only [putAll, Act.put, y0, y1, y2]) (hCont (v273, v276, v279) _ ⟨hHeld, (zr HO277), (zr HO280), (zk BK270), (zk BK271), (zb HB)⟩)
    ·skip
     refine Kd.R_lit_step k85 _ 85 ?hg (N := 7) ?hd (xs := ([] : List (S85))) (inner := []) (ok := fun _ => True) (okp := fun _ => True) ?hr ?hp (fun _ hk => hk) trivial (Below.refl _ _) (Nat.le_refl _) (by simp) ?_; (case hd => rfl); (case hg => rfl); (case hr => first | (go_simp; done) | (go_simp; rfl)); (case hp => exact (Reps.none _ _))
     intro v279 w7 ho8 hb hg_ hnew_
     clear hg_ hnew_
     (first | rw [← Ny278.out] at ho8 | (simp only [Int.reduceToNat] at ho8; rw [← Ny278.out] at ho8))
     have HO280 := Z0 (rl ho8 (below_size (zb HB)))
     replace BK270 := Z0 (zkb BK270 hb)
     replace BK271 := Z0 (zkb BK271 hb)
     replace HB := Z0 (below_step (zb HB) hb)
     clear hb ho8
     refine hK.out _ _ ⟨(kc BK270.out 0).trans rfl, (kc BK270.out 1).trans rfl⟩ (fun hHeld => ?_)
     clear hK K
     refine norm_ (a' := ?_) ?_ ?_
     rotate_left
     ·show Act.put _ (some 7) _ = _
      simp only [Act.put, y0, y1, y2, i64_w, i32_w]
      rfl
     refine one_ (i := 0) (N := some 3) (bz 10 119) rfl rfl (one_of HT_.out (by kernel_rfl)) (by decide) (fun K hK => ?_)
     refine Kd.R_lit_step (Kd.int .i64) _ 3 ?hg (N := 3) ?hd (xs := ([] : List Int)) (inner := []) (ok := fun _ => True) (okp := fun _ => True) ?hr ?hp (fun _ hk => hk) trivial (Below.refl _ _) (Nat.le_refl _) (by simp) ?_; (case hd => rfl); (case hg => rfl); (case hr => first | (go_simp; done) | (go_simp; rfl)); (case hp => exact (Reps.none _ _))
     intro v273 w9 ho10 hb hg_ hnew_
     clear hg_ hnew_
     (first | rw [← Ny272.out] at ho10 | (simp only [Int.reduceToNat] at ho10; rw [← Ny272.out] at ho10))
     replace HO280 := Z0 (rbe (zr HO280) hb)
     have HO274 := Z0 (rl ho10 (below_size (zb HB)))
     replace BK270 := Z0 (zkb BK270 hb)
     replace BK271 := Z0 (zkb BK271 hb)
     replace HB := Z0 (below_step (zb HB) hb)
     clear hb ho10
     refine hK.out _ _ ⟨(kc BK270.out 0).trans rfl, (kc BK270.out 1).trans rfl⟩ (fun hHeld => ?_)
     clear hK K
     refine norm_ (a' := ?_) ?_ ?_
     rotate_left
     ·show Act.put _ (some 3) _ = _
      simp only [Act.put, y0, y1, y2, i64_w, i32_w]
      rfl
     refine one_ (i := 3) (N := some 6) (bz 10 127) rfl rfl (one_of HT_.out (by kernel_rfl)) (by decide) (fun K hK => ?_)
     refine Kd.R_append_rows_step (Kd.int .i64) (w0 := w) w.heap.size (by rfl) (.tmp 3) (.tmp 5) 22 3 (.int .i64 0) 8 rfl Try.underlying22 info3 rfl (by decide) (by omega) v273 y272 l0_0 _ _ _ (fun _ => True) (fun _ => False) rfl rfl ?aO ?aR (fun _ _ h => h) (fun _ h => h.elim) ?aF ?aB ?aS ?aL ?_
     (case aR => repeat (first | exact (Kd.C_below HR0_0.out HB.out) | (with_reducible refine Kd.C_alloc ?_ _) | (with_reducible refine Kd.C_drewN ?_ _) | (with_reducible refine Kd.C_drew ?_)))
     (case aB => exact (zb HB))
     (case aF => exact (fun _ _ => trivial))
     (case aO => exact (zr HO274))
     (case aS => exact (below_size (zb HB)))
     (case aL => have := LMc2.out; omega)
     intro v276 w11 ho hb hg hat
     rw [← Ny275.out] at ho
     replace BK270 := Z0 (blk_grown (g := gb270) (o := .cells #[.slice A0_0 l0_0.length c0_0, .slice A0_1 l0_1.length c0_1] 25 (0, 0)) (zk BK270) hg (Kd.R_ne HO274.out BK270.out (by decide)))
     replace BK271 := Z0 (blk_grown (g := gb271) (o := .cells #[.slice none 0 0, .slice none 0 0] 25 (0, 0)) (zk BK271) hg (Kd.R_ne HO274.out BK271.out (by decide)))
     replace HO280 := Z0 (Kd.R_over' (zr HO280) (Kd.R_typed (zr HO274)) (by decide) hg)
     replace HB := Z0 (hb)
     have HO277 := Z0 (ho)
     clear HO274
     clear ho hb hg hat
     refine hK.out _ _ ⟨(kc BK270.out 0).trans rfl, (kc BK270.out 1).trans rfl⟩ (fun hHeld => ?_)
     clear hK K
     refine norm_ (a' := ?_) ?_ ?_
     rotate_left
     ·show Act.put _ (some 6) _ = _
      simp only [Act.put, y0, y1, y2, i64_w, i32_w]
      rfl
     exact norm_ (by simp only [putAll, Act.put, y0, y1, y2]) (hCont (v273, v276, v279) _ ⟨hHeld, (zr HO277), (zr HO280), (zk BK270), (zk BK271), (zb HB)⟩)
   rintro ⟨v273, v276, v279⟩ w12 ⟨hS_, h0_, h1_, h2_, h3_, h4_⟩
   have n0_ : Aside0 (Kd.R (Kd.int .i64) 3 w12 w.heap.size (fun _ => True) v276 y275) := ⟨h0_⟩
   have n1_ : Aside0 (Kd.R k85 85 w12 w.heap.size (fun _ => True) v279 y278) := ⟨h1_⟩
   have n2_ : Aside0 (w12.heap[gb270]? = some (.cells #[.slice A0_0 l0_0.length c0_0, .slice A0_1 l0_1.length c0_1] 25 (0, 0))) := ⟨h2_⟩
   have n3_ : Aside0 (w12.heap[gb271]? = some (.cells #[.slice none 0 0, .slice none 0 0] 25 (0, 0))) := ⟨h3_⟩
   have n4_ : Aside0 (Below w.heap.size w w12) := ⟨h4_⟩
   clear BK270
   clear BK271
   clear HB
   clear h0_ h1_ h2_ h3_ h4_
   have HO277 := n0_
   have HO280 := n1_
   have BK270 := n2_
   have BK271 := n3_
   have HB := n4_
   clear n0_ n1_ n2_ n3_ n4_
   have hHeld : w12.cell? ⟨gb270, 0, none⟩ = some (.slice A0_0 l0_0.length c0_0) ∧ w12.cell? ⟨gb270, 1, none⟩ = some (.slice A0_1 l0_1.length c0_1) := hS_
   refine norm_ (a' := ?_) ?_ ?_; rotate_left; simp only [putAll, Act.put, y0, y1, y2]; rfl
   refine one_ (i := 7) (N := some 10) (bz 10 255) rfl rfl (one_of HT_.out (by kernel_rfl)) (by decide) (fun K hK => ?_)
   refine Kd.R_append_rows_step k85 (w0 := w) w.heap.size (by rfl) (.tmp 7) (.tmp 9) 23 85 (.agg #[(.int .i64 0), (.int .i64 0)]) 16 rfl Try.underlying23 info85 rfl (by decide) (by omega) v279 y278 l0_1 _ _ _ (fun _ => True) (fun _ => False) rfl rfl ?aO ?aR (fun _ _ h => h) (fun _ h => h.elim) ?aF ?aB ?aS ?aL ?_
   (case aR => repeat (first | exact (Kd.C_below HR0_1.out HB.out) | (with_reducible refine Kd.C_alloc ?_ _) | (with_reducible refine Kd.C_drewN ?_ _) | (with_reducible refine Kd.C_drew ?_)))
   (case aB => exact (zb HB))
   (case aF => exact (fun _ _ => trivial))
   (case aO => exact (zr HO280))
   (case aS => exact (below_size (zb HB)))
   (case aL => have := LMc3.out; omega)
   intro v282 w13 ho hb hg hat
   rw [← Ny281.out] at ho
   replace BK270 := Z0 (blk_grown (g := gb270) (o := .cells #[.slice A0_0 l0_0.length c0_0, .slice A0_1 l0_1.length c0_1] 25 (0, 0)) (zk BK270) hg (Kd.R_ne HO280.out BK270.out (by decide)))
   replace BK271 := Z0 (blk_grown (g := gb271) (o := .cells #[.slice none 0 0, .slice none 0 0] 25 (0, 0)) (zk BK271) hg (Kd.R_ne HO280.out BK271.out (by decide)))
   replace HO277 := Z0 (Kd.R_over' (zr HO277) (Kd.R_typed (zr HO280)) (by decide) hg)
   replace HB := Z0 (hb)
   have HO283 := Z0 (ho)
   clear HO280
   clear ho hb hg hat
   obtain ⟨Ao14, co14, eo14⟩ := Kd.R_slice HO283.out
   (first | subst eo14 | (injection eo14 with f1_ f2_ f3_; have f4_ := f1_.symm; have f5_ := f3_.symm; clear f1_ f2_ f3_; subst f4_; subst f5_))
   obtain ⟨Ao15, co15, eo15⟩ := Kd.R_slice HO277.out
   (first | subst eo15 | (injection eo15 with f1_ f2_ f3_; have f4_ := f1_.symm; have f5_ := f3_.symm; clear f1_ f2_ f3_; subst f4_; subst f5_))
   refine hK.out _ _ ⟨(kc BK270.out 0).trans rfl, (kc BK270.out 1).trans rfl⟩ (fun hHeld => ?_)
   clear hK K
   refine norm_ (a' := ?_) ?_ ?_
   rotate_left
   ·show Act.put _ (some 10) _ = _
    simp only [Act.put, y0, y1, y2, i64_w, i32_w]
    rfl
   refine pu 8 (some 11) (bz 10 511) HT_ ?_
   refine one_ (i := 9) (N := none) (bz 10 1023) rfl rfl (one_of HT_.out (by kernel_rfl)) (by decide) (fun K hK => ?_)
   have hs16 : w13.cell? ⟨gb271, 0, none⟩ = some (.slice none 0 0) := (kc BK271.out 0).trans rfl
   have hfs16 := blk_frozen BK271.out 0
   have hns16_0 := NB270_271.out
   have hms16_0 := NB271_270.out
   have hs17 : w13.cell? ⟨gb271, 1, none⟩ = some (.slice none 0 0) := (kc BK271.out 1).trans rfl
   have hfs17 := blk_frozen BK271.out 1
   have hns17_0 := NB270_271.out
   have hms17_0 := NB271_270.out
   refine skip_ (w1 := ?_) (by rfl) rfl ?_ ?_; rotate_left; go_simp; rfl
   refine hK.out _ _ ⟨((cell_far (p := ⟨gb271, _, none⟩) NB270_271.out _).trans (((cell_far (p := ⟨gb271, _, none⟩) NB270_271.out _).trans (hHeld.1)))), ((cell_far (p := ⟨gb271, _, none⟩) NB270_271.out _).trans (((cell_far (p := ⟨gb271, _, none⟩) NB270_271.out _).trans (hHeld.2))))⟩ (fun hHeld => ?_)
   clear hK K
   refine done_ (done_of HT_.out (by kernel_rfl)) ?_
   try go_wp2
   refine bodyPost_ret (results_cell_row rfl _ _ gb271 25 #[.slice Ao15 y275.length co15, .slice Ao14 y281.length co14] (0, 0) _ rfl (by (with_reducible repeat (first | refine kn ?_ _ | refine kd_ ?_ | refine ka ?_ _)); refine blk_put (cs := #[.slice Ao15 y275.length co15, .slice none 0 0]) ?_ 1 _ rfl; (with_reducible repeat (first | refine kn ?_ _ | refine kd_ ?_ | refine ka ?_ _)); refine blk_put (cs := #[.slice none 0 0, .slice none 0 0]) ?_ 0 _ rfl; (with_reducible repeat (first | refine kn ?_ _ | refine kd_ ?_ | refine ka ?_ _)); exact BK271.out) Try.underlying25 rfl (by kernel_rfl)) rfl ?_
   exact ⟨_, _, ze, by (with_reducible repeat (first | apply ra | apply rn | apply rd_)); exact rm (Kd.R_far (p := ⟨gb271, 1, none⟩) (Kd.R_far (p := ⟨gb271, 0, none⟩) (Kd.R_types HO277.out BK271.out (by decide)) (fun _ hk => hk.2) (.slice Ao15 y275.length co15)) (fun _ hk => hk.2) (.slice Ao14 y281.length co14)) (fun _ hk => trivial), by (with_reducible repeat (first | apply ra | apply rn | apply rd_)); exact rm (Kd.R_far (p := ⟨gb271, 1, none⟩) (Kd.R_far (p := ⟨gb271, 0, none⟩) (Kd.R_types HO283.out BK271.out (by decide)) (fun _ hk => hk.2) (.slice Ao15 y275.length co15)) (fun _ hk => hk.2) (.slice Ao14 y281.length co14)) (fun _ hk => trivial), zb HB⟩
  ·rw [if_neg c3] at H
   exact absurd H (by simp)
 ·rw [if_neg c2] at H
  exact absurd H (by simp)
def trefoilref11_Same.f (k : Nat) (l0_0 : List Int) (l0_1 : List Int) (l1_0 : List Int) (l1_1 : List Int) : Option (Bool) := (trefoilref02_Ints.f k l0_0 l1_0).bind fun t286 => (if t286 = true then ((trefoilref02_Ints.f k l0_1 l1_1).bind fun t287 => (some t287)) else (some false))
set_option maxHeartbeats 8000000 in
set_option maxRecDepth 100000 in
theorem trefoilref11_Same.calls (k : Nat) (A0_0 : Option Addr) (c0_0 : Nat) (l0_0 : List Int) (A0_1 : Option Addr) (c0_1 : Nat) (l0_1 : List Int) (A1_0 : Option Addr) (c1_0 : Nat) (l1_0 : List Int) (A1_1 : Option Addr) (c1_1 : Nat) (l1_1 : List Int) (r : Bool) (w : World) (hr0_0 : Kd.C (Kd.int .i64) w A0_0 l0_0.length l0_0) (hc0_0 : l0_0.length ≤ c0_0) (hr0_1 : Kd.C (Kd.int .i64) w A0_1 l0_1.length l0_1) (hc0_1 : l0_1.length ≤ c0_1) (hr1_0 : Kd.C (Kd.int .i64) w A1_0 l1_0.length l1_0) (hc1_0 : l1_0.length ≤ c1_0) (hr1_1 : Kd.C (Kd.int .i64) w A1_1 l1_1.length l1_1) (hc1_1 : l1_1.length ≤ c1_1) (h : trefoilref11_Same.f k l0_0 l0_1 l1_0 l1_1 = some r) :
  Calls Try.prog 19 #[.agg #[.slice A0_0 l0_0.length c0_0, .slice A0_1 l0_1.length c0_1], .agg #[.slice A1_0 l1_0.length c1_0, .slice A1_1 l1_1.length c1_1]] w fun e w' => e = .returned (.bool r) ∧ Below w.heap.size w w' := by
 have hu27 := Try.underlying27
 have HR0_0 := Z0 hr0_0
 have HC0_0 := Z0 hc0_0
 clear hr0_0 hc0_0
 have HR0_1 := Z0 hr0_1
 have HC0_1 := Z0 hc0_1
 clear hr0_1 hc0_1
 have HR1_0 := Z0 hr1_0
 have HC1_0 := Z0 hc1_0
 clear hr1_0 hc1_0
 have HR1_1 := Z0 hr1_1
 have HC1_1 := Z0 hc1_1
 clear hr1_1 hc1_1
 have HB := Z0 (Below.refl w.heap.size w)
 have H : ((trefoilref02_Ints.f k l0_0 l1_0).bind fun t286 => (if t286 = true then ((trefoilref02_Ints.f k l0_1 l1_1).bind fun t287 => (some t287)) else (some false))) = some r := h
 clear h
 replace H := Option.bind_eq_some_iff.mp H
 obtain ⟨t286, A30, H⟩ := H
 have A3 := Z0 A30
 clear A30
 by_cases c4 : t286 = true
 ·subst c4
  rw [if_pos rfl] at H
  replace H := Option.bind_eq_some_iff.mp H
  obtain ⟨t287, A50, H⟩ := H
  have A5 := Z0 A50
  clear A50
  obtain rfl := Option.some.inj H
  go_enter Try.func19, Try.ntmps19
  go_wp2_with (first | ((with_reducible refine gate_dst (N := 2) rfl ?_); refine zx (N := 2) #[.slice A0_0 l0_0.length c0_0, .slice A0_1 l0_1.length c0_1] 27 ?_; intro gb284 hg w6 hbox hb; have BK284 := Z0 (hbox); have GW284 := Z0 (zh w hg HB); have GE284 := Z0 (zh w hg HB); replace HB := Z0 (below_step (zb HB) hb); clear hb hbox hg) | ((with_reducible refine gate_dst (N := 3) rfl ?_); refine zx (N := 3) #[.slice A1_0 l1_0.length c1_0, .slice A1_1 l1_1.length c1_1] 27 ?_; intro gb285 hg w7 hbox hb; have BK285 := Z0 (hbox); have GW285 := Z0 (zh w hg HB); have GE285 := Z0 (zh w hg HB); replace HB := Z0 (below_step (zb HB) hb); have NB284_285 := Z0 (zl hg BK284); have NB285_284 := Z0 (zu hg BK284); replace BK284 := Z0 (zkb BK284 hb); clear hb hbox hg; have hnb8 := NB284_285.out; have hnc8 := NB285_284.out; have hcz9_0 := kz0 BK284; have hcz9_1 := kz1 BK284; have hfz9_0 := blk_frozen BK284.out 0; have hfz9_1 := blk_frozen BK284.out 1; have hcz10_0 := kz0 BK285; have hcz10_1 := kz1 BK285; have hfz10_0 := blk_frozen BK285.out 0; have hfz10_1 := blk_frozen BK285.out 1) | ((with_reducible refine gate_callee (f := 22) rfl ?_); refine goesL_ (some 9) rfl rfl Try.func22 (by kernel_rfl) rfl #[.slice A0_0 l0_0.length c0_0, .slice A1_0 l1_0.length c1_0] rfl (by (try simp only [List.map_toArray, List.map_cons, List.map_nil]); first | done | rfl | (simp only [List.length_drop, List.length_take]; rfl)) ?_; (with_reducible refine (trefoilref02_Ints.calls k _ _ l0_0 _ _ l1_0 true _ ?side1 ?side2 ?side3 ?side4 A3.out).mono ?_); (case side1 => exact zc (Kd.C_below HR0_0.out HB.out)); (case side2 => exact HC0_0.out); (case side3 => exact zc (Kd.C_below HR1_0.out HB.out)); (case side4 => exact HC1_0.out); rintro e w' ⟨rfl, ⟨nd, rfl⟩⟩; refine ⟨_, rfl, ?_⟩) | (go_at_call 22; (with_reducible refine (trefoilref02_Ints.calls k _ _ l0_1 _ _ l1_1 t287 _ ?side1 ?side2 ?side3 ?side4 A5.out).mono ?_); (case side1 => repeat (first | exact (Kd.C_below HR0_1.out (zb HB)) | (with_reducible refine Kd.C_alloc ?_ _) | (with_reducible refine Kd.C_drewN ?_ _) | (with_reducible refine Kd.C_drew ?_))); (case side2 => exact HC0_1.out); (case side3 => repeat (first | exact (Kd.C_below HR1_1.out (zb HB)) | (with_reducible refine Kd.C_alloc ?_ _) | (with_reducible refine Kd.C_drewN ?_ _) | (with_reducible refine Kd.C_drew ?_))); (case side4 => exact HC1_1.out); rintro e w' ⟨rfl, ⟨nd, rfl⟩⟩))
  go_ret
  exact ⟨ze, zb HB⟩
 ·replace c4 := Bool.eq_false_iff.mpr c4
  subst c4
  rw [if_neg nft] at H
  obtain rfl := Option.some.inj H
  go_enter Try.func19, Try.ntmps19
  go_wp2_with (first | ((with_reducible refine gate_dst (N := 2) rfl ?_); refine zx (N := 2) #[.slice A0_0 l0_0.length c0_0, .slice A0_1 l0_1.length c0_1] 27 ?_; intro gb284 hg w11 hbox hb; have BK284 := Z0 (hbox); have GW284 := Z0 (zh w hg HB); have GE284 := Z0 (zh w hg HB); replace HB := Z0 (below_step (zb HB) hb); clear hb hbox hg) | ((with_reducible refine gate_dst (N := 3) rfl ?_); refine zx (N := 3) #[.slice A1_0 l1_0.length c1_0, .slice A1_1 l1_1.length c1_1] 27 ?_; intro gb285 hg w12 hbox hb; have BK285 := Z0 (hbox); have GW285 := Z0 (zh w hg HB); have GE285 := Z0 (zh w hg HB); replace HB := Z0 (below_step (zb HB) hb); have NB284_285 := Z0 (zl hg BK284); have NB285_284 := Z0 (zu hg BK284); replace BK284 := Z0 (zkb BK284 hb); clear hb hbox hg; have hnb13 := NB284_285.out; have hnc13 := NB285_284.out; have hcz14_0 := kz0 BK284; have hcz14_1 := kz1 BK284; have hfz14_0 := blk_frozen BK284.out 0; have hfz14_1 := blk_frozen BK284.out 1; have hcz15_0 := kz0 BK285; have hcz15_1 := kz1 BK285; have hfz15_0 := blk_frozen BK285.out 0; have hfz15_1 := blk_frozen BK285.out 1) | ((with_reducible refine gate_callee (f := 22) rfl ?_); refine goesL_ (some 9) rfl rfl Try.func22 (by kernel_rfl) rfl #[.slice A0_0 l0_0.length c0_0, .slice A1_0 l1_0.length c1_0] rfl (by (try simp only [List.map_toArray, List.map_cons, List.map_nil]); first | done | rfl | (simp only [List.length_drop, List.length_take]; rfl)) ?_; (with_reducible refine (trefoilref02_Ints.calls k _ _ l0_0 _ _ l1_0 false _ ?side1 ?side2 ?side3 ?side4 A3.out).mono ?_); (case side1 => exact zc (Kd.C_below HR0_0.out HB.out)); (case side2 => exact HC0_0.out); (case side3 => exact zc (Kd.C_below HR1_0.out HB.out)); (case side4 => exact HC1_0.out); rintro e w' ⟨rfl, ⟨nd, rfl⟩⟩; refine ⟨_, rfl, ?_⟩))
  go_ret
  exact ⟨ze, zb HB⟩
def trefoillaw04_Few.f (l0_0 : List Int) (l0_1 : List (S85)) : Option (Bool) := if (l0_0.length : Int) ≤ 70 then (some (decide ((l0_1.length : Int) ≤ 300))) else (some false)
set_option maxHeartbeats 8000000 in
set_option maxRecDepth 100000 in
theorem trefoillaw04_Few.calls (A0_0 : Option Addr) (c0_0 : Nat) (l0_0 : List Int) (A0_1 : Option Addr) (c0_1 : Nat) (l0_1 : List (S85)) (r : Bool) (w : World) (hr0_0 : Kd.C (Kd.int .i64) w A0_0 l0_0.length l0_0) (hc0_0 : l0_0.length ≤ c0_0) (hr0_1 : Kd.C k85 w A0_1 l0_1.length l0_1) (hc0_1 : l0_1.length ≤ c0_1) (h : trefoillaw04_Few.f l0_0 l0_1 = some r) :
  Calls Try.prog 24 #[.agg #[.slice A0_0 l0_0.length c0_0, .slice A0_1 l0_1.length c0_1]] w fun e w' => e = .returned (.bool r) ∧ Below w.heap.size w w' := by
 have hu25 := Try.underlying25
 have HR0_0 := Z0 hr0_0
 have HC0_0 := Z0 hc0_0
 clear hr0_0 hc0_0
 have HR0_1 := Z0 hr0_1
 have HC0_1 := Z0 hc0_1
 clear hr0_1 hc0_1
 have HB := Z0 (Below.refl w.heap.size w)
 have H : (if (l0_0.length : Int) ≤ 70 then (some (decide ((l0_1.length : Int) ≤ 300))) else (some false)) = some r := h
 clear h
 by_cases c2 : (l0_0.length : Int) ≤ 70
 ·rw [if_pos c2] at H
  have c2b0 : decide ((l0_0.length : Int) ≤ 70) = true := decide_eq_true c2
  have c2b1 : decide (l0_0.length ≤ 70) = true := decide_eq_true (by omega)
  clear c2
  obtain rfl := Option.some.inj H
  go_enter Try.func24, Try.ntmps24
  go_wp2_with (first | ((with_reducible refine gate_dst (N := 1) rfl ?_); (try (refine gate_guard (by rfl) ?_; dsimp only)); refine zx (N := 1) #[.slice A0_0 l0_0.length c0_0, .slice A0_1 l0_1.length c0_1] 25 ?_; intro gb288 hg w3 hbox hb; have BK288 := Z0 (hbox); have GW288 := Z0 (zh w hg HB); have GE288 := Z0 (zh w hg HB); replace HB := Z0 (below_step (zb HB) hb); clear hb hbox hg; have hcz4_0 := kz0 BK288; have hcz4_1 := kz1 BK288; have hfz4_0 := blk_frozen BK288.out 0; have hfz4_1 := blk_frozen BK288.out 1))
  go_ret
  exact ⟨ze, zb HB⟩
 ·rw [if_neg c2] at H
  have c2b0 : decide ((l0_0.length : Int) ≤ 70) = false := decide_eq_false c2
  have c2b1 : decide (l0_0.length ≤ 70) = false := decide_eq_false (by omega)
  clear c2
  obtain rfl := Option.some.inj H
  go_enter Try.func24, Try.ntmps24
  go_wp2_with (first | ((with_reducible refine gate_dst (N := 1) rfl ?_); (try (refine gate_guard (by rfl) ?_; dsimp only)); refine zx (N := 1) #[.slice A0_0 l0_0.length c0_0, .slice A0_1 l0_1.length c0_1] 25 ?_; intro gb288 hg w5 hbox hb; have BK288 := Z0 (hbox); have GW288 := Z0 (zh w hg HB); have GE288 := Z0 (zh w hg HB); replace HB := Z0 (below_step (zb HB) hb); clear hb hbox hg; have hcz6_0 := kz0 BK288; have hcz6_1 := kz1 BK288; have hfz6_0 := blk_frozen BK288.out 0; have hfz6_1 := blk_frozen BK288.out 1))
  go_ret
  exact ⟨ze, zb HB⟩
def trefoillaw11_little.l0 : Nat → List Int → Int → Int → Option (Bool)
 | 0, _, _, _ => none
 | k + 1, x0, x3, x4 => if x4 < (x0.length : Int) then (if 0 ≤ x4 then (if (rd x0 x4) < 0 then (some (decide ((rd x0 x4) < 0))) else (if (rd x0 x4) > x3 then (some (decide ((rd x0 x4) < 0))) else (trefoillaw11_little.l0 k x0 (wrap64 (x3 - (rd x0 x4))) (wrap64 (x4 + 1))))) else (none)) else (some true)
def trefoillaw11_little.f (k : Nat) (l0 : List Int) : Option (Bool) := trefoillaw11_little.l0 k l0 300 0
set_option maxHeartbeats 8000000 in
set_option maxRecDepth 100000 in
theorem trefoillaw11_little.calls (k : Nat) (A0 : Option Addr) (c0 : Nat) (l0 : List Int) (r : Bool) (w : World) (hr0 : Kd.C (Kd.int .i64) w A0 l0.length l0) (hc0 : l0.length ≤ c0) (h : trefoillaw11_little.f k l0 = some r) :
  Calls Try.prog 25 #[.slice A0 l0.length c0] w fun e w' => e = .returned (.bool r) ∧ Drawn0 w w' := by
 have HR0 := Z0 hr0
 have HC0 := Z0 hc0
 clear hr0 hc0
 have H : (trefoillaw11_little.l0 k l0 300 0) = some r := h
 clear h
 have H' := Z0 H
 clear H
 go_enter Try.func25, Try.ntmps25
 go_wp2
 go_loopg [3, 4] k (fun kq v3 v4 w' => ∃ (x3_1 : Int) (x4_1 : Int), v3 = .int .i64 x3_1 ∧ v4 = .int .i64 x4_1 ∧ Aside0 (trefoillaw11_little.l0 kq l0 x3_1 x4_1 = some r) ∧ Aside0 (kq ≤ k) ∧ Drawn0 w w')
 case atStart => exact ⟨(300), (0), zs, zs, H', ⟨Nat.le_refl _⟩, by repeat (first | exact Drawn0.refl _ | apply Drawn0.step)⟩
 case round =>
  clear H'
  obtain ⟨x3_1, x4_1, rfl, rfl, HA, HK1, ⟨m1, rfl⟩⟩ := hrel
  cases gk with
  | zero => exact absurd HA.out (by simp [trefoillaw11_little.l0])
  | succ k1 =>
   have H := HA.out
   clear HA
   simp only [trefoillaw11_little.l0] at H
   by_cases c2 : x4_1 < (l0.length : Int)
   ·rw [if_pos c2] at H
    have c2b0 : decide (x4_1 < (l0.length : Int)) = true := decide_eq_true c2
    clear c2
    by_cases c3 : 0 ≤ x4_1
    ·rw [if_pos c3] at H
     have c3b0 : decide (0 ≤ x4_1) = true := decide_eq_true c3
     clear c3
     by_cases c4 : (rd l0 x4_1) < 0
     ·rw [if_pos c4] at H
      have c4b0 : decide ((rd l0 x4_1) < 0) = true := decide_eq_true c4
      clear c4
      obtain rfl := Option.some.inj H
      have p289 : 0 ≤ (x4_1 : Int) := od
      have q289 : x4_1 < (l0.length : Int) := od
      obtain ⟨ad289, e289, hx289_0⟩ := Kd.at_int HR0.out x4_1 p289 q289
      cases e289
      replace p289 := eq_true p289
      replace q289 := eq_true q289
      have p290 : 0 ≤ (x4_1 : Int) := od
      have q290 : x4_1 < (l0.length : Int) := od
      obtain ⟨ad290, e290, hx290_0⟩ := Kd.at_int HR0.out x4_1 p290 q290
      obtain rfl : ad289 = ad290 := (by injection e290)
      replace p290 := eq_true p290
      replace q290 := eq_true q290
      go_wp2
      go_ret
      exact ⟨by first | rfl | (simp; done) | (simp [*]; done), by repeat (first | exact Drawn0.refl _ | apply Drawn0.step)⟩
     ·rw [if_neg c4] at H
      have c4b0 : decide ((rd l0 x4_1) < 0) = false := decide_eq_false c4
      clear c4
      by_cases c5 : (rd l0 x4_1) > x3_1
      ·rw [if_pos c5] at H
       have c5b0 : decide (x3_1 < (rd l0 x4_1)) = true := decide_eq_true c5
       clear c5
       obtain rfl := Option.some.inj H
       have p289 : 0 ≤ (x4_1 : Int) := od
       have q289 : x4_1 < (l0.length : Int) := od
       obtain ⟨ad289, e289, hx289_0⟩ := Kd.at_int HR0.out x4_1 p289 q289
       cases e289
       replace p289 := eq_true p289
       replace q289 := eq_true q289
       have p291 : 0 ≤ (x4_1 : Int) := od
       have q291 : x4_1 < (l0.length : Int) := od
       obtain ⟨ad291, e291, hx291_0⟩ := Kd.at_int HR0.out x4_1 p291 q291
       obtain rfl : ad289 = ad291 := (by injection e291)
       replace p291 := eq_true p291
       replace q291 := eq_true q291
       have p292 : 0 ≤ (x4_1 : Int) := od
       have q292 : x4_1 < (l0.length : Int) := od
       obtain ⟨ad292, e292, hx292_0⟩ := Kd.at_int HR0.out x4_1 p292 q292
       obtain rfl : ad289 = ad292 := (by injection e292)
       replace p292 := eq_true p292
       replace q292 := eq_true q292
       go_wp2
       go_ret
       exact ⟨by first | rfl | (simp; done) | (simp [*]; done), by repeat (first | exact Drawn0.refl _ | apply Drawn0.step)⟩
      ·rw [if_neg c5] at H
       have c5b0 : decide (x3_1 < (rd l0 x4_1)) = false := decide_eq_false c5
       clear c5
       have H' := Z0 H
       clear H
       have p289 : 0 ≤ (x4_1 : Int) := od
       have q289 : x4_1 < (l0.length : Int) := od
       obtain ⟨ad289, e289, hx289_0⟩ := Kd.at_int HR0.out x4_1 p289 q289
       cases e289
       replace p289 := eq_true p289
       replace q289 := eq_true q289
       have p291 : 0 ≤ (x4_1 : Int) := od
       have q291 : x4_1 < (l0.length : Int) := od
       obtain ⟨ad291, e291, hx291_0⟩ := Kd.at_int HR0.out x4_1 p291 q291
       obtain rfl : ad289 = ad291 := (by injection e291)
       replace p291 := eq_true p291
       replace q291 := eq_true q291
       have p293 : 0 ≤ (x4_1 : Int) := od
       have q293 : x4_1 < (l0.length : Int) := od
       obtain ⟨ad293, e293, hx293_0⟩ := Kd.at_int HR0.out x4_1 p293 q293
       obtain rfl : ad289 = ad293 := (by injection e293)
       replace p293 := eq_true p293
       replace q293 := eq_true q293
       go_wp2
       go_roundg k1
       case measure => have := HK1.out; omega
       case rel => exact ⟨(wrap64 (x3_1 - (rd l0 x4_1))), (wrap64 (x4_1 + 1)), zs, zs, H', ⟨by have := HK1.out; omega⟩, by repeat (first | exact Drawn0.refl _ | apply Drawn0.step)⟩
    ·rw [if_neg c3] at H
     exact absurd H (by simp)
   ·rw [if_neg c2] at H
    have c2b0 : decide (x4_1 < (l0.length : Int)) = false := decide_eq_false c2
    clear c2
    obtain rfl := Option.some.inj H
    go_wp2
    go_ret
    exact ⟨by first | rfl | (simp; done) | (simp [*]; done), by repeat (first | exact Drawn0.refl _ | apply Drawn0.step)⟩
end Go.Proofs.Ytmbhjhanafmidaa.PListRuns
