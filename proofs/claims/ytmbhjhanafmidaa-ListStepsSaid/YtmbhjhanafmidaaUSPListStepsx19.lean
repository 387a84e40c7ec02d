/- Written by a program of this work: each theorem says that a call of the Go function comes to what the Lean function beside it tells, under the conditions that it names; Lean checks it. -/
import Derived.Test.YtmbhjhanafmidaaUSPListStepsx0
import Derived.Test.YtmbhjhanafmidaaUSPListStepsx12
import Derived.Test.YtmbhjhanafmidaaUSPListStepsx15
import Derived.Test.YtmbhjhanafmidaaUSZr
import Derived.Test.YtmbhjhanafmidaaUSZq
namespace Go.Proofs.Ytmbhjhanafmidaa.PListSteps
open Go.Proofs.Ytmbhjhanafmidaa.PAw Go.Proofs.Ytmbhjhanafmidaa.Zr Go.RowKit Go.Proofs.YtmbhjhanafmidaaW.PrintWords Go.Proofs.YtmbhjhanafmidaaW.PrintLast Go.Proofs.YtmbhjhanafmidaaW.PrintMore
attribute [local go_sem] max2_int min2_int max_two min_two max_three min_three max_four min_four   -- for this text's walks alone
set_option linter.unusedVariables false
set_option linter.unusedSimpArgs false
def trefoilref11_Ready.l0 : Nat → List Int → Int → List Int → List (S85) → List Int → List Int → Option (List Int)
 | 0, _, _, _, _, _, _ => none
 | k + 1, x5, x6, x388000, x388001, x389000, x389001 => if x6 < (x389001.length : Int) then (if 0 ≤ x6 then (if (rd x389001 x6) > 0 then ((trefoilref04_Has.f k x389000 x6).bind fun t393 => (if t393 = true then (trefoilref11_Ready.l0 k x5 (wrap64 (x6 + 1)) x388000 x388001 x389000 x389001) else ((trefoilref11_Over.f k x388000 x388001 x389000 x389001 x6).bind fun t394 => (if t394 = true then (if x5.length < 17592186044416 then (trefoilref11_Ready.l0 k (x5 ++ [x6]) (wrap64 (x6 + 1)) x388000 x388001 x389000 x389001) else (none)) else (trefoilref11_Ready.l0 k x5 (wrap64 (x6 + 1)) x388000 x388001 x389000 x389001))))) else (trefoilref11_Ready.l0 k x5 (wrap64 (x6 + 1)) x388000 x388001 x389000 x389001)) else (none)) else (some x5)
def trefoilref11_Ready.f (k : Nat) (l0_0 : List Int) (l0_1 : List (S85)) (l1_0 : List Int) (l1_1 : List Int) : Option (List Int) := trefoilref11_Ready.l0 k (([] : List Int)) 0 l0_0 l0_1 l1_0 l1_1
set_option maxHeartbeats 8000000 in
set_option maxRecDepth 100000 in
theorem trefoilref11_Ready.calls (k : Nat) (A0_0 : Option Addr) (c0_0 : Nat) (l0_0 : List Int) (A0_1 : Option Addr) (c0_1 : Nat) (l0_1 : List (S85)) (A1_0 : Option Addr) (c1_0 : Nat) (l1_0 : List Int) (A1_1 : Option Addr) (c1_1 : Nat) (l1_1 : List Int) (r : List Int) (w : World) (hr0_0 : Kd.C (Kd.int .i64) w A0_0 l0_0.length l0_0) (hc0_0 : l0_0.length ≤ c0_0) (hr0_1 : Kd.C k85 w A0_1 l0_1.length l0_1) (hc0_1 : l0_1.length ≤ c0_1) (hr1_0 : Kd.C (Kd.int .i64) w A1_0 l1_0.length l1_0) (hc1_0 : l1_0.length ≤ c1_0) (hr1_1 : Kd.C (Kd.int .i64) w A1_1 l1_1.length l1_1) (hc1_1 : l1_1.length ≤ c1_1) (h : trefoilref11_Ready.f k l0_0 l0_1 l1_0 l1_1 = some r) :
  Calls Try.prog 23 #[.agg #[.slice A0_0 l0_0.length c0_0, .slice A0_1 l0_1.length c0_1], .agg #[.slice A1_0 l1_0.length c1_0, .slice A1_1 l1_1.length c1_1]] w fun e w' => ∃ v0_ : Value, e = .returned (v0_) ∧ Kd.R (Kd.int .i64) 3 w' w.heap.size (fun _ => True) v0_ r ∧ Below w.heap.size w w' := by
 have hu25 := Try.underlying25
 have hu27 := Try.underlying27
 have HR0_0 := Z0 hr0_0
 have HC0_0 := Z0 hc0_0
 clear hr0_0 hc0_0
 have HR0_1 := Z0 hr0_1
 have HC0_1 := Z0 hc0_1
 clear hr0_1 hc0_1
 have HR1_0 := Z0 hr1_0
 have HC1_0 := Z0 hc1_0
 clear hr1_0 hc1_0
 have HR1_1 := Z0 hr1_1
 have HC1_1 := Z0 hc1_1
 clear hr1_1 hc1_1
 have HB := Z0 (Below.refl w.heap.size w)
 have H : (trefoilref11_Ready.l0 k (([] : List Int)) 0 l0_0 l0_1 l1_0 l1_1) = some r := h
 clear h
 obtain ⟨y389, hy389⟩ : ∃ y_ : List Int, y_ = (([] : List Int)) := ⟨_, rfl⟩
 replace H : (trefoilref11_Ready.l0 k y389 0 l0_0 l0_1 l1_0 l1_1) = some r := by first | (rw [hy389]; with_reducible exact H) | (have H2_ := (Option.bind_some _ _).symm.trans H; rw [hy389]; with_reducible exact H2_) | (have H2_ := (Option.bind_some _ _).symm.trans H; with_reducible exact H2_) | with_reducible exact H | (rw [hy389]; exact H) | exact H
 have Ny389 := Z0 hy389
 clear hy389
 have H' := Z0 H
 clear H
 go_enter Try.func23, Try.ntmps23
 go_wp2_with (first | ((with_reducible refine gate_dst (N := 2) rfl ?_); refine zx (N := 2) #[.slice A0_0 l0_0.length c0_0, .slice A0_1 l0_1.length c0_1] 25 ?_; intro gb387 hg w3 hbox hb; have BK387 := Z0 (hbox); have GW387 := Z0 (zh w hg HB); have GE387 := Z0 (zh w hg HB); replace HB := Z0 (below_step (zb HB) hb); clear hb hbox hg) | ((with_reducible refine gate_dst (N := 3) rfl ?_); refine zx (N := 3) #[.slice A1_0 l1_0.length c1_0, .slice A1_1 l1_1.length c1_1] 27 ?_; intro gb388 hg w4 hbox hb; have BK388 := Z0 (hbox); have GW388 := Z0 (zh w hg HB); have GE388 := Z0 (zh w hg HB); replace HB := Z0 (below_step (zb HB) hb); have NB387_388 := Z0 (zl hg BK387); have NB388_387 := Z0 (zu hg BK387); replace BK387 := Z0 (zkb BK387 hb); clear hb hbox hg) | ((with_reducible refine gate_dst (N := 7) rfl ?_); refine zz (N := 7) 3 [] Ny389 (Reps.none _ _) ?_; intro v390 w5 ho6 hb; have HO391 := Z0 (rl ho6 (below_size (zb HB))); replace BK387 := Z0 (zkb BK387 hb); replace BK388 := Z0 (zkb BK388 hb); replace HB := Z0 (below_step (zb HB) hb); clear hb ho6))
 go_loopg [5, 6] k (fun kq v5 v6 w' => ∃ (x5_1 : List Int) (x6_1 : Int), v6 = .int .i64 x6_1 ∧ Aside0 (trefoilref11_Ready.l0 kq x5_1 x6_1 l0_0 l0_1 l1_0 l1_1 = some r) ∧ Aside0 (kq ≤ k) ∧ Aside0 (Kd.R (Kd.int .i64) 3 w' w.heap.size (fun _ => True) v5 x5_1) ∧ Aside0 (w'.heap[gb387]? = some (.cells #[(.slice A0_0 l0_0.length c0_0), (.slice A0_1 l0_1.length c0_1)] 25 (0, 0))) ∧ Aside0 (w'.heap[gb388]? = some (.cells #[(.slice A1_0 l1_0.length c1_0), (.slice A1_1 l1_1.length c1_1)] 27 (0, 0))) ∧ Aside0 (Below w.heap.size w w'))
 case atStart => exact ⟨(y389), (0), zs, H', ⟨Nat.le_refl _⟩, ⟨by (with_reducible repeat (first | apply ra | apply rn | apply rd_)); exact HO391.out⟩, ⟨zk BK387⟩, ⟨zk BK388⟩, ⟨zb HB⟩⟩
 case round =>
  clear H'
  try clear c1
  try clear c2
  try clear p2
  obtain ⟨x5_1, x6_1, rfl, HA, HK1, HO_5, BK387, BK388, HB⟩ := hrel
  cases gk with
  | zero => exact absurd HA.out (by simp [trefoilref11_Ready.l0])
  | succ k1 =>
   have H := HA.out
   clear HA
   simp only [trefoilref11_Ready.l0] at H
   by_cases c7 : x6_1 < (l1_1.length : Int)
   rotate_left
   ·rw [if_neg c7] at H
    have c7b0 : decide (x6_1 < (l1_1.length : Int)) = false := decide_eq_false c7
    clear c7
    obtain rfl := Option.some.inj H
    have hnb28 := NB388_387.out
    have hnc28 := NB387_388.out
    have hcz29_0 := kz0 BK388
    have hcz29_1 := kz1 BK388
    have hfz29_0 := blk_frozen BK388.out 0
    have hfz29_1 := blk_frozen BK388.out 1
    go_wp2
    go_ret
    exact ⟨_, ze, by (with_reducible repeat (first | apply ra | apply rn | apply rd_)); exact HO_5.out, zb HB⟩
   rw [if_pos c7] at H
   have c7b0 : decide (x6_1 < (l1_1.length : Int)) = true := decide_eq_true c7
   clear c7
   by_cases c8 : 0 ≤ x6_1
   rotate_left
   ·rw [if_neg c8] at H
    exact absurd H (by simp)
   rw [if_pos c8] at H
   have c8b0 : decide (0 ≤ x6_1) = true := decide_eq_true c8
   clear c8
   by_cases c9 : (rd l1_1 x6_1) > 0
   rotate_left
   ·rw [if_neg c9] at H
    have c9b0 : decide (0 < (rd l1_1 x6_1)) = false := decide_eq_false c9
    clear c9
    have H' := Z0 H
    clear H
    have hnb26 := NB388_387.out
    have hnc26 := NB387_388.out
    have hcz27_0 := kz0 BK388
    have hcz27_1 := kz1 BK388
    have hfz27_0 := blk_frozen BK388.out 0
    have hfz27_1 := blk_frozen BK388.out 1
    have p392 : 0 ≤ (x6_1 : Int) := od
    have q392 : x6_1 < (l1_1.length : Int) := od
    obtain ⟨ad392, e392, hx392_0⟩ := Kd.at_int HR1_1.out x6_1 p392 q392
    cases e392
    replace hx392_0 := (HB.out.cell (bl w _ hx392_0)).trans hx392_0
    replace p392 := eq_true p392
    replace q392 := eq_true q392
    go_wp2
    go_roundg k1
    case measure => have := HK1.out; omega
    case rel => exact ⟨(x5_1), (wrap64 (x6_1 + 1)), zs, H', ⟨by have := HK1.out; omega⟩, ⟨by (with_reducible repeat (first | apply ra | apply rn | apply rd_)); exact HO_5.out⟩, ⟨zk BK387⟩, ⟨zk BK388⟩, ⟨zb HB⟩⟩
   rw [if_pos c9] at H
   have c9b0 : decide (0 < (rd l1_1 x6_1)) = true := decide_eq_true c9
   clear c9
   replace H := Option.bind_eq_some_iff.mp H
   obtain ⟨t393, A100, H⟩ := H
   have A10 := Z0 A100
   clear A100
   by_cases c11 : t393 = true
   ·subst c11
    rw [if_pos rfl] at H
    have H' := Z0 H
    clear H
    have hnb12 := NB388_387.out
    have hnc12 := NB387_388.out
    have hcz13_0 := kz0 BK388
    have hcz13_1 := kz1 BK388
    have hfz13_0 := blk_frozen BK388.out 0
    have hfz13_1 := blk_frozen BK388.out 1
    have p392 : 0 ≤ (x6_1 : Int) := od
    have q392 : x6_1 < (l1_1.length : Int) := od
    obtain ⟨ad392, e392, hx392_0⟩ := Kd.at_int HR1_1.out x6_1 p392 q392
    cases e392
    replace hx392_0 := (HB.out.cell (bl w _ hx392_0)).trans hx392_0
    replace p392 := eq_true p392
    replace q392 := eq_true q392
    go_wp2_with (first | (go_at_call 31; (with_reducible refine (trefoilref04_Has.calls k1 _ _ l1_0 x6_1 true _ ?side1 ?side2 A10.out).mono ?_); (case side1 => exact zc (Kd.C_below HR1_0.out HB.out)); (case side2 => exact HC1_0.out); rintro e w' ⟨rfl, ⟨nd, rfl⟩⟩))
    go_roundg k1
    case measure => have := HK1.out; omega
    case rel => exact ⟨(x5_1), (wrap64 (x6_1 + 1)), zs, H', ⟨by have := HK1.out; omega⟩, ⟨by (with_reducible repeat (first | apply ra | apply rn | apply rd_)); exact HO_5.out⟩, ⟨zk BK387⟩, ⟨zk BK388⟩, ⟨zb HB⟩⟩
   ·replace c11 := Bool.eq_false_iff.mpr c11
    subst c11
    rw [if_neg nft] at H
    replace H := Option.bind_eq_some_iff.mp H
    obtain ⟨t394, A140, H⟩ := H
    have A14 := Z0 A140
    clear A140
    by_cases c15 : t394 = true
    rotate_left
    ·replace c15 := Bool.eq_false_iff.mpr c15
     subst c15
     rw [if_neg nft] at H
     have H' := Z0 H
     clear H
     have hnb22 := NB388_387.out
     have hnc22 := NB387_388.out
     have hcz23_0 := kz0 BK388
     have hcz23_1 := kz1 BK388
     have hfz23_0 := blk_frozen BK388.out 0
     have hfz23_1 := blk_frozen BK388.out 1
     have p392 : 0 ≤ (x6_1 : Int) := od
     have q392 : x6_1 < (l1_1.length : Int) := od
     obtain ⟨ad392, e392, hx392_0⟩ := Kd.at_int HR1_1.out x6_1 p392 q392
     cases e392
     replace hx392_0 := (HB.out.cell (bl w _ hx392_0)).trans hx392_0
     replace p392 := eq_true p392
     replace q392 := eq_true q392
     go_wp2_with (first | (go_at_call 31; (with_reducible refine (trefoilref04_Has.calls k1 _ _ l1_0 x6_1 false _ ?side1 ?side2 A10.out).mono ?_); (case side1 => exact zc (Kd.C_below HR1_0.out HB.out)); (case side2 => exact HC1_0.out); rintro e w' ⟨rfl, ⟨nd, rfl⟩⟩; have hcz24_0 := kz0 BK387; have hcz24_1 := kz1 BK387; have hfz24_0 := blk_frozen BK387.out 0; have hfz24_1 := blk_frozen BK387.out 1) | (go_at_call 42; (with_reducible refine (trefoilref11_Over.calls k1 _ _ l0_0 _ _ l0_1 _ _ l1_0 _ _ l1_1 x6_1 false _ ?side1 ?side2 ?side3 ?side4 ?side5 ?side6 ?side7 ?side8 A14.out).mono ?_); (case side1 => repeat (first | exact (Kd.C_below HR0_0.out (zb HB)) | (with_reducible refine Kd.C_alloc ?_ _) | (with_reducible refine Kd.C_drewN ?_ _) | (with_reducible refine Kd.C_drew ?_))); (case side2 => exact HC0_0.out); (case side3 => repeat (first | exact (Kd.C_below HR0_1.out (zb HB)) | (with_reducible refine Kd.C_alloc ?_ _) | (with_reducible refine Kd.C_drewN ?_ _) | (with_reducible refine Kd.C_drew ?_))); (case side4 => exact HC0_1.out); (case side5 => repeat (first | exact (Kd.C_below HR1_0.out (zb HB)) | (with_reducible refine Kd.C_alloc ?_ _) | (with_reducible refine Kd.C_drewN ?_ _) | (with_reducible refine Kd.C_drew ?_))); (case side6 => exact HC1_0.out); (case side7 => repeat (first | exact (Kd.C_below HR1_1.out (zb HB)) | (with_reducible refine Kd.C_alloc ?_ _) | (with_reducible refine Kd.C_drewN ?_ _) | (with_reducible refine Kd.C_drew ?_))); (case side8 => exact HC1_1.out); rintro e w25 ⟨rfl, hb⟩; have n0_ := Z0 (rbe (zr HO_5) hb); have n1_ := Z0 (zkb BK387 hb); have n2_ := Z0 (zkb BK388 hb); have n3_ := Z0 (below_step (zb HB) hb); clear HO_5; clear BK387; clear BK388; clear HB; have HO_5 := n0_; have BK387 := n1_; have BK388 := n2_; have HB := n3_; clear n0_ n1_ n2_ n3_; (try clear hb); (try clear hb2); (try clear hk); (try clear hi)))
     go_roundg k1
     case measure => have := HK1.out; omega
     case rel => exact ⟨(x5_1), (wrap64 (x6_1 + 1)), zs, H', ⟨by have := HK1.out; omega⟩, ⟨by (with_reducible repeat (first | apply ra | apply rn | apply rd_)); exact HO_5.out⟩, ⟨zk BK387⟩, ⟨zk BK388⟩, ⟨zb HB⟩⟩
    subst c15
    rw [if_pos rfl] at H
    by_cases c16 : x5_1.length < 17592186044416
    rotate_left
    ·rw [if_neg c16] at H
     exact absurd H (by simp)
    rw [if_pos c16] at H
    have LMc16 := Z0 c16
    clear c16
    obtain ⟨y395, hy395⟩ : ∃ y_ : List Int, y_ = (x5_1 ++ [x6_1]) := ⟨_, rfl⟩
    replace H : (trefoilref11_Ready.l0 k1 y395 (wrap64 (x6_1 + 1)) l0_0 l0_1 l1_0 l1_1) = some r := by first | (rw [hy395]; with_reducible exact H) | (have H2_ := (Option.bind_some _ _).symm.trans H; rw [hy395]; with_reducible exact H2_) | (have H2_ := (Option.bind_some _ _).symm.trans H; with_reducible exact H2_) | with_reducible exact H | (rw [hy395]; exact H) | exact H
    have Ny395 := Z0 hy395
    clear hy395
    have H' := Z0 H
    clear H
    have hnb17 := NB388_387.out
    have hnc17 := NB387_388.out
    have hcz18_0 := kz0 BK388
    have hcz18_1 := kz1 BK388
    have hfz18_0 := blk_frozen BK388.out 0
    have hfz18_1 := blk_frozen BK388.out 1
    have p392 : 0 ≤ (x6_1 : Int) := od
    have q392 : x6_1 < (l1_1.length : Int) := od
    obtain ⟨ad392, e392, hx392_0⟩ := Kd.at_int HR1_1.out x6_1 p392 q392
    cases e392
    replace hx392_0 := (HB.out.cell (bl w _ hx392_0)).trans hx392_0
    replace p392 := eq_true p392
    replace q392 := eq_true q392
    go_wp2_with (first | (go_at_call 31; (with_reducible refine (trefoilref04_Has.calls k1 _ _ l1_0 x6_1 false _ ?side1 ?side2 A10.out).mono ?_); (case side1 => exact zc (Kd.C_below HR1_0.out HB.out)); (case side2 => exact HC1_0.out); rintro e w' ⟨rfl, ⟨nd, rfl⟩⟩; have hcz19_0 := kz0 BK387; have hcz19_1 := kz1 BK387; have hfz19_0 := blk_frozen BK387.out 0; have hfz19_1 := blk_frozen BK387.out 1) | (go_at_call 42; (with_reducible refine (trefoilref11_Over.calls k1 _ _ l0_0 _ _ l0_1 _ _ l1_0 _ _ l1_1 x6_1 true _ ?side1 ?side2 ?side3 ?side4 ?side5 ?side6 ?side7 ?side8 A14.out).mono ?_); (case side1 => repeat (first | exact (Kd.C_below HR0_0.out (zb HB)) | (with_reducible refine Kd.C_alloc ?_ _) | (with_reducible refine Kd.C_drewN ?_ _) | (with_reducible refine Kd.C_drew ?_))); (case side2 => exact HC0_0.out); (case side3 => repeat (first | exact (Kd.C_below HR0_1.out (zb HB)) | (with_reducible refine Kd.C_alloc ?_ _) | (with_reducible refine Kd.C_drewN ?_ _) | (with_reducible refine Kd.C_drew ?_))); (case side4 => exact HC0_1.out); (case side5 => repeat (first | exact (Kd.C_below HR1_0.out (zb HB)) | (with_reducible refine Kd.C_alloc ?_ _) | (with_reducible refine Kd.C_drewN ?_ _) | (with_reducible refine Kd.C_drew ?_))); (case side6 => exact HC1_0.out); (case side7 => repeat (first | exact (Kd.C_below HR1_1.out (zb HB)) | (with_reducible refine Kd.C_alloc ?_ _) | (with_reducible refine Kd.C_drewN ?_ _) | (with_reducible refine Kd.C_drew ?_))); (case side8 => exact HC1_1.out); rintro e w20 ⟨rfl, hb⟩; have n0_ := Z0 (rbe (zr HO_5) hb); have n1_ := Z0 (zkb BK387 hb); have n2_ := Z0 (zkb BK388 hb); have n3_ := Z0 (below_step (zb HB) hb); clear HO_5; clear BK387; clear BK388; clear HB; have HO_5 := n0_; have BK387 := n1_; have BK388 := n2_; have HB := n3_; clear n0_ n1_ n2_ n3_; (try clear hb); (try clear hb2); (try clear hk); (try clear hi)) | ((with_reducible refine gate_builtin (b := .append) (xs := #[.tmp 34, .tmp 36]) rfl ?_); at_builtin; refine Kd.R_append (Kd.int .i64) (w0 := w) w.heap.size rfl (.tmp 34) (.tmp 36) 22 3 (.int .i64 0) 8 rfl Try.underlying22 info3 rfl (by decide) (by omega) u5 x5_1 x6_1 [.int .i64 x6_1] (fun _ => True) (fun _ => False) rfl rfl ?aP (fun _ hk => hk.elim) ?aF ?aO ?aB ?aS ?aL ?_; (case aP => exact rfl); (case aB => exact (zb HB)); (case aF => exact (fun _ _ => trivial)); (case aO => exact (zr HO_5)); (case aS => exact (below_size (zb HB))); (case aL => have := LMc16.out; omega); intro v396 w21 ho hb hg hat; rw [← Ny395.out] at ho; have n0_ := Z0 (blk_grown (g := gb387) (o := .cells #[.slice A0_0 l0_0.length c0_0, .slice A0_1 l0_1.length c0_1] 25 (0, 0)) (zk BK387) hg (Kd.R_ne HO_5.out BK387.out (by decide))); have n1_ := Z0 (blk_grown (g := gb388) (o := .cells #[.slice A1_0 l1_0.length c1_0, .slice (some ad392) l1_1.length c1_1] 27 (0, 0)) (zk BK388) hg (Kd.R_ne HO_5.out BK388.out (by decide))); have n2_ := Z0 (hb); have n3_ := Z0 (ho); clear BK387; clear BK388; clear HB; clear HO_5; have BK387 := n0_; have BK388 := n1_; have HB := n2_; have HO397 := n3_; clear n0_ n1_ n2_ n3_; clear ho hb hg hat))
    go_roundg k1
    case measure => have := HK1.out; omega
    case rel => exact ⟨(y395), (wrap64 (x6_1 + 1)), zs, H', ⟨by have := HK1.out; omega⟩, ⟨by (with_reducible repeat (first | apply ra | apply rn | apply rd_)); exact HO397.out⟩, ⟨zk BK387⟩, ⟨zk BK388⟩, ⟨zb HB⟩⟩
end Go.Proofs.Ytmbhjhanafmidaa.PListSteps
