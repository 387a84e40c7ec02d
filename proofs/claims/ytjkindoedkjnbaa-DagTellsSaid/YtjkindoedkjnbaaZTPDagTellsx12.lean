/- Written by a program of this work: each theorem says that a call of the Go function comes to what the Lean function beside it tells, under the conditions that it names; Lean checks it. -/
import Derived.Test.YtjkindoedkjnbaaZTPDagTellsx0
import Derived.Test.YtjkindoedkjnbaaZTPDagTellsx1
import Derived.Test.YtjkindoedkjnbaaZTPDagTellsx11
namespace Go.Proofs.Ytjkindoedkjnbaa.PDagTells
open Go.RowKit Go.Proofs.YtjkindoedkjnbaaW.PrintWords Go.Proofs.YtjkindoedkjnbaaW.PrintLast Go.Proofs.YtjkindoedkjnbaaW.PrintMore
attribute [local go_sem] max2_int min2_int max_two min_two max_three min_three max_four min_four   -- for this text's walks alone
set_option linter.unusedVariables false
set_option linter.unusedSimpArgs false

attribute [local go_sem high] eqA40
/-! ### trefoilref04_Plain: function 36 -/
mutual
def trefoilref04_Plain.j0 : Nat → Bool → List Int → List (S40) → Option (Int)
  | 0, _, _, _ => none
  | k + 1, x16, x264000, x264001 => if x16 = true then (some 40) else (trefoilref04_Plain.l0 k 0 x264000 x264001)
def trefoilref04_Plain.l0 : Nat → Int → List Int → List (S40) → Option (Int)
  | 0, _, _, _ => none
  | k + 1, x3, x264000, x264001 => if x3 < (x264000.length : Int) then (if 0 ≤ x3 then (if (rd x264000 x3) < 0 then (some 41) else (if (rd x264000 x3) > 1000 then (some 41) else (trefoilref04_Plain.l0 k (wrap64 (x3 + 1)) x264000 x264001))) else (none)) else (trefoilref04_Plain.l1 k 0 x264000 x264001)
def trefoilref04_Plain.l1 : Nat → Int → List Int → List (S40) → Option (Int)
  | 0, _, _, _ => none
  | k + 1, x4, x264000, x264001 => if x4 < (x264001.length : Int) then (if 0 ≤ x4 then ((trefoilref04_node.f x264000 x264001 ((rd_T40 x264001 x4).f0)).bind fun t268 => (if t268 = true then ((trefoilref04_node.f x264000 x264001 ((rd_T40 x264001 x4).f1)).bind fun t269 => (if t269 = true then (trefoilref04_Plain.j3 k x4 (((rd_T40 x264001 x4).f0) == ((rd_T40 x264001 x4).f1)) x264000 x264001 ((rd_T40 x264001 x4).f0) ((rd_T40 x264001 x4).f1)) else (trefoilref04_Plain.j3 k x4 true x264000 x264001 ((rd_T40 x264001 x4).f0) ((rd_T40 x264001 x4).f1)))) else (trefoilref04_Plain.j3 k x4 true x264000 x264001 ((rd_T40 x264001 x4).f0) ((rd_T40 x264001 x4).f1)))) else (none)) else (some 0)
def trefoilref04_Plain.j3 : Nat → Int → Bool → List Int → List (S40) → Int → Int → Option (Int)
  | 0, _, _, _, _, _, _ => none
  | k + 1, x4, x68, x264000, x264001, x268000, x268001 => if x68 = true then (some 42) else (trefoilref04_Plain.l2 k x4 0 x264000 x264001 x268000 x268001)
def trefoilref04_Plain.l2 : Nat → Int → Int → List Int → List (S40) → Int → Int → Option (Int)
  | 0, _, _, _, _, _, _ => none
  | k + 1, x4, x6, x264000, x264001, x268000, x268001 => if x6 < x4 then (if 0 ≤ x6 then (if x6 < (x264001.length : Int) then (if (((rd_T40 x264001 x6).f0) == x268000 && (((rd_T40 x264001 x6).f1) == x268001)) = true then (some 42) else (trefoilref04_Plain.l2 k x4 (wrap64 (x6 + 1)) x264000 x264001 x268000 x268001)) else (none)) else (none)) else (trefoilref04_Plain.l1 k (wrap64 (x4 + 1)) x264000 x264001)
end
def trefoilref04_Plain.f (k : Nat) (l0_0 : List Int) (l0_1 : List (S40)) : Option (Int) := if (l0_0.length : Int) > 64 then (trefoilref04_Plain.j0 k true l0_0 l0_1) else (trefoilref04_Plain.j0 k (decide ((l0_1.length : Int) > 256)) l0_0 l0_1)
set_option maxHeartbeats 8000000 in
set_option maxRecDepth 100000 in
theorem trefoilref04_Plain.calls (k : Nat) (A0_0 : Option Addr) (c0_0 : Nat) (l0_0 : List Int) (A0_1 : Option Addr) (c0_1 : Nat) (l0_1 : List (S40)) (r : Int) (w : World) (hr0_0 : Kd.C (Kd.int .i64) w A0_0 l0_0.length l0_0) (hc0_0 : l0_0.length ≤ c0_0) (hr0_1 : Kd.C k40 w A0_1 l0_1.length l0_1) (hc0_1 : l0_1.length ≤ c0_1) (h : trefoilref04_Plain.f k l0_0 l0_1 = some r) :
    Calls Try.prog 36 #[.agg #[.slice A0_0 l0_0.length c0_0, .slice A0_1 l0_1.length c0_1]] w fun e w' => e = .returned (.int .i64 r) ∧ Below w.heap.size w w' := by
  have hu25 := Try.underlying25
  have hu40 := Try.underlying40
  have HR0_0 := Aside0.mk hr0_0
  have HC0_0 := Aside0.mk hc0_0
  clear hr0_0 hc0_0
  have HR0_1 := Aside0.mk hr0_1
  have HC0_1 := Aside0.mk hc0_1
  clear hr0_1 hc0_1
  have HB := Aside0.mk (Below.refl w.heap.size w)
  have H : (if (l0_0.length : Int) > 64 then (trefoilref04_Plain.j0 k true l0_0 l0_1) else (trefoilref04_Plain.j0 k (decide ((l0_1.length : Int) > 256)) l0_0 l0_1)) = some r := h
  clear h
  have HC2 := Aside0.mk H
  clear H
  go_enter Try.func36, Try.ntmps36
  go_upto_region 1 with (first | ((with_reducible refine gate_dst (N := 1) rfl ?_); (try (refine gate_guard (by rfl) ?_; dsimp only)); refine box_event ?hg (N := 1) ?hd (cs := #[.slice A0_0 l0_0.length c0_0, .slice A0_1 l0_1.length c0_1]) (t := 25) ?hr ?_; (case hd => rfl); (case hg => rfl); (case hr => first | (go_simp; done) | (go_simp; rfl)); intro gb263 hg w3 hbox hb; have n0_ := Aside0.mk (below_step (by repeat (first | (with_reducible first | exact HB.out | apply below_alloc | apply pw_below_drewN | apply below_drew1) | exact HB.out)) hb); have n1_ := Aside0.mk (hbox); have n2_ := Aside0.mk ((by rw [hg]; exact (below_size (by repeat (first | (with_reducible first | exact HB.out | apply below_alloc | apply pw_below_drewN | apply below_drew1) | exact HB.out))) : w.heap.size ≤ gb263)); have n3_ := Aside0.mk ((by rw [hg]; exact (below_size (by repeat (first | (with_reducible first | exact HB.out | apply below_alloc | apply pw_below_drewN | apply below_drew1) | exact HB.out))) : w.heap.size ≤ gb263)); clear HB; have HB := n0_; have BK263 := n1_; have GW263 := n2_; have GE263 := n3_; clear n0_ n1_ n2_ n3_; clear hb hbox hg))
  repeat (go_quiet (first | ((with_reducible refine gate_dst (N := 1) rfl ?_); (try (refine gate_guard (by rfl) ?_; dsimp only)); refine box_event ?hg (N := 1) ?hd (cs := #[.slice A0_0 l0_0.length c0_0, .slice A0_1 l0_1.length c0_1]) (t := 25) ?hr ?_; (case hd => rfl); (case hg => rfl); (case hr => first | (go_simp; done) | (go_simp; rfl)); intro gb263 hg w3 hbox hb; have n0_ := Aside0.mk (below_step (by repeat (first | (with_reducible first | exact HB.out | apply below_alloc | apply pw_below_drewN | apply below_drew1) | exact HB.out)) hb); have n1_ := Aside0.mk (hbox); have n2_ := Aside0.mk ((by rw [hg]; exact (below_size (by repeat (first | (with_reducible first | exact HB.out | apply below_alloc | apply pw_below_drewN | apply below_drew1) | exact HB.out))) : w.heap.size ≤ gb263)); have n3_ := Aside0.mk ((by rw [hg]; exact (below_size (by repeat (first | (with_reducible first | exact HB.out | apply below_alloc | apply pw_below_drewN | apply below_drew1) | exact HB.out))) : w.heap.size ≤ gb263)); clear HB; have HB := n0_; have BK263 := n1_; have GW263 := n2_; have GE263 := n3_; clear n0_ n1_ n2_ n3_; clear hb hbox hg)); go_upto_region 1 with (first | ((with_reducible refine gate_dst (N := 1) rfl ?_); (try (refine gate_guard (by rfl) ?_; dsimp only)); refine box_event ?hg (N := 1) ?hd (cs := #[.slice A0_0 l0_0.length c0_0, .slice A0_1 l0_1.length c0_1]) (t := 25) ?hr ?_; (case hd => rfl); (case hg => rfl); (case hr => first | (go_simp; done) | (go_simp; rfl)); intro gb263 hg w3 hbox hb; have n0_ := Aside0.mk (below_step (by repeat (first | (with_reducible first | exact HB.out | apply below_alloc | apply pw_below_drewN | apply below_drew1) | exact HB.out)) hb); have n1_ := Aside0.mk (hbox); have n2_ := Aside0.mk ((by rw [hg]; exact (below_size (by repeat (first | (with_reducible first | exact HB.out | apply below_alloc | apply pw_below_drewN | apply below_drew1) | exact HB.out))) : w.heap.size ≤ gb263)); have n3_ := Aside0.mk ((by rw [hg]; exact (below_size (by repeat (first | (with_reducible first | exact HB.out | apply below_alloc | apply pw_below_drewN | apply below_drew1) | exact HB.out))) : w.heap.size ≤ gb263)); clear HB; have HB := n0_; have BK263 := n1_; have GW263 := n2_; have GE263 := n3_; clear n0_ n1_ n2_ n3_; clear hb hbox hg)))
  (try simp only [Act.put, List.setIfInBounds_toArray, List.set_cons_zero, List.set_cons_succ])
  go_cut [16] (fun v16 wc => ∃ (kq : Nat) (x16_1 : Bool), v16 = .bool x16_1 ∧ Aside0 (trefoilref04_Plain.j0 kq x16_1 l0_0 l0_1 = some r) ∧ Aside0 (kq ≤ k) ∧ Aside0 (wc.heap[gb263]? = some (.cells #[(.slice A0_0 l0_0.length c0_0), (.slice A0_1 l0_1.length c0_1)] 25 (0, 0))) ∧ Aside0 (Below w.heap.size w wc))
  case first =>
    have H := HC2.out
    clear HC2
    by_cases c4 : (l0_0.length : Int) > 64
    · rw [if_pos c4] at H
      have c4b0 : decide (64 < (l0_0.length : Int)) = true := decide_eq_true c4
      have c4b1 : decide (64 < l0_0.length) = true := decide_eq_true (by omega)
      clear c4
      (first | rw [c4b0] | (simp only [i64_w, i32_w]; rw [c4b0]) | skip)
      have H' := Aside0.mk H
      clear H
      have hcz5_0 : w3.cell? ⟨gb263, 0, none⟩ = some (.slice A0_0 l0_0.length c0_0) := (blk_cell BK263.out 0).trans rfl
      have hcz5_1 : w3.cell? ⟨gb263, 1, none⟩ = some (.slice A0_1 l0_1.length c0_1) := (blk_cell BK263.out 1).trans rfl
      have hfz5_0 := blk_frozen BK263.out 0
      have hfz5_1 := blk_frozen BK263.out 1
      go_wp2
      repeat (go_quiet (fail); try go_wp2)
      go_meet
      case rel => exact ⟨_, (true), (by first | rfl | (simp; done) | (simp [*]; done)), H', ⟨by first | omega | exact Nat.le_refl _⟩, ⟨by (with_reducible repeat (first | refine blk_drewN ?_ _ | refine blk_drew ?_ | refine blk_alloc ?_ _)); exact BK263.out⟩, ⟨by repeat (first | (with_reducible first | exact HB.out | apply below_alloc | apply pw_below_drewN | apply below_drew1 | refine below_set ?_ GE263.out) | exact HB.out)⟩⟩
    · rw [if_neg c4] at H
      have c4b0 : decide (64 < (l0_0.length : Int)) = false := decide_eq_false c4
      have c4b1 : decide (64 < l0_0.length) = false := decide_eq_false (by omega)
      clear c4
      (first | rw [c4b0] | (simp only [i64_w, i32_w]; rw [c4b0]) | skip)
      have H' := Aside0.mk H
      clear H
      have hcz6_0 : w3.cell? ⟨gb263, 0, none⟩ = some (.slice A0_0 l0_0.length c0_0) := (blk_cell BK263.out 0).trans rfl
      have hcz6_1 : w3.cell? ⟨gb263, 1, none⟩ = some (.slice A0_1 l0_1.length c0_1) := (blk_cell BK263.out 1).trans rfl
      have hfz6_0 := blk_frozen BK263.out 0
      have hfz6_1 := blk_frozen BK263.out 1
      go_wp2
      repeat (go_quiet (fail); try go_wp2)
      go_meet
      case rel => exact ⟨_, (decide ((l0_1.length : Int) > 256)), (by first | rfl | (simp; done) | (simp [*]; done)), H', ⟨by first | omega | exact Nat.le_refl _⟩, ⟨by (with_reducible repeat (first | refine blk_drewN ?_ _ | refine blk_drew ?_ | refine blk_alloc ?_ _)); exact BK263.out⟩, ⟨by repeat (first | (with_reducible first | exact HB.out | apply below_alloc | apply pw_below_drewN | apply below_drew1 | refine below_set ?_ GE263.out) | exact HB.out)⟩⟩
  case rest =>
    clear HC2
    try clear p2
    try clear c3
    try clear c4
    try clear c4b0
    try clear c4b1
    try clear hcz5_0
    try clear hcz5_1
    try clear hcz6_0
    try clear hcz6_1
    try clear hfz5_0
    try clear hfz5_1
    try clear hfz6_0
    try clear hfz6_1
    obtain ⟨kq, x16_1, rfl, HA, HJ1, BK263, HB⟩ := hcut
    cases kq with
    | zero => exact absurd HA.out (by simp [trefoilref04_Plain.j0])
    | succ kj1 =>
      have H := HA.out
      clear HA
      simp only [trefoilref04_Plain.j0] at H
      by_cases c7 : x16_1 = true
      · subst c7
        have H1 : (some 40) = some r := by rw [if_pos rfl] at H; exact H
        clear H
        have H := H1
        clear H1
        obtain rfl := Option.some.inj H
        go_wp2
        repeat (go_quiet (fail); try go_wp2)
        go_ret
        exact ⟨by first | rfl | (simp [errW_none, errW_some] <;> rfl) | (simp [*, errW_none, errW_some] <;> rfl), by repeat (first | (with_reducible first | exact HB.out | apply below_alloc | apply pw_below_drewN | apply below_drew1 | refine below_set ?_ GE263.out) | exact HB.out)⟩
      · replace c7 := Bool.eq_false_iff.mpr c7
        subst c7
        have H1 : (trefoilref04_Plain.l0 kj1 0 l0_0 l0_1) = some r := by rw [if_neg (show ¬ (false = true) by decide)] at H; exact H
        clear H
        have H := H1
        clear H1
        have H' := Aside0.mk H
        clear H
        go_wp2
        repeat (go_quiet (fail); try go_wp2)
        go_loopg [3] kj1 (fun kq v3 w' => ∃ (x3_2 : Int), v3 = .int .i64 x3_2 ∧ Aside0 (trefoilref04_Plain.l0 kq x3_2 l0_0 l0_1 = some r) ∧ Aside0 (kq ≤ kj1) ∧ Aside0 (w'.heap[gb263]? = some (.cells #[(.slice A0_0 l0_0.length c0_0), (.slice A0_1 l0_1.length c0_1)] 25 (0, 0))) ∧ Aside0 (Below w.heap.size w w'))
        case atStart => exact ⟨(0), (by first | rfl | (simp; done) | (simp [*]; done)), H', ⟨Nat.le_refl _⟩, ⟨by (with_reducible repeat (first | refine blk_drewN ?_ _ | refine blk_drew ?_ | refine blk_alloc ?_ _)); exact BK263.out⟩, ⟨by repeat (first | (with_reducible first | exact HB.out | apply below_alloc | apply pw_below_drewN | apply below_drew1 | refine below_set ?_ GE263.out) | exact HB.out)⟩⟩
        case round =>
          clear H'
          try clear p2
          try clear c3
          try clear c4
          try clear c4b0
          try clear c4b1
          try clear c7
          try clear hcz5_0
          try clear hcz5_1
          try clear hcz6_0
          try clear hcz6_1
          try clear hfz5_0
          try clear hfz5_1
          try clear hfz6_0
          try clear hfz6_1
          try clear p2
          obtain ⟨x3_2, rfl, HA, HK2, BK263, HB⟩ := hrel
          cases gk with
          | zero => exact absurd HA.out (by simp [trefoilref04_Plain.l0])
          | succ k2 =>
            have H := HA.out
            clear HA
            simp only [trefoilref04_Plain.l0] at H
            by_cases c8 : x3_2 < (l0_0.length : Int)
            · rw [if_pos c8] at H
              have c8b0 : decide (x3_2 < (l0_0.length : Int)) = true := decide_eq_true c8
              clear c8
              by_cases c9 : 0 ≤ x3_2
              · rw [if_pos c9] at H
                have c9b0 : decide (0 ≤ x3_2) = true := decide_eq_true c9
                clear c9
                by_cases c10 : (rd l0_0 x3_2) < 0
                · rw [if_pos c10] at H
                  have c10b0 : decide ((rd l0_0 x3_2) < 0) = true := decide_eq_true c10
                  clear c10
                  obtain rfl := Option.some.inj H
                  have hcz11_0 : wr.cell? ⟨gb263, 0, none⟩ = some (.slice A0_0 l0_0.length c0_0) := (blk_cell BK263.out 0).trans rfl
                  have hcz11_1 : wr.cell? ⟨gb263, 1, none⟩ = some (.slice A0_1 l0_1.length c0_1) := (blk_cell BK263.out 1).trans rfl
                  have hfz11_0 := blk_frozen BK263.out 0
                  have hfz11_1 := blk_frozen BK263.out 1
                  have p264 : 0 ≤ (x3_2 : Int) := of_decide_eq_true (by first | (with_reducible assumption) | assumption)
                  have q264 : x3_2 < (l0_0.length : Int) := of_decide_eq_true (by first | (with_reducible assumption) | assumption)
                  obtain ⟨ad264, e264, hx264_0⟩ := Kd.at_int HR0_0.out x3_2 p264 q264
                  cases e264
                  replace hx264_0 := (HB.out.cell (World.block_lt_of_cell? w _ hx264_0)).trans hx264_0
                  replace p264 := eq_true p264
                  replace q264 := eq_true q264
                  go_wp2
                  repeat (go_quiet (fail); try go_wp2)
                  go_ret
                  exact ⟨by first | rfl | (simp [errW_none, errW_some] <;> rfl) | (simp [*, errW_none, errW_some] <;> rfl), by repeat (first | (with_reducible first | exact HB.out | apply below_alloc | apply pw_below_drewN | apply below_drew1 | refine below_set ?_ GE263.out) | exact HB.out)⟩
                · rw [if_neg c10] at H
                  have c10b0 : decide ((rd l0_0 x3_2) < 0) = false := decide_eq_false c10
                  clear c10
                  by_cases c12 : (rd l0_0 x3_2) > 1000
                  · rw [if_pos c12] at H
                    have c12b0 : decide (1000 < (rd l0_0 x3_2)) = true := decide_eq_true c12
                    clear c12
                    obtain rfl := Option.some.inj H
                    have hcz13_0 : wr.cell? ⟨gb263, 0, none⟩ = some (.slice A0_0 l0_0.length c0_0) := (blk_cell BK263.out 0).trans rfl
                    have hcz13_1 : wr.cell? ⟨gb263, 1, none⟩ = some (.slice A0_1 l0_1.length c0_1) := (blk_cell BK263.out 1).trans rfl
                    have hfz13_0 := blk_frozen BK263.out 0
                    have hfz13_1 := blk_frozen BK263.out 1
                    have p264 : 0 ≤ (x3_2 : Int) := of_decide_eq_true (by first | (with_reducible assumption) | assumption)
                    have q264 : x3_2 < (l0_0.length : Int) := of_decide_eq_true (by first | (with_reducible assumption) | assumption)
                    obtain ⟨ad264, e264, hx264_0⟩ := Kd.at_int HR0_0.out x3_2 p264 q264
                    cases e264
                    replace hx264_0 := (HB.out.cell (World.block_lt_of_cell? w _ hx264_0)).trans hx264_0
                    replace p264 := eq_true p264
                    replace q264 := eq_true q264
                    have p265 : 0 ≤ (x3_2 : Int) := of_decide_eq_true (by first | (with_reducible assumption) | assumption)
                    have q265 : x3_2 < (l0_0.length : Int) := of_decide_eq_true (by first | (with_reducible assumption) | assumption)
                    obtain ⟨ad265, e265, hx265_0⟩ := Kd.at_int HR0_0.out x3_2 p265 q265
                    obtain rfl : ad264 = ad265 := (by injection e265)
                    replace hx265_0 := (HB.out.cell (World.block_lt_of_cell? w _ hx265_0)).trans hx265_0
                    replace p265 := eq_true p265
                    replace q265 := eq_true q265
                    go_wp2
                    repeat (go_quiet (fail); try go_wp2)
                    go_ret
                    exact ⟨by first | rfl | (simp [errW_none, errW_some] <;> rfl) | (simp [*, errW_none, errW_some] <;> rfl), by repeat (first | (with_reducible first | exact HB.out | apply below_alloc | apply pw_below_drewN | apply below_drew1 | refine below_set ?_ GE263.out) | exact HB.out)⟩
                  · rw [if_neg c12] at H
                    have c12b0 : decide (1000 < (rd l0_0 x3_2)) = false := decide_eq_false c12
                    clear c12
                    have H' := Aside0.mk H
                    clear H
                    have hcz14_0 : wr.cell? ⟨gb263, 0, none⟩ = some (.slice A0_0 l0_0.length c0_0) := (blk_cell BK263.out 0).trans rfl
                    have hcz14_1 : wr.cell? ⟨gb263, 1, none⟩ = some (.slice A0_1 l0_1.length c0_1) := (blk_cell BK263.out 1).trans rfl
                    have hfz14_0 := blk_frozen BK263.out 0
                    have hfz14_1 := blk_frozen BK263.out 1
                    have p264 : 0 ≤ (x3_2 : Int) := of_decide_eq_true (by first | (with_reducible assumption) | assumption)
                    have q264 : x3_2 < (l0_0.length : Int) := of_decide_eq_true (by first | (with_reducible assumption) | assumption)
                    obtain ⟨ad264, e264, hx264_0⟩ := Kd.at_int HR0_0.out x3_2 p264 q264
                    cases e264
                    replace hx264_0 := (HB.out.cell (World.block_lt_of_cell? w _ hx264_0)).trans hx264_0
                    replace p264 := eq_true p264
                    replace q264 := eq_true q264
                    have p265 : 0 ≤ (x3_2 : Int) := of_decide_eq_true (by first | (with_reducible assumption) | assumption)
                    have q265 : x3_2 < (l0_0.length : Int) := of_decide_eq_true (by first | (with_reducible assumption) | assumption)
                    obtain ⟨ad265, e265, hx265_0⟩ := Kd.at_int HR0_0.out x3_2 p265 q265
                    obtain rfl : ad264 = ad265 := (by injection e265)
                    replace hx265_0 := (HB.out.cell (World.block_lt_of_cell? w _ hx265_0)).trans hx265_0
                    replace p265 := eq_true p265
                    replace q265 := eq_true q265
                    go_wp2
                    repeat (go_quiet (fail); try go_wp2)
                    go_roundg k2
                    case measure => have := HJ1.out; have := HK2.out; omega
                    case rel => exact ⟨(wrap64 (x3_2 + 1)), (by first | rfl | (simp; done) | (simp [*]; done)), H', ⟨by have := HJ1.out; have := HK2.out; omega⟩, ⟨by (with_reducible repeat (first | refine blk_drewN ?_ _ | refine blk_drew ?_ | refine blk_alloc ?_ _)); exact BK263.out⟩, ⟨by repeat (first | (with_reducible first | exact HB.out | apply below_alloc | apply pw_below_drewN | apply below_drew1 | refine below_set ?_ GE263.out) | exact HB.out)⟩⟩
              · rw [if_neg c9] at H
                exact absurd H (by simp)
            · rw [if_neg c8] at H
              have c8b0 : decide (x3_2 < (l0_0.length : Int)) = false := decide_eq_false c8
              clear c8
              have H' := Aside0.mk H
              clear H
              have hcz15_0 : wr.cell? ⟨gb263, 0, none⟩ = some (.slice A0_0 l0_0.length c0_0) := (blk_cell BK263.out 0).trans rfl
              have hcz15_1 : wr.cell? ⟨gb263, 1, none⟩ = some (.slice A0_1 l0_1.length c0_1) := (blk_cell BK263.out 1).trans rfl
              have hfz15_0 := blk_frozen BK263.out 0
              have hfz15_1 := blk_frozen BK263.out 1
              go_wp2
              repeat (go_quiet (fail); try go_wp2)
              go_loopg [4] k2 (fun kq v4 w' => ∃ (x4_3 : Int), v4 = .int .i64 x4_3 ∧ Aside0 (trefoilref04_Plain.l1 kq x4_3 l0_0 l0_1 = some r) ∧ Aside0 (kq ≤ k2) ∧ Aside0 (w'.heap[gb263]? = some (.cells #[(.slice A0_0 l0_0.length c0_0), (.slice A0_1 l0_1.length c0_1)] 25 (0, 0))) ∧ Aside0 (Below w.heap.size w w'))
              case atStart => exact ⟨(0), (by first | rfl | (simp; done) | (simp [*]; done)), H', ⟨Nat.le_refl _⟩, ⟨by (with_reducible repeat (first | refine blk_drewN ?_ _ | refine blk_drew ?_ | refine blk_alloc ?_ _)); exact BK263.out⟩, ⟨by repeat (first | (with_reducible first | exact HB.out | apply below_alloc | apply pw_below_drewN | apply below_drew1 | refine below_set ?_ GE263.out) | exact HB.out)⟩⟩
              case round =>
                clear H'
                try clear c1
                try clear p2
                try clear q2
                try clear hx2
                try clear c3
                try clear c4
                try clear c4b0
                try clear c4b1
                try clear p6
                try clear c7
                try clear c8
                try clear c8b0
                try clear c9
                try clear c9b0
                try clear c10
                try clear c10b0
                try clear c12
                try clear c12b0
                try clear hcz11_0
                try clear hcz11_1
                try clear hcz13_0
                try clear hcz13_1
                try clear hcz14_0
                try clear hcz14_1
                try clear hcz15_0
                try clear hcz15_1
                try clear hcz5_0
                try clear hcz5_1
                try clear hcz6_0
                try clear hcz6_1
                try clear hfz11_0
                try clear hfz11_1
                try clear hfz13_0
                try clear hfz13_1
                try clear hfz14_0
                try clear hfz14_1
                try clear hfz15_0
                try clear hfz15_1
                try clear hfz5_0
                try clear hfz5_1
                try clear hfz6_0
                try clear hfz6_1
                try clear hx264_0
                try clear hx265_0
                try clear p2
                try clear p264
                try clear p265
                try clear q264
                try clear q265
                obtain ⟨x4_3, rfl, HA, HK3, BK263, HB⟩ := hrel
                cases gk with
                | zero => exact absurd HA.out (by simp [trefoilref04_Plain.l1])
                | succ k3 =>
                  have H := HA.out
                  clear HA
                  simp only [trefoilref04_Plain.l1] at H
                  by_cases c16 : x4_3 < (l0_1.length : Int)
                  · rw [if_pos c16] at H
                    have c16b0 : decide (x4_3 < (l0_1.length : Int)) = true := decide_eq_true c16
                    clear c16
                    by_cases c17 : 0 ≤ x4_3
                    · rw [if_pos c17] at H
                      have c17b0 : decide (0 ≤ x4_3) = true := decide_eq_true c17
                      clear c17
                      have HC18 := Aside0.mk H
                      clear H
                      have hcz19_0 : wr.cell? ⟨gb263, 0, none⟩ = some (.slice A0_0 l0_0.length c0_0) := (blk_cell BK263.out 0).trans rfl
                      have hcz19_1 : wr.cell? ⟨gb263, 1, none⟩ = some (.slice A0_1 l0_1.length c0_1) := (blk_cell BK263.out 1).trans rfl
                      have hfz19_0 := blk_frozen BK263.out 0
                      have hfz19_1 := blk_frozen BK263.out 1
                      have p266 : 0 ≤ (x4_3 : Int) := of_decide_eq_true (by first | (with_reducible assumption) | assumption)
                      have q266 : x4_3 < (l0_1.length : Int) := of_decide_eq_true (by first | (with_reducible assumption) | assumption)
                      obtain ⟨ad266, e266, hx266_0, hx266_1⟩ := at_T40 HR0_1.out x4_3 p266 q266
                      cases e266
                      replace hx266_0 := (HB.out.cell (World.block_lt_of_cell? w _ hx266_0)).trans hx266_0
                      replace hx266_1 := (HB.out.cell (World.block_lt_of_cell? w _ hx266_1)).trans hx266_1
                      replace p266 := eq_true p266
                      replace q266 := eq_true q266
                      go_upto_region 12 with (first | ((with_reducible refine gate_dst (N := 5) rfl ?_); (try (refine gate_guard (by rfl) ?_; dsimp only)); refine box_event ?hg (N := 5) ?hd (cs := #[.int .i64 0, .int .i64 0]) (t := 40) ?hr ?_; (case hd => rfl); (case hg => rfl); (case hr => first | (go_simp; done) | (go_simp; rfl)); intro gb267 hg w20 hbox hb; have n0_ := Aside0.mk (blk_below (g := gb263) (o := .cells #[.slice A0_0 l0_0.length c0_0, .slice (some ad266) l0_1.length c0_1] 25 (0, 0)) (by (with_reducible repeat (first | refine blk_drewN ?_ _ | refine blk_drew ?_ | refine blk_alloc ?_ _)); exact BK263.out) hb); have n1_ := Aside0.mk (below_step (by repeat (first | (with_reducible first | exact HB.out | apply below_alloc | apply pw_below_drewN | apply below_drew1 | refine below_set ?_ GE263.out) | exact HB.out)) hb); have n2_ := Aside0.mk (hbox); have n3_ := Aside0.mk ((by rw [hg]; exact (below_size (by repeat (first | (with_reducible first | exact HB.out | apply below_alloc | apply pw_below_drewN | apply below_drew1 | refine below_set ?_ GE263.out) | exact HB.out))) : w.heap.size ≤ gb267)); have n4_ := Aside0.mk ((by rw [hg]; exact (below_size (by repeat (first | (with_reducible first | exact HB.out | apply below_alloc | apply pw_below_drewN | apply below_drew1 | refine below_set ?_ GE263.out) | exact HB.out))) : w.heap.size ≤ gb267)); have n5_ := Aside0.mk ((by rw [hg]; exact Nat.ne_of_lt (blk_lt (g := gb263) (o := .cells #[.slice A0_0 l0_0.length c0_0, .slice (some ad266) l0_1.length c0_1] 25 (0, 0)) (by (with_reducible repeat (first | refine blk_drewN ?_ _ | refine blk_drew ?_ | refine blk_alloc ?_ _)); exact BK263.out)) : gb263 ≠ gb267)); have n6_ := Aside0.mk ((by rw [hg]; exact Nat.ne_of_gt (blk_lt (g := gb263) (o := .cells #[.slice A0_0 l0_0.length c0_0, .slice (some ad266) l0_1.length c0_1] 25 (0, 0)) (by (with_reducible repeat (first | refine blk_drewN ?_ _ | refine blk_drew ?_ | refine blk_alloc ?_ _)); exact BK263.out)) : gb267 ≠ gb263)); clear BK263; clear HB; have BK263 := n0_; have HB := n1_; have BK267 := n2_; have GW267 := n3_; have GE267 := n4_; have NB263_267 := n5_; have NB267_263 := n6_; clear n0_ n1_ n2_ n3_ n4_ n5_ n6_; clear hb hbox hg; have hnb21 := NB267_263.out; have hnc21 := NB263_267.out; have hcz22_0 : w20.cell? ⟨gb267, 0, none⟩ = some (.int .i64 0) := (blk_cell BK267.out 0).trans rfl; have hcz22_1 : w20.cell? ⟨gb267, 1, none⟩ = some (.int .i64 0) := (blk_cell BK267.out 1).trans rfl; have hfz22_0 := blk_frozen BK267.out 0; have hfz22_1 := blk_frozen BK267.out 1))
                      repeat (go_quiet (first | ((with_reducible refine gate_dst (N := 5) rfl ?_); (try (refine gate_guard (by rfl) ?_; dsimp only)); refine box_event ?hg (N := 5) ?hd (cs := #[.int .i64 0, .int .i64 0]) (t := 40) ?hr ?_; (case hd => rfl); (case hg => rfl); (case hr => first | (go_simp; done) | (go_simp; rfl)); intro gb267 hg w20 hbox hb; have n0_ := Aside0.mk (blk_below (g := gb263) (o := .cells #[.slice A0_0 l0_0.length c0_0, .slice (some ad266) l0_1.length c0_1] 25 (0, 0)) (by (with_reducible repeat (first | refine blk_drewN ?_ _ | refine blk_drew ?_ | refine blk_alloc ?_ _)); exact BK263.out) hb); have n1_ := Aside0.mk (below_step (by repeat (first | (with_reducible first | exact HB.out | apply below_alloc | apply pw_below_drewN | apply below_drew1 | refine below_set ?_ GE263.out) | exact HB.out)) hb); have n2_ := Aside0.mk (hbox); have n3_ := Aside0.mk ((by rw [hg]; exact (below_size (by repeat (first | (with_reducible first | exact HB.out | apply below_alloc | apply pw_below_drewN | apply below_drew1 | refine below_set ?_ GE263.out) | exact HB.out))) : w.heap.size ≤ gb267)); have n4_ := Aside0.mk ((by rw [hg]; exact (below_size (by repeat (first | (with_reducible first | exact HB.out | apply below_alloc | apply pw_below_drewN | apply below_drew1 | refine below_set ?_ GE263.out) | exact HB.out))) : w.heap.size ≤ gb267)); have n5_ := Aside0.mk ((by rw [hg]; exact Nat.ne_of_lt (blk_lt (g := gb263) (o := .cells #[.slice A0_0 l0_0.length c0_0, .slice (some ad266) l0_1.length c0_1] 25 (0, 0)) (by (with_reducible repeat (first | refine blk_drewN ?_ _ | refine blk_drew ?_ | refine blk_alloc ?_ _)); exact BK263.out)) : gb263 ≠ gb267)); have n6_ := Aside0.mk ((by rw [hg]; exact Nat.ne_of_gt (blk_lt (g := gb263) (o := .cells #[.slice A0_0 l0_0.length c0_0, .slice (some ad266) l0_1.length c0_1] 25 (0, 0)) (by (with_reducible repeat (first | refine blk_drewN ?_ _ | refine blk_drew ?_ | refine blk_alloc ?_ _)); exact BK263.out)) : gb267 ≠ gb263)); clear BK263; clear HB; have BK263 := n0_; have HB := n1_; have BK267 := n2_; have GW267 := n3_; have GE267 := n4_; have NB263_267 := n5_; have NB267_263 := n6_; clear n0_ n1_ n2_ n3_ n4_ n5_ n6_; clear hb hbox hg; have hnb21 := NB267_263.out; have hnc21 := NB263_267.out; have hcz22_0 : w20.cell? ⟨gb267, 0, none⟩ = some (.int .i64 0) := (blk_cell BK267.out 0).trans rfl; have hcz22_1 : w20.cell? ⟨gb267, 1, none⟩ = some (.int .i64 0) := (blk_cell BK267.out 1).trans rfl; have hfz22_0 := blk_frozen BK267.out 0; have hfz22_1 := blk_frozen BK267.out 1)); go_upto_region 12 with (first | ((with_reducible refine gate_dst (N := 5) rfl ?_); (try (refine gate_guard (by rfl) ?_; dsimp only)); refine box_event ?hg (N := 5) ?hd (cs := #[.int .i64 0, .int .i64 0]) (t := 40) ?hr ?_; (case hd => rfl); (case hg => rfl); (case hr => first | (go_simp; done) | (go_simp; rfl)); intro gb267 hg w20 hbox hb; have n0_ := Aside0.mk (blk_below (g := gb263) (o := .cells #[.slice A0_0 l0_0.length c0_0, .slice (some ad266) l0_1.length c0_1] 25 (0, 0)) (by (with_reducible repeat (first | refine blk_drewN ?_ _ | refine blk_drew ?_ | refine blk_alloc ?_ _)); exact BK263.out) hb); have n1_ := Aside0.mk (below_step (by repeat (first | (with_reducible first | exact HB.out | apply below_alloc | apply pw_below_drewN | apply below_drew1 | refine below_set ?_ GE263.out) | exact HB.out)) hb); have n2_ := Aside0.mk (hbox); have n3_ := Aside0.mk ((by rw [hg]; exact (below_size (by repeat (first | (with_reducible first | exact HB.out | apply below_alloc | apply pw_below_drewN | apply below_drew1 | refine below_set ?_ GE263.out) | exact HB.out))) : w.heap.size ≤ gb267)); have n4_ := Aside0.mk ((by rw [hg]; exact (below_size (by repeat (first | (with_reducible first | exact HB.out | apply below_alloc | apply pw_below_drewN | apply below_drew1 | refine below_set ?_ GE263.out) | exact HB.out))) : w.heap.size ≤ gb267)); have n5_ := Aside0.mk ((by rw [hg]; exact Nat.ne_of_lt (blk_lt (g := gb263) (o := .cells #[.slice A0_0 l0_0.length c0_0, .slice (some ad266) l0_1.length c0_1] 25 (0, 0)) (by (with_reducible repeat (first | refine blk_drewN ?_ _ | refine blk_drew ?_ | refine blk_alloc ?_ _)); exact BK263.out)) : gb263 ≠ gb267)); have n6_ := Aside0.mk ((by rw [hg]; exact Nat.ne_of_gt (blk_lt (g := gb263) (o := .cells #[.slice A0_0 l0_0.length c0_0, .slice (some ad266) l0_1.length c0_1] 25 (0, 0)) (by (with_reducible repeat (first | refine blk_drewN ?_ _ | refine blk_drew ?_ | refine blk_alloc ?_ _)); exact BK263.out)) : gb267 ≠ gb263)); clear BK263; clear HB; have BK263 := n0_; have HB := n1_; have BK267 := n2_; have GW267 := n3_; have GE267 := n4_; have NB263_267 := n5_; have NB267_263 := n6_; clear n0_ n1_ n2_ n3_ n4_ n5_ n6_; clear hb hbox hg; have hnb21 := NB267_263.out; have hnc21 := NB263_267.out; have hcz22_0 : w20.cell? ⟨gb267, 0, none⟩ = some (.int .i64 0) := (blk_cell BK267.out 0).trans rfl; have hcz22_1 : w20.cell? ⟨gb267, 1, none⟩ = some (.int .i64 0) := (blk_cell BK267.out 1).trans rfl; have hfz22_0 := blk_frozen BK267.out 0; have hfz22_1 := blk_frozen BK267.out 1)))
                      (try simp only [Act.put, List.setIfInBounds_toArray, List.set_cons_zero, List.set_cons_succ])
                      go_cut [68] (fun v68 wc => ∃ (kq : Nat) (x68_17 : Bool), v68 = .bool x68_17 ∧ Aside0 (trefoilref04_Plain.j3 kq x4_3 x68_17 l0_0 l0_1 ((rd_T40 l0_1 x4_3).f0) ((rd_T40 l0_1 x4_3).f1) = some r) ∧ Aside0 (kq ≤ k3) ∧ Aside0 (wc.heap[gb263]? = some (.cells #[(.slice A0_0 l0_0.length c0_0), (.slice (some ad266) l0_1.length c0_1)] 25 (0, 0))) ∧ Aside0 (wc.heap[gb267]? = some (.cells #[.int .i64 ((rd_T40 l0_1 x4_3).f0), .int .i64 ((rd_T40 l0_1 x4_3).f1)] 40 (0, 0))) ∧ Aside0 (Below w.heap.size w wc))
                      case first =>
                        have H := HC18.out
                        clear HC18
                        replace H := Option.bind_eq_some_iff.mp H
                        obtain ⟨t268, A230, H⟩ := H
                        replace H : (if t268 = true then ((trefoilref04_node.f l0_0 l0_1 ((rd_T40 l0_1 x4_3).f1)).bind fun t269 => (if t269 = true then (trefoilref04_Plain.j3 k3 x4_3 (((rd_T40 l0_1 x4_3).f0) == ((rd_T40 l0_1 x4_3).f1)) l0_0 l0_1 ((rd_T40 l0_1 x4_3).f0) ((rd_T40 l0_1 x4_3).f1)) else (trefoilref04_Plain.j3 k3 x4_3 true l0_0 l0_1 ((rd_T40 l0_1 x4_3).f0) ((rd_T40 l0_1 x4_3).f1)))) else (trefoilref04_Plain.j3 k3 x4_3 true l0_0 l0_1 ((rd_T40 l0_1 x4_3).f0) ((rd_T40 l0_1 x4_3).f1))) = some r := H
                        have A23 := Aside0.mk A230
                        clear A230
                        by_cases c24 : t268 = true
                        · subst c24
                          have H1 : ((trefoilref04_node.f l0_0 l0_1 ((rd_T40 l0_1 x4_3).f1)).bind fun t269 => (if t269 = true then (trefoilref04_Plain.j3 k3 x4_3 (((rd_T40 l0_1 x4_3).f0) == ((rd_T40 l0_1 x4_3).f1)) l0_0 l0_1 ((rd_T40 l0_1 x4_3).f0) ((rd_T40 l0_1 x4_3).f1)) else (trefoilref04_Plain.j3 k3 x4_3 true l0_0 l0_1 ((rd_T40 l0_1 x4_3).f0) ((rd_T40 l0_1 x4_3).f1)))) = some r := by rw [if_pos rfl] at H; exact H
                          clear H
                          have H := H1
                          clear H1
                          replace H := Option.bind_eq_some_iff.mp H
                          obtain ⟨t269, A250, H⟩ := H
                          replace H : (if t269 = true then (trefoilref04_Plain.j3 k3 x4_3 (((rd_T40 l0_1 x4_3).f0) == ((rd_T40 l0_1 x4_3).f1)) l0_0 l0_1 ((rd_T40 l0_1 x4_3).f0) ((rd_T40 l0_1 x4_3).f1)) else (trefoilref04_Plain.j3 k3 x4_3 true l0_0 l0_1 ((rd_T40 l0_1 x4_3).f0) ((rd_T40 l0_1 x4_3).f1))) = some r := H
                          have A25 := Aside0.mk A250
                          clear A250
                          by_cases c26 : t269 = true
                          · subst c26
                            have H1 : (trefoilref04_Plain.j3 k3 x4_3 (((rd_T40 l0_1 x4_3).f0) == ((rd_T40 l0_1 x4_3).f1)) l0_0 l0_1 ((rd_T40 l0_1 x4_3).f0) ((rd_T40 l0_1 x4_3).f1)) = some r := by rw [if_pos rfl] at H; exact H
                            clear H
                            have H := H1
                            clear H1
                            have H' := Aside0.mk H
                            clear H
                            have hnb27 := NB263_267.out
                            have hnc27 := NB267_263.out
                            have hcz28_0 : w20.cell? ⟨gb263, 0, none⟩ = some (.slice A0_0 l0_0.length c0_0) := (blk_cell BK263.out 0).trans rfl
                            have hcz28_1 : w20.cell? ⟨gb263, 1, none⟩ = some (.slice (some ad266) l0_1.length c0_1) := (blk_cell BK263.out 1).trans rfl
                            have hfz28_0 := blk_frozen BK263.out 0
                            have hfz28_1 := blk_frozen BK263.out 1
                            have hcz29_0 : w20.cell? ⟨gb267, 0, none⟩ = some (.int .i64 0) := (blk_cell BK267.out 0).trans rfl
                            have hcz29_1 : w20.cell? ⟨gb267, 1, none⟩ = some (.int .i64 0) := (blk_cell BK267.out 1).trans rfl
                            have hfz29_0 := blk_frozen BK267.out 0
                            have hfz29_1 := blk_frozen BK267.out 1
                            go_wp2_with (first | (go_at_call 47; (with_reducible refine (trefoilref04_node.calls _ _ l0_0 _ _ l0_1 ((rd_T40 l0_1 x4_3).f0) true _ ?side1 ?side2 ?side3 ?side4 A23.out).mono ?_); (case side1 => exact Kd.C_below HR0_0.out (by repeat (first | (with_reducible first | exact HB.out | apply below_alloc | apply pw_below_drewN | apply below_drew1 | refine below_set ?_ GE263.out | refine below_set ?_ GE267.out) | exact HB.out))); (case side2 => exact HC0_0.out); (case side3 => exact Kd.C_below HR0_1.out (by repeat (first | (with_reducible first | exact HB.out | apply below_alloc | apply pw_below_drewN | apply below_drew1 | refine below_set ?_ GE263.out | refine below_set ?_ GE267.out) | exact HB.out))); (case side4 => exact HC0_1.out); rintro e w30 ⟨rfl, hb⟩; have n0_ := Aside0.mk (blk_below (g := gb263) (o := .cells #[.slice A0_0 l0_0.length c0_0, .slice (some ad266) l0_1.length c0_1] 25 (0, 0)) (by (with_reducible repeat (first | refine blk_drewN ?_ _ | refine blk_drew ?_ | refine blk_alloc ?_ _)); refine blk_far ?_ NB263_267.out _; (with_reducible repeat (first | refine blk_drewN ?_ _ | refine blk_drew ?_ | refine blk_alloc ?_ _)); refine blk_far ?_ NB263_267.out _; (with_reducible repeat (first | refine blk_drewN ?_ _ | refine blk_drew ?_ | refine blk_alloc ?_ _)); exact BK263.out) hb); have n1_ := Aside0.mk (blk_below (g := gb267) (o := .cells #[.int .i64 ((rd_T40 l0_1 x4_3).f0), .int .i64 ((rd_T40 l0_1 x4_3).f1)] 40 (0, 0)) (by (with_reducible repeat (first | refine blk_drewN ?_ _ | refine blk_drew ?_ | refine blk_alloc ?_ _)); refine blk_put (cs := #[.int .i64 ((rd_T40 l0_1 x4_3).f0), .int .i64 0]) ?_ 1 _ rfl; (with_reducible repeat (first | refine blk_drewN ?_ _ | refine blk_drew ?_ | refine blk_alloc ?_ _)); refine blk_put (cs := #[.int .i64 0, .int .i64 0]) ?_ 0 _ rfl; (with_reducible repeat (first | refine blk_drewN ?_ _ | refine blk_drew ?_ | refine blk_alloc ?_ _)); exact BK267.out) hb); have n2_ := Aside0.mk (below_step (by repeat (first | (with_reducible first | exact HB.out | apply below_alloc | apply pw_below_drewN | apply below_drew1 | refine below_set ?_ GE263.out | refine below_set ?_ GE267.out) | exact HB.out)) hb); clear BK263; clear BK267; clear HB; have BK263 := n0_; have BK267 := n1_; have HB := n2_; clear n0_ n1_ n2_; (try clear hb); (try clear hb2); (try clear hk); (try clear hi); have hcz31_0 : w30.cell? ⟨gb263, 0, none⟩ = some (.slice A0_0 l0_0.length c0_0) := (blk_cell BK263.out 0).trans rfl; have hcz31_1 : w30.cell? ⟨gb263, 1, none⟩ = some (.slice (some ad266) l0_1.length c0_1) := (blk_cell BK263.out 1).trans rfl; have hfz31_0 := blk_frozen BK263.out 0; have hfz31_1 := blk_frozen BK263.out 1; have hcz32_0 : w30.cell? ⟨gb267, 0, none⟩ = some (.int .i64 ((rd_T40 l0_1 x4_3).f0)) := (blk_cell BK267.out 0).trans rfl; have hcz32_1 : w30.cell? ⟨gb267, 1, none⟩ = some (.int .i64 ((rd_T40 l0_1 x4_3).f1)) := (blk_cell BK267.out 1).trans rfl; have hfz32_0 := blk_frozen BK267.out 0; have hfz32_1 := blk_frozen BK267.out 1) | (go_at_call 47; (with_reducible refine (trefoilref04_node.calls _ _ l0_0 _ _ l0_1 ((rd_T40 l0_1 x4_3).f1) true _ ?side1 ?side2 ?side3 ?side4 A25.out).mono ?_); (case side1 => repeat (first | exact (Kd.C_below HR0_0.out HB.out) | (with_reducible refine Kd.C_alloc ?_ _) | (with_reducible refine Kd.C_drewN ?_ _) | (with_reducible refine Kd.C_drew ?_))); (case side2 => exact HC0_0.out); (case side3 => repeat (first | exact (Kd.C_below HR0_1.out HB.out) | (with_reducible refine Kd.C_alloc ?_ _) | (with_reducible refine Kd.C_drewN ?_ _) | (with_reducible refine Kd.C_drew ?_))); (case side4 => exact HC0_1.out); rintro e w33 ⟨rfl, hb⟩; have n0_ := Aside0.mk (blk_below (g := gb263) (o := .cells #[.slice A0_0 l0_0.length c0_0, .slice (some ad266) l0_1.length c0_1] 25 (0, 0)) (by (with_reducible repeat (first | refine blk_drewN ?_ _ | refine blk_drew ?_ | refine blk_alloc ?_ _)); exact BK263.out) hb); have n1_ := Aside0.mk (blk_below (g := gb267) (o := .cells #[.int .i64 ((rd_T40 l0_1 x4_3).f0), .int .i64 ((rd_T40 l0_1 x4_3).f1)] 40 (0, 0)) (by (with_reducible repeat (first | refine blk_drewN ?_ _ | refine blk_drew ?_ | refine blk_alloc ?_ _)); exact BK267.out) hb); have n2_ := Aside0.mk (below_step (by repeat (first | (with_reducible first | exact HB.out | apply below_alloc | apply pw_below_drewN | apply below_drew1 | refine below_set ?_ GE263.out | refine below_set ?_ GE267.out) | exact HB.out)) hb); clear BK263; clear BK267; clear HB; have BK263 := n0_; have BK267 := n1_; have HB := n2_; clear n0_ n1_ n2_; (try clear hb); (try clear hb2); (try clear hk); (try clear hi); have hcz34_0 : w33.cell? ⟨gb267, 0, none⟩ = some (.int .i64 ((rd_T40 l0_1 x4_3).f0)) := (blk_cell BK267.out 0).trans rfl; have hcz34_1 : w33.cell? ⟨gb267, 1, none⟩ = some (.int .i64 ((rd_T40 l0_1 x4_3).f1)) := (blk_cell BK267.out 1).trans rfl; have hfz34_0 := blk_frozen BK267.out 0; have hfz34_1 := blk_frozen BK267.out 1))
                            repeat (go_quiet (first | (go_at_call 47; (with_reducible refine (trefoilref04_node.calls _ _ l0_0 _ _ l0_1 ((rd_T40 l0_1 x4_3).f0) true _ ?side1 ?side2 ?side3 ?side4 A23.out).mono ?_); (case side1 => exact Kd.C_below HR0_0.out (by repeat (first | (with_reducible first | exact HB.out | apply below_alloc | apply pw_below_drewN | apply below_drew1 | refine below_set ?_ GE263.out | refine below_set ?_ GE267.out) | exact HB.out))); (case side2 => exact HC0_0.out); (case side3 => exact Kd.C_below HR0_1.out (by repeat (first | (with_reducible first | exact HB.out | apply below_alloc | apply pw_below_drewN | apply below_drew1 | refine below_set ?_ GE263.out | refine below_set ?_ GE267.out) | exact HB.out))); (case side4 => exact HC0_1.out); rintro e w30 ⟨rfl, hb⟩; have n0_ := Aside0.mk (blk_below (g := gb263) (o := .cells #[.slice A0_0 l0_0.length c0_0, .slice (some ad266) l0_1.length c0_1] 25 (0, 0)) (by (with_reducible repeat (first | refine blk_drewN ?_ _ | refine blk_drew ?_ | refine blk_alloc ?_ _)); refine blk_far ?_ NB263_267.out _; (with_reducible repeat (first | refine blk_drewN ?_ _ | refine blk_drew ?_ | refine blk_alloc ?_ _)); refine blk_far ?_ NB263_267.out _; (with_reducible repeat (first | refine blk_drewN ?_ _ | refine blk_drew ?_ | refine blk_alloc ?_ _)); exact BK263.out) hb); have n1_ := Aside0.mk (blk_below (g := gb267) (o := .cells #[.int .i64 ((rd_T40 l0_1 x4_3).f0), .int .i64 ((rd_T40 l0_1 x4_3).f1)] 40 (0, 0)) (by (with_reducible repeat (first | refine blk_drewN ?_ _ | refine blk_drew ?_ | refine blk_alloc ?_ _)); refine blk_put (cs := #[.int .i64 ((rd_T40 l0_1 x4_3).f0), .int .i64 0]) ?_ 1 _ rfl; (with_reducible repeat (first | refine blk_drewN ?_ _ | refine blk_drew ?_ | refine blk_alloc ?_ _)); refine blk_put (cs := #[.int .i64 0, .int .i64 0]) ?_ 0 _ rfl; (with_reducible repeat (first | refine blk_drewN ?_ _ | refine blk_drew ?_ | refine blk_alloc ?_ _)); exact BK267.out) hb); have n2_ := Aside0.mk (below_step (by repeat (first | (with_reducible first | exact HB.out | apply below_alloc | apply pw_below_drewN | apply below_drew1 | refine below_set ?_ GE263.out | refine below_set ?_ GE267.out) | exact HB.out)) hb); clear BK263; clear BK267; clear HB; have BK263 := n0_; have BK267 := n1_; have HB := n2_; clear n0_ n1_ n2_; (try clear hb); (try clear hb2); (try clear hk); (try clear hi); have hcz31_0 : w30.cell? ⟨gb263, 0, none⟩ = some (.slice A0_0 l0_0.length c0_0) := (blk_cell BK263.out 0).trans rfl; have hcz31_1 : w30.cell? ⟨gb263, 1, none⟩ = some (.slice (some ad266) l0_1.length c0_1) := (blk_cell BK263.out 1).trans rfl; have hfz31_0 := blk_frozen BK263.out 0; have hfz31_1 := blk_frozen BK263.out 1; have hcz32_0 : w30.cell? ⟨gb267, 0, none⟩ = some (.int .i64 ((rd_T40 l0_1 x4_3).f0)) := (blk_cell BK267.out 0).trans rfl; have hcz32_1 : w30.cell? ⟨gb267, 1, none⟩ = some (.int .i64 ((rd_T40 l0_1 x4_3).f1)) := (blk_cell BK267.out 1).trans rfl; have hfz32_0 := blk_frozen BK267.out 0; have hfz32_1 := blk_frozen BK267.out 1) | (go_at_call 47; (with_reducible refine (trefoilref04_node.calls _ _ l0_0 _ _ l0_1 ((rd_T40 l0_1 x4_3).f1) true _ ?side1 ?side2 ?side3 ?side4 A25.out).mono ?_); (case side1 => repeat (first | exact (Kd.C_below HR0_0.out HB.out) | (with_reducible refine Kd.C_alloc ?_ _) | (with_reducible refine Kd.C_drewN ?_ _) | (with_reducible refine Kd.C_drew ?_))); (case side2 => exact HC0_0.out); (case side3 => repeat (first | exact (Kd.C_below HR0_1.out HB.out) | (with_reducible refine Kd.C_alloc ?_ _) | (with_reducible refine Kd.C_drewN ?_ _) | (with_reducible refine Kd.C_drew ?_))); (case side4 => exact HC0_1.out); rintro e w33 ⟨rfl, hb⟩; have n0_ := Aside0.mk (blk_below (g := gb263) (o := .cells #[.slice A0_0 l0_0.length c0_0, .slice (some ad266) l0_1.length c0_1] 25 (0, 0)) (by (with_reducible repeat (first | refine blk_drewN ?_ _ | refine blk_drew ?_ | refine blk_alloc ?_ _)); exact BK263.out) hb); have n1_ := Aside0.mk (blk_below (g := gb267) (o := .cells #[.int .i64 ((rd_T40 l0_1 x4_3).f0), .int .i64 ((rd_T40 l0_1 x4_3).f1)] 40 (0, 0)) (by (with_reducible repeat (first | refine blk_drewN ?_ _ | refine blk_drew ?_ | refine blk_alloc ?_ _)); exact BK267.out) hb); have n2_ := Aside0.mk (below_step (by repeat (first | (with_reducible first | exact HB.out | apply below_alloc | apply pw_below_drewN | apply below_drew1 | refine below_set ?_ GE263.out | refine below_set ?_ GE267.out) | exact HB.out)) hb); clear BK263; clear BK267; clear HB; have BK263 := n0_; have BK267 := n1_; have HB := n2_; clear n0_ n1_ n2_; (try clear hb); (try clear hb2); (try clear hk); (try clear hi); have hcz34_0 : w33.cell? ⟨gb267, 0, none⟩ = some (.int .i64 ((rd_T40 l0_1 x4_3).f0)) := (blk_cell BK267.out 0).trans rfl; have hcz34_1 : w33.cell? ⟨gb267, 1, none⟩ = some (.int .i64 ((rd_T40 l0_1 x4_3).f1)) := (blk_cell BK267.out 1).trans rfl; have hfz34_0 := blk_frozen BK267.out 0; have hfz34_1 := blk_frozen BK267.out 1)); try go_wp2_with (first | (go_at_call 47; (with_reducible refine (trefoilref04_node.calls _ _ l0_0 _ _ l0_1 ((rd_T40 l0_1 x4_3).f0) true _ ?side1 ?side2 ?side3 ?side4 A23.out).mono ?_); (case side1 => exact Kd.C_below HR0_0.out (by repeat (first | (with_reducible first | exact HB.out | apply below_alloc | apply pw_below_drewN | apply below_drew1 | refine below_set ?_ GE263.out | refine below_set ?_ GE267.out) | exact HB.out))); (case side2 => exact HC0_0.out); (case side3 => exact Kd.C_below HR0_1.out (by repeat (first | (with_reducible first | exact HB.out | apply below_alloc | apply pw_below_drewN | apply below_drew1 | refine below_set ?_ GE263.out | refine below_set ?_ GE267.out) | exact HB.out))); (case side4 => exact HC0_1.out); rintro e w30 ⟨rfl, hb⟩; have n0_ := Aside0.mk (blk_below (g := gb263) (o := .cells #[.slice A0_0 l0_0.length c0_0, .slice (some ad266) l0_1.length c0_1] 25 (0, 0)) (by (with_reducible repeat (first | refine blk_drewN ?_ _ | refine blk_drew ?_ | refine blk_alloc ?_ _)); refine blk_far ?_ NB263_267.out _; (with_reducible repeat (first | refine blk_drewN ?_ _ | refine blk_drew ?_ | refine blk_alloc ?_ _)); refine blk_far ?_ NB263_267.out _; (with_reducible repeat (first | refine blk_drewN ?_ _ | refine blk_drew ?_ | refine blk_alloc ?_ _)); exact BK263.out) hb); have n1_ := Aside0.mk (blk_below (g := gb267) (o := .cells #[.int .i64 ((rd_T40 l0_1 x4_3).f0), .int .i64 ((rd_T40 l0_1 x4_3).f1)] 40 (0, 0)) (by (with_reducible repeat (first | refine blk_drewN ?_ _ | refine blk_drew ?_ | refine blk_alloc ?_ _)); refine blk_put (cs := #[.int .i64 ((rd_T40 l0_1 x4_3).f0), .int .i64 0]) ?_ 1 _ rfl; (with_reducible repeat (first | refine blk_drewN ?_ _ | refine blk_drew ?_ | refine blk_alloc ?_ _)); refine blk_put (cs := #[.int .i64 0, .int .i64 0]) ?_ 0 _ rfl; (with_reducible repeat (first | refine blk_drewN ?_ _ | refine blk_drew ?_ | refine blk_alloc ?_ _)); exact BK267.out) hb); have n2_ := Aside0.mk (below_step (by repeat (first | (with_reducible first | exact HB.out | apply below_alloc | apply pw_below_drewN | apply below_drew1 | refine below_set ?_ GE263.out | refine below_set ?_ GE267.out) | exact HB.out)) hb); clear BK263; clear BK267; clear HB; have BK263 := n0_; have BK267 := n1_; have HB := n2_; clear n0_ n1_ n2_; (try clear hb); (try clear hb2); (try clear hk); (try clear hi); have hcz31_0 : w30.cell? ⟨gb263, 0, none⟩ = some (.slice A0_0 l0_0.length c0_0) := (blk_cell BK263.out 0).trans rfl; have hcz31_1 : w30.cell? ⟨gb263, 1, none⟩ = some (.slice (some ad266) l0_1.length c0_1) := (blk_cell BK263.out 1).trans rfl; have hfz31_0 := blk_frozen BK263.out 0; have hfz31_1 := blk_frozen BK263.out 1; have hcz32_0 : w30.cell? ⟨gb267, 0, none⟩ = some (.int .i64 ((rd_T40 l0_1 x4_3).f0)) := (blk_cell BK267.out 0).trans rfl; have hcz32_1 : w30.cell? ⟨gb267, 1, none⟩ = some (.int .i64 ((rd_T40 l0_1 x4_3).f1)) := (blk_cell BK267.out 1).trans rfl; have hfz32_0 := blk_frozen BK267.out 0; have hfz32_1 := blk_frozen BK267.out 1) | (go_at_call 47; (with_reducible refine (trefoilref04_node.calls _ _ l0_0 _ _ l0_1 ((rd_T40 l0_1 x4_3).f1) true _ ?side1 ?side2 ?side3 ?side4 A25.out).mono ?_); (case side1 => repeat (first | exact (Kd.C_below HR0_0.out HB.out) | (with_reducible refine Kd.C_alloc ?_ _) | (with_reducible refine Kd.C_drewN ?_ _) | (with_reducible refine Kd.C_drew ?_))); (case side2 => exact HC0_0.out); (case side3 => repeat (first | exact (Kd.C_below HR0_1.out HB.out) | (with_reducible refine Kd.C_alloc ?_ _) | (with_reducible refine Kd.C_drewN ?_ _) | (with_reducible refine Kd.C_drew ?_))); (case side4 => exact HC0_1.out); rintro e w33 ⟨rfl, hb⟩; have n0_ := Aside0.mk (blk_below (g := gb263) (o := .cells #[.slice A0_0 l0_0.length c0_0, .slice (some ad266) l0_1.length c0_1] 25 (0, 0)) (by (with_reducible repeat (first | refine blk_drewN ?_ _ | refine blk_drew ?_ | refine blk_alloc ?_ _)); exact BK263.out) hb); have n1_ := Aside0.mk (blk_below (g := gb267) (o := .cells #[.int .i64 ((rd_T40 l0_1 x4_3).f0), .int .i64 ((rd_T40 l0_1 x4_3).f1)] 40 (0, 0)) (by (with_reducible repeat (first | refine blk_drewN ?_ _ | refine blk_drew ?_ | refine blk_alloc ?_ _)); exact BK267.out) hb); have n2_ := Aside0.mk (below_step (by repeat (first | (with_reducible first | exact HB.out | apply below_alloc | apply pw_below_drewN | apply below_drew1 | refine below_set ?_ GE263.out | refine below_set ?_ GE267.out) | exact HB.out)) hb); clear BK263; clear BK267; clear HB; have BK263 := n0_; have BK267 := n1_; have HB := n2_; clear n0_ n1_ n2_; (try clear hb); (try clear hb2); (try clear hk); (try clear hi); have hcz34_0 : w33.cell? ⟨gb267, 0, none⟩ = some (.int .i64 ((rd_T40 l0_1 x4_3).f0)) := (blk_cell BK267.out 0).trans rfl; have hcz34_1 : w33.cell? ⟨gb267, 1, none⟩ = some (.int .i64 ((rd_T40 l0_1 x4_3).f1)) := (blk_cell BK267.out 1).trans rfl; have hfz34_0 := blk_frozen BK267.out 0; have hfz34_1 := blk_frozen BK267.out 1)))
                            go_meet
                            case rel => exact ⟨_, ((((rd_T40 l0_1 x4_3).f0) == ((rd_T40 l0_1 x4_3).f1))), (by first | rfl | (simp; done) | (simp [*]; done)), H', ⟨by have := HJ1.out; have := HK2.out; have := HK3.out; first | omega | exact Nat.le_refl _⟩, ⟨by (with_reducible repeat (first | refine blk_drewN ?_ _ | refine blk_drew ?_ | refine blk_alloc ?_ _)); exact BK263.out⟩, ⟨by (with_reducible repeat (first | refine blk_drewN ?_ _ | refine blk_drew ?_ | refine blk_alloc ?_ _)); exact BK267.out⟩, ⟨by repeat (first | (with_reducible first | exact HB.out | apply below_alloc | apply pw_below_drewN | apply below_drew1 | refine below_set ?_ GE263.out | refine below_set ?_ GE267.out) | exact HB.out)⟩⟩
                          · replace c26 := Bool.eq_false_iff.mpr c26
                            subst c26
                            have H1 : (trefoilref04_Plain.j3 k3 x4_3 true l0_0 l0_1 ((rd_T40 l0_1 x4_3).f0) ((rd_T40 l0_1 x4_3).f1)) = some r := by rw [if_neg (show ¬ (false = true) by decide)] at H; exact H
                            clear H
                            have H := H1
                            clear H1
                            have H' := Aside0.mk H
                            clear H
                            have hnb35 := NB263_267.out
                            have hnc35 := NB267_263.out
                            have hcz36_0 : w20.cell? ⟨gb263, 0, none⟩ = some (.slice A0_0 l0_0.length c0_0) := (blk_cell BK263.out 0).trans rfl
                            have hcz36_1 : w20.cell? ⟨gb263, 1, none⟩ = some (.slice (some ad266) l0_1.length c0_1) := (blk_cell BK263.out 1).trans rfl
                            have hfz36_0 := blk_frozen BK263.out 0
                            have hfz36_1 := blk_frozen BK263.out 1
                            have hcz37_0 : w20.cell? ⟨gb267, 0, none⟩ = some (.int .i64 0) := (blk_cell BK267.out 0).trans rfl
                            have hcz37_1 : w20.cell? ⟨gb267, 1, none⟩ = some (.int .i64 0) := (blk_cell BK267.out 1).trans rfl
                            have hfz37_0 := blk_frozen BK267.out 0
                            have hfz37_1 := blk_frozen BK267.out 1
                            go_wp2_with (first | (go_at_call 47; (with_reducible refine (trefoilref04_node.calls _ _ l0_0 _ _ l0_1 ((rd_T40 l0_1 x4_3).f0) true _ ?side1 ?side2 ?side3 ?side4 A23.out).mono ?_); (case side1 => exact Kd.C_below HR0_0.out (by repeat (first | (with_reducible first | exact HB.out | apply below_alloc | apply pw_below_drewN | apply below_drew1 | refine below_set ?_ GE263.out | refine below_set ?_ GE267.out) | exact HB.out))); (case side2 => exact HC0_0.out); (case side3 => exact Kd.C_below HR0_1.out (by repeat (first | (with_reducible first | exact HB.out | apply below_alloc | apply pw_below_drewN | apply below_drew1 | refine below_set ?_ GE263.out | refine below_set ?_ GE267.out) | exact HB.out))); (case side4 => exact HC0_1.out); rintro e w38 ⟨rfl, hb⟩; have n0_ := Aside0.mk (blk_below (g := gb263) (o := .cells #[.slice A0_0 l0_0.length c0_0, .slice (some ad266) l0_1.length c0_1] 25 (0, 0)) (by (with_reducible repeat (first | refine blk_drewN ?_ _ | refine blk_drew ?_ | refine blk_alloc ?_ _)); refine blk_far ?_ NB263_267.out _; (with_reducible repeat (first | refine blk_drewN ?_ _ | refine blk_drew ?_ | refine blk_alloc ?_ _)); refine blk_far ?_ NB263_267.out _; (with_reducible repeat (first | refine blk_drewN ?_ _ | refine blk_drew ?_ | refine blk_alloc ?_ _)); exact BK263.out) hb); have n1_ := Aside0.mk (blk_below (g := gb267) (o := .cells #[.int .i64 ((rd_T40 l0_1 x4_3).f0), .int .i64 ((rd_T40 l0_1 x4_3).f1)] 40 (0, 0)) (by (with_reducible repeat (first | refine blk_drewN ?_ _ | refine blk_drew ?_ | refine blk_alloc ?_ _)); refine blk_put (cs := #[.int .i64 ((rd_T40 l0_1 x4_3).f0), .int .i64 0]) ?_ 1 _ rfl; (with_reducible repeat (first | refine blk_drewN ?_ _ | refine blk_drew ?_ | refine blk_alloc ?_ _)); refine blk_put (cs := #[.int .i64 0, .int .i64 0]) ?_ 0 _ rfl; (with_reducible repeat (first | refine blk_drewN ?_ _ | refine blk_drew ?_ | refine blk_alloc ?_ _)); exact BK267.out) hb); have n2_ := Aside0.mk (below_step (by repeat (first | (with_reducible first | exact HB.out | apply below_alloc | apply pw_below_drewN | apply below_drew1 | refine below_set ?_ GE263.out | refine below_set ?_ GE267.out) | exact HB.out)) hb); clear BK263; clear BK267; clear HB; have BK263 := n0_; have BK267 := n1_; have HB := n2_; clear n0_ n1_ n2_; (try clear hb); (try clear hb2); (try clear hk); (try clear hi); have hcz39_0 : w38.cell? ⟨gb263, 0, none⟩ = some (.slice A0_0 l0_0.length c0_0) := (blk_cell BK263.out 0).trans rfl; have hcz39_1 : w38.cell? ⟨gb263, 1, none⟩ = some (.slice (some ad266) l0_1.length c0_1) := (blk_cell BK263.out 1).trans rfl; have hfz39_0 := blk_frozen BK263.out 0; have hfz39_1 := blk_frozen BK263.out 1; have hcz40_0 : w38.cell? ⟨gb267, 0, none⟩ = some (.int .i64 ((rd_T40 l0_1 x4_3).f0)) := (blk_cell BK267.out 0).trans rfl; have hcz40_1 : w38.cell? ⟨gb267, 1, none⟩ = some (.int .i64 ((rd_T40 l0_1 x4_3).f1)) := (blk_cell BK267.out 1).trans rfl; have hfz40_0 := blk_frozen BK267.out 0; have hfz40_1 := blk_frozen BK267.out 1) | (go_at_call 47; (with_reducible refine (trefoilref04_node.calls _ _ l0_0 _ _ l0_1 ((rd_T40 l0_1 x4_3).f1) false _ ?side1 ?side2 ?side3 ?side4 A25.out).mono ?_); (case side1 => repeat (first | exact (Kd.C_below HR0_0.out HB.out) | (with_reducible refine Kd.C_alloc ?_ _) | (with_reducible refine Kd.C_drewN ?_ _) | (with_reducible refine Kd.C_drew ?_))); (case side2 => exact HC0_0.out); (case side3 => repeat (first | exact (Kd.C_below HR0_1.out HB.out) | (with_reducible refine Kd.C_alloc ?_ _) | (with_reducible refine Kd.C_drewN ?_ _) | (with_reducible refine Kd.C_drew ?_))); (case side4 => exact HC0_1.out); rintro e w41 ⟨rfl, hb⟩; have n0_ := Aside0.mk (blk_below (g := gb263) (o := .cells #[.slice A0_0 l0_0.length c0_0, .slice (some ad266) l0_1.length c0_1] 25 (0, 0)) (by (with_reducible repeat (first | refine blk_drewN ?_ _ | refine blk_drew ?_ | refine blk_alloc ?_ _)); exact BK263.out) hb); have n1_ := Aside0.mk (blk_below (g := gb267) (o := .cells #[.int .i64 ((rd_T40 l0_1 x4_3).f0), .int .i64 ((rd_T40 l0_1 x4_3).f1)] 40 (0, 0)) (by (with_reducible repeat (first | refine blk_drewN ?_ _ | refine blk_drew ?_ | refine blk_alloc ?_ _)); exact BK267.out) hb); have n2_ := Aside0.mk (below_step (by repeat (first | (with_reducible first | exact HB.out | apply below_alloc | apply pw_below_drewN | apply below_drew1 | refine below_set ?_ GE263.out | refine below_set ?_ GE267.out) | exact HB.out)) hb); clear BK263; clear BK267; clear HB; have BK263 := n0_; have BK267 := n1_; have HB := n2_; clear n0_ n1_ n2_; (try clear hb); (try clear hb2); (try clear hk); (try clear hi)))
                            repeat (go_quiet (first | (go_at_call 47; (with_reducible refine (trefoilref04_node.calls _ _ l0_0 _ _ l0_1 ((rd_T40 l0_1 x4_3).f0) true _ ?side1 ?side2 ?side3 ?side4 A23.out).mono ?_); (case side1 => exact Kd.C_below HR0_0.out (by repeat (first | (with_reducible first | exact HB.out | apply below_alloc | apply pw_below_drewN | apply below_drew1 | refine below_set ?_ GE263.out | refine below_set ?_ GE267.out) | exact HB.out))); (case side2 => exact HC0_0.out); (case side3 => exact Kd.C_below HR0_1.out (by repeat (first | (with_reducible first | exact HB.out | apply below_alloc | apply pw_below_drewN | apply below_drew1 | refine below_set ?_ GE263.out | refine below_set ?_ GE267.out) | exact HB.out))); (case side4 => exact HC0_1.out); rintro e w38 ⟨rfl, hb⟩; have n0_ := Aside0.mk (blk_below (g := gb263) (o := .cells #[.slice A0_0 l0_0.length c0_0, .slice (some ad266) l0_1.length c0_1] 25 (0, 0)) (by (with_reducible repeat (first | refine blk_drewN ?_ _ | refine blk_drew ?_ | refine blk_alloc ?_ _)); refine blk_far ?_ NB263_267.out _; (with_reducible repeat (first | refine blk_drewN ?_ _ | refine blk_drew ?_ | refine blk_alloc ?_ _)); refine blk_far ?_ NB263_267.out _; (with_reducible repeat (first | refine blk_drewN ?_ _ | refine blk_drew ?_ | refine blk_alloc ?_ _)); exact BK263.out) hb); have n1_ := Aside0.mk (blk_below (g := gb267) (o := .cells #[.int .i64 ((rd_T40 l0_1 x4_3).f0), .int .i64 ((rd_T40 l0_1 x4_3).f1)] 40 (0, 0)) (by (with_reducible repeat (first | refine blk_drewN ?_ _ | refine blk_drew ?_ | refine blk_alloc ?_ _)); refine blk_put (cs := #[.int .i64 ((rd_T40 l0_1 x4_3).f0), .int .i64 0]) ?_ 1 _ rfl; (with_reducible repeat (first | refine blk_drewN ?_ _ | refine blk_drew ?_ | refine blk_alloc ?_ _)); refine blk_put (cs := #[.int .i64 0, .int .i64 0]) ?_ 0 _ rfl; (with_reducible repeat (first | refine blk_drewN ?_ _ | refine blk_drew ?_ | refine blk_alloc ?_ _)); exact BK267.out) hb); have n2_ := Aside0.mk (below_step (by repeat (first | (with_reducible first | exact HB.out | apply below_alloc | apply pw_below_drewN | apply below_drew1 | refine below_set ?_ GE263.out | refine below_set ?_ GE267.out) | exact HB.out)) hb); clear BK263; clear BK267; clear HB; have BK263 := n0_; have BK267 := n1_; have HB := n2_; clear n0_ n1_ n2_; (try clear hb); (try clear hb2); (try clear hk); (try clear hi); have hcz39_0 : w38.cell? ⟨gb263, 0, none⟩ = some (.slice A0_0 l0_0.length c0_0) := (blk_cell BK263.out 0).trans rfl; have hcz39_1 : w38.cell? ⟨gb263, 1, none⟩ = some (.slice (some ad266) l0_1.length c0_1) := (blk_cell BK263.out 1).trans rfl; have hfz39_0 := blk_frozen BK263.out 0; have hfz39_1 := blk_frozen BK263.out 1; have hcz40_0 : w38.cell? ⟨gb267, 0, none⟩ = some (.int .i64 ((rd_T40 l0_1 x4_3).f0)) := (blk_cell BK267.out 0).trans rfl; have hcz40_1 : w38.cell? ⟨gb267, 1, none⟩ = some (.int .i64 ((rd_T40 l0_1 x4_3).f1)) := (blk_cell BK267.out 1).trans rfl; have hfz40_0 := blk_frozen BK267.out 0; have hfz40_1 := blk_frozen BK267.out 1) | (go_at_call 47; (with_reducible refine (trefoilref04_node.calls _ _ l0_0 _ _ l0_1 ((rd_T40 l0_1 x4_3).f1) false _ ?side1 ?side2 ?side3 ?side4 A25.out).mono ?_); (case side1 => repeat (first | exact (Kd.C_below HR0_0.out HB.out) | (with_reducible refine Kd.C_alloc ?_ _) | (with_reducible refine Kd.C_drewN ?_ _) | (with_reducible refine Kd.C_drew ?_))); (case side2 => exact HC0_0.out); (case side3 => repeat (first | exact (Kd.C_below HR0_1.out HB.out) | (with_reducible refine Kd.C_alloc ?_ _) | (with_reducible refine Kd.C_drewN ?_ _) | (with_reducible refine Kd.C_drew ?_))); (case side4 => exact HC0_1.out); rintro e w41 ⟨rfl, hb⟩; have n0_ := Aside0.mk (blk_below (g := gb263) (o := .cells #[.slice A0_0 l0_0.length c0_0, .slice (some ad266) l0_1.length c0_1] 25 (0, 0)) (by (with_reducible repeat (first | refine blk_drewN ?_ _ | refine blk_drew ?_ | refine blk_alloc ?_ _)); exact BK263.out) hb); have n1_ := Aside0.mk (blk_below (g := gb267) (o := .cells #[.int .i64 ((rd_T40 l0_1 x4_3).f0), .int .i64 ((rd_T40 l0_1 x4_3).f1)] 40 (0, 0)) (by (with_reducible repeat (first | refine blk_drewN ?_ _ | refine blk_drew ?_ | refine blk_alloc ?_ _)); exact BK267.out) hb); have n2_ := Aside0.mk (below_step (by repeat (first | (with_reducible first | exact HB.out | apply below_alloc | apply pw_below_drewN | apply below_drew1 | refine below_set ?_ GE263.out | refine below_set ?_ GE267.out) | exact HB.out)) hb); clear BK263; clear BK267; clear HB; have BK263 := n0_; have BK267 := n1_; have HB := n2_; clear n0_ n1_ n2_; (try clear hb); (try clear hb2); (try clear hk); (try clear hi))); try go_wp2_with (first | (go_at_call 47; (with_reducible refine (trefoilref04_node.calls _ _ l0_0 _ _ l0_1 ((rd_T40 l0_1 x4_3).f0) true _ ?side1 ?side2 ?side3 ?side4 A23.out).mono ?_); (case side1 => exact Kd.C_below HR0_0.out (by repeat (first | (with_reducible first | exact HB.out | apply below_alloc | apply pw_below_drewN | apply below_drew1 | refine below_set ?_ GE263.out | refine below_set ?_ GE267.out) | exact HB.out))); (case side2 => exact HC0_0.out); (case side3 => exact Kd.C_below HR0_1.out (by repeat (first | (with_reducible first | exact HB.out | apply below_alloc | apply pw_below_drewN | apply below_drew1 | refine below_set ?_ GE263.out | refine below_set ?_ GE267.out) | exact HB.out))); (case side4 => exact HC0_1.out); rintro e w38 ⟨rfl, hb⟩; have n0_ := Aside0.mk (blk_below (g := gb263) (o := .cells #[.slice A0_0 l0_0.length c0_0, .slice (some ad266) l0_1.length c0_1] 25 (0, 0)) (by (with_reducible repeat (first | refine blk_drewN ?_ _ | refine blk_drew ?_ | refine blk_alloc ?_ _)); refine blk_far ?_ NB263_267.out _; (with_reducible repeat (first | refine blk_drewN ?_ _ | refine blk_drew ?_ | refine blk_alloc ?_ _)); refine blk_far ?_ NB263_267.out _; (with_reducible repeat (first | refine blk_drewN ?_ _ | refine blk_drew ?_ | refine blk_alloc ?_ _)); exact BK263.out) hb); have n1_ := Aside0.mk (blk_below (g := gb267) (o := .cells #[.int .i64 ((rd_T40 l0_1 x4_3).f0), .int .i64 ((rd_T40 l0_1 x4_3).f1)] 40 (0, 0)) (by (with_reducible repeat (first | refine blk_drewN ?_ _ | refine blk_drew ?_ | refine blk_alloc ?_ _)); refine blk_put (cs := #[.int .i64 ((rd_T40 l0_1 x4_3).f0), .int .i64 0]) ?_ 1 _ rfl; (with_reducible repeat (first | refine blk_drewN ?_ _ | refine blk_drew ?_ | refine blk_alloc ?_ _)); refine blk_put (cs := #[.int .i64 0, .int .i64 0]) ?_ 0 _ rfl; (with_reducible repeat (first | refine blk_drewN ?_ _ | refine blk_drew ?_ | refine blk_alloc ?_ _)); exact BK267.out) hb); have n2_ := Aside0.mk (below_step (by repeat (first | (with_reducible first | exact HB.out | apply below_alloc | apply pw_below_drewN | apply below_drew1 | refine below_set ?_ GE263.out | refine below_set ?_ GE267.out) | exact HB.out)) hb); clear BK263; clear BK267; clear HB; have BK263 := n0_; have BK267 := n1_; have HB := n2_; clear n0_ n1_ n2_; (try clear hb); (try clear hb2); (try clear hk); (try clear hi); have hcz39_0 : w38.cell? ⟨gb263, 0, none⟩ = some (.slice A0_0 l0_0.length c0_0) := (blk_cell BK263.out 0).trans rfl; have hcz39_1 : w38.cell? ⟨gb263, 1, none⟩ = some (.slice (some ad266) l0_1.length c0_1) := (blk_cell BK263.out 1).trans rfl; have hfz39_0 := blk_frozen BK263.out 0; have hfz39_1 := blk_frozen BK263.out 1; have hcz40_0 : w38.cell? ⟨gb267, 0, none⟩ = some (.int .i64 ((rd_T40 l0_1 x4_3).f0)) := (blk_cell BK267.out 0).trans rfl; have hcz40_1 : w38.cell? ⟨gb267, 1, none⟩ = some (.int .i64 ((rd_T40 l0_1 x4_3).f1)) := (blk_cell BK267.out 1).trans rfl; have hfz40_0 := blk_frozen BK267.out 0; have hfz40_1 := blk_frozen BK267.out 1) | (go_at_call 47; (with_reducible refine (trefoilref04_node.calls _ _ l0_0 _ _ l0_1 ((rd_T40 l0_1 x4_3).f1) false _ ?side1 ?side2 ?side3 ?side4 A25.out).mono ?_); (case side1 => repeat (first | exact (Kd.C_below HR0_0.out HB.out) | (with_reducible refine Kd.C_alloc ?_ _) | (with_reducible refine Kd.C_drewN ?_ _) | (with_reducible refine Kd.C_drew ?_))); (case side2 => exact HC0_0.out); (case side3 => repeat (first | exact (Kd.C_below HR0_1.out HB.out) | (with_reducible refine Kd.C_alloc ?_ _) | (with_reducible refine Kd.C_drewN ?_ _) | (with_reducible refine Kd.C_drew ?_))); (case side4 => exact HC0_1.out); rintro e w41 ⟨rfl, hb⟩; have n0_ := Aside0.mk (blk_below (g := gb263) (o := .cells #[.slice A0_0 l0_0.length c0_0, .slice (some ad266) l0_1.length c0_1] 25 (0, 0)) (by (with_reducible repeat (first | refine blk_drewN ?_ _ | refine blk_drew ?_ | refine blk_alloc ?_ _)); exact BK263.out) hb); have n1_ := Aside0.mk (blk_below (g := gb267) (o := .cells #[.int .i64 ((rd_T40 l0_1 x4_3).f0), .int .i64 ((rd_T40 l0_1 x4_3).f1)] 40 (0, 0)) (by (with_reducible repeat (first | refine blk_drewN ?_ _ | refine blk_drew ?_ | refine blk_alloc ?_ _)); exact BK267.out) hb); have n2_ := Aside0.mk (below_step (by repeat (first | (with_reducible first | exact HB.out | apply below_alloc | apply pw_below_drewN | apply below_drew1 | refine below_set ?_ GE263.out | refine below_set ?_ GE267.out) | exact HB.out)) hb); clear BK263; clear BK267; clear HB; have BK263 := n0_; have BK267 := n1_; have HB := n2_; clear n0_ n1_ n2_; (try clear hb); (try clear hb2); (try clear hk); (try clear hi))))
                            go_meet
                            case rel => exact ⟨_, (true), (by first | rfl | (simp; done) | (simp [*]; done)), H', ⟨by have := HJ1.out; have := HK2.out; have := HK3.out; first | omega | exact Nat.le_refl _⟩, ⟨by (with_reducible repeat (first | refine blk_drewN ?_ _ | refine blk_drew ?_ | refine blk_alloc ?_ _)); exact BK263.out⟩, ⟨by (with_reducible repeat (first | refine blk_drewN ?_ _ | refine blk_drew ?_ | refine blk_alloc ?_ _)); exact BK267.out⟩, ⟨by repeat (first | (with_reducible first | exact HB.out | apply below_alloc | apply pw_below_drewN | apply below_drew1 | refine below_set ?_ GE263.out | refine below_set ?_ GE267.out) | exact HB.out)⟩⟩
                        · replace c24 := Bool.eq_false_iff.mpr c24
                          subst c24
                          have H1 : (trefoilref04_Plain.j3 k3 x4_3 true l0_0 l0_1 ((rd_T40 l0_1 x4_3).f0) ((rd_T40 l0_1 x4_3).f1)) = some r := by rw [if_neg (show ¬ (false = true) by decide)] at H; exact H
                          clear H
                          have H := H1
                          clear H1
                          have H' := Aside0.mk H
                          clear H
                          have hnb42 := NB263_267.out
                          have hnc42 := NB267_263.out
                          have hcz43_0 : w20.cell? ⟨gb263, 0, none⟩ = some (.slice A0_0 l0_0.length c0_0) := (blk_cell BK263.out 0).trans rfl
                          have hcz43_1 : w20.cell? ⟨gb263, 1, none⟩ = some (.slice (some ad266) l0_1.length c0_1) := (blk_cell BK263.out 1).trans rfl
                          have hfz43_0 := blk_frozen BK263.out 0
                          have hfz43_1 := blk_frozen BK263.out 1
                          have hcz44_0 : w20.cell? ⟨gb267, 0, none⟩ = some (.int .i64 0) := (blk_cell BK267.out 0).trans rfl
                          have hcz44_1 : w20.cell? ⟨gb267, 1, none⟩ = some (.int .i64 0) := (blk_cell BK267.out 1).trans rfl
                          have hfz44_0 := blk_frozen BK267.out 0
                          have hfz44_1 := blk_frozen BK267.out 1
                          go_wp2_with (first | (go_at_call 47; (with_reducible refine (trefoilref04_node.calls _ _ l0_0 _ _ l0_1 ((rd_T40 l0_1 x4_3).f0) false _ ?side1 ?side2 ?side3 ?side4 A23.out).mono ?_); (case side1 => exact Kd.C_below HR0_0.out (by repeat (first | (with_reducible first | exact HB.out | apply below_alloc | apply pw_below_drewN | apply below_drew1 | refine below_set ?_ GE263.out | refine below_set ?_ GE267.out) | exact HB.out))); (case side2 => exact HC0_0.out); (case side3 => exact Kd.C_below HR0_1.out (by repeat (first | (with_reducible first | exact HB.out | apply below_alloc | apply pw_below_drewN | apply below_drew1 | refine below_set ?_ GE263.out | refine below_set ?_ GE267.out) | exact HB.out))); (case side4 => exact HC0_1.out); rintro e w45 ⟨rfl, hb⟩; have n0_ := Aside0.mk (blk_below (g := gb263) (o := .cells #[.slice A0_0 l0_0.length c0_0, .slice (some ad266) l0_1.length c0_1] 25 (0, 0)) (by (with_reducible repeat (first | refine blk_drewN ?_ _ | refine blk_drew ?_ | refine blk_alloc ?_ _)); refine blk_far ?_ NB263_267.out _; (with_reducible repeat (first | refine blk_drewN ?_ _ | refine blk_drew ?_ | refine blk_alloc ?_ _)); refine blk_far ?_ NB263_267.out _; (with_reducible repeat (first | refine blk_drewN ?_ _ | refine blk_drew ?_ | refine blk_alloc ?_ _)); exact BK263.out) hb); have n1_ := Aside0.mk (blk_below (g := gb267) (o := .cells #[.int .i64 ((rd_T40 l0_1 x4_3).f0), .int .i64 ((rd_T40 l0_1 x4_3).f1)] 40 (0, 0)) (by (with_reducible repeat (first | refine blk_drewN ?_ _ | refine blk_drew ?_ | refine blk_alloc ?_ _)); refine blk_put (cs := #[.int .i64 ((rd_T40 l0_1 x4_3).f0), .int .i64 0]) ?_ 1 _ rfl; (with_reducible repeat (first | refine blk_drewN ?_ _ | refine blk_drew ?_ | refine blk_alloc ?_ _)); refine blk_put (cs := #[.int .i64 0, .int .i64 0]) ?_ 0 _ rfl; (with_reducible repeat (first | refine blk_drewN ?_ _ | refine blk_drew ?_ | refine blk_alloc ?_ _)); exact BK267.out) hb); have n2_ := Aside0.mk (below_step (by repeat (first | (with_reducible first | exact HB.out | apply below_alloc | apply pw_below_drewN | apply below_drew1 | refine below_set ?_ GE263.out | refine below_set ?_ GE267.out) | exact HB.out)) hb); clear BK263; clear BK267; clear HB; have BK263 := n0_; have BK267 := n1_; have HB := n2_; clear n0_ n1_ n2_; (try clear hb); (try clear hb2); (try clear hk); (try clear hi)))
                          repeat (go_quiet (first | (go_at_call 47; (with_reducible refine (trefoilref04_node.calls _ _ l0_0 _ _ l0_1 ((rd_T40 l0_1 x4_3).f0) false _ ?side1 ?side2 ?side3 ?side4 A23.out).mono ?_); (case side1 => exact Kd.C_below HR0_0.out (by repeat (first | (with_reducible first | exact HB.out | apply below_alloc | apply pw_below_drewN | apply below_drew1 | refine below_set ?_ GE263.out | refine below_set ?_ GE267.out) | exact HB.out))); (case side2 => exact HC0_0.out); (case side3 => exact Kd.C_below HR0_1.out (by repeat (first | (with_reducible first | exact HB.out | apply below_alloc | apply pw_below_drewN | apply below_drew1 | refine below_set ?_ GE263.out | refine below_set ?_ GE267.out) | exact HB.out))); (case side4 => exact HC0_1.out); rintro e w45 ⟨rfl, hb⟩; have n0_ := Aside0.mk (blk_below (g := gb263) (o := .cells #[.slice A0_0 l0_0.length c0_0, .slice (some ad266) l0_1.length c0_1] 25 (0, 0)) (by (with_reducible repeat (first | refine blk_drewN ?_ _ | refine blk_drew ?_ | refine blk_alloc ?_ _)); refine blk_far ?_ NB263_267.out _; (with_reducible repeat (first | refine blk_drewN ?_ _ | refine blk_drew ?_ | refine blk_alloc ?_ _)); refine blk_far ?_ NB263_267.out _; (with_reducible repeat (first | refine blk_drewN ?_ _ | refine blk_drew ?_ | refine blk_alloc ?_ _)); exact BK263.out) hb); have n1_ := Aside0.mk (blk_below (g := gb267) (o := .cells #[.int .i64 ((rd_T40 l0_1 x4_3).f0), .int .i64 ((rd_T40 l0_1 x4_3).f1)] 40 (0, 0)) (by (with_reducible repeat (first | refine blk_drewN ?_ _ | refine blk_drew ?_ | refine blk_alloc ?_ _)); refine blk_put (cs := #[.int .i64 ((rd_T40 l0_1 x4_3).f0), .int .i64 0]) ?_ 1 _ rfl; (with_reducible repeat (first | refine blk_drewN ?_ _ | refine blk_drew ?_ | refine blk_alloc ?_ _)); refine blk_put (cs := #[.int .i64 0, .int .i64 0]) ?_ 0 _ rfl; (with_reducible repeat (first | refine blk_drewN ?_ _ | refine blk_drew ?_ | refine blk_alloc ?_ _)); exact BK267.out) hb); have n2_ := Aside0.mk (below_step (by repeat (first | (with_reducible first | exact HB.out | apply below_alloc | apply pw_below_drewN | apply below_drew1 | refine below_set ?_ GE263.out | refine below_set ?_ GE267.out) | exact HB.out)) hb); clear BK263; clear BK267; clear HB; have BK263 := n0_; have BK267 := n1_; have HB := n2_; clear n0_ n1_ n2_; (try clear hb); (try clear hb2); (try clear hk); (try clear hi))); try go_wp2_with (first | (go_at_call 47; (with_reducible refine (trefoilref04_node.calls _ _ l0_0 _ _ l0_1 ((rd_T40 l0_1 x4_3).f0) false _ ?side1 ?side2 ?side3 ?side4 A23.out).mono ?_); (case side1 => exact Kd.C_below HR0_0.out (by repeat (first | (with_reducible first | exact HB.out | apply below_alloc | apply pw_below_drewN | apply below_drew1 | refine below_set ?_ GE263.out | refine below_set ?_ GE267.out) | exact HB.out))); (case side2 => exact HC0_0.out); (case side3 => exact Kd.C_below HR0_1.out (by repeat (first | (with_reducible first | exact HB.out | apply below_alloc | apply pw_below_drewN | apply below_drew1 | refine below_set ?_ GE263.out | refine below_set ?_ GE267.out) | exact HB.out))); (case side4 => exact HC0_1.out); rintro e w45 ⟨rfl, hb⟩; have n0_ := Aside0.mk (blk_below (g := gb263) (o := .cells #[.slice A0_0 l0_0.length c0_0, .slice (some ad266) l0_1.length c0_1] 25 (0, 0)) (by (with_reducible repeat (first | refine blk_drewN ?_ _ | refine blk_drew ?_ | refine blk_alloc ?_ _)); refine blk_far ?_ NB263_267.out _; (with_reducible repeat (first | refine blk_drewN ?_ _ | refine blk_drew ?_ | refine blk_alloc ?_ _)); refine blk_far ?_ NB263_267.out _; (with_reducible repeat (first | refine blk_drewN ?_ _ | refine blk_drew ?_ | refine blk_alloc ?_ _)); exact BK263.out) hb); have n1_ := Aside0.mk (blk_below (g := gb267) (o := .cells #[.int .i64 ((rd_T40 l0_1 x4_3).f0), .int .i64 ((rd_T40 l0_1 x4_3).f1)] 40 (0, 0)) (by (with_reducible repeat (first | refine blk_drewN ?_ _ | refine blk_drew ?_ | refine blk_alloc ?_ _)); refine blk_put (cs := #[.int .i64 ((rd_T40 l0_1 x4_3).f0), .int .i64 0]) ?_ 1 _ rfl; (with_reducible repeat (first | refine blk_drewN ?_ _ | refine blk_drew ?_ | refine blk_alloc ?_ _)); refine blk_put (cs := #[.int .i64 0, .int .i64 0]) ?_ 0 _ rfl; (with_reducible repeat (first | refine blk_drewN ?_ _ | refine blk_drew ?_ | refine blk_alloc ?_ _)); exact BK267.out) hb); have n2_ := Aside0.mk (below_step (by repeat (first | (with_reducible first | exact HB.out | apply below_alloc | apply pw_below_drewN | apply below_drew1 | refine below_set ?_ GE263.out | refine below_set ?_ GE267.out) | exact HB.out)) hb); clear BK263; clear BK267; clear HB; have BK263 := n0_; have BK267 := n1_; have HB := n2_; clear n0_ n1_ n2_; (try clear hb); (try clear hb2); (try clear hk); (try clear hi))))
                          go_meet
                          case rel => exact ⟨_, (true), (by first | rfl | (simp; done) | (simp [*]; done)), H', ⟨by have := HJ1.out; have := HK2.out; have := HK3.out; first | omega | exact Nat.le_refl _⟩, ⟨by (with_reducible repeat (first | refine blk_drewN ?_ _ | refine blk_drew ?_ | refine blk_alloc ?_ _)); exact BK263.out⟩, ⟨by (with_reducible repeat (first | refine blk_drewN ?_ _ | refine blk_drew ?_ | refine blk_alloc ?_ _)); exact BK267.out⟩, ⟨by repeat (first | (with_reducible first | exact HB.out | apply below_alloc | apply pw_below_drewN | apply below_drew1 | refine below_set ?_ GE263.out | refine below_set ?_ GE267.out) | exact HB.out)⟩⟩
                      case rest =>
                        clear HC18
                        try clear c1
                        try clear c2
                        try clear p2
                        try clear q2
                        try clear hx2
                        try clear c3
                        try clear c4
                        try clear c4b0
                        try clear c4b1
                        try clear p6
                        try clear c7
                        try clear c8
                        try clear c8b0
                        try clear c9
                        try clear c9b0
                        try clear c10
                        try clear c10b0
                        try clear c12
                        try clear c12b0
                        try clear c16
                        try clear c16b0
                        try clear c17
                        try clear c17b0
                        try clear c21
                        try clear c24
                        try clear c26
                        try clear p26
                        try clear q26
                        try clear hx26
                        try clear c27
                        try clear c35
                        try clear c36
                        try clear c42
                        try clear hcz11_0
                        try clear hcz11_1
                        try clear hcz13_0
                        try clear hcz13_1
                        try clear hcz14_0
                        try clear hcz14_1
                        try clear hcz15_0
                        try clear hcz15_1
                        try clear hcz19_0
                        try clear hcz19_1
                        try clear hcz22_0
                        try clear hcz22_1
                        try clear hcz28_0
                        try clear hcz28_1
                        try clear hcz29_0
                        try clear hcz29_1
                        try clear hcz31_0
                        try clear hcz31_1
                        try clear hcz32_0
                        try clear hcz32_1
                        try clear hcz34_0
                        try clear hcz34_1
                        try clear hcz36_0
                        try clear hcz36_1
                        try clear hcz37_0
                        try clear hcz37_1
                        try clear hcz39_0
                        try clear hcz39_1
                        try clear hcz40_0
                        try clear hcz40_1
                        try clear hcz43_0
                        try clear hcz43_1
                        try clear hcz44_0
                        try clear hcz44_1
                        try clear hcz5_0
                        try clear hcz5_1
                        try clear hcz6_0
                        try clear hcz6_1
                        try clear hfz11_0
                        try clear hfz11_1
                        try clear hfz13_0
                        try clear hfz13_1
                        try clear hfz14_0
                        try clear hfz14_1
                        try clear hfz15_0
                        try clear hfz15_1
                        try clear hfz19_0
                        try clear hfz19_1
                        try clear hfz22_0
                        try clear hfz22_1
                        try clear hfz28_0
                        try clear hfz28_1
                        try clear hfz29_0
                        try clear hfz29_1
                        try clear hfz31_0
                        try clear hfz31_1
                        try clear hfz32_0
                        try clear hfz32_1
                        try clear hfz34_0
                        try clear hfz34_1
                        try clear hfz36_0
                        try clear hfz36_1
                        try clear hfz37_0
                        try clear hfz37_1
                        try clear hfz39_0
                        try clear hfz39_1
                        try clear hfz40_0
                        try clear hfz40_1
                        try clear hfz43_0
                        try clear hfz43_1
                        try clear hfz44_0
                        try clear hfz44_1
                        try clear hfz5_0
                        try clear hfz5_1
                        try clear hfz6_0
                        try clear hfz6_1
                        try clear hx264_0
                        try clear hx265_0
                        try clear hx266_0
                        try clear hx266_1
                        try clear p2
                        try clear p264
                        try clear p265
                        try clear p266
                        try clear p6
                        try clear q2
                        try clear q264
                        try clear q265
                        try clear q266
                        obtain ⟨kq, x68_17, rfl, HA, HJ17, BK263, BK267, HB⟩ := hcut
                        cases kq with
                        | zero => exact absurd HA.out (by simp [trefoilref04_Plain.j3])
                        | succ kj17 =>
                          have H := HA.out
                          clear HA
                          simp only [trefoilref04_Plain.j3] at H
                          by_cases c46 : x68_17 = true
                          · subst c46
                            have H1 : (some 42) = some r := by rw [if_pos rfl] at H; exact H
                            clear H
                            have H := H1
                            clear H1
                            obtain rfl := Option.some.inj H
                            go_wp2
                            repeat (go_quiet (fail); try go_wp2)
                            go_ret
                            exact ⟨by first | rfl | (simp [errW_none, errW_some] <;> rfl) | (simp [*, errW_none, errW_some] <;> rfl), by repeat (first | (with_reducible first | exact HB.out | apply below_alloc | apply pw_below_drewN | apply below_drew1 | refine below_set ?_ GE263.out | refine below_set ?_ GE267.out) | exact HB.out)⟩
                          · replace c46 := Bool.eq_false_iff.mpr c46
                            subst c46
                            have H1 : (trefoilref04_Plain.l2 kj17 x4_3 0 l0_0 l0_1 ((rd_T40 l0_1 x4_3).f0) ((rd_T40 l0_1 x4_3).f1)) = some r := by rw [if_neg (show ¬ (false = true) by decide)] at H; exact H
                            clear H
                            have H := H1
                            clear H1
                            have H' := Aside0.mk H
                            clear H
                            go_wp2
                            repeat (go_quiet (fail); try go_wp2)
                            go_loopg [6] kj17 (fun kq v6 w' => ∃ (x6_5 : Int), v6 = .int .i64 x6_5 ∧ Aside0 (trefoilref04_Plain.l2 kq x4_3 x6_5 l0_0 l0_1 ((rd_T40 l0_1 x4_3).f0) ((rd_T40 l0_1 x4_3).f1) = some r) ∧ Aside0 (kq ≤ kj17) ∧ Aside0 (w'.heap[gb263]? = some (.cells #[(.slice A0_0 l0_0.length c0_0), (.slice (some ad266) l0_1.length c0_1)] 25 (0, 0))) ∧ Aside0 (w'.heap[gb267]? = some (.cells #[.int .i64 ((rd_T40 l0_1 x4_3).f0), .int .i64 ((rd_T40 l0_1 x4_3).f1)] 40 (0, 0))) ∧ Aside0 (Below w.heap.size w w'))
                            case atStart => exact ⟨(0), (by first | rfl | (simp; done) | (simp [*]; done)), H', ⟨Nat.le_refl _⟩, ⟨by (with_reducible repeat (first | refine blk_drewN ?_ _ | refine blk_drew ?_ | refine blk_alloc ?_ _)); exact BK263.out⟩, ⟨by (with_reducible repeat (first | refine blk_drewN ?_ _ | refine blk_drew ?_ | refine blk_alloc ?_ _)); exact BK267.out⟩, ⟨by repeat (first | (with_reducible first | exact HB.out | apply below_alloc | apply pw_below_drewN | apply below_drew1 | refine below_set ?_ GE263.out | refine below_set ?_ GE267.out) | exact HB.out)⟩⟩
                            case round =>
                              clear H'
                              try clear c1
                              try clear c2
                              try clear p2
                              try clear q2
                              try clear hx2
                              try clear c3
                              try clear c4
                              try clear c4b0
                              try clear c4b1
                              try clear p6
                              try clear c7
                              try clear c8
                              try clear c8b0
                              try clear c9
                              try clear c9b0
                              try clear c10
                              try clear c10b0
                              try clear c12
                              try clear c12b0
                              try clear c16
                              try clear c16b0
                              try clear c17
                              try clear c17b0
                              try clear c21
                              try clear c24
                              try clear c26
                              try clear p26
                              try clear q26
                              try clear hx26
                              try clear c27
                              try clear c35
                              try clear c36
                              try clear c42
                              try clear c46
                              try clear hcz11_0
                              try clear hcz11_1
                              try clear hcz13_0
                              try clear hcz13_1
                              try clear hcz14_0
                              try clear hcz14_1
                              try clear hcz15_0
                              try clear hcz15_1
                              try clear hcz19_0
                              try clear hcz19_1
                              try clear hcz22_0
                              try clear hcz22_1
                              try clear hcz28_0
                              try clear hcz28_1
                              try clear hcz29_0
                              try clear hcz29_1
                              try clear hcz31_0
                              try clear hcz31_1
                              try clear hcz32_0
                              try clear hcz32_1
                              try clear hcz34_0
                              try clear hcz34_1
                              try clear hcz36_0
                              try clear hcz36_1
                              try clear hcz37_0
                              try clear hcz37_1
                              try clear hcz39_0
                              try clear hcz39_1
                              try clear hcz40_0
                              try clear hcz40_1
                              try clear hcz43_0
                              try clear hcz43_1
                              try clear hcz44_0
                              try clear hcz44_1
                              try clear hcz5_0
                              try clear hcz5_1
                              try clear hcz6_0
                              try clear hcz6_1
                              try clear hfz11_0
                              try clear hfz11_1
                              try clear hfz13_0
                              try clear hfz13_1
                              try clear hfz14_0
                              try clear hfz14_1
                              try clear hfz15_0
                              try clear hfz15_1
                              try clear hfz19_0
                              try clear hfz19_1
                              try clear hfz22_0
                              try clear hfz22_1
                              try clear hfz28_0
                              try clear hfz28_1
                              try clear hfz29_0
                              try clear hfz29_1
                              try clear hfz31_0
                              try clear hfz31_1
                              try clear hfz32_0
                              try clear hfz32_1
                              try clear hfz34_0
                              try clear hfz34_1
                              try clear hfz36_0
                              try clear hfz36_1
                              try clear hfz37_0
                              try clear hfz37_1
                              try clear hfz39_0
                              try clear hfz39_1
                              try clear hfz40_0
                              try clear hfz40_1
                              try clear hfz43_0
                              try clear hfz43_1
                              try clear hfz44_0
                              try clear hfz44_1
                              try clear hfz5_0
                              try clear hfz5_1
                              try clear hfz6_0
                              try clear hfz6_1
                              try clear hx264_0
                              try clear hx265_0
                              try clear hx266_0
                              try clear hx266_1
                              try clear p2
                              try clear p26
                              try clear p264
                              try clear p265
                              try clear p266
                              try clear p6
                              try clear q2
                              try clear q26
                              try clear q264
                              try clear q265
                              try clear q266
                              obtain ⟨x6_5, rfl, HA, HK5, BK263, BK267, HB⟩ := hrel
                              cases gk with
                              | zero => exact absurd HA.out (by simp [trefoilref04_Plain.l2])
                              | succ k5 =>
                                have H := HA.out
                                clear HA
                                simp only [trefoilref04_Plain.l2] at H
                                by_cases c47 : x6_5 < x4_3
                                · rw [if_pos c47] at H
                                  have c47b0 : decide (x6_5 < x4_3) = true := decide_eq_true c47
                                  clear c47
                                  by_cases c48 : 0 ≤ x6_5
                                  · rw [if_pos c48] at H
                                    have c48b0 : decide (0 ≤ x6_5) = true := decide_eq_true c48
                                    clear c48
                                    by_cases c49 : x6_5 < (l0_1.length : Int)
                                    · rw [if_pos c49] at H
                                      have c49b0 : decide (x6_5 < (l0_1.length : Int)) = true := decide_eq_true c49
                                      clear c49
                                      by_cases c50 : (((rd_T40 l0_1 x6_5).f0) == ((rd_T40 l0_1 x4_3).f0) && (((rd_T40 l0_1 x6_5).f1) == ((rd_T40 l0_1 x4_3).f1))) = true
                                      · rw [if_pos c50] at H
                                        have c50b0 : (((rd_T40 l0_1 x6_5).f0) == ((rd_T40 l0_1 x4_3).f0) && (((rd_T40 l0_1 x6_5).f1) == ((rd_T40 l0_1 x4_3).f1))) = true := c50
                                        (try (have c50b1 : decide (((rd_T40 l0_1 x6_5).f0) = ((rd_T40 l0_1 x4_3).f0) && (((rd_T40 l0_1 x6_5).f1) == ((rd_T40 l0_1 x4_3).f1))) = true := by simpa using c50))
                                        (try (have c50b2 : (((rd_T40 l0_1 x6_5).f0) == ((rd_T40 l0_1 x4_3).f0) && (((rd_T40 l0_1 x6_5).f1) == ((rd_T40 l0_1 x4_3).f1))) = true := by simpa using c50))
                                        clear c50
                                        obtain rfl := Option.some.inj H
                                        have hnb51 := NB263_267.out
                                        have hnc51 := NB267_263.out
                                        have hcz52_0 : wr.cell? ⟨gb263, 0, none⟩ = some (.slice A0_0 l0_0.length c0_0) := (blk_cell BK263.out 0).trans rfl
                                        have hcz52_1 : wr.cell? ⟨gb263, 1, none⟩ = some (.slice (some ad266) l0_1.length c0_1) := (blk_cell BK263.out 1).trans rfl
                                        have hfz52_0 := blk_frozen BK263.out 0
                                        have hfz52_1 := blk_frozen BK263.out 1
                                        have p270 : 0 ≤ (x6_5 : Int) := of_decide_eq_true (by first | (with_reducible assumption) | assumption)
                                        have q270 : x6_5 < (l0_1.length : Int) := of_decide_eq_true (by first | (with_reducible assumption) | assumption)
                                        obtain ⟨ad270, e270, hx270_0, hx270_1⟩ := at_T40 HR0_1.out x6_5 p270 q270
                                        obtain rfl : ad266 = ad270 := (by injection e270)
                                        replace hx270_0 := (HB.out.cell (World.block_lt_of_cell? w _ hx270_0)).trans hx270_0
                                        replace hx270_1 := (HB.out.cell (World.block_lt_of_cell? w _ hx270_1)).trans hx270_1
                                        replace p270 := eq_true p270
                                        replace q270 := eq_true q270
                                        have hcz53_0 : wr.cell? ⟨gb267, 0, none⟩ = some (.int .i64 ((rd_T40 l0_1 x4_3).f0)) := (blk_cell BK267.out 0).trans rfl
                                        have hcz53_1 : wr.cell? ⟨gb267, 1, none⟩ = some (.int .i64 ((rd_T40 l0_1 x4_3).f1)) := (blk_cell BK267.out 1).trans rfl
                                        have hfz53_0 := blk_frozen BK267.out 0
                                        have hfz53_1 := blk_frozen BK267.out 1
                                        go_wp2
                                        repeat (go_quiet (fail); try go_wp2)
                                        go_ret
                                        exact ⟨by first | rfl | (simp [errW_none, errW_some] <;> rfl) | (simp [*, errW_none, errW_some] <;> rfl), by repeat (first | (with_reducible first | exact HB.out | apply below_alloc | apply pw_below_drewN | apply below_drew1 | refine below_set ?_ GE263.out | refine below_set ?_ GE267.out) | exact HB.out)⟩
                                      · rw [if_neg c50] at H
                                        have c50b0 : (((rd_T40 l0_1 x6_5).f0) == ((rd_T40 l0_1 x4_3).f0) && (((rd_T40 l0_1 x6_5).f1) == ((rd_T40 l0_1 x4_3).f1))) = false := by simpa using c50
                                        (try (have c50b1 : decide (((rd_T40 l0_1 x6_5).f0) = ((rd_T40 l0_1 x4_3).f0) && (((rd_T40 l0_1 x6_5).f1) == ((rd_T40 l0_1 x4_3).f1))) = false := by simpa using c50))
                                        (try (have c50b2 : (((rd_T40 l0_1 x6_5).f0) == ((rd_T40 l0_1 x4_3).f0) && (((rd_T40 l0_1 x6_5).f1) == ((rd_T40 l0_1 x4_3).f1))) = false := by simpa using c50))
                                        (try (have c50b3 : ¬ (((rd_T40 l0_1 x6_5).f0) = ((rd_T40 l0_1 x4_3).f0) && (((rd_T40 l0_1 x6_5).f1) == ((rd_T40 l0_1 x4_3).f1))) := by simpa using c50))
                                        clear c50
                                        have H' := Aside0.mk H
                                        clear H
                                        have hnb54 := NB263_267.out
                                        have hnc54 := NB267_263.out
                                        have hcz55_0 : wr.cell? ⟨gb263, 0, none⟩ = some (.slice A0_0 l0_0.length c0_0) := (blk_cell BK263.out 0).trans rfl
                                        have hcz55_1 : wr.cell? ⟨gb263, 1, none⟩ = some (.slice (some ad266) l0_1.length c0_1) := (blk_cell BK263.out 1).trans rfl
                                        have hfz55_0 := blk_frozen BK263.out 0
                                        have hfz55_1 := blk_frozen BK263.out 1
                                        have p270 : 0 ≤ (x6_5 : Int) := of_decide_eq_true (by first | (with_reducible assumption) | assumption)
                                        have q270 : x6_5 < (l0_1.length : Int) := of_decide_eq_true (by first | (with_reducible assumption) | assumption)
                                        obtain ⟨ad270, e270, hx270_0, hx270_1⟩ := at_T40 HR0_1.out x6_5 p270 q270
                                        obtain rfl : ad266 = ad270 := (by injection e270)
                                        replace hx270_0 := (HB.out.cell (World.block_lt_of_cell? w _ hx270_0)).trans hx270_0
                                        replace hx270_1 := (HB.out.cell (World.block_lt_of_cell? w _ hx270_1)).trans hx270_1
                                        replace p270 := eq_true p270
                                        replace q270 := eq_true q270
                                        have hcz56_0 : wr.cell? ⟨gb267, 0, none⟩ = some (.int .i64 ((rd_T40 l0_1 x4_3).f0)) := (blk_cell BK267.out 0).trans rfl
                                        have hcz56_1 : wr.cell? ⟨gb267, 1, none⟩ = some (.int .i64 ((rd_T40 l0_1 x4_3).f1)) := (blk_cell BK267.out 1).trans rfl
                                        have hfz56_0 := blk_frozen BK267.out 0
                                        have hfz56_1 := blk_frozen BK267.out 1
                                        go_wp2
                                        repeat (go_quiet (fail); try go_wp2)
                                        go_roundg k5
                                        case measure => have := HJ1.out; have := HK2.out; have := HK3.out; have := HJ17.out; have := HK5.out; omega
                                        case rel => exact ⟨(wrap64 (x6_5 + 1)), (by first | rfl | (simp; done) | (simp [*]; done)), H', ⟨by have := HJ1.out; have := HK2.out; have := HK3.out; have := HJ17.out; have := HK5.out; omega⟩, ⟨by (with_reducible repeat (first | refine blk_drewN ?_ _ | refine blk_drew ?_ | refine blk_alloc ?_ _)); exact BK263.out⟩, ⟨by (with_reducible repeat (first | refine blk_drewN ?_ _ | refine blk_drew ?_ | refine blk_alloc ?_ _)); exact BK267.out⟩, ⟨by repeat (first | (with_reducible first | exact HB.out | apply below_alloc | apply pw_below_drewN | apply below_drew1 | refine below_set ?_ GE263.out | refine below_set ?_ GE267.out) | exact HB.out)⟩⟩
                                    · rw [if_neg c49] at H
                                      exact absurd H (by simp)
                                  · rw [if_neg c48] at H
                                    exact absurd H (by simp)
                                · rw [if_neg c47] at H
                                  have c47b0 : decide (x6_5 < x4_3) = false := decide_eq_false c47
                                  clear c47
                                  have H' := Aside0.mk H
                                  clear H
                                  go_wp2
                                  repeat (go_quiet (fail); try go_wp2)
                                  go_roundg k5
                                  case measure => have := HJ1.out; have := HK2.out; have := HK3.out; have := HJ17.out; have := HK5.out; omega
                                  case rel => exact ⟨(wrap64 (x4_3 + 1)), (by first | rfl | (simp; done) | (simp [*]; done)), H', ⟨by have := HJ1.out; have := HK2.out; have := HK3.out; have := HJ17.out; have := HK5.out; omega⟩, ⟨by (with_reducible repeat (first | refine blk_drewN ?_ _ | refine blk_drew ?_ | refine blk_alloc ?_ _)); exact BK263.out⟩, ⟨by repeat (first | (with_reducible first | exact HB.out | apply below_alloc | apply pw_below_drewN | apply below_drew1 | refine below_set ?_ GE263.out | refine below_set ?_ GE267.out) | exact HB.out)⟩⟩
                    · rw [if_neg c17] at H
                      exact absurd H (by simp)
                  · rw [if_neg c16] at H
                    have c16b0 : decide (x4_3 < (l0_1.length : Int)) = false := decide_eq_false c16
                    clear c16
                    obtain rfl := Option.some.inj H
                    have hcz57_0 : wr.cell? ⟨gb263, 0, none⟩ = some (.slice A0_0 l0_0.length c0_0) := (blk_cell BK263.out 0).trans rfl
                    have hcz57_1 : wr.cell? ⟨gb263, 1, none⟩ = some (.slice A0_1 l0_1.length c0_1) := (blk_cell BK263.out 1).trans rfl
                    have hfz57_0 := blk_frozen BK263.out 0
                    have hfz57_1 := blk_frozen BK263.out 1
                    go_wp2
                    repeat (go_quiet (fail); try go_wp2)
                    go_ret
                    exact ⟨by first | rfl | (simp [errW_none, errW_some] <;> rfl) | (simp [*, errW_none, errW_some] <;> rfl), by repeat (first | (with_reducible first | exact HB.out | apply below_alloc | apply pw_below_drewN | apply below_drew1 | refine below_set ?_ GE263.out) | exact HB.out)⟩

end Go.Proofs.Ytjkindoedkjnbaa.PDagTells
