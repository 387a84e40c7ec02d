/- Written by a program of this work: each theorem says that a call of the Go function comes to what the Lean function beside it tells, under the conditions that it names; Lean checks it. -/
import Derived.Test.YtmbhjhanafmidaaUSPListStepsx0
import Derived.Test.YtmbhjhanafmidaaUSPListStepsx19
import Derived.Test.YtmbhjhanafmidaaUSZr
import Derived.Test.YtmbhjhanafmidaaUSZq
import Derived.Test.YtmbhjhanafmidaaUSRegFl
namespace Go.Proofs.Ytmbhjhanafmidaa.PListSteps
open Go.Proofs.Ytmbhjhanafmidaa.PAw Go.Proofs.Ytmbhjhanafmidaa.RegInv Go.Proofs.Ytmbhjhanafmidaa.Zr Go.RowKit Go.Proofs.YtmbhjhanafmidaaW.PrintWords Go.Proofs.YtmbhjhanafmidaaW.PrintLast Go.Proofs.YtmbhjhanafmidaaW.PrintMore
attribute [local go_sem] max2_int min2_int max_two min_two max_three min_three max_four min_four   -- for this text's walks alone
set_option linter.unusedVariables false
set_option linter.unusedSimpArgs false
def trefoilref11_Fill.l0 : Nat → Int → List Int → List (S85) → List Int → List Int → Option (List Int × List Int)
 | 0, _, _, _, _, _ => none
 | k + 1, x6, x399000, x399001, x414000, x414001 => if x6 < (x414000.length : Int) then ((trefoilref11_Ready.f k x399000 x399001 x414000 x414001).bind fun t414 => (if 0 ≤ x6 then (if (rd x414000 x6) = (-1) then (if (t414.length : Int) > 0 then (if 0 < (t414.length : Int) then (trefoilref11_Fill.l0 k (wrap64 (x6 + 1)) x399000 x399001 (x414000.set (x6 : Int).toNat (rd t414 0)) x414001) else (none)) else (trefoilref11_Fill.l0 k (wrap64 (x6 + 1)) x399000 x399001 x414000 x414001)) else (trefoilref11_Fill.l0 k (wrap64 (x6 + 1)) x399000 x399001 x414000 x414001)) else (none))) else (some (x414000, x414001))
def trefoilref11_Fill.f (k : Nat) (l0_0 : List Int) (l0_1 : List (S85)) (l1_0 : List Int) (l1_1 : List Int) : Option (List Int × List Int) := (some (([] : List Int) : List Int)).bind fun y401 => (if y401.length + l1_0.length < 17592186044416 then ((some (([] : List Int) : List Int)).bind fun y407 => (if y407.length + l1_1.length < 17592186044416 then (trefoilref11_Fill.l0 k 0 l0_0 l0_1 (y401 ++ l1_0) (y407 ++ l1_1)) else (none))) else (none))
def trefoilref11_Fill.T7 : Bool × List (List Nat × List Nat) := (true, [([], []), ([0], [0]), ([], []), ([], []), ([3], [3]), ([4], [4]), ([1, 2, 0, 1, 2, 3, 4, 5], [1, 2]), ([6, 5, 0, 1, 2, 3, 4, 5], [5, 6])])
def trefoilref11_Fill.B7 : List Nat := [0, 1, 0, 0, 8, 24, 63, 127]
theorem trefoilref11_Fill.tab7 : rtab .any (opsOf Try.f21 7) = trefoilref11_Fill.T7 := by kernel_rfl
theorem trefoilref11_Fill.bits7 : waitsOk trefoilref11_Fill.T7.2 trefoilref11_Fill.B7 = true := by kernel_rfl
set_option maxHeartbeats 8000000 in
set_option maxRecDepth 100000 in
theorem trefoilref11_Fill.calls (k : Nat) (A0_0 : Option Addr) (c0_0 : Nat) (l0_0 : List Int) (A0_1 : Option Addr) (c0_1 : Nat) (l0_1 : List (S85)) (A1_0 : Option Addr) (c1_0 : Nat) (l1_0 : List Int) (A1_1 : Option Addr) (c1_1 : Nat) (l1_1 : List Int) (r1 : List Int) (r2 : List Int) (w : World) (hr0_0 : Kd.C (Kd.int .i64) w A0_0 l0_0.length l0_0) (hc0_0 : l0_0.length ≤ c0_0) (hr0_1 : Kd.C k85 w A0_1 l0_1.length l0_1) (hc0_1 : l0_1.length ≤ c0_1) (hr1_0 : Kd.C (Kd.int .i64) w A1_0 l1_0.length l1_0) (hc1_0 : l1_0.length ≤ c1_0) (hr1_1 : Kd.C (Kd.int .i64) w A1_1 l1_1.length l1_1) (hc1_1 : l1_1.length ≤ c1_1) (h : trefoilref11_Fill.f k l0_0 l0_1 l1_0 l1_1 = some (r1, r2)) :
  Calls Try.prog 21 #[.agg #[.slice A0_0 l0_0.length c0_0, .slice A0_1 l0_1.length c0_1], .agg #[.slice A1_0 l1_0.length c1_0, .slice A1_1 l1_1.length c1_1]] w fun e w' => ∃ v0_ v1_ : Value, e = .returned (.agg #[v0_, v1_]) ∧ Kd.R (Kd.int .i64) 3 w' w.heap.size (fun k_ => some k_ ≠ (v1_ : Value).ownBlock) v0_ r1 ∧ Kd.R (Kd.int .i64) 3 w' w.heap.size (fun k_ => some k_ ≠ (v0_ : Value).ownBlock) v1_ r2 ∧ Below w.heap.size w w' := by
 have hu25 := Try.underlying25
 have hu27 := Try.underlying27
 have HR0_0 := Z0 hr0_0
 have HC0_0 := Z0 hc0_0
 clear hr0_0 hc0_0
 have HR0_1 := Z0 hr0_1
 have HC0_1 := Z0 hc0_1
 clear hr0_1 hc0_1
 have HR1_0 := Z0 hr1_0
 have HC1_0 := Z0 hc1_0
 clear hr1_0 hc1_0
 have HR1_1 := Z0 hr1_1
 have HC1_1 := Z0 hc1_1
 clear hr1_1 hc1_1
 have HB := Z0 (Below.refl w.heap.size w)
 have H : ((some (([] : List Int) : List Int)).bind fun y401 => (if y401.length + l1_0.length < 17592186044416 then ((some (([] : List Int) : List Int)).bind fun y407 => (if y407.length + l1_1.length < 17592186044416 then (trefoilref11_Fill.l0 k 0 l0_0 l0_1 (y401 ++ l1_0) (y407 ++ l1_1)) else (none))) else (none))) = some (r1, r2) := h
 clear h
 obtain ⟨y401, hy401⟩ : ∃ y_ : List Int, y_ = (([] : List Int)) := ⟨_, rfl⟩
 replace H : (if y401.length + l1_0.length < 17592186044416 then ((some (([] : List Int) : List Int)).bind fun y407 => (if y407.length + l1_1.length < 17592186044416 then (trefoilref11_Fill.l0 k 0 l0_0 l0_1 (y401 ++ l1_0) (y407 ++ l1_1)) else (none))) else (none)) = some (r1, r2) := by first | (rw [hy401]; with_reducible exact H) | (have H2_ := (Option.bind_some _ _).symm.trans H; rw [hy401]; with_reducible exact H2_) | (have H2_ := (Option.bind_some _ _).symm.trans H; with_reducible exact H2_) | with_reducible exact H | (rw [hy401]; exact H) | exact H
 have Ny401 := Z0 hy401
 clear hy401
 by_cases c3 : y401.length + l1_0.length < 17592186044416
 rotate_left
 ·rw [if_neg c3] at H
  exact absurd H (by simp)
 rw [if_pos c3] at H
 have LMc3 := Z0 c3
 clear c3
 obtain ⟨y404, hy404⟩ : ∃ y_ : List Int, y_ = (y401 ++ l1_0) := ⟨_, rfl⟩
 replace H : ((some (([] : List Int) : List Int)).bind fun y407 => (if y407.length + l1_1.length < 17592186044416 then (trefoilref11_Fill.l0 k 0 l0_0 l0_1 y404 (y407 ++ l1_1)) else (none))) = some (r1, r2) := by first | (rw [hy404]; with_reducible exact H) | (have H2_ := (Option.bind_some _ _).symm.trans H; rw [hy404]; with_reducible exact H2_) | (have H2_ := (Option.bind_some _ _).symm.trans H; with_reducible exact H2_) | with_reducible exact H | (rw [hy404]; exact H) | exact H
 have Ny404 := Z0 hy404
 clear hy404
 obtain ⟨y407, hy407⟩ : ∃ y_ : List Int, y_ = (([] : List Int)) := ⟨_, rfl⟩
 replace H : (if y407.length + l1_1.length < 17592186044416 then (trefoilref11_Fill.l0 k 0 l0_0 l0_1 y404 (y407 ++ l1_1)) else (none)) = some (r1, r2) := by first | (rw [hy407]; with_reducible exact H) | (have H2_ := (Option.bind_some _ _).symm.trans H; rw [hy407]; with_reducible exact H2_) | (have H2_ := (Option.bind_some _ _).symm.trans H; with_reducible exact H2_) | with_reducible exact H | (rw [hy407]; exact H) | exact H
 have Ny407 := Z0 hy407
 clear hy407
 by_cases c4 : y407.length + l1_1.length < 17592186044416
 rotate_left
 ·rw [if_neg c4] at H
  exact absurd H (by simp)
 rw [if_pos c4] at H
 have LMc4 := Z0 c4
 clear c4
 obtain ⟨y410, hy410⟩ : ∃ y_ : List Int, y_ = (y407 ++ l1_1) := ⟨_, rfl⟩
 replace H : (trefoilref11_Fill.l0 k 0 l0_0 l0_1 y404 y410) = some (r1, r2) := by first | (rw [hy410]; with_reducible exact H) | (have H2_ := (Option.bind_some _ _).symm.trans H; rw [hy410]; with_reducible exact H2_) | (have H2_ := (Option.bind_some _ _).symm.trans H; with_reducible exact H2_) | with_reducible exact H | (rw [hy410]; exact H) | exact H
 have Ny410 := Z0 hy410
 clear hy410
 have H' := Z0 H
 clear H
 go_enter Try.func21, Try.ntmps21
 try go_wp2_with (first | ((with_reducible refine gate_dst (N := 2) rfl ?_); (try (refine gate_guard (by rfl) ?_; dsimp only)); refine zx (N := 2) #[.slice A0_0 l0_0.length c0_0, .slice A0_1 l0_1.length c0_1] 25 ?_; intro gb398 hg w5 hbox hb; have BK398 := Z0 (hbox); have GW398 := Z0 (zh w hg HB); have GE398 := Z0 (zh w hg HB); replace HB := Z0 (below_step (zb HB) hb); clear hb hbox hg) | ((with_reducible refine gate_dst (N := 3) rfl ?_); (try (refine gate_guard (by rfl) ?_; dsimp only)); refine zx (N := 3) #[.slice A1_0 l1_0.length c1_0, .slice A1_1 l1_1.length c1_1] 27 ?_; intro gb399 hg w6 hbox hb; have BK399 := Z0 (hbox); have GW399 := Z0 (zh w hg HB); have GE399 := Z0 (zh w hg HB); replace HB := Z0 (below_step (zb HB) hb); have NB398_399 := Z0 (zl hg BK398); have NB399_398 := Z0 (zu hg BK398); replace BK398 := Z0 (zkb BK398 hb); clear hb hbox hg) | ((with_reducible refine gate_dst (N := 4) rfl ?_); (try (refine gate_guard (by rfl) ?_; dsimp only)); refine zx (N := 4) #[.slice none 0 0, .slice none 0 0] 27 ?_; intro gb400 hg w7 hbox hb; have BK400 := Z0 (hbox); have GW400 := Z0 (zh w hg HB); have GE400 := Z0 (zh w hg HB); replace HB := Z0 (below_step (zb HB) hb); have NB398_400 := Z0 (zl hg BK398); have NB400_398 := Z0 (zu hg BK398); replace BK398 := Z0 (zkb BK398 hb); have NB399_400 := Z0 (zl hg BK399); have NB400_399 := Z0 (zu hg BK399); replace BK399 := Z0 (zkb BK399 hb); clear hb hbox hg))
 have old398 := blk_lt BK398.out
 have old399 := blk_lt BK399.out
 have old400 := blk_lt BK400.out
 refine wp_region_inv (fun l a w' => ∃ (c : Nat → Nat) (g : Nat) (x5 x8 x9 x10 x11 x12 x13 x14 x15 x16 : Value), FlI w w7 gb399 A1_0 c1_0 l1_0 A1_1 c1_1 l1_1 l c g x5 x8 x9 x10 x11 x12 x13 x14 x15 x16 w' ∧ a = ⟨#[.agg #[.slice A0_0 l0_0.length c0_0, .slice A0_1 l0_1.length c0_1], .agg #[.slice A1_0 l1_0.length c1_0, .slice A1_1 l1_1.length c1_1], .pointer (some ⟨gb398, 0, none⟩), .pointer (some ⟨gb399, 0, none⟩), .pointer (some ⟨gb400, 0, none⟩), x5, undef, undef, x8, x9, x10, x11, x12, x13, x14, x15, x16, undef, undef, undef, undef, undef, undef, undef, undef, undef, undef, undef, undef, undef, undef, undef, undef, undef, undef, undef, undef, undef, undef, undef, undef, undef, undef, undef, undef, undef], []⟩) (by kernel_rfl) ?_ ?_ ?_
 · refine ⟨fun _ => 4, 0, undef, undef, undef, undef, undef, undef, undef, undef, undef, undef, ⟨by rw [Array.size_replicate]; rfl, by exact wd (zb HB), ⟨Nat.le_refl _, fun _ _ => rfl⟩, fun _ _ => rfl, fun e => rep_no e, fun e => rep_no e, fun e => rep_no e, fun e => rep_no e, fun e => rep_no e, fun e => rep_no e, fun e => rep_no e, fun e => rep_no e, fun e => rep_no e, fun e => rep_no e, fun e => rep_no e, fun e => rep_no e, fun e => rep_no e, fun e => rep_no e, fun e => rep_no e, fun e => rep_no e, fun e => rep_no e, fun e => rep_no e, fun e => rep_no e, fun e => rep_no e⟩, rfl⟩
 · rintro l a w18 ⟨c, g, x5, x8, x9, x10, x11, x12, x13, x14, x15, x16, h, rfl⟩ hr
   have ht := fun i hi => all_listed hr h.sz (by kernel_rfl) i hi
   have ra := h.ra1 (ht 3 (by decide))
   have rb := h.rb1 (ht 7 (by decide))
   have hd := h.d1 (ht 9 (by decide))
   obtain rfl := h.d0 (ht 9 (by decide))
   obtain rfl := h.i8 (ht 8 (by decide))
   obtain rfl := h.i1 (ht 1 (by decide))
   obtain rfl := h.i2 (ht 2 (by decide))
   obtain rfl := h.i5 (ht 5 (by decide))
   obtain rfl := h.i6 (ht 6 (by decide))
   have e1 : y404 = l1_0 := by rw [Ny404.out, Ny401.out, List.nil_append]
   have e2 : y410 = l1_1 := by rw [Ny410.out, Ny407.out, List.nil_append]
   have HO406q : Aside0 (Kd.R (Kd.int .i64) 3 w18 w.heap.size (fun k_ => some k_ ≠ (x15 : Value).ownBlock) x11 y404) := ⟨by rw [e1]; exact rm ra (fun k hk => fun e => absurd (hk.symm.trans (rb.1 k e.symm)) (by decide))⟩
   have HO412q : Aside0 (Kd.R (Kd.int .i64) 3 w18 w.heap.size (fun k_ => some k_ ≠ (x11 : Value).ownBlock) x15 y410) := ⟨by rw [e2]; exact rm rb (fun k hk => fun e => absurd (hk.symm.trans (ra.1 k e.symm)) (by decide))⟩
   replace BK398 : Aside0 (w18.heap[gb398]? = some (.cells #[.slice A0_0 l0_0.length c0_0, .slice A0_1 l0_1.length c0_1] 25 (0, 0))) := ⟨(h.b0.2 _ (blk_lt BK398.out)).trans BK398.out⟩
   replace BK399 : Aside0 (w18.heap[gb399]? = some (.cells #[.slice A1_0 l1_0.length c1_0, .slice A1_1 l1_1.length c1_1] 27 (0, 0))) := ⟨(h.b0.2 _ (blk_lt BK399.out)).trans BK399.out⟩
   replace BK400 : Aside0 (w18.heap[gb400]? = some (.cells #[.slice none 0 0, .slice none 0 0] 27 (0, 0))) := ⟨(h.b0.2 _ (blk_lt BK400.out)).trans BK400.out⟩
   have BK413q : Aside0 (w18.heap[g]? = some (.cells #[x11, x15] 27 (0, 0))) := ⟨h.d3 (ht 10 (by decide))⟩
   have hgw : w.heap.size ≤ g := by have := hd.2.1; have := (below_size (zb HB)); omega
   have GW413q : Aside0 (w.heap.size ≤ g) := ⟨hgw⟩
   have GE413q : Aside0 (w.heap.size ≤ g) := ⟨hgw⟩
   have NB398_413q : Aside0 (gb398 ≠ g) := ⟨by have := old398; have := hd.2.1; omega⟩
   have NB413_398q : Aside0 (g ≠ gb398) := ⟨by have := old398; have := hd.2.1; omega⟩
   have NB399_413q : Aside0 (gb399 ≠ g) := ⟨by have := old399; have := hd.2.1; omega⟩
   have NB413_399q : Aside0 (g ≠ gb399) := ⟨by have := old399; have := hd.2.1; omega⟩
   have NB400_413q : Aside0 (gb400 ≠ g) := ⟨by have := old400; have := hd.2.1; omega⟩
   have NB413_400q : Aside0 (g ≠ gb400) := ⟨by have := old400; have := hd.2.1; omega⟩
   replace HB : Aside0 (Below w.heap.size w w18) := ⟨h.b⟩
   obtain ⟨AoX, coX, eoX⟩ := Kd.R_slice HO406q.out
   obtain ⟨AoY, coY, eoY⟩ := Kd.R_slice HO412q.out
   subst eoX eoY
   clear ra rb hd ht hr h e1 e2 hgw
   have HO406 := HO406q
   have HO412 := HO412q
   have BK413 := BK413q
   have GW413 := GW413q
   have GE413 := GE413q
   have NB398_413 := NB398_413q
   have NB413_398 := NB413_398q
   have NB399_413 := NB399_413q
   have NB413_399 := NB413_399q
   have NB400_413 := NB400_413q
   have NB413_400 := NB413_400q
   clear HO406q HO412q BK413q GW413q GE413q NB398_413q NB413_398q NB399_413q NB413_399q NB400_413q NB413_400q
   try go_wp2
   go_loopg [6] k (fun kq v6 w' => ∃ (x6_1 : Int) (x414000_1 : List Int) (x414001_1 : List Int) (u414000 : Value) (u414001 : Value), v6 = .int .i64 x6_1 ∧ Aside0 (trefoilref11_Fill.l0 kq x6_1 l0_0 l0_1 x414000_1 x414001_1 = some (r1, r2)) ∧ Aside0 (kq ≤ k) ∧ Aside0 (Kd.R (Kd.int .i64) 3 w' w.heap.size (fun k_ => some k_ ≠ (u414001 : Value).ownBlock) u414000 x414000_1) ∧ Aside0 (Kd.R (Kd.int .i64) 3 w' w.heap.size (fun k_ => some k_ ≠ (u414000 : Value).ownBlock) u414001 x414001_1) ∧ Aside0 (w'.heap[gb398]? = some (.cells #[(.slice A0_0 l0_0.length c0_0), (.slice A0_1 l0_1.length c0_1)] 25 (0, 0))) ∧ Aside0 (w'.heap[gb399]? = some (.cells #[(.slice A1_0 l1_0.length c1_0), (.slice A1_1 l1_1.length c1_1)] 27 (0, 0))) ∧ Aside0 (w'.heap[gb400]? = some (.cells #[(.slice none 0 0), (.slice none 0 0)] 27 (0, 0))) ∧ Aside0 (w'.heap[g]? = some (.cells #[u414000, u414001] 27 (0, 0))) ∧ Aside0 (Below w.heap.size w w'))
   case atStart => exact ⟨(0), (y404), (y410), (.slice AoX y404.length coX), (.slice AoY y410.length coY), zs, H', ⟨Nat.le_refl _⟩, ⟨by (with_reducible repeat (first | apply ra | apply rn | apply rd_)); exact HO406.out⟩, ⟨by (with_reducible repeat (first | apply ra | apply rn | apply rd_)); exact HO412.out⟩, ⟨BK398.out⟩, ⟨BK399.out⟩, ⟨BK400.out⟩, ⟨BK413.out⟩, ⟨zb HB⟩⟩
   case round =>
    clear H'
    try clear c1
    try clear p2
    try clear c3
    try clear c4
    obtain ⟨x6_1, x414000_1, x414001_1, u414000, u414001, rfl, HA, HK1, HO_414000, HO_414001, BK398, BK399, BK400, BK413, HB⟩ := hrel
    cases gk with
    | zero => exact absurd HA.out (by simp [trefoilref11_Fill.l0])
    | succ k1 =>
     have H := HA.out
     clear HA
     simp only [trefoilref11_Fill.l0] at H
     by_cases c23 : x6_1 < (x414000_1.length : Int)
     rotate_left
     ·rw [if_neg c23] at H
      have c23b0 : decide (x6_1 < (x414000_1.length : Int)) = false := decide_eq_false c23
      clear c23
      simp only [Option.some.injEq, Prod.mk.injEq] at H
      obtain ⟨rfl, rfl⟩ := H
      have hnb67 := NB413_398.out
      have hnc67 := NB398_413.out
      have hnb68 := NB413_399.out
      have hnc68 := NB399_413.out
      have hnb69 := NB413_400.out
      have hnc69 := NB400_413.out
      have hcz70_0 : wr.cell? ⟨g, 0, none⟩ = some (u414000) := (kc BK413.out 0).trans rfl
      have hcz70_1 : wr.cell? ⟨g, 1, none⟩ = some (u414001) := (kc BK413.out 1).trans rfl
      have hfz70_0 := blk_frozen BK413.out 0
      have hfz70_1 := blk_frozen BK413.out 1
      obtain ⟨Ao71, co71, eo71⟩ := Kd.R_slice HO_414000.out
      subst eo71
      have hnb72 := NB400_398.out
      have hnc72 := NB398_400.out
      have hnb73 := NB400_399.out
      have hnc73 := NB399_400.out
      have hcz74_0 := kz0 BK400
      have hcz74_1 := kz1 BK400
      have hfz74_0 := blk_frozen BK400.out 0
      have hfz74_1 := blk_frozen BK400.out 1
      obtain ⟨Ao75, co75, eo75⟩ := Kd.R_slice HO_414001.out
      subst eo75
      go_wp2
      refine bodyPost_ret (results_cell_row rfl _ _ gb400 27 #[.slice Ao71 x414000_1.length co71, .slice Ao75 x414001_1.length co75] (0, 0) _ rfl (by (with_reducible repeat (first | refine kn ?_ _ | refine kd_ ?_ | refine ka ?_ _)); refine blk_put (cs := #[.slice Ao71 x414000_1.length co71, .slice none 0 0]) ?_ 1 _ rfl; (with_reducible repeat (first | refine kn ?_ _ | refine kd_ ?_ | refine ka ?_ _)); refine blk_put (cs := #[.slice none 0 0, .slice none 0 0]) ?_ 0 _ rfl; (with_reducible repeat (first | refine kn ?_ _ | refine kd_ ?_ | refine ka ?_ _)); exact BK400.out) Try.underlying27 rfl (by kernel_rfl)) rfl ?_
      exact ⟨_, _, ze, by (with_reducible repeat (first | apply ra | apply rn | apply rd_)); exact rm (Kd.R_far (p := ⟨gb400, 1, none⟩) (Kd.R_far (p := ⟨gb400, 0, none⟩) (Kd.R_types HO_414000.out BK400.out (by decide)) (fun _ hk => hk.2) (.slice Ao71 x414000_1.length co71)) (fun _ hk => hk.2) (.slice Ao75 x414001_1.length co75)) (fun _ hk => hk.1), by (with_reducible repeat (first | apply ra | apply rn | apply rd_)); exact rm (Kd.R_far (p := ⟨gb400, 1, none⟩) (Kd.R_far (p := ⟨gb400, 0, none⟩) (Kd.R_types HO_414001.out BK400.out (by decide)) (fun _ hk => hk.2) (.slice Ao71 x414000_1.length co71)) (fun _ hk => hk.2) (.slice Ao75 x414001_1.length co75)) (fun _ hk => hk.1), zb HB⟩
     rw [if_pos c23] at H
     have c23b0 : decide (x6_1 < (x414000_1.length : Int)) = true := decide_eq_true c23
     clear c23
     replace H := Option.bind_eq_some_iff.mp H
     obtain ⟨t414, A240, H⟩ := H
     have A24 := Z0 A240
     clear A240
     by_cases c25 : 0 ≤ x6_1
     rotate_left
     ·rw [if_neg c25] at H
      exact absurd H (by simp)
     rw [if_pos c25] at H
     have c25b0 : decide (0 ≤ x6_1) = true := decide_eq_true c25
     clear c25
     by_cases c26 : (rd x414000_1 x6_1) = (-1)
     rotate_left
     ·rw [if_neg c26] at H
      have c26b0 : ((rd x414000_1 x6_1) == (-1)) = false := beq_eq_false_iff_ne.mpr c26
      have c26b1 : ((rd x414000_1 x6_1) != (-1)) = true := bne_iff_ne.mpr c26
      have H' := Z0 H
      clear H
      have hnb56 := NB413_398.out
      have hnc56 := NB398_413.out
      have hnb57 := NB413_399.out
      have hnc57 := NB399_413.out
      have hnb58 := NB413_400.out
      have hnc58 := NB400_413.out
      have hcz59_0 : wr.cell? ⟨g, 0, none⟩ = some (u414000) := (kc BK413.out 0).trans rfl
      have hcz59_1 : wr.cell? ⟨g, 1, none⟩ = some (u414001) := (kc BK413.out 1).trans rfl
      have hfz59_0 := blk_frozen BK413.out 0
      have hfz59_1 := blk_frozen BK413.out 1
      obtain ⟨Ao60, co60, eo60⟩ := Kd.R_slice HO_414000.out
      subst eo60
      have hnb61 := NB398_399.out
      have hnc61 := NB399_398.out
      have hnb62 := NB398_400.out
      have hnc62 := NB400_398.out
      have hcz63_0 := kz0 BK398
      have hcz63_1 := kz1 BK398
      have hfz63_0 := blk_frozen BK398.out 0
      have hfz63_1 := blk_frozen BK398.out 1
      obtain ⟨Ao64, co64, eo64⟩ := Kd.R_slice HO_414001.out
      subst eo64
      go_wp2_with (first | ((with_reducible refine gate_callee (f := 23) rfl ?_); refine goesL_ (some 26) rfl rfl Try.func23 (by kernel_rfl) rfl #[.agg #[.slice A0_0 l0_0.length c0_0, .slice A0_1 l0_1.length c0_1], .agg #[.slice Ao60 x414000_1.length co60, .slice Ao64 x414001_1.length co64]] rfl (by (try simp only [List.map_toArray, List.map_cons, List.map_nil]); first | done | rfl | (simp only [List.length_drop, List.length_take]; rfl)) ?_; (with_reducible refine (trefoilref11_Ready.calls k1 _ _ l0_0 _ _ l0_1 _ _ x414000_1 _ _ x414001_1 t414 _ ?side1 ?side2 ?side3 ?side4 ?side5 ?side6 ?side7 ?side8 A24.out).mono ?_); (case side1 => exact zc (Kd.C_below HR0_0.out HB.out)); (case side2 => exact HC0_0.out); (case side3 => exact zc (Kd.C_below HR0_1.out HB.out)); (case side4 => exact HC0_1.out); (case side5 => exact zc (rr HO_414000.out).2.2); (case side6 => exact (rr HO_414000.out).2.1); (case side7 => exact zc (rr HO_414001.out).2.2); (case side8 => exact (rr HO_414001.out).2.1); rintro e w65 ⟨v415, rfl, ho0, hb⟩; refine ⟨_, rfl, ?_⟩; have n0_ := Z0 (Kd.R_elder' (zr HO_414000) (rb ho0) hb); have n1_ := Z0 (Kd.R_elder' (zr HO_414001) (rb ho0) hb); have n2_ := Z0 (rl (rw_ (rw_ ho0 (rlt (zr HO_414000))) (rlt (zr HO_414001))) (below_size (zb HB))); have n3_ := Z0 (zkb BK398 hb); have n4_ := Z0 (zkb BK399 hb); have n5_ := Z0 (zkb BK400 hb); have n6_ := Z0 (zkb BK413 hb); have n7_ := Z0 (below_step (zb HB) hb); clear HO_414000; clear HO_414001; clear BK398; clear BK399; clear BK400; clear BK413; clear HB; have HO_414000 := n0_; have HO_414001 := n1_; have HO416 := n2_; have BK398 := n3_; have BK399 := n4_; have BK400 := n5_; have BK413 := n6_; have HB := n7_; clear n0_ n1_ n2_ n3_ n4_ n5_ n6_ n7_; (try clear hb); (try clear hb2); (try clear hk); (try clear hi); (try clear ho0); have hcz66_0 : w65.cell? ⟨g, 0, none⟩ = some (.slice Ao60 x414000_1.length co60) := (kc BK413.out 0).trans rfl; have hcz66_1 : w65.cell? ⟨g, 1, none⟩ = some (.slice Ao64 x414001_1.length co64) := (kc BK413.out 1).trans rfl; have hfz66_0 := blk_frozen BK413.out 0; have hfz66_1 := blk_frozen BK413.out 1; have p417 : 0 ≤ (x6_1 : Int) := od; have q417 : x6_1 < (x414000_1.length : Int) := od; obtain ⟨ad417, e417, hx417_0⟩ := Kd.at_int (rr HO_414000.out).2.2 x6_1 p417 q417; cases e417; replace p417 := eq_true p417; replace q417 := eq_true q417))
      go_roundg k1
      case measure => have := HK1.out; omega
      case rel => exact ⟨(wrap64 (x6_1 + 1)), (x414000_1), (x414001_1), (.slice (some ad417) x414000_1.length co60), (.slice Ao64 x414001_1.length co64), zs, H', ⟨by have := HK1.out; omega⟩, ⟨by (with_reducible repeat (first | apply ra | apply rn | apply rd_)); exact rm HO_414000.out (fun _ hk => hk.1)⟩, ⟨by (with_reducible repeat (first | apply ra | apply rn | apply rd_)); exact rm HO_414001.out (fun _ hk => hk.1)⟩, ⟨zk BK398⟩, ⟨zk BK399⟩, ⟨zk BK400⟩, ⟨zk BK413⟩, ⟨zb HB⟩⟩
     rw [if_pos c26] at H
     have c26b0 : ((rd x414000_1 x6_1) == (-1)) = true := beq_iff_eq.mpr c26
     have c26b1 : ((rd x414000_1 x6_1) != (-1)) = false := bne_eq_false_iff_eq.mpr c26
     clear c26
     by_cases c27 : (t414.length : Int) > 0
     rotate_left
     ·rw [if_neg c27] at H
      have c27b0 : decide (0 < (t414.length : Int)) = false := decide_eq_false c27
      have c27b1 : decide (0 < t414.length) = false := decide_eq_false (by omega)
      clear c27
      have H' := Z0 H
      clear H
      have hnb44 := NB413_398.out
      have hnc44 := NB398_413.out
      have hnb45 := NB413_399.out
      have hnc45 := NB399_413.out
      have hnb46 := NB413_400.out
      have hnc46 := NB400_413.out
      have hcz47_0 : wr.cell? ⟨g, 0, none⟩ = some (u414000) := (kc BK413.out 0).trans rfl
      have hcz47_1 : wr.cell? ⟨g, 1, none⟩ = some (u414001) := (kc BK413.out 1).trans rfl
      have hfz47_0 := blk_frozen BK413.out 0
      have hfz47_1 := blk_frozen BK413.out 1
      obtain ⟨Ao48, co48, eo48⟩ := Kd.R_slice HO_414000.out
      subst eo48
      have hnb49 := NB398_399.out
      have hnc49 := NB399_398.out
      have hnb50 := NB398_400.out
      have hnc50 := NB400_398.out
      have hcz51_0 := kz0 BK398
      have hcz51_1 := kz1 BK398
      have hfz51_0 := blk_frozen BK398.out 0
      have hfz51_1 := blk_frozen BK398.out 1
      obtain ⟨Ao52, co52, eo52⟩ := Kd.R_slice HO_414001.out
      subst eo52
      go_wp2_with (first | ((with_reducible refine gate_callee (f := 23) rfl ?_); refine goesL_ (some 26) rfl rfl Try.func23 (by kernel_rfl) rfl #[.agg #[.slice A0_0 l0_0.length c0_0, .slice A0_1 l0_1.length c0_1], .agg #[.slice Ao48 x414000_1.length co48, .slice Ao52 x414001_1.length co52]] rfl (by (try simp only [List.map_toArray, List.map_cons, List.map_nil]); first | done | rfl | (simp only [List.length_drop, List.length_take]; rfl)) ?_; (with_reducible refine (trefoilref11_Ready.calls k1 _ _ l0_0 _ _ l0_1 _ _ x414000_1 _ _ x414001_1 t414 _ ?side1 ?side2 ?side3 ?side4 ?side5 ?side6 ?side7 ?side8 A24.out).mono ?_); (case side1 => exact zc (Kd.C_below HR0_0.out HB.out)); (case side2 => exact HC0_0.out); (case side3 => exact zc (Kd.C_below HR0_1.out HB.out)); (case side4 => exact HC0_1.out); (case side5 => exact zc (rr HO_414000.out).2.2); (case side6 => exact (rr HO_414000.out).2.1); (case side7 => exact zc (rr HO_414001.out).2.2); (case side8 => exact (rr HO_414001.out).2.1); rintro e w53 ⟨v415, rfl, ho0, hb⟩; refine ⟨_, rfl, ?_⟩; have n0_ := Z0 (Kd.R_elder' (zr HO_414000) (rb ho0) hb); have n1_ := Z0 (Kd.R_elder' (zr HO_414001) (rb ho0) hb); have n2_ := Z0 (rl (rw_ (rw_ ho0 (rlt (zr HO_414000))) (rlt (zr HO_414001))) (below_size (zb HB))); have n3_ := Z0 (zkb BK398 hb); have n4_ := Z0 (zkb BK399 hb); have n5_ := Z0 (zkb BK400 hb); have n6_ := Z0 (zkb BK413 hb); have n7_ := Z0 (below_step (zb HB) hb); clear HO_414000; clear HO_414001; clear BK398; clear BK399; clear BK400; clear BK413; clear HB; have HO_414000 := n0_; have HO_414001 := n1_; have HO416 := n2_; have BK398 := n3_; have BK399 := n4_; have BK400 := n5_; have BK413 := n6_; have HB := n7_; clear n0_ n1_ n2_ n3_ n4_ n5_ n6_ n7_; (try clear hb); (try clear hb2); (try clear hk); (try clear hi); (try clear ho0); have hcz54_0 : w53.cell? ⟨g, 0, none⟩ = some (.slice Ao48 x414000_1.length co48) := (kc BK413.out 0).trans rfl; have hcz54_1 : w53.cell? ⟨g, 1, none⟩ = some (.slice Ao52 x414001_1.length co52) := (kc BK413.out 1).trans rfl; have hfz54_0 := blk_frozen BK413.out 0; have hfz54_1 := blk_frozen BK413.out 1; have p417 : 0 ≤ (x6_1 : Int) := od; have q417 : x6_1 < (x414000_1.length : Int) := od; obtain ⟨ad417, e417, hx417_0⟩ := Kd.at_int (rr HO_414000.out).2.2 x6_1 p417 q417; cases e417; replace p417 := eq_true p417; replace q417 := eq_true q417; obtain ⟨Ao55, co55, eo55⟩ := Kd.R_slice HO416.out; subst eo55))
      go_roundg k1
      case measure => have := HK1.out; omega
      case rel => exact ⟨(wrap64 (x6_1 + 1)), (x414000_1), (x414001_1), (.slice (some ad417) x414000_1.length co48), (.slice Ao52 x414001_1.length co52), zs, H', ⟨by have := HK1.out; omega⟩, ⟨by (with_reducible repeat (first | apply ra | apply rn | apply rd_)); exact rm HO_414000.out (fun _ hk => hk.1)⟩, ⟨by (with_reducible repeat (first | apply ra | apply rn | apply rd_)); exact rm HO_414001.out (fun _ hk => hk.1)⟩, ⟨zk BK398⟩, ⟨zk BK399⟩, ⟨zk BK400⟩, ⟨zk BK413⟩, ⟨zb HB⟩⟩
     rw [if_pos c27] at H
     have c27b0 : decide (0 < (t414.length : Int)) = true := decide_eq_true c27
     have c27b1 : decide (0 < t414.length) = true := decide_eq_true (by omega)
     clear c27
     by_cases c28 : 0 < (t414.length : Int)
     rotate_left
     ·rw [if_neg c28] at H
      exact absurd H (by simp)
     rw [if_pos c28] at H
     have c28b0 : decide (0 < (t414.length : Int)) = true := decide_eq_true c28
     have c28b1 : decide (0 < t414.length) = true := decide_eq_true (by omega)
     clear c28
     obtain ⟨y419, hy419⟩ : ∃ y_ : List Int, y_ = (x414000_1.set (x6_1 : Int).toNat (rd t414 0)) := ⟨_, rfl⟩
     replace H : (trefoilref11_Fill.l0 k1 (wrap64 (x6_1 + 1)) l0_0 l0_1 y419 x414001_1) = some (r1, r2) := by first | (rw [hy419]; with_reducible exact H) | (have H2_ := (Option.bind_some _ _).symm.trans H; rw [hy419]; with_reducible exact H2_) | (have H2_ := (Option.bind_some _ _).symm.trans H; with_reducible exact H2_) | with_reducible exact H | (rw [hy419]; exact H) | exact H
     have Ny419 := Z0 hy419
     clear hy419
     have H' := Z0 H
     clear H
     have hnb30 := NB413_398.out
     have hnc30 := NB398_413.out
     have hnb31 := NB413_399.out
     have hnc31 := NB399_413.out
     have hnb32 := NB413_400.out
     have hnc32 := NB400_413.out
     have hcz33_0 : wr.cell? ⟨g, 0, none⟩ = some (u414000) := (kc BK413.out 0).trans rfl
     have hcz33_1 : wr.cell? ⟨g, 1, none⟩ = some (u414001) := (kc BK413.out 1).trans rfl
     have hfz33_0 := blk_frozen BK413.out 0
     have hfz33_1 := blk_frozen BK413.out 1
     obtain ⟨Ao34, co34, eo34⟩ := Kd.R_slice HO_414000.out
     subst eo34
     have hnb35 := NB398_399.out
     have hnc35 := NB399_398.out
     have hnb36 := NB398_400.out
     have hnc36 := NB400_398.out
     have hcz37_0 := kz0 BK398
     have hcz37_1 := kz1 BK398
     have hfz37_0 := blk_frozen BK398.out 0
     have hfz37_1 := blk_frozen BK398.out 1
     obtain ⟨Ao38, co38, eo38⟩ := Kd.R_slice HO_414001.out
     subst eo38
     try go_wp2_with (first | ((with_reducible refine gate_callee (f := 23) rfl ?_); refine goesL_ (some 26) rfl rfl Try.func23 (by kernel_rfl) rfl #[.agg #[.slice A0_0 l0_0.length c0_0, .slice A0_1 l0_1.length c0_1], .agg #[.slice Ao34 x414000_1.length co34, .slice Ao38 x414001_1.length co38]] rfl (by (try simp only [List.map_toArray, List.map_cons, List.map_nil]); first | done | rfl | (simp only [List.length_drop, List.length_take]; rfl)) ?_; (with_reducible refine (trefoilref11_Ready.calls k1 _ _ l0_0 _ _ l0_1 _ _ x414000_1 _ _ x414001_1 t414 _ ?side1 ?side2 ?side3 ?side4 ?side5 ?side6 ?side7 ?side8 A24.out).mono ?_); (case side1 => exact zc (Kd.C_below HR0_0.out HB.out)); (case side2 => exact HC0_0.out); (case side3 => exact zc (Kd.C_below HR0_1.out HB.out)); (case side4 => exact HC0_1.out); (case side5 => exact zc (rr HO_414000.out).2.2); (case side6 => exact (rr HO_414000.out).2.1); (case side7 => exact zc (rr HO_414001.out).2.2); (case side8 => exact (rr HO_414001.out).2.1); rintro e w39 ⟨v415, rfl, ho0, hb⟩; refine ⟨_, rfl, ?_⟩; have n0_ := Z0 (Kd.R_elder' (zr HO_414000) (rb ho0) hb); have n1_ := Z0 (Kd.R_elder' (zr HO_414001) (rb ho0) hb); have n2_ := Z0 (rl (rw_ (rw_ ho0 (rlt (zr HO_414000))) (rlt (zr HO_414001))) (below_size (zb HB))); have n3_ := Z0 (zkb BK398 hb); have n4_ := Z0 (zkb BK399 hb); have n5_ := Z0 (zkb BK400 hb); have n6_ := Z0 (zkb BK413 hb); have n7_ := Z0 (below_step (zb HB) hb); clear HO_414000; clear HO_414001; clear BK398; clear BK399; clear BK400; clear BK413; clear HB; have HO_414000 := n0_; have HO_414001 := n1_; have HO416 := n2_; have BK398 := n3_; have BK399 := n4_; have BK400 := n5_; have BK413 := n6_; have HB := n7_; clear n0_ n1_ n2_ n3_ n4_ n5_ n6_ n7_; (try clear hb); (try clear hb2); (try clear hk); (try clear hi); (try clear ho0); have hcz40_0 : w39.cell? ⟨g, 0, none⟩ = some (.slice Ao34 x414000_1.length co34) := (kc BK413.out 0).trans rfl; have hcz40_1 : w39.cell? ⟨g, 1, none⟩ = some (.slice Ao38 x414001_1.length co38) := (kc BK413.out 1).trans rfl; have hfz40_0 := blk_frozen BK413.out 0; have hfz40_1 := blk_frozen BK413.out 1; have p417 : 0 ≤ (x6_1 : Int) := od; have q417 : x6_1 < (x414000_1.length : Int) := od; obtain ⟨ad417, e417, hx417_0⟩ := Kd.at_int (rr HO_414000.out).2.2 x6_1 p417 q417; cases e417; replace p417 := eq_true p417; replace q417 := eq_true q417; obtain ⟨Ao41, co41, eo41⟩ := Kd.R_slice HO416.out; subst eo41))
     replace HO_414000 := Z0 (rd_ HO_414000.out)
     replace HO_414001 := Z0 (rd_ HO_414001.out)
     replace HO416 := Z0 (rd_ HO416.out)
     replace BK398 := Z0 (kd_ BK398.out)
     replace BK399 := Z0 (kd_ BK399.out)
     replace BK400 := Z0 (kd_ BK400.out)
     replace BK413 := Z0 (kd_ BK413.out)
     replace HB := Z0 (wd HB.out)
     have p418 : 0 ≤ (0 : Int) := (by omega)
     have q418 : 0 < (t414.length : Int) := od
     obtain ⟨ad418, e418, hx418_0⟩ := Kd.at_int (rr HO416.out).2.2 0 p418 q418
     cases e418
     have qi418 : (0 < t414.length) = True := eq_true (by omega)
     (try rw [show ((0 : Int)).toNat = 0 from rfl] at hx418_0)
     (try rw [Addr.add_zero'] at hx418_0)
     replace p418 := eq_true p418
     replace q418 := eq_true q418
     have p29 : 0 ≤ (x6_1 : Int) := od
     have q29 : (x6_1 : Int) < ((x414000_1.length : Int) : Int) := od
     obtain ⟨go29, co29, eo29, gb29, gl29, cl29, HG29⟩ := Kd.R_form HO_414000.out (by omega)
     (first | cases eo29 | (injection eo29 with ea_ en_ ec_; (first | subst ea_ | (injection ea_ with ea_; subst ea_)); subst ec_; clear en_))
     have GB29 := Z0 gb29
     have GG29 := Z0 HG29
     clear gb29 gl29 HG29
     (first | simp only [add_plain] at hx417_0 | skip)
     obtain ⟨hx29_0, hf29_0⟩ := Kd.R_celln 0 HO_414000.out (x6_1 : Int) p29 q29
     replace p29 := eq_true p29
     replace q29 := eq_true q29
     have HP43 := Kd.R_putn HO_414000.out (x6_1 : Int) (rd t414 0)
     rw [← Ny419.out] at HP43
     have HQ43 := Z0 HP43
     clear HP43
     refine start_ (n := 8) (S := fun w' => w'.cell? ⟨g, 0, none⟩ = some (.slice (some ⟨go29, 0, none⟩) x414000_1.length co34) ∧ w'.cell? ⟨g, 1, none⟩ = some (.slice Ao38 x414001_1.length co38) ∧ w'.cell? ad418 = some (.int .i64 (rd t414 0))) (ds := [7]) (bz 8 0) (by kernel_rfl) rfl rfl ⟨kz0 BK413, kz1 BK413, hx418_0⟩ (fun hHeld => ?_); refine with_tabW trefoilref11_Fill.tab7 trefoilref11_Fill.bits7 (fun HT_ HW_ => ?_)
     generalize w39.drew = w42 at HO_414000 HO_414001 HO416 BK398 BK399 BK400 BK413 HB GG29 HQ43 hf29_0 hx29_0 hx417_0 hx418_0 hHeld ⊢
     refine pu 0 (some 38) (bz 8 1) HT_ ?_
     refine pu 2 (some 40) (bz 8 5) HT_ ?_
     refine pu 3 (some 41) (bz 8 13) HT_ ?_
     refine pu 4 (some 42) (bz 8 29) HT_ ?_
     refine tk3 1 (some 39) (bz 8 31) HT_ HW_ hHeld ?_
     refine tk3 5 (some 43) (bz 8 63) HT_ HW_ hHeld ?_
     refine pu 6 (some 44) (bz 8 127) HT_ ?_
     refine last_ (i := 7) (N := none) (bz 8 255) rfl rfl (one_of HT_.out (by kernel_rfl)) (by decide) (fun K hK => ?_)
     refine skip_ (w1 := ?_) (by rfl) rfl ?_ ?_; rotate_left; go_simp; rfl
     refine hK.out _ _ ?_
     clear hK K
     refine done_ (done_of HT_.out (by kernel_rfl)) ?_
     try go_wp2
     go_roundg k1
     case measure => have := HK1.out; omega
     case rel => exact ⟨(wrap64 (x6_1 + 1)), (y419), (x414001_1), (.slice (some ⟨go29, 0, none⟩) x414000_1.length co34), (.slice Ao38 x414001_1.length co38), zs, H', ⟨by have := HK1.out; omega⟩, ⟨by (with_reducible repeat (first | apply ra | apply rn | apply rd_)); exact rm HQ43.out (fun _ hk => hk.1)⟩, ⟨by (with_reducible repeat (first | apply ra | apply rn | apply rd_)); exact rm (Kd.R_far (p := ⟨go29, (x6_1 : Int).toNat, none⟩) (rm HO_414001.out (fun k_ hk => (⟨hk, fun e_ => hk.1 (by rw [e_]; rfl)⟩ : _ ∧ k_ ≠ go29))) (fun _ hk => hk.2) (.int .i64 (rd t414 0))) (fun _ hk => hk.1.1)⟩, ⟨by (with_reducible repeat (first | refine kn ?_ _ | refine kd_ ?_ | refine ka ?_ _)); refine blk_far ?_ (by have h_ := Kd.R_ne HO_414000.out BK398.out (by decide); intro e_; exact h_ (by rw [e_]; rfl)) _; (with_reducible repeat (first | refine kn ?_ _ | refine kd_ ?_ | refine ka ?_ _)); exact BK398.out⟩, ⟨by (with_reducible repeat (first | refine kn ?_ _ | refine kd_ ?_ | refine ka ?_ _)); refine blk_far ?_ (by have h_ := Kd.R_ne HO_414000.out BK399.out (by decide); intro e_; exact h_ (by rw [e_]; rfl)) _; (with_reducible repeat (first | refine kn ?_ _ | refine kd_ ?_ | refine ka ?_ _)); exact BK399.out⟩, ⟨by (with_reducible repeat (first | refine kn ?_ _ | refine kd_ ?_ | refine ka ?_ _)); refine blk_far ?_ (by have h_ := Kd.R_ne HO_414000.out BK400.out (by decide); intro e_; exact h_ (by rw [e_]; rfl)) _; (with_reducible repeat (first | refine kn ?_ _ | refine kd_ ?_ | refine ka ?_ _)); exact BK400.out⟩, ⟨by (with_reducible repeat (first | refine kn ?_ _ | refine kd_ ?_ | refine ka ?_ _)); refine blk_far ?_ (by have h_ := Kd.R_ne HO_414000.out BK413.out (by decide); intro e_; exact h_ (by rw [e_]; rfl)) _; (with_reducible repeat (first | refine kn ?_ _ | refine kd_ ?_ | refine ka ?_ _)); exact BK413.out⟩, ⟨by repeat (first | (with_reducible first | exact HB.out | apply wa | apply wn | apply wd | refine ws ?_ GB29.out | refine ws ?_ GE398.out | refine ws ?_ GE399.out | refine ws ?_ GE400.out | refine ws ?_ GE413.out) | exact HB.out)⟩⟩
 · rintro l a w1 i ⟨c, g, x5, x8, x9, x10, x11, x12, x13, x14, x15, x16, h, rfl⟩ hm
   have hi : i < 11 := ready_lt hm
   have hn := ready_not hm
   have HC : Hid (w1.heap[gb399]? = some (.cells #[.slice A1_0 l1_0.length c1_0, .slice A1_1 l1_1.length c1_1] 27 (0, 0))) := (h.b0.2 _ (blk_lt BK399.out)).trans BK399.out
   have HBB := Lib.hid h.b
   have HN := Lib.hid hn
   have HM := Lib.hid hm
   have HH := Lib.hid h
   clear hn hm h
   obtain rfl | rfl | rfl | rfl | rfl | rfl | rfl | rfl | rfl | rfl | rfl : i = 0 ∨ i = 1 ∨ i = 2 ∨ i = 3 ∨ i = 4 ∨ i = 5 ∨ i = 6 ∨ i = 7 ∨ i = 8 ∨ i = 9 ∨ i = 10 := by omega
   · refine wp_op (o := _) rfl ?_
     refine Kd.R_lit_step (Kd.int .i64) (w0 := w) w.heap.size 3 rfl (N := 8) rfl (xs := ([] : List Int)) (inner := []) (ok := fun k => paint c w1.heap.size 0 k = 0) (okp := fun _ => False) ?_ (Reps.none _ _) (fun _ hk => hk.elim) (paint_new (Nat.le_refl _)) HBB.out HBB.out.size (by simp) ?_
     · first | (go_simp; done) | (go_simp; rfl)
     intro v w2 ho hb hg_ hnew
     exact ⟨_, g, x5, v, x9, x10, x11, x12, x13, x14, x15, x16, HH.out.s0 HN.out ho hb hg_.size (fun k _ hk => hg_.block k hk (by simp)), by first | rfl | (simp only [Act.put, y0, y1, y2]; done) | (simp only [Act.put, y0, y1, y2]; rfl)⟩
   · refine wp_op (o := _) rfl ?_
     refine event_step (v := ?_) (w1 := w1) rfl ?_ ?_; rotate_left
     · first | (go_simp; with_reducible rfl) | (go_simp; rfl)
     exact ⟨c, g, x5, x8, _, x10, x11, x12, x13, x14, x15, x16, HH.out.s1 HN.out _ rfl, by first | rfl | (simp only [Act.put, y0, y1, y2]; done) | (simp only [Act.put, y0, y1, y2]; rfl)⟩
   · have t1 : l.getD 1 false = true := ready_deps HM.out (o := _) rfl ⟨1, .data⟩ (by simp) rfl
     obtain rfl := HH.out.i1 t1
     have hc : w1.cell? ⟨gb399, 0, none⟩ = some (.slice A1_0 l1_0.length c1_0) := (blk_cell HC.out 0).trans rfl
     refine wp_op (o := _) rfl ?_
     refine event_step (v := ?_) (w1 := w1) rfl ?_ ?_; rotate_left
     · first | (go_simp; with_reducible rfl) | (go_simp; rfl)
     exact ⟨c, g, x5, x8, _, _, x11, x12, x13, x14, x15, x16, HH.out.s2 HN.out _ rfl, by first | rfl | (simp only [Act.put, y0, y1, y2]; done) | (simp only [Act.put, y0, y1, y2]; rfl)⟩
   · have t0 : l.getD 0 false = true := ready_deps HM.out (o := _) rfl ⟨0, .data⟩ (by simp) rfl
     have t2 : l.getD 2 false = true := ready_deps HM.out (o := _) rfl ⟨2, .data⟩ (by simp) rfl
     obtain rfl := HH.out.i2 t2
     have n3 := HN.out
     have hlen : (([] : List Int).length + l1_0.length) * 8 ≤ 140737488355328 := by have h_ := LMc3.out; rw [Ny401.out] at h_; simp only [List.length_nil] at h_ ⊢; omega
     refine wp_op (o := _) rfl ?_
     refine Kd.R_append_rows_step (Kd.int .i64) (w0 := w) w.heap.size rfl (.tmp 8) (.tmp 10) 22 3 (.int .i64 0) 8 rfl Try.underlying22 info3 rfl (by decide) (by omega) x8 ([] : List Int) l1_0 _ _ _ (fun k => paint c w1.heap.size 0 k = 0) (fun _ => False) rfl rfl (HH.out.ra0 t0 n3).own (Kd.C_below HR1_0.out HBB.out) (fun _ _ h => h) (fun _ h => h.elim) (fun k hk => paint_new hk) HBB.out HBB.out.size hlen ?_
     intro v w2 ho hb hg_ hat
     rw [List.nil_append] at ho
     exact ⟨_, g, x5, x8, x9, _, v, x12, x13, x14, x15, x16, HH.out.s3 HN.out ho hb hg_.size (fun k hc hk => hg_.block k hk (fun e => hc ((HH.out.ra0 t0 n3).1 k e.symm))) t0, by first | rfl | (simp only [Act.put, y0, y1, y2]; done) | (simp only [Act.put, y0, y1, y2]; rfl)⟩
   · refine wp_op (o := _) rfl ?_
     refine Kd.R_lit_step (Kd.int .i64) (w0 := w) w.heap.size 3 rfl (N := 12) rfl (xs := ([] : List Int)) (inner := []) (ok := fun k => paint c w1.heap.size 1 k = 1) (okp := fun _ => False) ?_ (Reps.none _ _) (fun _ hk => hk.elim) (paint_new (Nat.le_refl _)) HBB.out HBB.out.size (by simp) ?_
     · first | (go_simp; done) | (go_simp; rfl)
     intro v w2 ho hb hg_ hnew
     exact ⟨_, g, x5, x8, x9, x10, x11, v, x13, x14, x15, x16, HH.out.s4 HN.out ho hb hg_.size (fun k _ hk => hg_.block k hk (by simp)), by first | rfl | (simp only [Act.put, y0, y1, y2]; done) | (simp only [Act.put, y0, y1, y2]; rfl)⟩
   · refine wp_op (o := _) rfl ?_
     refine event_step (v := ?_) (w1 := w1) rfl ?_ ?_; rotate_left
     · first | (go_simp; with_reducible rfl) | (go_simp; rfl)
     exact ⟨c, g, x5, x8, x9, x10, x11, x12, _, x14, x15, x16, HH.out.s5 HN.out _ rfl, by first | rfl | (simp only [Act.put, y0, y1, y2]; done) | (simp only [Act.put, y0, y1, y2]; rfl)⟩
   · have t5 : l.getD 5 false = true := ready_deps HM.out (o := _) rfl ⟨5, .data⟩ (by simp) rfl
     obtain rfl := HH.out.i5 t5
     have hc : w1.cell? ⟨gb399, 1, none⟩ = some (.slice A1_1 l1_1.length c1_1) := (blk_cell HC.out 1).trans rfl
     refine wp_op (o := _) rfl ?_
     refine event_step (v := ?_) (w1 := w1) rfl ?_ ?_; rotate_left
     · first | (go_simp; with_reducible rfl) | (go_simp; rfl)
     exact ⟨c, g, x5, x8, x9, x10, x11, x12, _, _, x15, x16, HH.out.s6 HN.out _ rfl, by first | rfl | (simp only [Act.put, y0, y1, y2]; done) | (simp only [Act.put, y0, y1, y2]; rfl)⟩
   · have t4 : l.getD 4 false = true := ready_deps HM.out (o := _) rfl ⟨4, .data⟩ (by simp) rfl
     have t6 : l.getD 6 false = true := ready_deps HM.out (o := _) rfl ⟨6, .data⟩ (by simp) rfl
     obtain rfl := HH.out.i6 t6
     have n3 := HN.out
     have hlen : (([] : List Int).length + l1_1.length) * 8 ≤ 140737488355328 := by have h_ := LMc4.out; rw [Ny407.out] at h_; simp only [List.length_nil] at h_ ⊢; omega
     refine wp_op (o := _) rfl ?_
     refine Kd.R_append_rows_step (Kd.int .i64) (w0 := w) w.heap.size rfl (.tmp 12) (.tmp 14) 22 3 (.int .i64 0) 8 rfl Try.underlying22 info3 rfl (by decide) (by omega) x12 ([] : List Int) l1_1 _ _ _ (fun k => paint c w1.heap.size 1 k = 1) (fun _ => False) rfl rfl (HH.out.rb0 t4 n3).own (Kd.C_below HR1_1.out HBB.out) (fun _ _ h => h) (fun _ h => h.elim) (fun k hk => paint_new hk) HBB.out HBB.out.size hlen ?_
     intro v w2 ho hb hg_ hat
     rw [List.nil_append] at ho
     exact ⟨_, g, x5, x8, x9, x10, x11, x12, x13, _, v, x16, HH.out.s7 HN.out ho hb hg_.size (fun k hc hk => hg_.block k hk (fun e => hc ((HH.out.rb0 t4 n3).1 k e.symm))) t4, by first | rfl | (simp only [Act.put, y0, y1, y2]; done) | (simp only [Act.put, y0, y1, y2]; rfl)⟩
   · have t3 : l.getD 3 false = true := ready_deps HM.out (o := _) rfl ⟨3, .data⟩ (by simp) rfl
     have t7 : l.getD 7 false = true := ready_deps HM.out (o := _) rfl ⟨7, .data⟩ (by simp) rfl
     obtain ⟨Aox, cox, eox⟩ := Kd.R_slice (HH.out.ra1 t3)
     obtain ⟨Aoy, coy, eoy⟩ := Kd.R_slice (HH.out.rb1 t7)
     subst eox eoy
     refine wp_op (o := _) rfl ?_
     refine event_step (v := ?_) (w1 := w1) rfl ?_ ?_; rotate_left
     · first | (go_simp; with_reducible rfl) | (go_simp; rfl)
     exact ⟨c, g, x5, x8, x9, x10, _, x12, x13, x14, _, _, HH.out.s8 HN.out _ rfl ⟨t3, t7⟩, by first | rfl | (simp only [Act.put, y0, y1, y2]; done) | (simp only [Act.put, y0, y1, y2]; rfl)⟩
   · refine wp_op (o := _) rfl ?_
     refine box_step rfl (N := 5) rfl (cs := #[.slice none 0 0, .slice none 0 0]) (t := 27) ?_ ?_
     · first | (go_simp; done) | (go_simp; rfl)
     intro g' hg w2 hbox hb
     have hl := blk_lt hbox
     exact ⟨_, _, _, x8, x9, x10, x11, x12, x13, x14, x15, x16, HH.out.s9 HN.out g' rfl hg hbox (below_step HBB.out hb) (by omega) (fun k hk => hb.block k hk), by first | rfl | (simp only [Act.put, y0, y1, y2]; done) | (simp only [Act.put, y0, y1, y2]; rfl)⟩
   · have t9 : l.getD 9 false = true := ready_deps HM.out (o := _) rfl ⟨9, .data⟩ (by simp) rfl
     have t8 : l.getD 8 false = true := ready_deps HM.out (o := _) rfl ⟨8, .data⟩ (by simp) rfl
     obtain rfl := HH.out.d0 t9
     obtain rfl := HH.out.i8 t8
     obtain ⟨Aox, cox, eox⟩ := Kd.R_slice (HH.out.ra1 (HH.out.q8_3 t8))
     obtain ⟨Aoy, coy, eoy⟩ := Kd.R_slice (HH.out.rb1 (HH.out.q8_7 t8))
     subst eox eoy
     have n3 := HN.out
     have hx := HH.out.d2 t9 n3
     have hd := HH.out.d1 t9
     have hw := HH.out.b0.1
     have hc0 : w1.cell? ⟨g, 0, none⟩ = some (.slice none 0 0) := (blk_cell hx 0).trans rfl
     have hc1 : w1.cell? ⟨g, 1, none⟩ = some (.slice none 0 0) := (blk_cell hx 1).trans rfl
     have hf0 := blk_frozen hx 0
     have hf1 := blk_frozen hx 1
     have hge : w.heap.size ≤ g := by have := hd.2.1; have := (below_size (zb HB)); omega
     have HX := Lib.hid hx
     have HD := Lib.hid hd
     clear hx hd hw
     refine wp_op (o := _) rfl ?_
     refine skip_ (w1 := ?_) (by rfl) rfl ?_ ?_; rotate_left; go_simp; rfl
     have hb2 : Below w.heap.size w ((w1.setCell ⟨g, 0, none⟩ (.slice Aox l1_0.length cox)).setCell ⟨g, 1, none⟩ (.slice Aoy l1_1.length coy)) := below_set (below_set HBB.out hge) hge
     exact ⟨c, g, _, x8, x9, x10, _, x12, x13, x14, _, _, HH.out.s10 HN.out ⟨HH.out.q8_3 t8, HH.out.q8_7 t8, t9⟩ (two_set HX.out) hb2 (by rw [World.size_setCell, World.size_setCell]) (fun k hk => far_set hk), rfl⟩
end Go.Proofs.Ytmbhjhanafmidaa.PListSteps
