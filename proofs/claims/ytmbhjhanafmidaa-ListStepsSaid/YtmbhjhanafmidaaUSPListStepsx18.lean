/- Written by a program of this work: each theorem says that a call of the Go function comes to what the Lean function beside it tells, under the conditions that it names; Lean checks it. -/
import Derived.Test.YtmbhjhanafmidaaUSPListStepsx0
import Derived.Test.YtmbhjhanafmidaaUSZr
import Derived.Test.YtmbhjhanafmidaaUSZq
import Derived.Test.YtmbhjhanafmidaaUSRegTk
namespace Go.Proofs.Ytmbhjhanafmidaa.PListSteps
open Go.Proofs.Ytmbhjhanafmidaa.PAw Go.Proofs.Ytmbhjhanafmidaa.RegInv Go.Proofs.Ytmbhjhanafmidaa.Zr Go.RowKit Go.Proofs.YtmbhjhanafmidaaW.PrintWords Go.Proofs.YtmbhjhanafmidaaW.PrintLast Go.Proofs.YtmbhjhanafmidaaW.PrintMore
attribute [local go_sem] max2_int min2_int max_two min_two max_three min_three max_four min_four   -- for this text's walks alone
set_option linter.unusedVariables false
set_option linter.unusedSimpArgs false
mutual
def trefoilref11_Tick.l0 : Nat → List Int → Int → List Int → List Int → List Int → List Int → Option (List Int × List Int × List Int)
 | 0, _, _, _, _, _, _ => none
 | k + 1, x5, x6, x362000, x362001, x379000, x379001 => if x6 < (x362001.length : Int) then (trefoilref11_Tick.l1 k x5 x6 0 x362000 x362001 x379000 x379001) else (some (x379000, x379001, x5))
def trefoilref11_Tick.l1 : Nat → List Int → Int → Int → List Int → List Int → List Int → List Int → Option (List Int × List Int × List Int)
 | 0, _, _, _, _, _, _, _ => none
 | k + 1, x5, x6, x7, x362000, x362001, x379000, x379001 => if x7 < (x362000.length : Int) then (if 0 ≤ x7 then (if (rd x362000 x7) = x6 then (if 0 ≤ x6 then (if x6 < (x362001.length : Int) then (if x6 < (x379001.length : Int) then ((some (x379001.set (x6 : Int).toNat (wrap64 ((rd x362001 x6) - 1)) : List Int)).bind fun y381 => (if (wrap64 ((rd x362001 x6) - 1)) = 0 then (if x7 < (x379000.length : Int) then (if x5.length < 17592186044416 then (trefoilref11_Tick.l1 k (x5 ++ [x6]) x6 (wrap64 (x7 + 1)) x362000 x362001 (x379000.set (x7 : Int).toNat (-1)) y381) else (none)) else (none)) else (trefoilref11_Tick.l1 k x5 x6 (wrap64 (x7 + 1)) x362000 x362001 x379000 y381))) else (none)) else (none)) else (none)) else (trefoilref11_Tick.l1 k x5 x6 (wrap64 (x7 + 1)) x362000 x362001 x379000 x379001)) else (none)) else (trefoilref11_Tick.l0 k x5 (wrap64 (x6 + 1)) x362000 x362001 x379000 x379001)
end
def trefoilref11_Tick.f (k : Nat) (l0_0 : List Int) (l0_1 : List Int) : Option (List Int × List Int × List Int) := (some (([] : List Int) : List Int)).bind fun y363 => (if y363.length + l0_0.length < 17592186044416 then ((some (([] : List Int) : List Int)).bind fun y369 => (if y369.length + l0_1.length < 17592186044416 then (trefoilref11_Tick.l0 k (([] : List Int)) 0 l0_0 l0_1 (y363 ++ l0_0) (y369 ++ l0_1)) else (none))) else (none))
def trefoilref11_Tick.T9 : Bool × List (List Nat × List Nat) := (true, [([], []), ([0], [0]), ([], []), ([], []), ([3], [3]), ([], []), ([4, 5], [4, 5]), ([6], [6]), ([7], [7]), ([1, 2, 0, 1, 2, 3, 4, 5, 6, 7, 8], [1, 2]), ([9, 8, 0, 1, 2, 3, 4, 5, 6, 7, 8], [8, 9])])
def trefoilref11_Tick.B9 : List Nat := [0, 1, 0, 0, 8, 0, 56, 120, 248, 511, 1023]
theorem trefoilref11_Tick.tab9 : rtab .any (opsOf Try.f20 9) = trefoilref11_Tick.T9 := by kernel_rfl
theorem trefoilref11_Tick.bits9 : waitsOk trefoilref11_Tick.T9.2 trefoilref11_Tick.B9 = true := by kernel_rfl
set_option maxHeartbeats 8000000 in
set_option maxRecDepth 100000 in
theorem trefoilref11_Tick.calls (k : Nat) (A0_0 : Option Addr) (c0_0 : Nat) (l0_0 : List Int) (A0_1 : Option Addr) (c0_1 : Nat) (l0_1 : List Int) (r1 : List Int) (r2 : List Int) (r3 : List Int) (w : World) (hr0_0 : Kd.C (Kd.int .i64) w A0_0 l0_0.length l0_0) (hc0_0 : l0_0.length ≤ c0_0) (hr0_1 : Kd.C (Kd.int .i64) w A0_1 l0_1.length l0_1) (hc0_1 : l0_1.length ≤ c0_1) (h : trefoilref11_Tick.f k l0_0 l0_1 = some (r1, r2, r3)) :
  Calls Try.prog 20 #[.agg #[.slice A0_0 l0_0.length c0_0, .slice A0_1 l0_1.length c0_1]] w fun e w' => ∃ v0_ v1_ v2_ : Value, e = .returned (.tuple #[.agg #[v0_, v1_], v2_]) ∧ Kd.R (Kd.int .i64) 3 w' w.heap.size (fun k_ => some k_ ≠ (v1_ : Value).ownBlock ∧ some k_ ≠ (v2_ : Value).ownBlock) v0_ r1 ∧ Kd.R (Kd.int .i64) 3 w' w.heap.size (fun k_ => some k_ ≠ (v0_ : Value).ownBlock ∧ some k_ ≠ (v2_ : Value).ownBlock) v1_ r2 ∧ Kd.R (Kd.int .i64) 3 w' w.heap.size (fun k_ => some k_ ≠ (v0_ : Value).ownBlock ∧ some k_ ≠ (v1_ : Value).ownBlock) v2_ r3 ∧ Below w.heap.size w w' := by
 have hu27 := Try.underlying27
 have HR0_0 := Z0 hr0_0
 have HC0_0 := Z0 hc0_0
 clear hr0_0 hc0_0
 have HR0_1 := Z0 hr0_1
 have HC0_1 := Z0 hc0_1
 clear hr0_1 hc0_1
 have HB := Z0 (Below.refl w.heap.size w)
 have H : ((some (([] : List Int) : List Int)).bind fun y363 => (if y363.length + l0_0.length < 17592186044416 then ((some (([] : List Int) : List Int)).bind fun y369 => (if y369.length + l0_1.length < 17592186044416 then (trefoilref11_Tick.l0 k (([] : List Int)) 0 l0_0 l0_1 (y363 ++ l0_0) (y369 ++ l0_1)) else (none))) else (none))) = some (r1, r2, r3) := h
 clear h
 obtain ⟨y363, hy363⟩ : ∃ y_ : List Int, y_ = (([] : List Int)) := ⟨_, rfl⟩
 replace H : (if y363.length + l0_0.length < 17592186044416 then ((some (([] : List Int) : List Int)).bind fun y369 => (if y369.length + l0_1.length < 17592186044416 then (trefoilref11_Tick.l0 k (([] : List Int)) 0 l0_0 l0_1 (y363 ++ l0_0) (y369 ++ l0_1)) else (none))) else (none)) = some (r1, r2, r3) := by first | (rw [hy363]; with_reducible exact H) | (have H2_ := (Option.bind_some _ _).symm.trans H; rw [hy363]; with_reducible exact H2_) | (have H2_ := (Option.bind_some _ _).symm.trans H; with_reducible exact H2_) | with_reducible exact H | (rw [hy363]; exact H) | exact H
 have Ny363 := Z0 hy363
 clear hy363
 by_cases c2 : y363.length + l0_0.length < 17592186044416
 rotate_left
 ·rw [if_neg c2] at H
  exact absurd H (by simp)
 rw [if_pos c2] at H
 have LMc2 := Z0 c2
 clear c2
 obtain ⟨y366, hy366⟩ : ∃ y_ : List Int, y_ = (y363 ++ l0_0) := ⟨_, rfl⟩
 replace H : ((some (([] : List Int) : List Int)).bind fun y369 => (if y369.length + l0_1.length < 17592186044416 then (trefoilref11_Tick.l0 k (([] : List Int)) 0 l0_0 l0_1 y366 (y369 ++ l0_1)) else (none))) = some (r1, r2, r3) := by first | (rw [hy366]; with_reducible exact H) | (have H2_ := (Option.bind_some _ _).symm.trans H; rw [hy366]; with_reducible exact H2_) | (have H2_ := (Option.bind_some _ _).symm.trans H; with_reducible exact H2_) | with_reducible exact H | (rw [hy366]; exact H) | exact H
 have Ny366 := Z0 hy366
 clear hy366
 obtain ⟨y369, hy369⟩ : ∃ y_ : List Int, y_ = (([] : List Int)) := ⟨_, rfl⟩
 replace H : (if y369.length + l0_1.length < 17592186044416 then (trefoilref11_Tick.l0 k (([] : List Int)) 0 l0_0 l0_1 y366 (y369 ++ l0_1)) else (none)) = some (r1, r2, r3) := by first | (rw [hy369]; with_reducible exact H) | (have H2_ := (Option.bind_some _ _).symm.trans H; rw [hy369]; with_reducible exact H2_) | (have H2_ := (Option.bind_some _ _).symm.trans H; with_reducible exact H2_) | with_reducible exact H | (rw [hy369]; exact H) | exact H
 have Ny369 := Z0 hy369
 clear hy369
 by_cases c3 : y369.length + l0_1.length < 17592186044416
 rotate_left
 ·rw [if_neg c3] at H
  exact absurd H (by simp)
 rw [if_pos c3] at H
 have LMc3 := Z0 c3
 clear c3
 obtain ⟨y372, hy372⟩ : ∃ y_ : List Int, y_ = (y369 ++ l0_1) := ⟨_, rfl⟩
 replace H : (trefoilref11_Tick.l0 k (([] : List Int)) 0 l0_0 l0_1 y366 y372) = some (r1, r2, r3) := by first | (rw [hy372]; with_reducible exact H) | (have H2_ := (Option.bind_some _ _).symm.trans H; rw [hy372]; with_reducible exact H2_) | (have H2_ := (Option.bind_some _ _).symm.trans H; with_reducible exact H2_) | with_reducible exact H | (rw [hy372]; exact H) | exact H
 have Ny372 := Z0 hy372
 clear hy372
 obtain ⟨y375, hy375⟩ : ∃ y_ : List Int, y_ = (([] : List Int)) := ⟨_, rfl⟩
 replace H : (trefoilref11_Tick.l0 k y375 0 l0_0 l0_1 y366 y372) = some (r1, r2, r3) := by first | (rw [hy375]; with_reducible exact H) | (have H2_ := (Option.bind_some _ _).symm.trans H; rw [hy375]; with_reducible exact H2_) | (have H2_ := (Option.bind_some _ _).symm.trans H; with_reducible exact H2_) | with_reducible exact H | (rw [hy375]; exact H) | exact H
 have Ny375 := Z0 hy375
 clear hy375
 have H' := Z0 H
 clear H
 go_enter Try.func20, Try.ntmps20
 try go_wp2_with (first | ((with_reducible refine gate_dst (N := 1) rfl ?_); refine zx (N := 1) #[.slice A0_0 l0_0.length c0_0, .slice A0_1 l0_1.length c0_1] 27 ?_; intro gb361 hg w4 hbox hb; have BK361 := Z0 (hbox); have GW361 := Z0 (zh w hg HB); have GE361 := Z0 (zh w hg HB); replace HB := Z0 (below_step (zb HB) hb); clear hb hbox hg) | ((with_reducible refine gate_dst (N := 2) rfl ?_); refine zx (N := 2) #[.slice none 0 0, .slice none 0 0] 27 ?_; intro gb362 hg w5 hbox hb; have BK362 := Z0 (hbox); have GW362 := Z0 (zh w hg HB); have GE362 := Z0 (zh w hg HB); replace HB := Z0 (below_step (zb HB) hb); have NB361_362 := Z0 (zl hg BK361); have NB362_361 := Z0 (zu hg BK361); replace BK361 := Z0 (zkb BK361 hb); clear hb hbox hg))
 have old361 := blk_lt BK361.out
 have old362 := blk_lt BK362.out
 refine wp_region_inv (fun l a w' => ∃ (c : Nat → Nat) (g : Nat) (x4 x5 x8 x9 x10 x11 x12 x13 x14 x15 x16 x17 : Value), TkI w w5 gb361 A0_0 c0_0 l0_0 A0_1 c0_1 l0_1 l c g x4 x5 x8 x9 x10 x11 x12 x13 x14 x15 x16 x17 w' ∧ a = ⟨#[.agg #[.slice A0_0 l0_0.length c0_0, .slice A0_1 l0_1.length c0_1], .pointer (some ⟨gb361, 0, none⟩), .pointer (some ⟨gb362, 0, none⟩), .slice none 0 0, x4, x5, undef, undef, x8, x9, x10, x11, x12, x13, x14, x15, x16, x17, undef, undef, undef, undef, undef, undef, undef, undef, undef, undef, undef, undef, undef, undef, undef, undef, undef, undef, undef, undef, undef, undef, undef, undef, undef, undef, undef, undef, undef, undef, undef, undef, undef, undef, undef, undef, undef, undef, undef, undef, undef, undef, undef, undef, undef, undef, undef], []⟩) (by kernel_rfl) ?_ ?_ ?_
 · refine ⟨fun _ => 4, 0, undef, undef, undef, undef, undef, undef, undef, undef, undef, undef, undef, undef, ⟨by rw [Array.size_replicate]; rfl, by exact wd (zb HB), ⟨Nat.le_refl _, fun _ _ => rfl⟩, fun _ _ => rfl, fun e => rep_no e, fun e => rep_no e, fun e => rep_no e, fun e => rep_no e, fun e => rep_no e, fun e => rep_no e, fun e => rep_no e, fun e => rep_no e, fun e => rep_no e, fun e => rep_no e, fun e => rep_no e, fun e => rep_no e, fun e => rep_no e, fun e => rep_no e, fun e => rep_no e, fun e => rep_no e, fun e => rep_no e, fun e => rep_no e, fun e => rep_no e, fun e => rep_no e, fun e => rep_no e, fun e => rep_no e, fun e => rep_no e⟩, rfl⟩
 · rintro l a w20 ⟨c, g, x4, x5, x8, x9, x10, x11, x12, x13, x14, x15, x16, x17, h, rfl⟩ hr
   have ht := fun i hi => all_listed hr h.sz (by kernel_rfl) i hi
   have ra := h.ra1 (ht 3 (by decide))
   have rb := h.rb1 (ht 7 (by decide))
   have rc := h.rc0 (ht 9 (by decide))
   have hd := h.d1 (ht 10 (by decide))
   obtain rfl := h.d0 (ht 10 (by decide))
   obtain rfl := h.i8 (ht 8 (by decide))
   obtain rfl := h.i12 (ht 12 (by decide))
   obtain rfl := h.i1 (ht 1 (by decide))
   obtain rfl := h.i2 (ht 2 (by decide))
   obtain rfl := h.i5 (ht 5 (by decide))
   obtain rfl := h.i6 (ht 6 (by decide))
   have e1 : y366 = l0_0 := by rw [Ny366.out, Ny363.out, List.nil_append]
   have e2 : y372 = l0_1 := by rw [Ny372.out, Ny369.out, List.nil_append]
   have HO368q : Aside0 (Kd.R (Kd.int .i64) 3 w20 w.heap.size (fun k_ => some k_ ≠ (x15 : Value).ownBlock ∧ some k_ ≠ (x5 : Value).ownBlock) x11 y366) := ⟨by rw [e1]; exact rm ra (fun k hk => ⟨fun e => absurd (hk.symm.trans (rb.1 k e.symm)) (by decide), fun e => absurd (hk.symm.trans (rc.1 k e.symm)) (by decide)⟩)⟩
   have HO374q : Aside0 (Kd.R (Kd.int .i64) 3 w20 w.heap.size (fun k_ => some k_ ≠ (x11 : Value).ownBlock ∧ some k_ ≠ (x5 : Value).ownBlock) x15 y372) := ⟨by rw [e2]; exact rm rb (fun k hk => ⟨fun e => absurd (hk.symm.trans (ra.1 k e.symm)) (by decide), fun e => absurd (hk.symm.trans (rc.1 k e.symm)) (by decide)⟩)⟩
   have HO377q : Aside0 (Kd.R (Kd.int .i64) 3 w20 w.heap.size (fun k_ => some k_ ≠ (x11 : Value).ownBlock ∧ some k_ ≠ (x15 : Value).ownBlock) x5 y375) := ⟨by rw [Ny375.out]; exact rm rc (fun k hk => ⟨fun e => absurd (hk.symm.trans (ra.1 k e.symm)) (by decide), fun e => absurd (hk.symm.trans (rb.1 k e.symm)) (by decide)⟩)⟩
   replace BK361 : Aside0 (w20.heap[gb361]? = some (.cells #[.slice A0_0 l0_0.length c0_0, .slice A0_1 l0_1.length c0_1] 27 (0, 0))) := ⟨(h.b0.2 _ (blk_lt BK361.out)).trans BK361.out⟩
   replace BK362 : Aside0 (w20.heap[gb362]? = some (.cells #[.slice none 0 0, .slice none 0 0] 27 (0, 0))) := ⟨(h.b0.2 _ (blk_lt BK362.out)).trans BK362.out⟩
   have BK378q : Aside0 (w20.heap[g]? = some (.cells #[x11, x15] 27 (0, 0))) := ⟨h.d3 (ht 11 (by decide))⟩
   have hgw : w.heap.size ≤ g := by have := hd.2.1; have := (below_size (zb HB)); omega
   have GW378q : Aside0 (w.heap.size ≤ g) := ⟨hgw⟩
   have GE378q : Aside0 (w.heap.size ≤ g) := ⟨hgw⟩
   have NB361_378q : Aside0 (gb361 ≠ g) := ⟨by have := old361; have := hd.2.1; omega⟩
   have NB378_361q : Aside0 (g ≠ gb361) := ⟨by have := old361; have := hd.2.1; omega⟩
   have NB362_378q : Aside0 (gb362 ≠ g) := ⟨by have := old362; have := hd.2.1; omega⟩
   have NB378_362q : Aside0 (g ≠ gb362) := ⟨by have := old362; have := hd.2.1; omega⟩
   replace HB : Aside0 (Below w.heap.size w w20) := ⟨h.b⟩
   obtain ⟨AoX, coX, eoX⟩ := Kd.R_slice HO368q.out
   obtain ⟨AoY, coY, eoY⟩ := Kd.R_slice HO374q.out
   subst eoX eoY
   clear ra rb rc hd ht hr h e1 e2 hgw
   have HO368 := HO368q
   have HO374 := HO374q
   have HO377 := HO377q
   have BK378 := BK378q
   have GW378 := GW378q
   have GE378 := GE378q
   have NB361_378 := NB361_378q
   have NB378_361 := NB378_361q
   have NB362_378 := NB362_378q
   have NB378_362 := NB378_362q
   clear HO368q HO374q HO377q BK378q GW378q GE378q NB361_378q NB378_361q NB362_378q NB378_362q
   try go_wp2
   go_loopg [5, 6] k (fun kq v5 v6 w' => ∃ (x5_1 : List Int) (x6_1 : Int) (x379000_1 : List Int) (x379001_1 : List Int) (u379000 : Value) (u379001 : Value), v6 = .int .i64 x6_1 ∧ Aside0 (trefoilref11_Tick.l0 kq x5_1 x6_1 l0_0 l0_1 x379000_1 x379001_1 = some (r1, r2, r3)) ∧ Aside0 (kq ≤ k) ∧ Aside0 (Kd.R (Kd.int .i64) 3 w' w.heap.size (fun k_ => some k_ ≠ (u379000 : Value).ownBlock ∧ some k_ ≠ (u379001 : Value).ownBlock) v5 x5_1) ∧ Aside0 (Kd.R (Kd.int .i64) 3 w' w.heap.size (fun k_ => some k_ ≠ (v5 : Value).ownBlock ∧ some k_ ≠ (u379001 : Value).ownBlock) u379000 x379000_1) ∧ Aside0 (Kd.R (Kd.int .i64) 3 w' w.heap.size (fun k_ => some k_ ≠ (v5 : Value).ownBlock ∧ some k_ ≠ (u379000 : Value).ownBlock) u379001 x379001_1) ∧ Aside0 (w'.heap[gb361]? = some (.cells #[(.slice A0_0 l0_0.length c0_0), (.slice A0_1 l0_1.length c0_1)] 27 (0, 0))) ∧ Aside0 (w'.heap[gb362]? = some (.cells #[(.slice none 0 0), (.slice none 0 0)] 27 (0, 0))) ∧ Aside0 (w'.heap[g]? = some (.cells #[u379000, u379001] 27 (0, 0))) ∧ Aside0 (Below w.heap.size w w'))
   case atStart => exact ⟨(y375), (0), (y366), (y372), (.slice AoX y366.length coX), (.slice AoY y372.length coY), zs, H', ⟨Nat.le_refl _⟩, ⟨by (with_reducible repeat (first | apply ra | apply rn | apply rd_)); exact HO377.out⟩, ⟨by (with_reducible repeat (first | apply ra | apply rn | apply rd_)); exact rm HO368.out (fun _ hk => ⟨hk.2, hk.1⟩)⟩, ⟨by (with_reducible repeat (first | apply ra | apply rn | apply rd_)); exact rm HO374.out (fun _ hk => ⟨hk.2, hk.1⟩)⟩, ⟨zk BK361⟩, ⟨zk BK362⟩, ⟨zk BK378⟩, ⟨zb HB⟩⟩
   case round =>
    clear H'
    try clear p2
    try clear c3
    obtain ⟨x5_1, x6_1, x379000_1, x379001_1, u379000, u379001, rfl, HA, HK1, HO_5, HO_379000, HO_379001, BK361, BK362, BK378, HB⟩ := hrel
    cases gk with
    | zero => exact absurd HA.out (by simp [trefoilref11_Tick.l0])
    | succ k1 =>
     have H := HA.out
     clear HA
     simp only [trefoilref11_Tick.l0] at H
     by_cases c23 : x6_1 < (l0_1.length : Int)
     rotate_left
     ·rw [if_neg c23] at H
      have c23b0 : decide (x6_1 < (l0_1.length : Int)) = false := decide_eq_false c23
      clear c23
      simp only [Option.some.injEq, Prod.mk.injEq] at H
      obtain ⟨rfl, rfl, rfl⟩ := H
      have hnb63 := NB361_362.out
      have hnc63 := NB362_361.out
      have hnb64 := NB361_378.out
      have hnc64 := NB378_361.out
      have hcz65_0 := kz0 BK361
      have hcz65_1 := kz1 BK361
      have hfz65_0 := blk_frozen BK361.out 0
      have hfz65_1 := blk_frozen BK361.out 1
      have hnb66 := NB378_362.out
      have hnc66 := NB362_378.out
      have hcz67_0 : wr.cell? ⟨g, 0, none⟩ = some (u379000) := (kc BK378.out 0).trans rfl
      have hcz67_1 : wr.cell? ⟨g, 1, none⟩ = some (u379001) := (kc BK378.out 1).trans rfl
      have hfz67_0 := blk_frozen BK378.out 0
      have hfz67_1 := blk_frozen BK378.out 1
      obtain ⟨Ao68, co68, eo68⟩ := Kd.R_slice HO_379000.out
      subst eo68
      have hcz69_0 := kz0 BK362
      have hcz69_1 := kz1 BK362
      have hfz69_0 := blk_frozen BK362.out 0
      have hfz69_1 := blk_frozen BK362.out 1
      obtain ⟨Ao70, co70, eo70⟩ := Kd.R_slice HO_379001.out
      subst eo70
      go_wp2
      refine bodyPost_ret (results_ct rfl _ _ gb362 27 #[.slice Ao68 x379000_1.length co68, .slice Ao70 x379001_1.length co70] (0, 0) _ rfl (by (with_reducible repeat (first | refine kn ?_ _ | refine kd_ ?_ | refine ka ?_ _)); refine blk_put (cs := #[.slice Ao68 x379000_1.length co68, .slice none 0 0]) ?_ 1 _ rfl; (with_reducible repeat (first | refine kn ?_ _ | refine kd_ ?_ | refine ka ?_ _)); refine blk_put (cs := #[.slice none 0 0, .slice none 0 0]) ?_ 0 _ rfl; (with_reducible repeat (first | refine kn ?_ _ | refine kd_ ?_ | refine ka ?_ _)); exact BK362.out) Try.underlying27 rfl (by kernel_rfl)) rfl ?_
      exact ⟨_, _, _, ze, by (with_reducible repeat (first | apply ra | apply rn | apply rd_)); exact rm (Kd.R_far (p := ⟨gb362, 1, none⟩) (Kd.R_far (p := ⟨gb362, 0, none⟩) (Kd.R_types HO_379000.out BK362.out (by decide)) (fun _ hk => hk.2) (.slice Ao68 x379000_1.length co68)) (fun _ hk => hk.2) (.slice Ao70 x379001_1.length co70)) (fun _ hk => ⟨hk.1.2, hk.1.1⟩), by (with_reducible repeat (first | apply ra | apply rn | apply rd_)); exact rm (Kd.R_far (p := ⟨gb362, 1, none⟩) (Kd.R_far (p := ⟨gb362, 0, none⟩) (Kd.R_types HO_379001.out BK362.out (by decide)) (fun _ hk => hk.2) (.slice Ao68 x379000_1.length co68)) (fun _ hk => hk.2) (.slice Ao70 x379001_1.length co70)) (fun _ hk => ⟨hk.1.2, hk.1.1⟩), by (with_reducible repeat (first | apply ra | apply rn | apply rd_)); exact rm (Kd.R_far (p := ⟨gb362, 1, none⟩) (Kd.R_far (p := ⟨gb362, 0, none⟩) (Kd.R_types HO_5.out BK362.out (by decide)) (fun _ hk => hk.2) (.slice Ao68 x379000_1.length co68)) (fun _ hk => hk.2) (.slice Ao70 x379001_1.length co70)) (fun _ hk => ⟨hk.1.1, hk.1.2⟩), zb HB⟩
     rw [if_pos c23] at H
     have c23b0 : decide (x6_1 < (l0_1.length : Int)) = true := decide_eq_true c23
     clear c23
     have H' := Z0 H
     clear H
     have hnb24 := NB361_362.out
     have hnc24 := NB362_361.out
     have hnb25 := NB361_378.out
     have hnc25 := NB378_361.out
     have hcz26_0 := kz0 BK361
     have hcz26_1 := kz1 BK361
     have hfz26_0 := blk_frozen BK361.out 0
     have hfz26_1 := blk_frozen BK361.out 1
     go_wp2
     go_loopg [5, 7] k1 (fun kq v5 v7 w' => ∃ (x5_2 : List Int) (x7_2 : Int) (x379000_2 : List Int) (x379001_2 : List Int) (u379000 : Value) (u379001 : Value), v7 = .int .i64 x7_2 ∧ Aside0 (trefoilref11_Tick.l1 kq x5_2 x6_1 x7_2 l0_0 l0_1 x379000_2 x379001_2 = some (r1, r2, r3)) ∧ Aside0 (kq ≤ k1) ∧ Aside0 (Kd.R (Kd.int .i64) 3 w' w.heap.size (fun k_ => some k_ ≠ (u379000 : Value).ownBlock ∧ some k_ ≠ (u379001 : Value).ownBlock) v5 x5_2) ∧ Aside0 (Kd.R (Kd.int .i64) 3 w' w.heap.size (fun k_ => some k_ ≠ (v5 : Value).ownBlock ∧ some k_ ≠ (u379001 : Value).ownBlock) u379000 x379000_2) ∧ Aside0 (Kd.R (Kd.int .i64) 3 w' w.heap.size (fun k_ => some k_ ≠ (v5 : Value).ownBlock ∧ some k_ ≠ (u379000 : Value).ownBlock) u379001 x379001_2) ∧ Aside0 (w'.heap[gb361]? = some (.cells #[(.slice A0_0 l0_0.length c0_0), (.slice A0_1 l0_1.length c0_1)] 27 (0, 0))) ∧ Aside0 (w'.heap[gb362]? = some (.cells #[(.slice none 0 0), (.slice none 0 0)] 27 (0, 0))) ∧ Aside0 (w'.heap[g]? = some (.cells #[u379000, u379001] 27 (0, 0))) ∧ Aside0 (Below w.heap.size w w'))
     case atStart => exact ⟨(x5_1), (0), (x379000_1), (x379001_1), (u379000), (u379001), zs, H', ⟨Nat.le_refl _⟩, ⟨by (with_reducible repeat (first | apply ra | apply rn | apply rd_)); exact HO_5.out⟩, ⟨by (with_reducible repeat (first | apply ra | apply rn | apply rd_)); exact HO_379000.out⟩, ⟨by (with_reducible repeat (first | apply ra | apply rn | apply rd_)); exact HO_379001.out⟩, ⟨zk BK361⟩, ⟨zk BK362⟩, ⟨zk BK378⟩, ⟨zb HB⟩⟩
     case round =>
      clear H'
      try clear c2
      try clear p2
      try clear c3
      try clear c23
      try clear c23b0
      try clear c24
      try clear c25
      try clear hcz26_0
      try clear hcz26_1
      try clear hfz26_0
      try clear hfz26_1
      try clear p2
      obtain ⟨x5_2, x7_2, x379000_2, x379001_2, u379000, u379001, rfl, HA, HK2, HO_5, HO_379000, HO_379001, BK361, BK362, BK378, HB⟩ := hrel
      cases gk with
      | zero => exact absurd HA.out (by simp [trefoilref11_Tick.l1])
      | succ k2 =>
       have H := HA.out
       clear HA
       simp only [trefoilref11_Tick.l1] at H
       by_cases c27 : x7_2 < (l0_0.length : Int)
       rotate_left
       ·rw [if_neg c27] at H
        have c27b0 : decide (x7_2 < (l0_0.length : Int)) = false := decide_eq_false c27
        clear c27
        have H' := Z0 H
        clear H
        have hnb60 := NB361_362.out
        have hnc60 := NB362_361.out
        have hnb61 := NB361_378.out
        have hnc61 := NB378_361.out
        have hcz62_0 := kz0 BK361
        have hcz62_1 := kz1 BK361
        have hfz62_0 := blk_frozen BK361.out 0
        have hfz62_1 := blk_frozen BK361.out 1
        go_wp2
        go_roundg k2
        case measure => have := HK1.out; have := HK2.out; omega
        case rel => exact ⟨(x5_2), (wrap64 (x6_1 + 1)), (x379000_2), (x379001_2), (u379000), (u379001), zs, H', ⟨by have := HK1.out; have := HK2.out; omega⟩, ⟨by (with_reducible repeat (first | apply ra | apply rn | apply rd_)); exact HO_5.out⟩, ⟨by (with_reducible repeat (first | apply ra | apply rn | apply rd_)); exact HO_379000.out⟩, ⟨by (with_reducible repeat (first | apply ra | apply rn | apply rd_)); exact HO_379001.out⟩, ⟨zk BK361⟩, ⟨zk BK362⟩, ⟨zk BK378⟩, ⟨zb HB⟩⟩
       rw [if_pos c27] at H
       have c27b0 : decide (x7_2 < (l0_0.length : Int)) = true := decide_eq_true c27
       clear c27
       by_cases c28 : 0 ≤ x7_2
       rotate_left
       ·rw [if_neg c28] at H
        exact absurd H (by simp)
       rw [if_pos c28] at H
       have c28b0 : decide (0 ≤ x7_2) = true := decide_eq_true c28
       clear c28
       by_cases c29 : (rd l0_0 x7_2) = x6_1
       rotate_left
       ·rw [if_neg c29] at H
        have c29b0 : ((rd l0_0 x7_2) == x6_1) = false := beq_eq_false_iff_ne.mpr c29
        have c29b1 : ((rd l0_0 x7_2) != x6_1) = true := bne_iff_ne.mpr c29
        have H' := Z0 H
        clear H
        have hnb57 := NB361_362.out
        have hnc57 := NB362_361.out
        have hnb58 := NB361_378.out
        have hnc58 := NB378_361.out
        have hcz59_0 := kz0 BK361
        have hcz59_1 := kz1 BK361
        have hfz59_0 := blk_frozen BK361.out 0
        have hfz59_1 := blk_frozen BK361.out 1
        have p379 : 0 ≤ (x7_2 : Int) := od
        have q379 : x7_2 < (l0_0.length : Int) := od
        obtain ⟨ad379, e379, hx379_0⟩ := Kd.at_int HR0_0.out x7_2 p379 q379
        cases e379
        replace hx379_0 := (HB.out.cell (bl w _ hx379_0)).trans hx379_0
        replace p379 := eq_true p379
        replace q379 := eq_true q379
        go_wp2
        go_roundg k2
        case measure => have := HK1.out; have := HK2.out; omega
        case rel => exact ⟨(x5_2), (wrap64 (x7_2 + 1)), (x379000_2), (x379001_2), (u379000), (u379001), zs, H', ⟨by have := HK1.out; have := HK2.out; omega⟩, ⟨by (with_reducible repeat (first | apply ra | apply rn | apply rd_)); exact HO_5.out⟩, ⟨by (with_reducible repeat (first | apply ra | apply rn | apply rd_)); exact HO_379000.out⟩, ⟨by (with_reducible repeat (first | apply ra | apply rn | apply rd_)); exact HO_379001.out⟩, ⟨zk BK361⟩, ⟨zk BK362⟩, ⟨zk BK378⟩, ⟨zb HB⟩⟩
       rw [if_pos c29] at H
       have c29b0 : ((rd l0_0 x7_2) == x6_1) = true := beq_iff_eq.mpr c29
       have c29b1 : ((rd l0_0 x7_2) != x6_1) = false := bne_eq_false_iff_eq.mpr c29
       clear c29
       by_cases c30 : 0 ≤ x6_1
       rotate_left
       ·rw [if_neg c30] at H
        exact absurd H (by simp)
       rw [if_pos c30] at H
       have c30b0 : decide (0 ≤ x6_1) = true := decide_eq_true c30
       clear c30
       by_cases c31 : x6_1 < (l0_1.length : Int)
       rotate_left
       ·rw [if_neg c31] at H
        exact absurd H (by simp)
       rw [if_pos c31] at H
       have c31b0 : decide (x6_1 < (l0_1.length : Int)) = true := decide_eq_true c31
       clear c31
       by_cases c32 : x6_1 < (x379001_2.length : Int)
       rotate_left
       ·rw [if_neg c32] at H
        exact absurd H (by simp)
       rw [if_pos c32] at H
       have c32b0 : decide (x6_1 < (x379001_2.length : Int)) = true := decide_eq_true c32
       clear c32
       obtain ⟨y381, hy381⟩ : ∃ y_ : List Int, y_ = (x379001_2.set (x6_1 : Int).toNat (wrap64 ((rd l0_1 x6_1) - 1))) := ⟨_, rfl⟩
       replace H : (if (wrap64 ((rd l0_1 x6_1) - 1)) = 0 then (if x7_2 < (x379000_2.length : Int) then (if x5_2.length < 17592186044416 then (trefoilref11_Tick.l1 k2 (x5_2 ++ [x6_1]) x6_1 (wrap64 (x7_2 + 1)) l0_0 l0_1 (x379000_2.set (x7_2 : Int).toNat (-1)) y381) else (none)) else (none)) else (trefoilref11_Tick.l1 k2 x5_2 x6_1 (wrap64 (x7_2 + 1)) l0_0 l0_1 x379000_2 y381)) = some (r1, r2, r3) := by first | (rw [hy381]; with_reducible exact H) | (have H2_ := (Option.bind_some _ _).symm.trans H; rw [hy381]; with_reducible exact H2_) | (have H2_ := (Option.bind_some _ _).symm.trans H; with_reducible exact H2_) | with_reducible exact H | (rw [hy381]; exact H) | exact H
       have Ny381 := Z0 hy381
       clear hy381
       by_cases c35 : (wrap64 ((rd l0_1 x6_1) - 1)) = 0
       rotate_left
       ·rw [if_neg c35] at H
        have c35b0 : ((wrap64 ((rd l0_1 x6_1) - 1)) == 0) = false := beq_eq_false_iff_ne.mpr c35
        have c35b1 : ((wrap64 ((rd l0_1 x6_1) - 1)) != 0) = true := bne_iff_ne.mpr c35
        have H' := Z0 H
        clear H
        have hnb50 := NB361_362.out
        have hnc50 := NB362_361.out
        have hnb51 := NB361_378.out
        have hnc51 := NB378_361.out
        have hcz52_0 := kz0 BK361
        have hcz52_1 := kz1 BK361
        have hfz52_0 := blk_frozen BK361.out 0
        have hfz52_1 := blk_frozen BK361.out 1
        have p379 : 0 ≤ (x7_2 : Int) := od
        have q379 : x7_2 < (l0_0.length : Int) := od
        obtain ⟨ad379, e379, hx379_0⟩ := Kd.at_int HR0_0.out x7_2 p379 q379
        cases e379
        replace hx379_0 := (HB.out.cell (bl w _ hx379_0)).trans hx379_0
        replace p379 := eq_true p379
        replace q379 := eq_true q379
        try go_wp2
        replace HO_5 := Z0 (rd_ HO_5.out)
        replace HO_379000 := Z0 (rd_ HO_379000.out)
        replace HO_379001 := Z0 (rd_ HO_379001.out)
        replace BK361 := Z0 (kd_ BK361.out)
        replace BK362 := Z0 (kd_ BK362.out)
        replace BK378 := Z0 (kd_ BK378.out)
        replace HB := Z0 (wd HB.out)
        have p380 : 0 ≤ (x6_1 : Int) := od
        have q380 : x6_1 < (l0_1.length : Int) := od
        obtain ⟨ad380, e380, hx380_0⟩ := Kd.at_int HR0_1.out x6_1 p380 q380
        have hw380_0 := hx380_0
        cases e380
        replace hx380_0 := (HB.out.cell (bl w _ hx380_0)).trans hx380_0
        replace p380 := eq_true p380
        replace q380 := eq_true q380
        have p33 : 0 ≤ (x6_1 : Int) := od
        have q33 : (x6_1 : Int) < ((x379001_2.length : Int) : Int) := od
        obtain ⟨go33, co33, eo33, gb33, gl33, cl33, HG33⟩ := Kd.R_form HO_379001.out (by omega)
        (first | cases eo33 | (injection eo33 with ea_ en_ ec_; (first | subst ea_ | (injection ea_ with ea_; subst ea_)); subst ec_; clear en_))
        have GB33 := Z0 gb33
        have GG33 := Z0 HG33
        clear gb33 gl33 HG33
        obtain ⟨hx33_0, hf33_0⟩ := Kd.R_celln 0 HO_379001.out (x6_1 : Int) p33 q33
        replace p33 := eq_true p33
        replace q33 := eq_true q33
        have HP54 := Kd.R_putn HO_379001.out (x6_1 : Int) (wrap64 ((rd l0_1 x6_1) - 1))
        rw [← Ny381.out] at HP54
        have HQ54 := Z0 HP54
        clear HP54
        refine start_ (n := 11) (S := fun w' => w'.cell? ⟨g, 0, none⟩ = some (u379000) ∧ w'.cell? ⟨g, 1, none⟩ = some (.slice (some ⟨go33, 0, none⟩) x379001_2.length co33) ∧ w'.cell? ⟨gb361, 0, none⟩ = some (.slice (some ad379) l0_0.length c0_0) ∧ w'.cell? ⟨gb361, 1, none⟩ = some (.slice (some ad380) l0_1.length c0_1) ∧ w'.cell? (ad380.add (x6_1).toNat) = some (.int .i64 (rd l0_1 x6_1))) (ds := [10]) (bz 11 0) (by kernel_rfl) rfl rfl ⟨kz0 BK378, kz1 BK378, kz0 BK361, kz1 BK361, ((HB.out.cell (bl w _ hw380_0)).trans hw380_0)⟩ (fun hHeld => ?_); refine with_tabW trefoilref11_Tick.tab9 trefoilref11_Tick.bits9 (fun HT_ HW_ => ?_)
        generalize wr.drew = w53 at HO_5 HO_379000 HO_379001 BK361 BK362 BK378 HB GG33 HQ54 hf33_0 hx33_0 hx380_0 hHeld ⊢
        refine pu 0 (some 39) (bz 11 1) HT_ ?_
        refine pu 2 (some 41) (bz 11 5) HT_ ?_
        refine pu 3 (some 42) (bz 11 13) HT_ ?_
        refine pu 5 (some 44) (bz 11 45) HT_ ?_
        refine tk5 1 (some 40) (bz 11 47) HT_ HW_ hHeld ?_
        refine tk5 4 (some 43) (bz 11 63) HT_ HW_ hHeld ?_
        refine pu 6 (some 45) (bz 11 127) HT_ ?_
        refine tk5 7 (some 46) (bz 11 255) HT_ HW_ hHeld ?_
        refine pu 8 (some 47) (bz 11 511) HT_ ?_
        refine pu 9 (some 48) (bz 11 1023) HT_ ?_
        refine last_ (i := 10) (N := none) (bz 11 2047) rfl rfl (one_of HT_.out (by kernel_rfl)) (by decide) (fun K hK => ?_)
        refine skip_ (w1 := ?_) (by rfl) rfl ?_ ?_; rotate_left; go_simp; rfl
        refine hK.out _ _ ?_
        clear hK K
        refine done_ (done_of HT_.out (by kernel_rfl)) ?_
        have hnb55 := NB378_362.out
        have hnc55 := NB362_378.out
        have hcz56_0 : w53.cell? ⟨g, 0, none⟩ = some (u379000) := (kc BK378.out 0).trans rfl
        have hcz56_1 : w53.cell? ⟨g, 1, none⟩ = some (.slice (some ⟨go33, 0, none⟩) x379001_2.length co33) := (kc BK378.out 1).trans rfl
        have hfz56_0 := blk_frozen BK378.out 0
        have hfz56_1 := blk_frozen BK378.out 1
        have p34 : 0 ≤ (x6_1 : Int) := od
        have q34 : (x6_1 : Int) < ((x379001_2.length : Int) : Int) := od
        have hne34 : g ≠ go33 := by have h_ := Kd.R_ne HO_379001.out BK378.out (by decide); intro e_; exact h_ (by rw [e_]; rfl)
        have hnf34 := Ne.symm hne34
        replace p34 := eq_true p34
        replace q34 := eq_true q34
        try go_wp2
        go_roundg k2
        case measure => have := HK1.out; have := HK2.out; omega
        case rel => exact ⟨(x5_2), (wrap64 (x7_2 + 1)), (x379000_2), (y381), (u379000), (.slice (some ⟨go33, 0, none⟩) x379001_2.length co33), zs, H', ⟨by have := HK1.out; have := HK2.out; omega⟩, ⟨by (with_reducible repeat (first | apply ra | apply rn | apply rd_)); exact rm (Kd.R_far (p := ⟨go33, (x6_1 : Int).toNat, none⟩) (rm HO_5.out (fun k_ hk => (⟨hk, fun e_ => hk.2 (by rw [e_]; rfl)⟩ : _ ∧ k_ ≠ go33))) (fun _ hk => hk.2) (.int .i64 (wrap64 ((rd l0_1 x6_1) - 1)))) (fun _ hk => ⟨hk.1.1, hk.1.2⟩)⟩, ⟨by (with_reducible repeat (first | apply ra | apply rn | apply rd_)); exact rm (Kd.R_far (p := ⟨go33, (x6_1 : Int).toNat, none⟩) (rm HO_379000.out (fun k_ hk => (⟨hk, fun e_ => hk.2 (by rw [e_]; rfl)⟩ : _ ∧ k_ ≠ go33))) (fun _ hk => hk.2) (.int .i64 (wrap64 ((rd l0_1 x6_1) - 1)))) (fun _ hk => ⟨hk.1.1, hk.1.2⟩)⟩, ⟨by (with_reducible repeat (first | apply ra | apply rn | apply rd_)); exact HQ54.out⟩, ⟨by (with_reducible repeat (first | refine kn ?_ _ | refine kd_ ?_ | refine ka ?_ _)); refine blk_far ?_ (by have h_ := Kd.R_ne HO_379001.out BK361.out (by decide); intro e_; exact h_ (by rw [e_]; rfl)) _; (with_reducible repeat (first | refine kn ?_ _ | refine kd_ ?_ | refine ka ?_ _)); exact BK361.out⟩, ⟨by (with_reducible repeat (first | refine kn ?_ _ | refine kd_ ?_ | refine ka ?_ _)); refine blk_far ?_ (by have h_ := Kd.R_ne HO_379001.out BK362.out (by decide); intro e_; exact h_ (by rw [e_]; rfl)) _; (with_reducible repeat (first | refine kn ?_ _ | refine kd_ ?_ | refine ka ?_ _)); exact BK362.out⟩, ⟨by (with_reducible repeat (first | refine kn ?_ _ | refine kd_ ?_ | refine ka ?_ _)); refine blk_far ?_ (by have h_ := Kd.R_ne HO_379001.out BK378.out (by decide); intro e_; exact h_ (by rw [e_]; rfl)) _; (with_reducible repeat (first | refine kn ?_ _ | refine kd_ ?_ | refine ka ?_ _)); exact BK378.out⟩, ⟨by repeat (first | (with_reducible first | exact HB.out | apply wa | apply wn | apply wd | refine ws ?_ GB33.out | refine ws ?_ GE361.out | refine ws ?_ GE362.out | refine ws ?_ GE378.out) | exact HB.out)⟩⟩
       rw [if_pos c35] at H
       have c35b0 : ((wrap64 ((rd l0_1 x6_1) - 1)) == 0) = true := beq_iff_eq.mpr c35
       have c35b1 : ((wrap64 ((rd l0_1 x6_1) - 1)) != 0) = false := bne_eq_false_iff_eq.mpr c35
       clear c35
       by_cases c36 : x7_2 < (x379000_2.length : Int)
       rotate_left
       ·rw [if_neg c36] at H
        exact absurd H (by simp)
       rw [if_pos c36] at H
       have c36b0 : decide (x7_2 < (x379000_2.length : Int)) = true := decide_eq_true c36
       clear c36
       obtain ⟨y383, hy383⟩ : ∃ y_ : List Int, y_ = (x379000_2.set (x7_2 : Int).toNat (-1)) := ⟨_, rfl⟩
       replace H : (if x5_2.length < 17592186044416 then (trefoilref11_Tick.l1 k2 (x5_2 ++ [x6_1]) x6_1 (wrap64 (x7_2 + 1)) l0_0 l0_1 y383 y381) else (none)) = some (r1, r2, r3) := by first | (rw [hy383]; with_reducible exact H) | (have H2_ := (Option.bind_some _ _).symm.trans H; rw [hy383]; with_reducible exact H2_) | (have H2_ := (Option.bind_some _ _).symm.trans H; with_reducible exact H2_) | with_reducible exact H | (rw [hy383]; exact H) | exact H
       have Ny383 := Z0 hy383
       clear hy383
       by_cases c38 : x5_2.length < 17592186044416
       rotate_left
       ·rw [if_neg c38] at H
        exact absurd H (by simp)
       rw [if_pos c38] at H
       have LMc38 := Z0 c38
       clear c38
       obtain ⟨y384, hy384⟩ : ∃ y_ : List Int, y_ = (x5_2 ++ [x6_1]) := ⟨_, rfl⟩
       replace H : (trefoilref11_Tick.l1 k2 y384 x6_1 (wrap64 (x7_2 + 1)) l0_0 l0_1 y383 y381) = some (r1, r2, r3) := by first | (rw [hy384]; with_reducible exact H) | (have H2_ := (Option.bind_some _ _).symm.trans H; rw [hy384]; with_reducible exact H2_) | (have H2_ := (Option.bind_some _ _).symm.trans H; with_reducible exact H2_) | with_reducible exact H | (rw [hy384]; exact H) | exact H
       have Ny384 := Z0 hy384
       clear hy384
       have H' := Z0 H
       clear H
       have hnb39 := NB361_362.out
       have hnc39 := NB362_361.out
       have hnb40 := NB361_378.out
       have hnc40 := NB378_361.out
       have hcz41_0 := kz0 BK361
       have hcz41_1 := kz1 BK361
       have hfz41_0 := blk_frozen BK361.out 0
       have hfz41_1 := blk_frozen BK361.out 1
       have p379 : 0 ≤ (x7_2 : Int) := od
       have q379 : x7_2 < (l0_0.length : Int) := od
       obtain ⟨ad379, e379, hx379_0⟩ := Kd.at_int HR0_0.out x7_2 p379 q379
       cases e379
       replace hx379_0 := (HB.out.cell (bl w _ hx379_0)).trans hx379_0
       replace p379 := eq_true p379
       replace q379 := eq_true q379
       try go_wp2
       replace HO_5 := Z0 (rd_ HO_5.out)
       replace HO_379000 := Z0 (rd_ HO_379000.out)
       replace HO_379001 := Z0 (rd_ HO_379001.out)
       replace BK361 := Z0 (kd_ BK361.out)
       replace BK362 := Z0 (kd_ BK362.out)
       replace BK378 := Z0 (kd_ BK378.out)
       replace HB := Z0 (wd HB.out)
       have p380 : 0 ≤ (x6_1 : Int) := od
       have q380 : x6_1 < (l0_1.length : Int) := od
       obtain ⟨ad380, e380, hx380_0⟩ := Kd.at_int HR0_1.out x6_1 p380 q380
       have hw380_0 := hx380_0
       cases e380
       replace hx380_0 := (HB.out.cell (bl w _ hx380_0)).trans hx380_0
       replace p380 := eq_true p380
       replace q380 := eq_true q380
       have p33 : 0 ≤ (x6_1 : Int) := od
       have q33 : (x6_1 : Int) < ((x379001_2.length : Int) : Int) := od
       obtain ⟨go33, co33, eo33, gb33, gl33, cl33, HG33⟩ := Kd.R_form HO_379001.out (by omega)
       (first | cases eo33 | (injection eo33 with ea_ en_ ec_; (first | subst ea_ | (injection ea_ with ea_; subst ea_)); subst ec_; clear en_))
       have GB33 := Z0 gb33
       have GG33 := Z0 HG33
       clear gb33 gl33 HG33
       obtain ⟨hx33_0, hf33_0⟩ := Kd.R_celln 0 HO_379001.out (x6_1 : Int) p33 q33
       replace p33 := eq_true p33
       replace q33 := eq_true q33
       have HP43 := Kd.R_putn HO_379001.out (x6_1 : Int) (wrap64 ((rd l0_1 x6_1) - 1))
       rw [← Ny381.out] at HP43
       have HQ43 := Z0 HP43
       clear HP43
       refine start_ (n := 11) (S := fun w' => w'.cell? ⟨g, 0, none⟩ = some (u379000) ∧ w'.cell? ⟨g, 1, none⟩ = some (.slice (some ⟨go33, 0, none⟩) x379001_2.length co33) ∧ w'.cell? ⟨gb361, 0, none⟩ = some (.slice (some ad379) l0_0.length c0_0) ∧ w'.cell? ⟨gb361, 1, none⟩ = some (.slice (some ad380) l0_1.length c0_1) ∧ w'.cell? (ad380.add (x6_1).toNat) = some (.int .i64 (rd l0_1 x6_1))) (ds := [10]) (bz 11 0) (by kernel_rfl) rfl rfl ⟨kz0 BK378, kz1 BK378, kz0 BK361, kz1 BK361, ((HB.out.cell (bl w _ hw380_0)).trans hw380_0)⟩ (fun hHeld => ?_); refine with_tabW trefoilref11_Tick.tab9 trefoilref11_Tick.bits9 (fun HT_ HW_ => ?_)
       generalize wr.drew = w42 at HO_5 HO_379000 HO_379001 BK361 BK362 BK378 HB GG33 HQ43 hf33_0 hx33_0 hx380_0 hHeld ⊢
       refine pu 0 (some 39) (bz 11 1) HT_ ?_
       refine pu 2 (some 41) (bz 11 5) HT_ ?_
       refine pu 3 (some 42) (bz 11 13) HT_ ?_
       refine pu 5 (some 44) (bz 11 45) HT_ ?_
       refine tk5 1 (some 40) (bz 11 47) HT_ HW_ hHeld ?_
       refine tk5 4 (some 43) (bz 11 63) HT_ HW_ hHeld ?_
       refine pu 6 (some 45) (bz 11 127) HT_ ?_
       refine tk5 7 (some 46) (bz 11 255) HT_ HW_ hHeld ?_
       refine pu 8 (some 47) (bz 11 511) HT_ ?_
       refine pu 9 (some 48) (bz 11 1023) HT_ ?_
       refine last_ (i := 10) (N := none) (bz 11 2047) rfl rfl (one_of HT_.out (by kernel_rfl)) (by decide) (fun K hK => ?_)
       refine skip_ (w1 := ?_) (by rfl) rfl ?_ ?_; rotate_left; go_simp; rfl
       refine hK.out _ _ ?_
       clear hK K
       refine done_ (done_of HT_.out (by kernel_rfl)) ?_
       have n0_ : Aside0 (Kd.R (Kd.int .i64) 3 (w42.setCell ⟨go33, (x6_1 : Int).toNat, none⟩ (.int .i64 (wrap64 ((rd l0_1 x6_1) - 1)))) w.heap.size (fun k_ => some k_ ≠ (u379000 : Value).ownBlock ∧ some k_ ≠ (.slice (some ⟨go33, 0, none⟩) x379001_2.length co33 : Value).ownBlock) u5 x5_2) := ⟨by (with_reducible repeat (first | apply ra | apply rn | apply rd_)); exact rm (Kd.R_far (p := ⟨go33, (x6_1 : Int).toNat, none⟩) (rm HO_5.out (fun k_ hk => (⟨hk, fun e_ => hk.2 (by rw [e_]; rfl)⟩ : _ ∧ k_ ≠ go33))) (fun _ hk => hk.2) (.int .i64 (wrap64 ((rd l0_1 x6_1) - 1)))) (fun _ hk => ⟨hk.1.1, hk.1.2⟩)⟩
       have n1_ : Aside0 (Kd.R (Kd.int .i64) 3 (w42.setCell ⟨go33, (x6_1 : Int).toNat, none⟩ (.int .i64 (wrap64 ((rd l0_1 x6_1) - 1)))) w.heap.size (fun k_ => some k_ ≠ (u5 : Value).ownBlock ∧ some k_ ≠ (.slice (some ⟨go33, 0, none⟩) x379001_2.length co33 : Value).ownBlock) u379000 x379000_2) := ⟨by (with_reducible repeat (first | apply ra | apply rn | apply rd_)); exact rm (Kd.R_far (p := ⟨go33, (x6_1 : Int).toNat, none⟩) (rm HO_379000.out (fun k_ hk => (⟨hk, fun e_ => hk.2 (by rw [e_]; rfl)⟩ : _ ∧ k_ ≠ go33))) (fun _ hk => hk.2) (.int .i64 (wrap64 ((rd l0_1 x6_1) - 1)))) (fun _ hk => ⟨hk.1.1, hk.1.2⟩)⟩
       have n2_ : Aside0 (Kd.R (Kd.int .i64) 3 (w42.setCell ⟨go33, (x6_1 : Int).toNat, none⟩ (.int .i64 (wrap64 ((rd l0_1 x6_1) - 1)))) w.heap.size (fun k_ => some k_ ≠ (u5 : Value).ownBlock ∧ some k_ ≠ (u379000 : Value).ownBlock) (.slice (some ⟨go33, 0, none⟩) x379001_2.length co33) y381) := ⟨by (with_reducible repeat (first | apply ra | apply rn | apply rd_)); exact HQ43.out⟩
       have n3_ : Aside0 ((w42.setCell ⟨go33, (x6_1 : Int).toNat, none⟩ (.int .i64 (wrap64 ((rd l0_1 x6_1) - 1)))).heap[gb361]? = some (.cells #[.slice (some ad379) l0_0.length c0_0, .slice (some ad380) l0_1.length c0_1] 27 (0, 0))) := ⟨by (with_reducible repeat (first | refine kn ?_ _ | refine kd_ ?_ | refine ka ?_ _)); refine blk_far ?_ (by have h_ := Kd.R_ne HO_379001.out BK361.out (by decide); intro e_; exact h_ (by rw [e_]; rfl)) _; (with_reducible repeat (first | refine kn ?_ _ | refine kd_ ?_ | refine ka ?_ _)); exact BK361.out⟩
       have n4_ : Aside0 ((w42.setCell ⟨go33, (x6_1 : Int).toNat, none⟩ (.int .i64 (wrap64 ((rd l0_1 x6_1) - 1)))).heap[gb362]? = some (.cells #[.slice none 0 0, .slice none 0 0] 27 (0, 0))) := ⟨by (with_reducible repeat (first | refine kn ?_ _ | refine kd_ ?_ | refine ka ?_ _)); refine blk_far ?_ (by have h_ := Kd.R_ne HO_379001.out BK362.out (by decide); intro e_; exact h_ (by rw [e_]; rfl)) _; (with_reducible repeat (first | refine kn ?_ _ | refine kd_ ?_ | refine ka ?_ _)); exact BK362.out⟩
       have n5_ : Aside0 ((w42.setCell ⟨go33, (x6_1 : Int).toNat, none⟩ (.int .i64 (wrap64 ((rd l0_1 x6_1) - 1)))).heap[g]? = some (.cells #[u379000, .slice (some ⟨go33, 0, none⟩) x379001_2.length co33] 27 (0, 0))) := ⟨by (with_reducible repeat (first | refine kn ?_ _ | refine kd_ ?_ | refine ka ?_ _)); refine blk_far ?_ (by have h_ := Kd.R_ne HO_379001.out BK378.out (by decide); intro e_; exact h_ (by rw [e_]; rfl)) _; (with_reducible repeat (first | refine kn ?_ _ | refine kd_ ?_ | refine ka ?_ _)); exact BK378.out⟩
       have n6_ : Aside0 (Below w.heap.size w (w42.setCell ⟨go33, (x6_1 : Int).toNat, none⟩ (.int .i64 (wrap64 ((rd l0_1 x6_1) - 1))))) := ⟨by repeat (first | (with_reducible first | exact HB.out | apply wa | apply wn | apply wd | refine ws ?_ GB33.out | refine ws ?_ GE361.out | refine ws ?_ GE362.out | refine ws ?_ GE378.out) | exact HB.out)⟩
       (try clear HO_5)
       (try clear HO_379000)
       (try clear HO_379001)
       (try clear BK361)
       (try clear BK362)
       (try clear BK378)
       (try clear HB)
       generalize (w42.setCell ⟨go33, (x6_1 : Int).toNat, none⟩ (.int .i64 (wrap64 ((rd l0_1 x6_1) - 1)))) = w44 at n0_ n1_ n2_ n3_ n4_ n5_ n6_ ⊢
       have HO_5 := n0_
       have HO_379000 := n1_
       have HO_379001 := n2_
       have BK361 := n3_
       have BK362 := n4_
       have BK378 := n5_
       have HB := n6_
       clear n0_ n1_ n2_ n3_ n4_ n5_ n6_
       have hnb45 := NB378_362.out
       have hnc45 := NB362_378.out
       have hcz46_0 : w44.cell? ⟨g, 0, none⟩ = some (u379000) := (kc BK378.out 0).trans rfl
       have hcz46_1 : w44.cell? ⟨g, 1, none⟩ = some (.slice (some ⟨go33, 0, none⟩) x379001_2.length co33) := (kc BK378.out 1).trans rfl
       have hfz46_0 := blk_frozen BK378.out 0
       have hfz46_1 := blk_frozen BK378.out 1
       have p34 : 0 ≤ (x6_1 : Int) := od
       have q34 : (x6_1 : Int) < ((x379001_2.length : Int) : Int) := od
       obtain ⟨hx34_0, hf34_0⟩ := Kd.R_celln 0 HO_379001.out (x6_1 : Int) p34 q34
       have ev34 : rdOf (0 : Int) y381 x6_1 = wrap64 ((rd l0_1 x6_1) - 1) := by rw [Ny381.out]; unfold rdOf; rw [List.getD_eq_getElem?_getD, List.getElem?_set_self (by omega)]; rfl
       rw [ev34] at hx34_0
       clear ev34
       replace p34 := eq_true p34
       replace q34 := eq_true q34
       have p37 : 0 ≤ (x7_2 : Int) := od
       have q37 : (x7_2 : Int) < ((x379000_2.length : Int) : Int) := od
       obtain ⟨go37, co37, eo37, gb37, gl37, cl37, HG37⟩ := Kd.R_form HO_379000.out (by omega)
       (first | cases eo37 | (injection eo37 with ea_ en_ ec_; (first | subst ea_ | (injection ea_ with ea_; subst ea_)); subst ec_; clear en_))
       have GB37 := Z0 gb37
       have GG37 := Z0 HG37
       clear gb37 gl37 HG37
       obtain ⟨hx37_0, hf37_0⟩ := Kd.R_celln 0 HO_379000.out (x7_2 : Int) p37 q37
       replace p37 := eq_true p37
       replace q37 := eq_true q37
       obtain ⟨hy47_, hz47_⟩ := Kd.R_celln 0 HO_379000.out (x7_2 : Int) (of_decide_eq_true (by first | (with_reducible assumption) | assumption)) (of_decide_eq_true (by first | (with_reducible assumption) | assumption))
       have HP47 := Kd.R_putg HO_379000.out (x7_2 : Int) (-1)
       try go_wp2_with (first | ((with_reducible refine gate_store (t := 3) (p := 58) rfl ?_); refine store_event (t := 3) (p := 58) (v := ?vo_w48) (w1 := (w44.setCell ⟨go37, (x7_2 : Int).toNat, none⟩ (.int .i64 (-1)))) ?hg ?ho ?hn ?hr ?_; (case ho => rfl); (case hg => rfl); (case hn => rfl); (case hr => first | (go_simp; done) | (go_simp; rfl)); intro w48 hw; have hg : w44.grownBy w48 (some go37) := (by rw [hw]; exact HP47.2); have hp_ : Kd.R (Kd.int .i64) 3 w48 w.heap.size (fun k_ => some k_ ≠ (u5 : Value).ownBlock ∧ some k_ ≠ (.slice (some ⟨go33, 0, none⟩) x379001_2.length co33 : Value).ownBlock) (.slice (some ⟨go37, 0, none⟩) x379000_2.length co37) y383 := (by rw [hw, Ny383.out]; exact HP47.1); clear HP47; have n0_ := Z0 (Kd.R_after (v := (.slice (some ⟨go37, 0, none⟩) x379000_2.length co37)) (v1 := (.slice (some ⟨go37, 0, none⟩) x379000_2.length co37)) (ok := (fun k_ => some k_ ≠ (.slice (some ⟨go33, 0, none⟩) x379001_2.length co33 : Value).ownBlock)) (by (with_reducible repeat (first | apply ra | apply rn | apply rd_)); exact rm HO_5.out (fun _ hk => ⟨hk.2, hk.1⟩)) hg (.inl rfl)); have n1_ := Z0 (hp_); have n2_ := Z0 (Kd.R_after (v := (.slice (some ⟨go37, 0, none⟩) x379000_2.length co37)) (v1 := (.slice (some ⟨go37, 0, none⟩) x379000_2.length co37)) (ok := (fun k_ => some k_ ≠ (u5 : Value).ownBlock)) (zr HO_379001) hg (.inl rfl)); have n3_ := Z0 (blk_grown (g := gb361) (o := .cells #[.slice (some ad379) l0_0.length c0_0, .slice (some ad380) l0_1.length c0_1] 27 (0, 0)) (zk BK361) hg (Kd.R_ne HO_379000.out BK361.out (by decide))); have n4_ := Z0 (blk_grown (g := gb362) (o := .cells #[.slice none 0 0, .slice none 0 0] 27 (0, 0)) (zk BK362) hg (Kd.R_ne HO_379000.out BK362.out (by decide))); have n5_ := Z0 (blk_grown (g := g) (o := .cells #[.slice (some ⟨go37, 0, none⟩) x379000_2.length co37, .slice (some ⟨go33, 0, none⟩) x379001_2.length co33] 27 (0, 0)) (zk BK378) hg (Kd.R_ne HO_379000.out BK378.out (by decide))); have n6_ := Z0 ((by rw [hw]; exact ws (HB.out) GB37.out : Below w.heap.size w w48)); clear HO_5; clear HO_379000; clear HO_379001; clear BK361; clear BK362; clear BK378; clear HB; have HO_5 := n0_; have HO_379000 := n1_; have HO_379001 := n2_; have BK361 := n3_; have BK362 := n4_; have BK378 := n5_; have HB := n6_; clear n0_ n1_ n2_ n3_ n4_ n5_ n6_; clear hg hw hp_) | ((with_reducible refine gate_builtin (b := .append) (xs := #[.tmp 59, .tmp 61]) rfl ?_); at_builtin; refine Kd.R_append (Kd.int .i64) (w0 := w) w.heap.size rfl (.tmp 59) (.tmp 61) 22 3 (.int .i64 0) 8 rfl Try.underlying22 info3 rfl (by decide) (by omega) u5 x5_2 x6_1 [.int .i64 x6_1] (fun k_ => some k_ ≠ (.slice (some ⟨go37, 0, none⟩) x379000_2.length co37 : Value).ownBlock ∧ some k_ ≠ (.slice (some ⟨go33, 0, none⟩) x379001_2.length co33 : Value).ownBlock) (fun _ => False) rfl rfl ?aP (fun _ hk => hk.elim) ?aF ?aO ?aB ?aS ?aL ?_; (case aP => exact rfl); (case aB => exact (zb HB)); (case aF => exact (fun k_ hk => ⟨Kd.fresh' (rlt (zr HO_379000)) k_ hk, Kd.fresh' (rlt (zr HO_379001)) k_ hk⟩)); (case aO => exact (by (with_reducible repeat (first | apply ra | apply rn | apply rd_)); exact rm HO_5.out (fun _ hk => ⟨hk.2, hk.1⟩))); (case aS => exact (below_size (zb HB))); (case aL => have := LMc38.out; omega); intro v385 w49 ho hb hg hat; rw [← Ny384.out] at ho; have n0_ := Z0 (Kd.R_after (ok := (fun k_ => some k_ ≠ (.slice (some ⟨go33, 0, none⟩) x379001_2.length co33 : Value).ownBlock)) (by (with_reducible repeat (first | apply ra | apply rn | apply rd_)); exact rm HO_379000.out (fun _ hk => ⟨hk.2, hk.1⟩)) hg hat); have n1_ := Z0 (Kd.R_after (ok := (fun k_ => some k_ ≠ (.slice (some ⟨go37, 0, none⟩) x379000_2.length co37 : Value).ownBlock)) (by (with_reducible repeat (first | apply ra | apply rn | apply rd_)); exact rm HO_379001.out (fun _ hk => ⟨hk.2, hk.1⟩)) hg hat); have n2_ := Z0 (blk_grown (g := gb361) (o := .cells #[.slice (some ad379) l0_0.length c0_0, .slice (some ad380) l0_1.length c0_1] 27 (0, 0)) (zk BK361) hg (Kd.R_ne HO_5.out BK361.out (by decide))); have n3_ := Z0 (blk_grown (g := gb362) (o := .cells #[.slice none 0 0, .slice none 0 0] 27 (0, 0)) (zk BK362) hg (Kd.R_ne HO_5.out BK362.out (by decide))); have n4_ := Z0 (blk_grown (g := g) (o := .cells #[.slice (some ⟨go37, 0, none⟩) x379000_2.length co37, .slice (some ⟨go33, 0, none⟩) x379001_2.length co33] 27 (0, 0)) (zk BK378) hg (Kd.R_ne HO_5.out BK378.out (by decide))); have n5_ := Z0 (hb); have n6_ := Z0 (ho); clear HO_379000; clear HO_379001; clear BK361; clear BK362; clear BK378; clear HB; clear HO_5; have HO_379000 := n0_; have HO_379001 := n1_; have BK361 := n2_; have BK362 := n3_; have BK378 := n4_; have HB := n5_; have HO386 := n6_; clear n0_ n1_ n2_ n3_ n4_ n5_ n6_; clear ho hb hg hat))
       go_roundg k2
       case measure => have := HK1.out; have := HK2.out; omega
       case rel => exact ⟨(y384), (wrap64 (x7_2 + 1)), (y383), (y381), (.slice (some ⟨go37, 0, none⟩) x379000_2.length co37), (.slice (some ⟨go33, 0, none⟩) x379001_2.length co33), zs, H', ⟨by have := HK1.out; have := HK2.out; omega⟩, ⟨by (with_reducible repeat (first | apply ra | apply rn | apply rd_)); exact HO386.out⟩, ⟨by (with_reducible repeat (first | apply ra | apply rn | apply rd_)); exact rm HO_379000.out (fun _ hk => ⟨hk.2, hk.1⟩)⟩, ⟨by (with_reducible repeat (first | apply ra | apply rn | apply rd_)); exact rm HO_379001.out (fun _ hk => ⟨hk.2, hk.1⟩)⟩, ⟨zk BK361⟩, ⟨zk BK362⟩, ⟨zk BK378⟩, ⟨zb HB⟩⟩
 · rintro l a w1 i ⟨c, g, x4, x5, x8, x9, x10, x11, x12, x13, x14, x15, x16, x17, h, rfl⟩ hm
   have hi : i < 13 := ready_lt hm
   have hn := ready_not hm
   have HC : Hid (w1.heap[gb361]? = some (.cells #[.slice A0_0 l0_0.length c0_0, .slice A0_1 l0_1.length c0_1] 27 (0, 0))) := (h.b0.2 _ (blk_lt BK361.out)).trans BK361.out
   have HBB := Lib.hid h.b
   have HN := Lib.hid hn
   have HM := Lib.hid hm
   have HH := Lib.hid h
   clear hn hm h
   obtain rfl | rfl | rfl | rfl | rfl | rfl | rfl | rfl | rfl | rfl | rfl | rfl | rfl : i = 0 ∨ i = 1 ∨ i = 2 ∨ i = 3 ∨ i = 4 ∨ i = 5 ∨ i = 6 ∨ i = 7 ∨ i = 8 ∨ i = 9 ∨ i = 10 ∨ i = 11 ∨ i = 12 := by omega
   · refine wp_op (o := _) rfl ?_
     refine Kd.R_lit_step (Kd.int .i64) (w0 := w) w.heap.size 3 rfl (N := 8) rfl (xs := ([] : List Int)) (inner := []) (ok := fun k => paint c w1.heap.size 0 k = 0) (okp := fun _ => False) ?_ (Reps.none _ _) (fun _ hk => hk.elim) (paint_new (Nat.le_refl _)) HBB.out HBB.out.size (by simp) ?_
     · first | (go_simp; done) | (go_simp; rfl)
     intro v w2 ho hb hg_ hnew
     exact ⟨_, g, x4, x5, v, x9, x10, x11, x12, x13, x14, x15, x16, x17, HH.out.s0 HN.out ho hb hg_.size (fun k _ hk => hg_.block k hk (by simp)), by first | rfl | (simp only [Act.put, y0, y1, y2]; done) | (simp only [Act.put, y0, y1, y2]; rfl)⟩
   · refine wp_op (o := _) rfl ?_
     refine event_step (v := ?_) (w1 := w1) rfl ?_ ?_; rotate_left
     · first | (go_simp; with_reducible rfl) | (go_simp; rfl)
     exact ⟨c, g, x4, x5, x8, _, x10, x11, x12, x13, x14, x15, x16, x17, HH.out.s1 HN.out _ rfl, by first | rfl | (simp only [Act.put, y0, y1, y2]; done) | (simp only [Act.put, y0, y1, y2]; rfl)⟩
   · have t1 : l.getD 1 false = true := ready_deps HM.out (o := _) rfl ⟨1, .data⟩ (by simp) rfl
     obtain rfl := HH.out.i1 t1
     have hc : w1.cell? ⟨gb361, 0, none⟩ = some (.slice A0_0 l0_0.length c0_0) := (blk_cell HC.out 0).trans rfl
     refine wp_op (o := _) rfl ?_
     refine event_step (v := ?_) (w1 := w1) rfl ?_ ?_; rotate_left
     · first | (go_simp; with_reducible rfl) | (go_simp; rfl)
     exact ⟨c, g, x4, x5, x8, _, _, x11, x12, x13, x14, x15, x16, x17, HH.out.s2 HN.out _ rfl, by first | rfl | (simp only [Act.put, y0, y1, y2]; done) | (simp only [Act.put, y0, y1, y2]; rfl)⟩
   · have t0 : l.getD 0 false = true := ready_deps HM.out (o := _) rfl ⟨0, .data⟩ (by simp) rfl
     have t2 : l.getD 2 false = true := ready_deps HM.out (o := _) rfl ⟨2, .data⟩ (by simp) rfl
     obtain rfl := HH.out.i2 t2
     have n3 := HN.out
     have hlen : (([] : List Int).length + l0_0.length) * 8 ≤ 140737488355328 := by have h_ := LMc2.out; rw [Ny363.out] at h_; simp only [List.length_nil] at h_ ⊢; omega
     refine wp_op (o := _) rfl ?_
     refine Kd.R_append_rows_step (Kd.int .i64) (w0 := w) w.heap.size rfl (.tmp 8) (.tmp 10) 22 3 (.int .i64 0) 8 rfl Try.underlying22 info3 rfl (by decide) (by omega) x8 ([] : List Int) l0_0 _ _ _ (fun k => paint c w1.heap.size 0 k = 0) (fun _ => False) rfl rfl (HH.out.ra0 t0 n3).own (Kd.C_below HR0_0.out HBB.out) (fun _ _ h => h) (fun _ h => h.elim) (fun k hk => paint_new hk) HBB.out HBB.out.size hlen ?_
     intro v w2 ho hb hg_ hat
     rw [List.nil_append] at ho
     exact ⟨_, g, x4, x5, x8, x9, _, v, x12, x13, x14, x15, x16, x17, HH.out.s3 HN.out ho hb hg_.size (fun k hc hk => hg_.block k hk (fun e => hc ((HH.out.ra0 t0 n3).1 k e.symm))) t0, by first | rfl | (simp only [Act.put, y0, y1, y2]; done) | (simp only [Act.put, y0, y1, y2]; rfl)⟩
   · refine wp_op (o := _) rfl ?_
     refine Kd.R_lit_step (Kd.int .i64) (w0 := w) w.heap.size 3 rfl (N := 12) rfl (xs := ([] : List Int)) (inner := []) (ok := fun k => paint c w1.heap.size 1 k = 1) (okp := fun _ => False) ?_ (Reps.none _ _) (fun _ hk => hk.elim) (paint_new (Nat.le_refl _)) HBB.out HBB.out.size (by simp) ?_
     · first | (go_simp; done) | (go_simp; rfl)
     intro v w2 ho hb hg_ hnew
     exact ⟨_, g, x4, x5, x8, x9, x10, x11, v, x13, x14, x15, x16, x17, HH.out.s4 HN.out ho hb hg_.size (fun k _ hk => hg_.block k hk (by simp)), by first | rfl | (simp only [Act.put, y0, y1, y2]; done) | (simp only [Act.put, y0, y1, y2]; rfl)⟩
   · refine wp_op (o := _) rfl ?_
     refine event_step (v := ?_) (w1 := w1) rfl ?_ ?_; rotate_left
     · first | (go_simp; with_reducible rfl) | (go_simp; rfl)
     exact ⟨c, g, x4, x5, x8, x9, x10, x11, x12, _, x14, x15, x16, x17, HH.out.s5 HN.out _ rfl, by first | rfl | (simp only [Act.put, y0, y1, y2]; done) | (simp only [Act.put, y0, y1, y2]; rfl)⟩
   · have t5 : l.getD 5 false = true := ready_deps HM.out (o := _) rfl ⟨5, .data⟩ (by simp) rfl
     obtain rfl := HH.out.i5 t5
     have hc : w1.cell? ⟨gb361, 1, none⟩ = some (.slice A0_1 l0_1.length c0_1) := (blk_cell HC.out 1).trans rfl
     refine wp_op (o := _) rfl ?_
     refine event_step (v := ?_) (w1 := w1) rfl ?_ ?_; rotate_left
     · first | (go_simp; with_reducible rfl) | (go_simp; rfl)
     exact ⟨c, g, x4, x5, x8, x9, x10, x11, x12, _, _, x15, x16, x17, HH.out.s6 HN.out _ rfl, by first | rfl | (simp only [Act.put, y0, y1, y2]; done) | (simp only [Act.put, y0, y1, y2]; rfl)⟩
   · have t4 : l.getD 4 false = true := ready_deps HM.out (o := _) rfl ⟨4, .data⟩ (by simp) rfl
     have t6 : l.getD 6 false = true := ready_deps HM.out (o := _) rfl ⟨6, .data⟩ (by simp) rfl
     obtain rfl := HH.out.i6 t6
     have n3 := HN.out
     have hlen : (([] : List Int).length + l0_1.length) * 8 ≤ 140737488355328 := by have h_ := LMc3.out; rw [Ny369.out] at h_; simp only [List.length_nil] at h_ ⊢; omega
     refine wp_op (o := _) rfl ?_
     refine Kd.R_append_rows_step (Kd.int .i64) (w0 := w) w.heap.size rfl (.tmp 12) (.tmp 14) 22 3 (.int .i64 0) 8 rfl Try.underlying22 info3 rfl (by decide) (by omega) x12 ([] : List Int) l0_1 _ _ _ (fun k => paint c w1.heap.size 1 k = 1) (fun _ => False) rfl rfl (HH.out.rb0 t4 n3).own (Kd.C_below HR0_1.out HBB.out) (fun _ _ h => h) (fun _ h => h.elim) (fun k hk => paint_new hk) HBB.out HBB.out.size hlen ?_
     intro v w2 ho hb hg_ hat
     rw [List.nil_append] at ho
     exact ⟨_, g, x4, x5, x8, x9, x10, x11, x12, x13, _, v, x16, x17, HH.out.s7 HN.out ho hb hg_.size (fun k hc hk => hg_.block k hk (fun e => hc ((HH.out.rb0 t4 n3).1 k e.symm))) t4, by first | rfl | (simp only [Act.put, y0, y1, y2]; done) | (simp only [Act.put, y0, y1, y2]; rfl)⟩
   · have t3 : l.getD 3 false = true := ready_deps HM.out (o := _) rfl ⟨3, .data⟩ (by simp) rfl
     have t7 : l.getD 7 false = true := ready_deps HM.out (o := _) rfl ⟨7, .data⟩ (by simp) rfl
     obtain ⟨Aox, cox, eox⟩ := Kd.R_slice (HH.out.ra1 t3)
     obtain ⟨Aoy, coy, eoy⟩ := Kd.R_slice (HH.out.rb1 t7)
     subst eox eoy
     refine wp_op (o := _) rfl ?_
     refine event_step (v := ?_) (w1 := w1) rfl ?_ ?_; rotate_left
     · first | (go_simp; with_reducible rfl) | (go_simp; rfl)
     exact ⟨c, g, x4, x5, x8, x9, x10, _, x12, x13, x14, _, _, x17, HH.out.s8 HN.out _ rfl ⟨t3, t7⟩, by first | rfl | (simp only [Act.put, y0, y1, y2]; done) | (simp only [Act.put, y0, y1, y2]; rfl)⟩
   · refine wp_op (o := _) rfl ?_
     refine Kd.R_lit_step (Kd.int .i64) (w0 := w) w.heap.size 3 rfl (N := 17) rfl (xs := ([] : List Int)) (inner := []) (ok := fun k => paint c w1.heap.size 2 k = 2) (okp := fun _ => False) ?_ (Reps.none _ _) (fun _ hk => hk.elim) (paint_new (Nat.le_refl _)) HBB.out HBB.out.size (by simp) ?_
     · first | (go_simp; done) | (go_simp; rfl)
     intro v w2 ho hb hg_ hnew
     exact ⟨_, g, x4, x5, x8, x9, x10, x11, x12, x13, x14, x15, x16, v, HH.out.s9 HN.out ho hb hg_.size (fun k _ hk => hg_.block k hk (by simp)), by first | rfl | (simp only [Act.put, y0, y1, y2]; done) | (simp only [Act.put, y0, y1, y2]; rfl)⟩
   · refine wp_op (o := _) rfl ?_
     refine box_step rfl (N := 4) rfl (cs := #[.slice none 0 0, .slice none 0 0]) (t := 27) ?_ ?_
     · first | (go_simp; done) | (go_simp; rfl)
     intro g' hg w2 hbox hb
     have hl := blk_lt hbox
     exact ⟨_, _, _, x5, x8, x9, x10, x11, x12, x13, x14, x15, x16, x17, HH.out.s10 HN.out g' rfl hg hbox (below_step HBB.out hb) (by omega) (fun k hk => hb.block k hk), by first | rfl | (simp only [Act.put, y0, y1, y2]; done) | (simp only [Act.put, y0, y1, y2]; rfl)⟩
   · have t10 : l.getD 10 false = true := ready_deps HM.out (o := _) rfl ⟨10, .data⟩ (by simp) rfl
     have t8 : l.getD 8 false = true := ready_deps HM.out (o := _) rfl ⟨8, .data⟩ (by simp) rfl
     obtain rfl := HH.out.d0 t10
     obtain rfl := HH.out.i8 t8
     obtain ⟨Aox, cox, eox⟩ := Kd.R_slice (HH.out.ra1 (HH.out.q8_3 t8))
     obtain ⟨Aoy, coy, eoy⟩ := Kd.R_slice (HH.out.rb1 (HH.out.q8_7 t8))
     subst eox eoy
     have n3 := HN.out
     have hx := HH.out.d2 t10 n3
     have hd := HH.out.d1 t10
     have hw := HH.out.b0.1
     have hc0 : w1.cell? ⟨g, 0, none⟩ = some (.slice none 0 0) := (blk_cell hx 0).trans rfl
     have hc1 : w1.cell? ⟨g, 1, none⟩ = some (.slice none 0 0) := (blk_cell hx 1).trans rfl
     have hf0 := blk_frozen hx 0
     have hf1 := blk_frozen hx 1
     have hge : w.heap.size ≤ g := by have := hd.2.1; have := (below_size (zb HB)); omega
     have HX := Lib.hid hx
     have HD := Lib.hid hd
     clear hx hd hw
     refine wp_op (o := _) rfl ?_
     refine skip_ (w1 := ?_) (by rfl) rfl ?_ ?_; rotate_left; go_simp; rfl
     have hb2 : Below w.heap.size w ((w1.setCell ⟨g, 0, none⟩ (.slice Aox l0_0.length cox)).setCell ⟨g, 1, none⟩ (.slice Aoy l0_1.length coy)) := below_set (below_set HBB.out hge) hge
     exact ⟨c, g, _, x5, x8, x9, x10, _, x12, x13, x14, _, _, x17, HH.out.s11 HN.out ⟨HH.out.q8_3 t8, HH.out.q8_7 t8, t10⟩ (two_set HX.out) hb2 (by rw [World.size_setCell, World.size_setCell]) (fun k hk => far_set hk), rfl⟩
   · have t9 : l.getD 9 false = true := ready_deps HM.out (o := _) rfl ⟨9, .data⟩ (by simp) rfl
     refine wp_op (o := _) rfl ?_
     refine event_step (v := ?_) (w1 := w1) rfl ?_ ?_; rotate_left
     · first | (go_simp; with_reducible rfl) | (go_simp; rfl)
     exact ⟨c, g, x4, _, x8, x9, x10, x11, x12, x13, x14, x15, x16, x17, HH.out.s12 HN.out _ rfl t9, by first | rfl | (simp only [Act.put, y0, y1, y2]; done) | (simp only [Act.put, y0, y1, y2]; rfl)⟩
end Go.Proofs.Ytmbhjhanafmidaa.PListSteps
