/- Printed contracts of some functions, put into one: trefoilref05_Few, trefoillaw05_Own. -/
import Derived.Test.YtokhibhmlninnaaGreatDoorProg
import Derived.Below
import Derived.Deep.Draws
import Derived.Deep.AppendLies
import Derived.Maps.AppendAt
import Derived.OwnWalk
import Derived.Laws.BytesArg
import Derived.Laws.MakeOwn
import Derived.Laws.OwnMore
import Derived.Deep.OwnRows
import Derived.Tactics
import Derived.Lib.ConvBytes
import Derived.Laws.Slices
import Derived.WalkKit
import Derived.KernelRfl
import Derived.RowKit3
import Derived.Deep.LoopGhost
import Derived.Deep.QuietTactic
import Derived.BigQuiet
import Derived.WideLaws
import Derived.Deep.DeepCutAuto
import Derived.Deep.CutBlock
import Derived.Deep.RegionHeld3
import Derived.Laws.Rows
import Derived.Lib.AppendStr
import Derived.ArgAppend
import Derived.Laws.IdiomCopy
import Derived.OrdersHeld
import Derived.Laws.BitsLemmas
import Derived.RowKit
import Derived.Test.YtokhibhmlninnaaGreatDoorZWWords
import Derived.Test.YtokhibhmlninnaaGreatDoorZWLast
import Derived.Test.YtokhibhmlninnaaGreatDoorZWTab
import Derived.Test.YtokhibhmlninnaaGreatDoorZWFour
import Derived.Test.YtokhibhmlninnaaGreatDoorZWQPut
import Derived.Test.YtokhibhmlninnaaGreatDoorZWApart
import Derived.Test.YtokhibhmlninnaaGreatDoorZWArr
import Derived.Test.YtokhibhmlninnaaGreatDoorZWZeros
import Derived.Test.YtokhibhmlninnaaGreatDoorZWFoot
import Derived.Test.YtokhibhmlninnaaGreatDoorZWKept
import Derived.Test.YtokhibhmlninnaaGreatDoorZWShare
import Derived.Test.YtokhibhmlninnaaGreatDoorZWN
import Derived.Test.YtokhibhmlninnaaGreatDoorZWFootNe
import Derived.Test.YtokhibhmlninnaaGreatDoorZWAt
import Derived.Test.YtokhibhmlninnaaGreatDoorZWEqStruct
import Derived.Test.YtokhibhmlninnaaGreatDoorZWRepsOne
import Derived.Test.YtokhibhmlninnaaGreatDoorZWInv
import Derived.Test.YtokhibhmlninnaaGreatDoorZWInvWords
import Derived.Test.YtokhibhmlninnaaGreatDoorZWGuard
import Derived.Test.YtokhibhmlninnaaGreatDoorZWNEv
import Derived.Test.YtokhibhmlninnaaGreatDoorZWMore
import Derived.Test.YtokhibhmlninnaaGreatDoorZMP
import Derived.Test.YtokhibhmlninnaaGreatDoorZZr
namespace Go.Proofs.YtokhibhmlninnaaGreatDoor.PCodO
open Go.Proofs.YtokhibhmlninnaaGreatDoor.Zr Go.Proofs.YtokhibhmlninnaaGreatDoor.PCod
open Go.RowKit Go.Proofs.YtokhibhmlninnaaGreatDoorW.PrintWords Go.Proofs.YtokhibhmlninnaaGreatDoorW.PrintLast Go.Proofs.YtokhibhmlninnaaGreatDoorW.PrintMore
attribute [local go_sem] max2_int min2_int max_two min_two max_three min_three max_four min_four   -- for this text's walks alone
set_option linter.unusedVariables false
set_option linter.unusedSimpArgs false
attribute [local go_sem high] eqA63
attribute [local go_sem high] eqA47 eqA63 eqA65
mutual
def trefoilref05_Few.l0 : Nat → Int → Int → Int → List (S47) → List (S63) → List (S65) → List (S50) → Option (Bool)
 | 0, _, _, _, _, _, _, _ => none
 | k + 1, x3, x145000, x145001, x145002, x145003, x145004, x145005 => if x3 < (x145005.length : Int) then (trefoilref05_Few.j1 k x3 (decide (x3 < 9)) x145000 x145001 x145002 x145003 x145004 x145005) else (trefoilref05_Few.j1 k x3 false x145000 x145001 x145002 x145003 x145004 x145005)
def trefoilref05_Few.j1 : Nat → Int → Bool → Int → Int → List (S47) → List (S63) → List (S65) → List (S50) → Option (Bool)
 | 0, _, _, _, _, _, _, _, _ => none
 | k + 1, x3, x12, x145000, x145001, x145002, x145003, x145004, x145005 => if x12 = true then (if 0 ≤ x3 then (if x3 < (x145005.length : Int) then (if (((rd_T50 x145005 x3).f0).length : Int) > 20 then (some false) else (if (((rd_T50 x145005 x3).f1).length : Int) > 20 then (some false) else (trefoilref05_Few.l0 k (wrap64 (x3 + 1)) x145000 x145001 x145002 x145003 x145004 x145005))) else (none)) else (none)) else (if (x145002.length : Int) ≤ 20 then (if (x145003.length : Int) ≤ 60 then (if (x145004.length : Int) ≤ 20 then (some (decide ((x145005.length : Int) ≤ 8))) else (some false)) else (some false)) else (some false))
end
def trefoilref05_Few.f (k : Nat) (a0_0 : Int) (a0_1 : Int) (l0_2 : List (S47)) (l0_3 : List (S63)) (l0_4 : List (S65)) (l0_5 : List (S50)) : Option (Bool) := trefoilref05_Few.l0 k 0 a0_0 a0_1 l0_2 l0_3 l0_4 l0_5
set_option maxHeartbeats 8000000 in
set_option maxRecDepth 100000 in
theorem trefoilref05_Few.calls (k : Nat) (a0_0 : Int) (a0_1 : Int) (A0_2 : Option Addr) (c0_2 : Nat) (l0_2 : List (S47)) (A0_3 : Option Addr) (c0_3 : Nat) (l0_3 : List (S63)) (A0_4 : Option Addr) (c0_4 : Nat) (l0_4 : List (S65)) (A0_5 : Option Addr) (c0_5 : Nat) (l0_5 : List (S50)) (r : Bool) (w : World) (hr0_2 : Kd.C k47 w A0_2 l0_2.length l0_2) (hc0_2 : l0_2.length ≤ c0_2) (hr0_3 : Kd.C k63 w A0_3 l0_3.length l0_3) (hc0_3 : l0_3.length ≤ c0_3) (hr0_4 : Kd.C k65 w A0_4 l0_4.length l0_4) (hc0_4 : l0_4.length ≤ c0_4) (hr0_5 : Kd.C k50 w A0_5 l0_5.length l0_5) (hc0_5 : l0_5.length ≤ c0_5) (h : trefoilref05_Few.f k a0_0 a0_1 l0_2 l0_3 l0_4 l0_5 = some r) :
  Calls Tryz.prog 8 #[.agg #[.int .i64 a0_0, .int .i64 a0_1, .slice A0_2 l0_2.length c0_2, .slice A0_3 l0_3.length c0_3, .slice A0_4 l0_4.length c0_4, .slice A0_5 l0_5.length c0_5]] w fun e w' => e = .returned (.bool r) ∧ Below w.heap.size w w' := by
 have hu27 := Tryz.underlying27
 have HR0_2 := Z0 hr0_2
 have HC0_2 := Z0 hc0_2
 clear hr0_2 hc0_2
 have HR0_3 := Z0 hr0_3
 have HC0_3 := Z0 hc0_3
 clear hr0_3 hc0_3
 have HR0_4 := Z0 hr0_4
 have HC0_4 := Z0 hc0_4
 clear hr0_4 hc0_4
 have HR0_5 := Z0 hr0_5
 have HC0_5 := Z0 hc0_5
 clear hr0_5 hc0_5
 have HB := Z0 (Below.refl w.heap.size w)
 have H : (trefoilref05_Few.l0 k 0 a0_0 a0_1 l0_2 l0_3 l0_4 l0_5) = some r := h
 clear h
 have H' := Z0 H
 clear H
 go_enter Tryz.func8, Tryz.ntmps8
 go_wp2_with (first | ((with_reducible refine gate_dst (N := 1) rfl ?_); (try (refine gate_guard (by rfl) ?_; dsimp only)); refine zx (N := 1) #[.int .i64 a0_0, .int .i64 a0_1, .slice A0_2 l0_2.length c0_2, .slice A0_3 l0_3.length c0_3, .slice A0_4 l0_4.length c0_4, .slice A0_5 l0_5.length c0_5] 27 ?_; intro gb144 hg w2 hbox hb; have BK144 := Z0 (hbox); have GW144 := Z0 (zh w hg HB); have GE144 := Z0 (zh w hg HB); replace HB := Z0 (below_step (zb HB) hb); clear hb hbox hg))
 go_loopg [3] k (fun kq v3 w' => ∃ (x3_1 : Int), v3 = .int .i64 x3_1 ∧ Aside0 (trefoilref05_Few.l0 kq x3_1 a0_0 a0_1 l0_2 l0_3 l0_4 l0_5 = some r) ∧ Aside0 (kq ≤ k) ∧ Aside0 (w'.heap[gb144]? = some (.cells #[.int .i64 a0_0, .int .i64 a0_1, (.slice A0_2 l0_2.length c0_2), (.slice A0_3 l0_3.length c0_3), (.slice A0_4 l0_4.length c0_4), (.slice A0_5 l0_5.length c0_5)] 27 (0, 0))) ∧ Aside0 (Below w.heap.size w w'))
 case atStart => exact ⟨(0), zs, H', ⟨Nat.le_refl _⟩, ⟨zk BK144⟩, ⟨zb HB⟩⟩
 case round =>
  clear H'
  try clear p2
  obtain ⟨x3_1, rfl, HA, HK1, BK144, HB⟩ := hrel
  cases gk with
  | zero => exact absurd HA.out (by simp [trefoilref05_Few.l0])
  | succ k1 =>
   have H := HA.out
   clear HA
   simp only [trefoilref05_Few.l0] at H
   have HC3 := Z0 H
   clear H
   go_upto_region 2 with (fail)
   go_cut [12] (fun v12 wc => ∃ (kq : Nat) (x12_2 : Bool), v12 = .bool x12_2 ∧ Aside0 (trefoilref05_Few.j1 kq x3_1 x12_2 a0_0 a0_1 l0_2 l0_3 l0_4 l0_5 = some r) ∧ Aside0 (kq ≤ k1) ∧ Aside0 (wc.heap[gb144]? = some (.cells #[.int .i64 a0_0, .int .i64 a0_1, (.slice A0_2 l0_2.length c0_2), (.slice A0_3 l0_3.length c0_3), (.slice A0_4 l0_4.length c0_4), (.slice A0_5 l0_5.length c0_5)] 27 (0, 0))) ∧ Aside0 (Below w.heap.size w wc))
   case first =>
    have H := HC3.out; clear HC3
    by_cases c4 : x3_1 < (l0_5.length : Int)
    ·rw [if_pos c4] at H; have c4b0 : decide (x3_1 < (l0_5.length : Int)) = true := decide_eq_true c4; clear c4
     (first | rw [c4b0] | (simp only [i64_w, i32_w]; rw [c4b0]) | skip)
     have H' := Z0 H; clear H; have hcz5_0 := kz0 BK144; have hcz5_1 := kz1 BK144; have hcz5_2 := kz2 BK144; have hcz5_3 : wr.cell? ⟨gb144, 3, none⟩ = some (.slice A0_3 l0_3.length c0_3) := (kc BK144.out 3).trans rfl; have hcz5_4 : wr.cell? ⟨gb144, 4, none⟩ = some (.slice A0_4 l0_4.length c0_4) := (kc BK144.out 4).trans rfl; have hcz5_5 : wr.cell? ⟨gb144, 5, none⟩ = some (.slice A0_5 l0_5.length c0_5) := (kc BK144.out 5).trans rfl; have hfz5_0 := blk_frozen BK144.out 0; have hfz5_1 := blk_frozen BK144.out 1; have hfz5_2 := blk_frozen BK144.out 2; have hfz5_3 := blk_frozen BK144.out 3; have hfz5_4 := blk_frozen BK144.out 4; have hfz5_5 := blk_frozen BK144.out 5
     go_wp2
     go_meet
     case rel => exact ⟨_, (decide (x3_1 < 9)), zs, H', ⟨by have := HK1.out; first | omega | exact Nat.le_refl _⟩, ⟨zk BK144⟩, ⟨zb HB⟩⟩
    ·rw [if_neg c4] at H; have c4b0 : decide (x3_1 < (l0_5.length : Int)) = false := decide_eq_false c4; clear c4
     (first | rw [c4b0] | (simp only [i64_w, i32_w]; rw [c4b0]) | skip)
     have H' := Z0 H; clear H; have hcz6_0 := kz0 BK144; have hcz6_1 := kz1 BK144; have hcz6_2 := kz2 BK144; have hcz6_3 : wr.cell? ⟨gb144, 3, none⟩ = some (.slice A0_3 l0_3.length c0_3) := (kc BK144.out 3).trans rfl; have hcz6_4 : wr.cell? ⟨gb144, 4, none⟩ = some (.slice A0_4 l0_4.length c0_4) := (kc BK144.out 4).trans rfl; have hcz6_5 : wr.cell? ⟨gb144, 5, none⟩ = some (.slice A0_5 l0_5.length c0_5) := (kc BK144.out 5).trans rfl; have hfz6_0 := blk_frozen BK144.out 0; have hfz6_1 := blk_frozen BK144.out 1; have hfz6_2 := blk_frozen BK144.out 2; have hfz6_3 := blk_frozen BK144.out 3; have hfz6_4 := blk_frozen BK144.out 4; have hfz6_5 := blk_frozen BK144.out 5
     go_wp2
     go_meet
     case rel => exact ⟨_, (false), zs, H', ⟨by have := HK1.out; first | omega | exact Nat.le_refl _⟩, ⟨zk BK144⟩, ⟨zb HB⟩⟩
   case rest =>
    clear HC3
    try clear p2
    try clear c4
    try clear c4b0
    try clear hcz5_0
    try clear hcz5_1
    try clear hcz5_2
    try clear hcz5_3
    try clear hcz5_4
    try clear hcz5_5
    try clear hcz6_0
    try clear hcz6_1
    try clear hcz6_2
    try clear hcz6_3
    try clear hcz6_4
    try clear hcz6_5
    try clear hfz5_0
    try clear hfz5_1
    try clear hfz5_2
    try clear hfz5_3
    try clear hfz5_4
    try clear hfz5_5
    try clear hfz6_0
    try clear hfz6_1
    try clear hfz6_2
    try clear hfz6_3
    try clear hfz6_4
    try clear hfz6_5
    try clear p2
    obtain ⟨kq, x12_2, rfl, HA, HJ2, BK144, HB⟩ := hcut
    cases kq with
    | zero => exact absurd HA.out (by simp [trefoilref05_Few.j1])
    | succ kj2 =>
     have H := HA.out; clear HA; simp only [trefoilref05_Few.j1] at H
     by_cases c7 : x12_2 = true
     ·subst c7; rw [if_pos rfl] at H
      by_cases c8 : 0 ≤ x3_1
      ·rw [if_pos c8] at H; have c8b0 : decide (0 ≤ x3_1) = true := decide_eq_true c8; clear c8
       by_cases c9 : x3_1 < (l0_5.length : Int)
       ·rw [if_pos c9] at H; have c9b0 : decide (x3_1 < (l0_5.length : Int)) = true := decide_eq_true c9; clear c9
        by_cases c10 : (((rd_T50 l0_5 x3_1).f0).length : Int) > 20
        ·rw [if_pos c10] at H; have c10b0 : decide (20 < (((rd_T50 l0_5 x3_1).f0).length : Int)) = true := decide_eq_true c10; have c10b1 : decide (20 < ((rd_T50 l0_5 x3_1).f0).length) = true := decide_eq_true (by omega); clear c10; obtain rfl := Option.some.inj H; have hcz11_0 := kz0 BK144; have hcz11_1 := kz1 BK144; have hcz11_2 := kz2 BK144; have hcz11_3 : wc.cell? ⟨gb144, 3, none⟩ = some (.slice A0_3 l0_3.length c0_3) := (kc BK144.out 3).trans rfl; have hcz11_4 : wc.cell? ⟨gb144, 4, none⟩ = some (.slice A0_4 l0_4.length c0_4) := (kc BK144.out 4).trans rfl; have hcz11_5 : wc.cell? ⟨gb144, 5, none⟩ = some (.slice A0_5 l0_5.length c0_5) := (kc BK144.out 5).trans rfl; have hfz11_0 := blk_frozen BK144.out 0; have hfz11_1 := blk_frozen BK144.out 1; have hfz11_2 := blk_frozen BK144.out 2; have hfz11_3 := blk_frozen BK144.out 3; have hfz11_4 := blk_frozen BK144.out 4; have hfz11_5 := blk_frozen BK144.out 5; have p145 : 0 ≤ (x3_1 : Int) := od; have q145 : x3_1 < (l0_5.length : Int) := od; obtain ⟨ad145, A145_0, c145_0, A145_1, c145_1, e145, hx145_0, hx145_1, hl145_0, hi145_0, hl145_1, hi145_1⟩ := at_T50 HR0_5.out x3_1 p145 q145
         cases e145
         replace hx145_0 := (HB.out.cell (bl w _ hx145_0)).trans hx145_0; replace hx145_1 := (HB.out.cell (bl w _ hx145_1)).trans hx145_1; have HR145_0 := Z0 hi145_0; have HC145_0 := Z0 hl145_0; clear hi145_0 hl145_0; have HR145_1 := Z0 hi145_1; have HC145_1 := Z0 hl145_1; clear hi145_1 hl145_1; replace p145 := eq_true p145; replace q145 := eq_true q145
         go_wp2
         go_ret
         exact ⟨ze, zb HB⟩
        ·rw [if_neg c10] at H; have c10b0 : decide (20 < (((rd_T50 l0_5 x3_1).f0).length : Int)) = false := decide_eq_false c10; have c10b1 : decide (20 < ((rd_T50 l0_5 x3_1).f0).length) = false := decide_eq_false (by omega); clear c10
         by_cases c12 : (((rd_T50 l0_5 x3_1).f1).length : Int) > 20
         ·rw [if_pos c12] at H; have c12b0 : decide (20 < (((rd_T50 l0_5 x3_1).f1).length : Int)) = true := decide_eq_true c12; have c12b1 : decide (20 < ((rd_T50 l0_5 x3_1).f1).length) = true := decide_eq_true (by omega); clear c12; obtain rfl := Option.some.inj H; have hcz13_0 := kz0 BK144; have hcz13_1 := kz1 BK144; have hcz13_2 := kz2 BK144; have hcz13_3 : wc.cell? ⟨gb144, 3, none⟩ = some (.slice A0_3 l0_3.length c0_3) := (kc BK144.out 3).trans rfl; have hcz13_4 : wc.cell? ⟨gb144, 4, none⟩ = some (.slice A0_4 l0_4.length c0_4) := (kc BK144.out 4).trans rfl; have hcz13_5 : wc.cell? ⟨gb144, 5, none⟩ = some (.slice A0_5 l0_5.length c0_5) := (kc BK144.out 5).trans rfl; have hfz13_0 := blk_frozen BK144.out 0; have hfz13_1 := blk_frozen BK144.out 1; have hfz13_2 := blk_frozen BK144.out 2; have hfz13_3 := blk_frozen BK144.out 3; have hfz13_4 := blk_frozen BK144.out 4; have hfz13_5 := blk_frozen BK144.out 5; have p145 : 0 ≤ (x3_1 : Int) := od; have q145 : x3_1 < (l0_5.length : Int) := od; obtain ⟨ad145, A145_0, c145_0, A145_1, c145_1, e145, hx145_0, hx145_1, hl145_0, hi145_0, hl145_1, hi145_1⟩ := at_T50 HR0_5.out x3_1 p145 q145
          cases e145
          replace hx145_0 := (HB.out.cell (bl w _ hx145_0)).trans hx145_0; replace hx145_1 := (HB.out.cell (bl w _ hx145_1)).trans hx145_1; have HR145_0 := Z0 hi145_0; have HC145_0 := Z0 hl145_0; clear hi145_0 hl145_0; have HR145_1 := Z0 hi145_1; have HC145_1 := Z0 hl145_1; clear hi145_1 hl145_1; replace p145 := eq_true p145; replace q145 := eq_true q145; have p146 : 0 ≤ (x3_1 : Int) := od; have q146 : x3_1 < (l0_5.length : Int) := od; obtain ⟨ad146, A146_0, c146_0, A146_1, c146_1, e146, hx146_0, hx146_1, hl146_0, hi146_0, hl146_1, hi146_1⟩ := at_T50 HR0_5.out x3_1 p146 q146; obtain rfl : ad145 = ad146 := (by injection e146); replace hx146_0 := (HB.out.cell (bl w _ hx146_0)).trans hx146_0; replace hx146_1 := (HB.out.cell (bl w _ hx146_1)).trans hx146_1; have HR146_0 := Z0 hi146_0; have HC146_0 := Z0 hl146_0; clear hi146_0 hl146_0; have HR146_1 := Z0 hi146_1; have HC146_1 := Z0 hl146_1; clear hi146_1 hl146_1; replace p146 := eq_true p146; replace q146 := eq_true q146; have ea_ := Option.some.inj (hx145_0.symm.trans hx146_0)
          injection ea_ with ea_ en_ ec_
          subst ea_; subst ec_; clear en_; have ea_ := Option.some.inj (hx145_1.symm.trans hx146_1)
          injection ea_ with ea_ en_ ec_
          subst ea_; subst ec_; clear en_
          go_wp2
          go_ret
          exact ⟨ze, zb HB⟩
         ·rw [if_neg c12] at H; have c12b0 : decide (20 < (((rd_T50 l0_5 x3_1).f1).length : Int)) = false := decide_eq_false c12; have c12b1 : decide (20 < ((rd_T50 l0_5 x3_1).f1).length) = false := decide_eq_false (by omega); clear c12; have H' := Z0 H; clear H; have hcz14_0 := kz0 BK144; have hcz14_1 := kz1 BK144; have hcz14_2 := kz2 BK144; have hcz14_3 : wc.cell? ⟨gb144, 3, none⟩ = some (.slice A0_3 l0_3.length c0_3) := (kc BK144.out 3).trans rfl; have hcz14_4 : wc.cell? ⟨gb144, 4, none⟩ = some (.slice A0_4 l0_4.length c0_4) := (kc BK144.out 4).trans rfl; have hcz14_5 : wc.cell? ⟨gb144, 5, none⟩ = some (.slice A0_5 l0_5.length c0_5) := (kc BK144.out 5).trans rfl; have hfz14_0 := blk_frozen BK144.out 0; have hfz14_1 := blk_frozen BK144.out 1; have hfz14_2 := blk_frozen BK144.out 2; have hfz14_3 := blk_frozen BK144.out 3; have hfz14_4 := blk_frozen BK144.out 4; have hfz14_5 := blk_frozen BK144.out 5; have p145 : 0 ≤ (x3_1 : Int) := od; have q145 : x3_1 < (l0_5.length : Int) := od; obtain ⟨ad145, A145_0, c145_0, A145_1, c145_1, e145, hx145_0, hx145_1, hl145_0, hi145_0, hl145_1, hi145_1⟩ := at_T50 HR0_5.out x3_1 p145 q145
          cases e145
          replace hx145_0 := (HB.out.cell (bl w _ hx145_0)).trans hx145_0; replace hx145_1 := (HB.out.cell (bl w _ hx145_1)).trans hx145_1; have HR145_0 := Z0 hi145_0; have HC145_0 := Z0 hl145_0; clear hi145_0 hl145_0; have HR145_1 := Z0 hi145_1; have HC145_1 := Z0 hl145_1; clear hi145_1 hl145_1; replace p145 := eq_true p145; replace q145 := eq_true q145; have p146 : 0 ≤ (x3_1 : Int) := od; have q146 : x3_1 < (l0_5.length : Int) := od; obtain ⟨ad146, A146_0, c146_0, A146_1, c146_1, e146, hx146_0, hx146_1, hl146_0, hi146_0, hl146_1, hi146_1⟩ := at_T50 HR0_5.out x3_1 p146 q146; obtain rfl : ad145 = ad146 := (by injection e146); replace hx146_0 := (HB.out.cell (bl w _ hx146_0)).trans hx146_0; replace hx146_1 := (HB.out.cell (bl w _ hx146_1)).trans hx146_1; have HR146_0 := Z0 hi146_0; have HC146_0 := Z0 hl146_0; clear hi146_0 hl146_0; have HR146_1 := Z0 hi146_1; have HC146_1 := Z0 hl146_1; clear hi146_1 hl146_1; replace p146 := eq_true p146; replace q146 := eq_true q146; have ea_ := Option.some.inj (hx145_0.symm.trans hx146_0)
          injection ea_ with ea_ en_ ec_
          subst ea_; subst ec_; clear en_; have ea_ := Option.some.inj (hx145_1.symm.trans hx146_1)
          injection ea_ with ea_ en_ ec_
          subst ea_; subst ec_; clear en_
          go_wp2
          go_roundg kj2
          case measure => have := HK1.out; have := HJ2.out; omega
          case rel => exact ⟨(wrap64 (x3_1 + 1)), zs, H', ⟨by have := HK1.out; have := HJ2.out; omega⟩, ⟨zk BK144⟩, ⟨zb HB⟩⟩
       ·rw [if_neg c9] at H; exact absurd H (by simp)
      ·rw [if_neg c8] at H; exact absurd H (by simp)
     ·replace c7 := Bool.eq_false_iff.mpr c7; subst c7; rw [if_neg nft] at H
      by_cases c15 : (l0_2.length : Int) ≤ 20
      ·rw [if_pos c15] at H; have c15b0 : decide ((l0_2.length : Int) ≤ 20) = true := decide_eq_true c15; have c15b1 : decide (l0_2.length ≤ 20) = true := decide_eq_true (by omega); clear c15
       by_cases c16 : (l0_3.length : Int) ≤ 60
       ·rw [if_pos c16] at H; have c16b0 : decide ((l0_3.length : Int) ≤ 60) = true := decide_eq_true c16; have c16b1 : decide (l0_3.length ≤ 60) = true := decide_eq_true (by omega); clear c16
        by_cases c17 : (l0_4.length : Int) ≤ 20
        ·rw [if_pos c17] at H; have c17b0 : decide ((l0_4.length : Int) ≤ 20) = true := decide_eq_true c17; have c17b1 : decide (l0_4.length ≤ 20) = true := decide_eq_true (by omega); clear c17; obtain rfl := Option.some.inj H; have hcz18_0 := kz0 BK144; have hcz18_1 := kz1 BK144; have hcz18_2 := kz2 BK144; have hcz18_3 : wc.cell? ⟨gb144, 3, none⟩ = some (.slice A0_3 l0_3.length c0_3) := (kc BK144.out 3).trans rfl; have hcz18_4 : wc.cell? ⟨gb144, 4, none⟩ = some (.slice A0_4 l0_4.length c0_4) := (kc BK144.out 4).trans rfl; have hcz18_5 : wc.cell? ⟨gb144, 5, none⟩ = some (.slice A0_5 l0_5.length c0_5) := (kc BK144.out 5).trans rfl; have hfz18_0 := blk_frozen BK144.out 0; have hfz18_1 := blk_frozen BK144.out 1; have hfz18_2 := blk_frozen BK144.out 2; have hfz18_3 := blk_frozen BK144.out 3; have hfz18_4 := blk_frozen BK144.out 4; have hfz18_5 := blk_frozen BK144.out 5
         go_wp2
         go_ret
         exact ⟨ze, zb HB⟩
        ·rw [if_neg c17] at H; have c17b0 : decide ((l0_4.length : Int) ≤ 20) = false := decide_eq_false c17; have c17b1 : decide (l0_4.length ≤ 20) = false := decide_eq_false (by omega); clear c17; obtain rfl := Option.some.inj H; have hcz19_0 := kz0 BK144; have hcz19_1 := kz1 BK144; have hcz19_2 := kz2 BK144; have hcz19_3 : wc.cell? ⟨gb144, 3, none⟩ = some (.slice A0_3 l0_3.length c0_3) := (kc BK144.out 3).trans rfl; have hcz19_4 : wc.cell? ⟨gb144, 4, none⟩ = some (.slice A0_4 l0_4.length c0_4) := (kc BK144.out 4).trans rfl; have hcz19_5 : wc.cell? ⟨gb144, 5, none⟩ = some (.slice A0_5 l0_5.length c0_5) := (kc BK144.out 5).trans rfl; have hfz19_0 := blk_frozen BK144.out 0; have hfz19_1 := blk_frozen BK144.out 1; have hfz19_2 := blk_frozen BK144.out 2; have hfz19_3 := blk_frozen BK144.out 3; have hfz19_4 := blk_frozen BK144.out 4; have hfz19_5 := blk_frozen BK144.out 5
         go_wp2
         go_ret
         exact ⟨ze, zb HB⟩
       ·rw [if_neg c16] at H; have c16b0 : decide ((l0_3.length : Int) ≤ 60) = false := decide_eq_false c16; have c16b1 : decide (l0_3.length ≤ 60) = false := decide_eq_false (by omega); clear c16; obtain rfl := Option.some.inj H; have hcz20_0 := kz0 BK144; have hcz20_1 := kz1 BK144; have hcz20_2 := kz2 BK144; have hcz20_3 : wc.cell? ⟨gb144, 3, none⟩ = some (.slice A0_3 l0_3.length c0_3) := (kc BK144.out 3).trans rfl; have hcz20_4 : wc.cell? ⟨gb144, 4, none⟩ = some (.slice A0_4 l0_4.length c0_4) := (kc BK144.out 4).trans rfl; have hcz20_5 : wc.cell? ⟨gb144, 5, none⟩ = some (.slice A0_5 l0_5.length c0_5) := (kc BK144.out 5).trans rfl; have hfz20_0 := blk_frozen BK144.out 0; have hfz20_1 := blk_frozen BK144.out 1; have hfz20_2 := blk_frozen BK144.out 2; have hfz20_3 := blk_frozen BK144.out 3; have hfz20_4 := blk_frozen BK144.out 4; have hfz20_5 := blk_frozen BK144.out 5
        go_wp2
        go_ret
        exact ⟨ze, zb HB⟩
      ·rw [if_neg c15] at H; have c15b0 : decide ((l0_2.length : Int) ≤ 20) = false := decide_eq_false c15; have c15b1 : decide (l0_2.length ≤ 20) = false := decide_eq_false (by omega); clear c15; obtain rfl := Option.some.inj H; have hcz21_0 := kz0 BK144; have hcz21_1 := kz1 BK144; have hcz21_2 := kz2 BK144; have hcz21_3 : wc.cell? ⟨gb144, 3, none⟩ = some (.slice A0_3 l0_3.length c0_3) := (kc BK144.out 3).trans rfl; have hcz21_4 : wc.cell? ⟨gb144, 4, none⟩ = some (.slice A0_4 l0_4.length c0_4) := (kc BK144.out 4).trans rfl; have hcz21_5 : wc.cell? ⟨gb144, 5, none⟩ = some (.slice A0_5 l0_5.length c0_5) := (kc BK144.out 5).trans rfl; have hfz21_0 := blk_frozen BK144.out 0; have hfz21_1 := blk_frozen BK144.out 1; have hfz21_2 := blk_frozen BK144.out 2; have hfz21_3 := blk_frozen BK144.out 3; have hfz21_4 := blk_frozen BK144.out 4; have hfz21_5 := blk_frozen BK144.out 5
       go_wp2
       go_ret
       exact ⟨ze, zb HB⟩
end Go.Proofs.YtokhibhmlninnaaGreatDoor.PCodO
