/- Printed contracts of some functions, put into one: dag_Check, list_right, list_Check, slices_Clone_int_int, list_own, sched_Check, list_New. -/
import Derived.Test.YtmbhjhanafmidaaProg
import Derived.Test.YtmbhjhanafmidaaUSMLstA
import Derived.Below
import Derived.Deep.Draws
import Derived.Deep.AppendLies
import Derived.Maps.AppendAt
import Derived.OwnWalk
import Derived.Laws.BytesArg
import Derived.Laws.MakeOwn
import Derived.Laws.OwnMore
import Derived.Deep.OwnRows
import Derived.Tactics
import Derived.Lib.ConvBytes
import Derived.Laws.Slices
import Derived.WalkKit
import Derived.KernelRfl
import Derived.RowKit3
import Derived.Deep.LoopGhost
import Derived.Deep.QuietTactic
import Derived.BigQuiet
import Derived.WideLaws
import Derived.Deep.DeepCutAuto
import Derived.Deep.CutBlock
import Derived.Deep.RegionHeld3
import Derived.Laws.Rows
import Derived.Lib.AppendStr
import Derived.ArgAppend
import Derived.Laws.IdiomCopy
import Derived.OrdersHeld
import Derived.Laws.BitsLemmas
import Derived.RowKit
import Derived.Test.YtmbhjhanafmidaaUSWWords
import Derived.Test.YtmbhjhanafmidaaUSWLast
import Derived.Test.YtmbhjhanafmidaaUSWTab
import Derived.Test.YtmbhjhanafmidaaUSWFour
import Derived.Test.YtmbhjhanafmidaaUSWQPut
import Derived.Test.YtmbhjhanafmidaaUSWApart
import Derived.Test.YtmbhjhanafmidaaUSWArr
import Derived.Test.YtmbhjhanafmidaaUSWZeros
import Derived.Test.YtmbhjhanafmidaaUSWFoot
import Derived.Test.YtmbhjhanafmidaaUSWKept
import Derived.Test.YtmbhjhanafmidaaUSWShare
import Derived.Test.YtmbhjhanafmidaaUSWN
import Derived.Test.YtmbhjhanafmidaaUSWFootNe
import Derived.Test.YtmbhjhanafmidaaUSWAt
import Derived.Test.YtmbhjhanafmidaaUSWEqStruct
import Derived.Test.YtmbhjhanafmidaaUSWRepsOne
import Derived.Test.YtmbhjhanafmidaaUSWInv
import Derived.Test.YtmbhjhanafmidaaUSWInvWords
import Derived.Test.YtmbhjhanafmidaaUSWGuard
import Derived.Test.YtmbhjhanafmidaaUSWNEv
import Derived.Test.YtmbhjhanafmidaaUSWMore
import Derived.Test.YtmbhjhanafmidaaUSMLstA
import Derived.Test.YtmbhjhanafmidaaUSZr
namespace Go.Proofs.Ytmbhjhanafmidaa.PLst
open Go.Proofs.Ytmbhjhanafmidaa.Zr Go.RowKit Go.Proofs.YtmbhjhanafmidaaW.PrintWords Go.Proofs.YtmbhjhanafmidaaW.PrintLast Go.Proofs.YtmbhjhanafmidaaW.PrintMore
attribute [local go_sem] max2_int min2_int max_two min_two max_three min_three max_four min_four   -- for this text's walks alone
set_option linter.unusedVariables false
set_option linter.unusedSimpArgs false
theorem info3 : (Try.prog.info? 3).map (fun i => (i.zero, i.size, i.bytes)) = some (some (.int .i64 0), 1, 8) := by kernel_rfl
structure S85 where
 f0 : Int
 f1 : Int
def z85 : S85 := ⟨(0 : Int), (0 : Int)⟩
def k85 : Kd S85 := Kd.iso (Kd.pair (Kd.int .i64) (Kd.int .i64)) (fun x : S85 => (x.f0, x.f1))
theorem k85_open {w : World} {x : S85} {cs : List Value} (h : k85.K w x cs) : cs = [.int .i64 x.f0, .int .i64 x.f1] := by
 obtain ⟨_, _, rfl, rfl, rfl⟩ := h
 exact rfl
theorem k85_mk (w : World) (x : S85)  : k85.K w x [.int .i64 x.f0, .int .i64 x.f1] := ⟨[.int .i64 x.f0], [.int .i64 x.f1], rfl, rfl, rfl⟩
theorem k85_mkM (w : World) (base : Nat) (ok : Nat → Prop) (x : S85)  : k85.M w base ok x [.int .i64 x.f0, .int .i64 x.f1] := ⟨[.int .i64 x.f0], [.int .i64 x.f1], rfl, rfl, rfl⟩
def rd_T85 (xs : List S85) (i : Int) : S85 := xs.getD i.toNat z85
theorem at_T85 {w : World} {A : Option Addr} {n : Nat} {xs : List S85} (h : Kd.C k85 w A n xs) (i : Int) (h0 : 0 ≤ i) (h1 : i < n) : ∃ ad , A = some ad ∧ w.cell? (ad.add (i.toNat * 2)) = some (.int .i64 (rd_T85 xs i).f0) ∧ w.cell? ⟨(ad.add (i.toNat * 2)).block, (ad.add (i.toNat * 2)).off + 1, none⟩ = some (.int .i64 (rd_T85 xs i).f1) := by
 obtain ⟨ad, c, e, _, hK, hc0⟩ := Kd.C_get h z85 i h0 h1
 have hc : ∀ j u, c[j]? = some u → w.cell? (ad.add (i.toNat * 2 + j)) = some u := hc0
 obtain rfl := k85_open hK
 exact ⟨ad, e, hc 0 _ rfl, by rw [← add_field _ _ 1 (by omega)]; exact hc 1 _ rfl⟩
def rd_L2 (xs : List (List Int)) (i : Int) : (List Int) := xs.getD i.toNat ([] : List Int)
theorem at_L2 {w : World} {A : Option Addr} {n : Nat} {xs : List (List Int)} (h : Kd.C (Kd.slice 3 (Kd.int .i64)) w A n xs) (i : Int) (h0 : 0 ≤ i) (h1 : i < n) : ∃ ad A0 c0, A = some ad ∧ w.cell? (ad.add i.toNat) = some (.slice A0 (rd_L2 xs i).length c0) ∧ (rd_L2 xs i).length ≤ c0 ∧ (Kd.int .i64).C w A0 (rd_L2 xs i).length (rd_L2 xs i) := by
 obtain ⟨ad, c, e, _, hK, hc0⟩ := Kd.C_get h ([] : List Int) i h0 h1
 have hc : ∀ j u, c[j]? = some u → w.cell? (ad.add (i.toNat * 1 + j)) = some u := hc0
 obtain ⟨A0, c0, rfl, l0, g0⟩ := hK
 exact ⟨ad, A0, c0, e, by have hq := hc 0 _ rfl; rwa [Nat.mul_one, Nat.add_zero] at hq, l0, g0⟩
open Go.RowKit Go.Proofs.YtmbhjhanafmidaaW.PrintWords Go.Proofs.YtmbhjhanafmidaaW.PrintLast Go.Proofs.YtmbhjhanafmidaaW.PrintMore
attribute [local go_sem] max2_int min2_int max_two min_two max_three min_three max_four min_four   -- for this text's walks alone
set_option linter.unusedVariables false
set_option linter.unusedSimpArgs false
theorem eqA85 (d : Nat) (w : World) (x0 y0 : Int) (x1 y1 : Int) :
  (Op.equalIn (d + 2) 85 (.agg #[.int .i64 x0, .int .i64 x1]) (.agg #[.int .i64 y0, .int .i64 y1])).run Try.prog w = .ok (x0 == y0 && (x1 == y1)) w := by
 refine eqA_of Try.underlying85 (by kernel_rfl) ?_
 refine eqf_cons (by rfl) (by go_simp; rfl) (by go_simp; rfl) (by go_simp) ?_
 exact eqf_last (by rfl) (by go_simp; rfl) (by go_simp; rfl) (by go_simp)
open Go.RowKit Go.Proofs.YtmbhjhanafmidaaW.PrintWords Go.Proofs.YtmbhjhanafmidaaW.PrintLast Go.Proofs.YtmbhjhanafmidaaW.PrintMore
attribute [local go_sem] max2_int min2_int max_two min_two max_three min_three max_four min_four   -- for this text's walks alone
set_option linter.unusedVariables false
set_option linter.unusedSimpArgs false
attribute [local go_sem high] eqA85
def dag_Check.f (l0_0 : List Int) (l0_1 : List (S85)) : Option (Int) := if l0_0.length ≤ 1000 ∧ l0_1.length ≤ 1000 then some (DagPlain.checkL l0_0 (l0_1.map fun x => (x.f0, x.f1))) else none
theorem dag_Check.calls (A0_0 : Option Addr) (c0_0 : Nat) (l0_0 : List Int) (A0_1 : Option Addr) (c0_1 : Nat) (l0_1 : List (S85)) (r : Int) (w : World) (hr0_0 : Kd.C (Kd.int .i64) w A0_0 l0_0.length l0_0) (hc0_0 : l0_0.length ≤ c0_0) (hr0_1 : Kd.C k85 w A0_1 l0_1.length l0_1) (hc0_1 : l0_1.length ≤ c0_1) (h : dag_Check.f l0_0 l0_1 = some r) :
  Calls Try.prog 43 #[.agg #[.slice A0_0 l0_0.length c0_0, .slice A0_1 l0_1.length c0_1]] w fun e w' => e = .returned (.int .i64 r) ∧ Below w.heap.size w w' := by
 unfold dag_Check.f at h
 split at h
 ·rename_i hb
  simp only [Option.some.injEq] at h
  have hE0 : EdR w A0_1 (l0_1.map fun x => (x.f0, x.f1)) := fun h0 => by
   rw [List.length_map] at h0
   obtain ⟨ad, e, _, _⟩ := at_T85 hr0_1 0 (by omega) (by omega)
   refine ⟨ad, e, fun i hi => ?_⟩
   rw [List.length_map] at hi
   obtain ⟨ad', e', h1, h2⟩ := at_T85 hr0_1 (i : Int) (by omega) (by omega)
   obtain rfl : ad' = ad := Option.some.inj (e'.symm.trans e)
   have hq : (l0_1.map fun x => (x.f0, x.f1)).getD i (0, 0) = ((rd_T85 l0_1 (i : Int)).f0, (rd_T85 l0_1 (i : Int)).f1) := by
    simp [rd_T85, List.getD_eq_getElem?_getD, List.getElem?_map, List.getElem?_eq_getElem hi]
   rw [hq]
   exact ⟨h1, h2⟩
  have hp := check_any A0_0 c0_0 l0_0 A0_1 c0_1 (l0_1.map fun x => (x.f0, x.f1)) w (Kd.reads_of_C (d := (0 : Int)) hr0_0) hb.1 (by rw [List.length_map]; exact hb.2) hE0 (by rw [List.length_map]; exact hc0_1)
  rw [h, List.length_map] at hp
  exact hp
 ·cases h
def list_right.f (l0_0 : List Int) (l0_1 : List (S85)) (l1_0 : List Int) (l1_1 : List Int) : Option (Bool) := if ((l0_0.length ≤ 1000 ∧ l0_1.length ≤ 1000) ∧ l1_0.length ≤ 1000 ∧ l1_1.length ≤ 1000) ∧ DagPlain.checkL l0_0 (l0_1.map fun x => (x.f0, x.f1)) = 0 then some (LstPlain.rightC l0_0 (l0_1.map fun x => (x.f0, x.f1)) l1_0 l1_1) else none
theorem list_right.calls (A0_0 : Option Addr) (c0_0 : Nat) (l0_0 : List Int) (A0_1 : Option Addr) (c0_1 : Nat) (l0_1 : List (S85)) (A1_0 : Option Addr) (c1_0 : Nat) (l1_0 : List Int) (A1_1 : Option Addr) (c1_1 : Nat) (l1_1 : List Int) (r : Bool) (w : World) (hr0_0 : Kd.C (Kd.int .i64) w A0_0 l0_0.length l0_0) (hc0_0 : l0_0.length ≤ c0_0) (hr0_1 : Kd.C k85 w A0_1 l0_1.length l0_1) (hc0_1 : l0_1.length ≤ c0_1) (hr1_0 : Kd.C (Kd.int .i64) w A1_0 l1_0.length l1_0) (hc1_0 : l1_0.length ≤ c1_0) (hr1_1 : Kd.C (Kd.int .i64) w A1_1 l1_1.length l1_1) (hc1_1 : l1_1.length ≤ c1_1) (h : list_right.f l0_0 l0_1 l1_0 l1_1 = some r) :
  Calls Try.prog 44 #[.agg #[.slice A0_0 l0_0.length c0_0, .slice A0_1 l0_1.length c0_1], .agg #[.slice A1_0 l1_0.length c1_0, .slice A1_1 l1_1.length c1_1]] w fun e w' => e = .returned (.bool r) ∧ Below w.heap.size w w' := by
 unfold list_right.f at h
 split at h
 ·rename_i hb
  simp only [Option.some.injEq] at h
  have hE0 : EdR w A0_1 (l0_1.map fun x => (x.f0, x.f1)) := fun h0 => by
   rw [List.length_map] at h0
   obtain ⟨ad, e, _, _⟩ := at_T85 hr0_1 0 (by omega) (by omega)
   refine ⟨ad, e, fun i hi => ?_⟩
   rw [List.length_map] at hi
   obtain ⟨ad', e', h1, h2⟩ := at_T85 hr0_1 (i : Int) (by omega) (by omega)
   obtain rfl : ad' = ad := Option.some.inj (e'.symm.trans e)
   have hq : (l0_1.map fun x => (x.f0, x.f1)).getD i (0, 0) = ((rd_T85 l0_1 (i : Int)).f0, (rd_T85 l0_1 (i : Int)).f1) := by
    simp [rd_T85, List.getD_eq_getElem?_getD, List.getElem?_map, List.getElem?_eq_getElem hi]
   rw [hq]
   exact ⟨h1, h2⟩
  have hp := lRight_any A0_0 c0_0 l0_0 A0_1 c0_1 (l0_1.map fun x => (x.f0, x.f1)) A1_0 c1_0 l1_0 A1_1 c1_1 l1_1 w ⟨⟨hc0_0, Kd.reads_of_C (d := (0 : Int)) hr0_0⟩, (by rw [List.length_map]; exact hc0_1), hE0⟩ ⟨⟨hc1_0, Kd.reads_of_C (d := (0 : Int)) hr1_0⟩, hc1_1, Kd.reads_of_C (d := (0 : Int)) hr1_1⟩ ⟨hb.1.1.1, by rw [List.length_map]; exact hb.1.1.2⟩ hb.1.2.1 hb.1.2.2 hb.2
  rw [h, List.length_map] at hp
  exact hp
 ·cases h
def list_Check.f (l0_0 : List Int) (l0_1 : List (S85)) (l1_0 : List Int) (l1_1 : List Int) : Option (Int) := (dag_Check.f l0_0 l0_1).bind fun t115 => (if t115 = 0 then ((list_right.f l0_0 l0_1 l1_0 l1_1).bind fun t116 => (if t116 = true then (some t115) else (some 110))) else (some t115))
set_option maxHeartbeats 8000000 in
set_option maxRecDepth 100000 in
theorem list_Check.calls (A0_0 : Option Addr) (c0_0 : Nat) (l0_0 : List Int) (A0_1 : Option Addr) (c0_1 : Nat) (l0_1 : List (S85)) (A1_0 : Option Addr) (c1_0 : Nat) (l1_0 : List Int) (A1_1 : Option Addr) (c1_1 : Nat) (l1_1 : List Int) (r : Int) (w : World) (hr0_0 : Kd.C (Kd.int .i64) w A0_0 l0_0.length l0_0) (hc0_0 : l0_0.length ≤ c0_0) (hr0_1 : Kd.C k85 w A0_1 l0_1.length l0_1) (hc0_1 : l0_1.length ≤ c0_1) (hr1_0 : Kd.C (Kd.int .i64) w A1_0 l1_0.length l1_0) (hc1_0 : l1_0.length ≤ c1_0) (hr1_1 : Kd.C (Kd.int .i64) w A1_1 l1_1.length l1_1) (hc1_1 : l1_1.length ≤ c1_1) (h : list_Check.f l0_0 l0_1 l1_0 l1_1 = some r) :
  Calls Try.prog 17 #[.agg #[.slice A0_0 l0_0.length c0_0, .slice A0_1 l0_1.length c0_1], .agg #[.slice A1_0 l1_0.length c1_0, .slice A1_1 l1_1.length c1_1]] w fun e w' => e = .returned (.int .i64 r) ∧ Below w.heap.size w w' := by
 have hu25 := Try.underlying25
 have hu27 := Try.underlying27
 have HR0_0 := Z0 hr0_0
 have HC0_0 := Z0 hc0_0
 clear hr0_0 hc0_0
 have HR0_1 := Z0 hr0_1
 have HC0_1 := Z0 hc0_1
 clear hr0_1 hc0_1
 have HR1_0 := Z0 hr1_0
 have HC1_0 := Z0 hc1_0
 clear hr1_0 hc1_0
 have HR1_1 := Z0 hr1_1
 have HC1_1 := Z0 hc1_1
 clear hr1_1 hc1_1
 have HB := Z0 (Below.refl w.heap.size w)
 have H : ((dag_Check.f l0_0 l0_1).bind fun t115 => (if t115 = 0 then ((list_right.f l0_0 l0_1 l1_0 l1_1).bind fun t116 => (if t116 = true then (some t115) else (some 110))) else (some t115))) = some r := h
 clear h
 replace H := Option.bind_eq_some_iff.mp H
 obtain ⟨t115, A30, H⟩ := H
 have A3 := Z0 A30
 clear A30
 by_cases c4 : t115 = 0
 ·rw [if_pos c4] at H
  have c4b0 : (t115 == 0) = true := beq_iff_eq.mpr c4
  have c4b1 : (t115 != 0) = false := bne_eq_false_iff_eq.mpr c4
  clear c4
  replace H := Option.bind_eq_some_iff.mp H
  obtain ⟨t116, A50, H⟩ := H
  have A5 := Z0 A50
  clear A50
  by_cases c6 : t116 = true
  ·subst c6
   rw [if_pos rfl] at H
   obtain rfl := Option.some.inj H
   go_enter Try.func17, Try.ntmps17
   go_wp2_with (first | ((with_reducible refine gate_dst (N := 2) rfl ?_); refine zx (N := 2) #[.slice A0_0 l0_0.length c0_0, .slice A0_1 l0_1.length c0_1] 25 ?_; intro gb113 hg w7 hbox hb; have BK113 := Z0 (hbox); have GW113 := Z0 (zh w hg HB); have GE113 := Z0 (zh w hg HB); replace HB := Z0 (below_step (zb HB) hb); clear hb hbox hg) | ((with_reducible refine gate_dst (N := 3) rfl ?_); refine zx (N := 3) #[.slice A1_0 l1_0.length c1_0, .slice A1_1 l1_1.length c1_1] 27 ?_; intro gb114 hg w8 hbox hb; have BK114 := Z0 (hbox); have GW114 := Z0 (zh w hg HB); have GE114 := Z0 (zh w hg HB); replace HB := Z0 (below_step (zb HB) hb); have NB113_114 := Z0 (zl hg BK113); have NB114_113 := Z0 (zu hg BK113); replace BK113 := Z0 (zkb BK113 hb); clear hb hbox hg; have hnb9 := NB113_114.out; have hnc9 := NB114_113.out; have hcz10_0 := kz0 BK113; have hcz10_1 := kz1 BK113; have hfz10_0 := blk_frozen BK113.out 0; have hfz10_1 := blk_frozen BK113.out 1) | ((with_reducible refine gate_callee (f := 43) rfl ?_); refine goesL_ (some 7) rfl rfl Try.func43 (by kernel_rfl) rfl #[.agg #[.slice A0_0 l0_0.length c0_0, .slice A0_1 l0_1.length c0_1]] rfl (by (try simp only [List.map_toArray, List.map_cons, List.map_nil]); first | done | rfl | (simp only [List.length_drop, List.length_take]; rfl)) ?_; (with_reducible refine (dag_Check.calls _ _ l0_0 _ _ l0_1 t115 _ ?side1 ?side2 ?side3 ?side4 A3.out).mono ?_); (case side1 => exact zc (Kd.C_below HR0_0.out HB.out)); (case side2 => exact HC0_0.out); (case side3 => exact zc (Kd.C_below HR0_1.out HB.out)); (case side4 => exact HC0_1.out); rintro e w11 ⟨rfl, hb⟩; refine ⟨_, rfl, ?_⟩; replace BK113 := Z0 (zkb BK113 hb); replace BK114 := Z0 (zkb BK114 hb); replace HB := Z0 (below_step (zb HB) hb); (try clear hb); (try clear hb2); (try clear hk); (try clear hi); have hcz12_0 := kz0 BK113; have hcz12_1 := kz1 BK113; have hfz12_0 := blk_frozen BK113.out 0; have hfz12_1 := blk_frozen BK113.out 1; have hcz13_0 := kz0 BK114; have hcz13_1 := kz1 BK114; have hfz13_0 := blk_frozen BK114.out 0; have hfz13_1 := blk_frozen BK114.out 1) | (go_at_call 44; (with_reducible refine (list_right.calls _ _ l0_0 _ _ l0_1 _ _ l1_0 _ _ l1_1 true _ ?side1 ?side2 ?side3 ?side4 ?side5 ?side6 ?side7 ?side8 A5.out).mono ?_); (case side1 => exact zc (Kd.C_below HR0_0.out HB.out)); (case side2 => exact HC0_0.out); (case side3 => exact zc (Kd.C_below HR0_1.out HB.out)); (case side4 => exact HC0_1.out); (case side5 => exact zc (Kd.C_below HR1_0.out HB.out)); (case side6 => exact HC1_0.out); (case side7 => exact zc (Kd.C_below HR1_1.out HB.out)); (case side8 => exact HC1_1.out); rintro e w14 ⟨rfl, hb⟩; replace BK113 := Z0 (zkb BK113 hb); replace BK114 := Z0 (zkb BK114 hb); replace HB := Z0 (below_step (zb HB) hb); (try clear hb); (try clear hb2); (try clear hk); (try clear hi)))
   go_ret
   exact ⟨ze, zb HB⟩
  ·replace c6 := Bool.eq_false_iff.mpr c6
   subst c6
   rw [if_neg nft] at H
   obtain rfl := Option.some.inj H
   go_enter Try.func17, Try.ntmps17
   go_wp2_with (first | ((with_reducible refine gate_dst (N := 2) rfl ?_); refine zx (N := 2) #[.slice A0_0 l0_0.length c0_0, .slice A0_1 l0_1.length c0_1] 25 ?_; intro gb113 hg w15 hbox hb; have BK113 := Z0 (hbox); have GW113 := Z0 (zh w hg HB); have GE113 := Z0 (zh w hg HB); replace HB := Z0 (below_step (zb HB) hb); clear hb hbox hg) | ((with_reducible refine gate_dst (N := 3) rfl ?_); refine zx (N := 3) #[.slice A1_0 l1_0.length c1_0, .slice A1_1 l1_1.length c1_1] 27 ?_; intro gb114 hg w16 hbox hb; have BK114 := Z0 (hbox); have GW114 := Z0 (zh w hg HB); have GE114 := Z0 (zh w hg HB); replace HB := Z0 (below_step (zb HB) hb); have NB113_114 := Z0 (zl hg BK113); have NB114_113 := Z0 (zu hg BK113); replace BK113 := Z0 (zkb BK113 hb); clear hb hbox hg; have hnb17 := NB113_114.out; have hnc17 := NB114_113.out; have hcz18_0 := kz0 BK113; have hcz18_1 := kz1 BK113; have hfz18_0 := blk_frozen BK113.out 0; have hfz18_1 := blk_frozen BK113.out 1) | ((with_reducible refine gate_callee (f := 43) rfl ?_); refine goesL_ (some 7) rfl rfl Try.func43 (by kernel_rfl) rfl #[.agg #[.slice A0_0 l0_0.length c0_0, .slice A0_1 l0_1.length c0_1]] rfl (by (try simp only [List.map_toArray, List.map_cons, List.map_nil]); first | done | rfl | (simp only [List.length_drop, List.length_take]; rfl)) ?_; (with_reducible refine (dag_Check.calls _ _ l0_0 _ _ l0_1 t115 _ ?side1 ?side2 ?side3 ?side4 A3.out).mono ?_); (case side1 => exact zc (Kd.C_below HR0_0.out HB.out)); (case side2 => exact HC0_0.out); (case side3 => exact zc (Kd.C_below HR0_1.out HB.out)); (case side4 => exact HC0_1.out); rintro e w19 ⟨rfl, hb⟩; refine ⟨_, rfl, ?_⟩; replace BK113 := Z0 (zkb BK113 hb); replace BK114 := Z0 (zkb BK114 hb); replace HB := Z0 (below_step (zb HB) hb); (try clear hb); (try clear hb2); (try clear hk); (try clear hi); have hcz20_0 := kz0 BK113; have hcz20_1 := kz1 BK113; have hfz20_0 := blk_frozen BK113.out 0; have hfz20_1 := blk_frozen BK113.out 1; have hcz21_0 := kz0 BK114; have hcz21_1 := kz1 BK114; have hfz21_0 := blk_frozen BK114.out 0; have hfz21_1 := blk_frozen BK114.out 1) | (go_at_call 44; (with_reducible refine (list_right.calls _ _ l0_0 _ _ l0_1 _ _ l1_0 _ _ l1_1 false _ ?side1 ?side2 ?side3 ?side4 ?side5 ?side6 ?side7 ?side8 A5.out).mono ?_); (case side1 => exact zc (Kd.C_below HR0_0.out HB.out)); (case side2 => exact HC0_0.out); (case side3 => exact zc (Kd.C_below HR0_1.out HB.out)); (case side4 => exact HC0_1.out); (case side5 => exact zc (Kd.C_below HR1_0.out HB.out)); (case side6 => exact HC1_0.out); (case side7 => exact zc (Kd.C_below HR1_1.out HB.out)); (case side8 => exact HC1_1.out); rintro e w22 ⟨rfl, hb⟩; replace BK113 := Z0 (zkb BK113 hb); replace BK114 := Z0 (zkb BK114 hb); replace HB := Z0 (below_step (zb HB) hb); (try clear hb); (try clear hb2); (try clear hk); (try clear hi)))
   go_ret
   exact ⟨ze, zb HB⟩
 ·rw [if_neg c4] at H
  have c4b0 : (t115 == 0) = false := beq_eq_false_iff_ne.mpr c4
  have c4b1 : (t115 != 0) = true := bne_iff_ne.mpr c4
  obtain rfl := Option.some.inj H
  go_enter Try.func17, Try.ntmps17
  go_wp2_with (first | ((with_reducible refine gate_dst (N := 2) rfl ?_); refine zx (N := 2) #[.slice A0_0 l0_0.length c0_0, .slice A0_1 l0_1.length c0_1] 25 ?_; intro gb113 hg w23 hbox hb; have BK113 := Z0 (hbox); have GW113 := Z0 (zh w hg HB); have GE113 := Z0 (zh w hg HB); replace HB := Z0 (below_step (zb HB) hb); clear hb hbox hg) | ((with_reducible refine gate_dst (N := 3) rfl ?_); refine zx (N := 3) #[.slice A1_0 l1_0.length c1_0, .slice A1_1 l1_1.length c1_1] 27 ?_; intro gb114 hg w24 hbox hb; have BK114 := Z0 (hbox); have GW114 := Z0 (zh w hg HB); have GE114 := Z0 (zh w hg HB); replace HB := Z0 (below_step (zb HB) hb); have NB113_114 := Z0 (zl hg BK113); have NB114_113 := Z0 (zu hg BK113); replace BK113 := Z0 (zkb BK113 hb); clear hb hbox hg; have hnb25 := NB113_114.out; have hnc25 := NB114_113.out; have hcz26_0 := kz0 BK113; have hcz26_1 := kz1 BK113; have hfz26_0 := blk_frozen BK113.out 0; have hfz26_1 := blk_frozen BK113.out 1) | ((with_reducible refine gate_callee (f := 43) rfl ?_); refine goesL_ (some 7) rfl rfl Try.func43 (by kernel_rfl) rfl #[.agg #[.slice A0_0 l0_0.length c0_0, .slice A0_1 l0_1.length c0_1]] rfl (by (try simp only [List.map_toArray, List.map_cons, List.map_nil]); first | done | rfl | (simp only [List.length_drop, List.length_take]; rfl)) ?_; (with_reducible refine (dag_Check.calls _ _ l0_0 _ _ l0_1 t115 _ ?side1 ?side2 ?side3 ?side4 A3.out).mono ?_); (case side1 => exact zc (Kd.C_below HR0_0.out HB.out)); (case side2 => exact HC0_0.out); (case side3 => exact zc (Kd.C_below HR0_1.out HB.out)); (case side4 => exact HC0_1.out); rintro e w27 ⟨rfl, hb⟩; refine ⟨_, rfl, ?_⟩; replace BK113 := Z0 (zkb BK113 hb); replace BK114 := Z0 (zkb BK114 hb); replace HB := Z0 (below_step (zb HB) hb); (try clear hb); (try clear hb2); (try clear hk); (try clear hi)))
  go_ret
  exact ⟨ze, zb HB⟩
def slices_Clone_int_int.f (l0 : List Int) : Option (List Int) := if l0.length ≤ 5000 then some l0 else none
theorem slices_Clone_int_int.calls (A0 : Option Addr) (c0 : Nat) (l0 : List Int) (r : List Int) (w : World) (hr0 : Kd.C (Kd.int .i64) w A0 l0.length l0) (hc0 : l0.length ≤ c0) (h : slices_Clone_int_int.f l0 = some r) :
  Calls Try.prog 48 #[.slice A0 l0.length c0] w fun e w' => ∃ v0_ : Value, e = .returned (v0_) ∧ Kd.R (Kd.int .i64) 3 w' w.heap.size (fun _ => True) v0_ r ∧ Below w.heap.size w w' := by
 unfold slices_Clone_int_int.f at h
 split at h
 ·rename_i hb
  simp only [Option.some.injEq] at h
  subst h
  have hp := clone_any A0 c0 l0 w (Kd.reads_of_C (d := (0 : Int)) hr0) (Nat.le_trans hb (by decide))
  exact hp.mono fun e w' ⟨v, h1, h2, h3⟩ => ⟨v, h1, Kd.R_of_own h2 (fun _ _ => trivial), h3⟩
 ·cases h
def list_own.f (l0_0 : List Int) (l0_1 : List Int) : Option (List Int × List Int) := (slices_Clone_int_int.f l0_0).bind fun t119 => ((slices_Clone_int_int.f l0_1).bind fun t122 => (some (t119, t122)))
def list_own.T1 : Bool × List (List Nat × List Nat) := (true, [([], []), ([0], [0]), ([1], [1]), ([], []), ([3], [3]), ([4, 2], [4]), ([2, 5], [2, 5]), ([6, 5, 0, 1, 2, 3, 4, 5, 6], [6])])
def list_own.B1 : List Nat := [0, 1, 3, 0, 8, 31, 63, 127]
theorem list_own.tab1 : rtab .any (opsOf Try.f37 1) = list_own.T1 := by kernel_rfl
theorem list_own.bits1 : waitsOk list_own.T1.2 list_own.B1 = true := by kernel_rfl
set_option maxHeartbeats 8000000 in
set_option maxRecDepth 100000 in
theorem list_own.calls (A0_0 : Option Addr) (c0_0 : Nat) (l0_0 : List Int) (A0_1 : Option Addr) (c0_1 : Nat) (l0_1 : List Int) (r1 : List Int) (r2 : List Int) (w : World) (hr0_0 : Kd.C (Kd.int .i64) w A0_0 l0_0.length l0_0) (hc0_0 : l0_0.length ≤ c0_0) (hr0_1 : Kd.C (Kd.int .i64) w A0_1 l0_1.length l0_1) (hc0_1 : l0_1.length ≤ c0_1) (h : list_own.f l0_0 l0_1 = some (r1, r2)) :
  Calls Try.prog 37 #[.agg #[.slice A0_0 l0_0.length c0_0, .slice A0_1 l0_1.length c0_1]] w fun e w' => ∃ v0_ v1_ : Value, e = .returned (.agg #[v0_, v1_]) ∧ Kd.R (Kd.int .i64) 3 w' w.heap.size (fun k_ => some k_ ≠ (v1_ : Value).ownBlock) v0_ r1 ∧ Kd.R (Kd.int .i64) 3 w' w.heap.size (fun k_ => some k_ ≠ (v0_ : Value).ownBlock) v1_ r2 ∧ Below w.heap.size w w' := by
 have hu27 := Try.underlying27
 have HR0_0 := Z0 hr0_0
 have HC0_0 := Z0 hc0_0
 clear hr0_0 hc0_0
 have HR0_1 := Z0 hr0_1
 have HC0_1 := Z0 hc0_1
 clear hr0_1 hc0_1
 have HB := Z0 (Below.refl w.heap.size w)
 have H : ((slices_Clone_int_int.f l0_0).bind fun t119 => ((slices_Clone_int_int.f l0_1).bind fun t122 => (some (t119, t122)))) = some (r1, r2) := h
 clear h
 replace H := Option.bind_eq_some_iff.mp H
 obtain ⟨t119, A20, H⟩ := H
 have A2 := Z0 A20
 clear A20
 replace H := Option.bind_eq_some_iff.mp H
 obtain ⟨t122, A30, H⟩ := H
 have A3 := Z0 A30
 clear A30
 simp only [Option.some.injEq, Prod.mk.injEq] at H
 obtain ⟨rfl, rfl⟩ := H
 go_enter Try.func37, Try.ntmps37
 try go_wp2_with (first | ((with_reducible refine gate_dst (N := 1) rfl ?_); refine zx (N := 1) #[.slice A0_0 l0_0.length c0_0, .slice A0_1 l0_1.length c0_1] 27 ?_; intro gb117 hg w4 hbox hb; have BK117 := Z0 (hbox); have GW117 := Z0 (zh w hg HB); have GE117 := Z0 (zh w hg HB); replace HB := Z0 (below_step (zb HB) hb); clear hb hbox hg) | ((with_reducible refine gate_dst (N := 2) rfl ?_); refine zx (N := 2) #[.slice none 0 0, .slice none 0 0] 27 ?_; intro gb118 hg w5 hbox hb; have BK118 := Z0 (hbox); have GW118 := Z0 (zh w hg HB); have GE118 := Z0 (zh w hg HB); replace HB := Z0 (below_step (zb HB) hb); have NB117_118 := Z0 (zl hg BK117); have NB118_117 := Z0 (zu hg BK117); replace BK117 := Z0 (zkb BK117 hb); clear hb hbox hg))
 replace BK117 := Z0 (kd_ BK117.out)
 replace BK118 := Z0 (kd_ BK118.out)
 replace HB := Z0 (wd HB.out)
 refine start_ (n := 8) (S := fun w' => w'.cell? ⟨gb117, 0, none⟩ = some (.slice A0_0 l0_0.length c0_0) ∧ w'.cell? ⟨gb117, 1, none⟩ = some (.slice A0_1 l0_1.length c0_1)) (ds := []) (bz 8 0) (by kernel_rfl) rfl rfl ⟨(kc BK117.out 0).trans rfl, (kc BK117.out 1).trans rfl⟩ (fun hHeld => ?_); refine with_tabW list_own.tab1 list_own.bits1 (fun HT_ HW_ => ?_)
 generalize w5.drew = w6 at BK117 BK118 HB hHeld ⊢
 refine pu 0 (some 3) (bz 8 1) HT_ ?_
 refine pu 3 (some 6) (bz 8 9) HT_ ?_
 refine tk2 1 (some 4) (bz 8 11) HT_ HW_ hHeld ?_
 refine tk2 4 (some 7) (bz 8 27) HT_ HW_ hHeld ?_
 refine one_ (i := 2) (N := some 5) (bz 8 31) rfl rfl (one_of HT_.out (by kernel_rfl)) (by decide) (fun K hK => ?_)
 refine zg Try.func48 #[.slice A0_0 l0_0.length c0_0] ?_
 with_reducible refine (slices_Clone_int_int.calls _ _ l0_0 t119 _ ?side1 ?side2 A2.out).mono ?_
 (case side1 => exact zc (Kd.C_below HR0_0.out HB.out))
 (case side2 => exact HC0_0.out)
 rintro e w7 ⟨v120, rfl, ho0, hb⟩
 refine ⟨_, rfl, ?_⟩
 have HO121 := Z0 (rl ho0 (below_size (zb HB)))
 replace BK117 := Z0 (zkb BK117 hb)
 replace BK118 := Z0 (zkb BK118 hb)
 replace HB := Z0 (below_step (zb HB) hb)
 (try clear hb)
 (try clear hb2)
 (try clear hk)
 (try clear hi)
 (try clear ho0)
 refine hK.out _ _ ⟨(kc BK117.out 0).trans rfl, (kc BK117.out 1).trans rfl⟩ (fun hHeld => ?_)
 clear hK K
 refine norm_ (a' := ?_) ?_ ?_
 rotate_left
 ·show Act.put _ (some 5) _ = _
  simp only [Act.put, y0, y1, y2, i64_w, i32_w]
  rfl
 refine one_ (i := 5) (N := some 8) (bz 8 63) rfl rfl (one_of HT_.out (by kernel_rfl)) (by decide) (fun K hK => ?_)
 refine zg Try.func48 #[.slice A0_1 l0_1.length c0_1] ?_
 with_reducible refine (slices_Clone_int_int.calls _ _ l0_1 t122 _ ?side1 ?side2 A3.out).mono ?_
 (case side1 => exact zc (Kd.C_below HR0_1.out HB.out))
 (case side2 => exact HC0_1.out)
 rintro e w8 ⟨v123, rfl, ho0, hb⟩
 refine ⟨_, rfl, ?_⟩
 have HO124 := Z0 (rl (rw_ ho0 (rlt (zr HO121))) (below_size (zb HB)))
 replace HO121 := Z0 (Kd.R_elder' (zr HO121) (rb ho0) hb)
 replace BK117 := Z0 (zkb BK117 hb)
 replace BK118 := Z0 (zkb BK118 hb)
 replace HB := Z0 (below_step (zb HB) hb)
 (try clear hb)
 (try clear hb2)
 (try clear hk)
 (try clear hi)
 (try clear ho0)
 obtain ⟨Ao9, co9, eo9⟩ := Kd.R_slice HO124.out
 (first | subst eo9 | (injection eo9 with f1_ f2_ f3_; have f4_ := f1_.symm; have f5_ := f3_.symm; clear f1_ f2_ f3_; subst f4_; subst f5_))
 obtain ⟨Ao10, co10, eo10⟩ := Kd.R_slice HO121.out
 (first | subst eo10 | (injection eo10 with f1_ f2_ f3_; have f4_ := f1_.symm; have f5_ := f3_.symm; clear f1_ f2_ f3_; subst f4_; subst f5_))
 refine hK.out _ _ ⟨(kc BK117.out 0).trans rfl, (kc BK117.out 1).trans rfl⟩ (fun hHeld => ?_)
 clear hK K
 refine norm_ (a' := ?_) ?_ ?_
 rotate_left
 ·show Act.put _ (some 8) _ = _
  simp only [Act.put, y0, y1, y2, i64_w, i32_w]
  rfl
 refine pu 6 (some 9) (bz 8 127) HT_ ?_
 refine one_ (i := 7) (N := none) (bz 8 255) rfl rfl (one_of HT_.out (by kernel_rfl)) (by decide) (fun K hK => ?_)
 have hs11 : w8.cell? ⟨gb118, 0, none⟩ = some (.slice none 0 0) := (kc BK118.out 0).trans rfl
 have hfs11 := blk_frozen BK118.out 0
 have hns11_0 := NB117_118.out
 have hms11_0 := NB118_117.out
 have hs12 : w8.cell? ⟨gb118, 1, none⟩ = some (.slice none 0 0) := (kc BK118.out 1).trans rfl
 have hfs12 := blk_frozen BK118.out 1
 have hns12_0 := NB117_118.out
 have hms12_0 := NB118_117.out
 refine skip_ (w1 := ?_) (by rfl) rfl ?_ ?_; rotate_left; go_simp; rfl
 refine hK.out _ _ ⟨((cell_far (p := ⟨gb118, _, none⟩) NB117_118.out _).trans (((cell_far (p := ⟨gb118, _, none⟩) NB117_118.out _).trans (hHeld.1)))), ((cell_far (p := ⟨gb118, _, none⟩) NB117_118.out _).trans (((cell_far (p := ⟨gb118, _, none⟩) NB117_118.out _).trans (hHeld.2))))⟩ (fun hHeld => ?_)
 clear hK K
 refine done_ (done_of HT_.out (by kernel_rfl)) ?_
 try go_wp2
 refine bodyPost_ret (results_cell_row rfl _ _ gb118 27 #[.slice Ao10 t119.length co10, .slice Ao9 t122.length co9] (0, 0) _ rfl (by (with_reducible repeat (first | refine kn ?_ _ | refine kd_ ?_ | refine ka ?_ _)); refine blk_put (cs := #[.slice Ao10 t119.length co10, .slice none 0 0]) ?_ 1 _ rfl; (with_reducible repeat (first | refine kn ?_ _ | refine kd_ ?_ | refine ka ?_ _)); refine blk_put (cs := #[.slice none 0 0, .slice none 0 0]) ?_ 0 _ rfl; (with_reducible repeat (first | refine kn ?_ _ | refine kd_ ?_ | refine ka ?_ _)); exact BK118.out) Try.underlying27 rfl (by kernel_rfl)) rfl ?_
 exact ⟨_, _, ze, by (with_reducible repeat (first | apply ra | apply rn | apply rd_)); exact rm (Kd.R_far (p := ⟨gb118, 1, none⟩) (Kd.R_far (p := ⟨gb118, 0, none⟩) (Kd.R_types HO121.out BK118.out (by decide)) (fun _ hk => hk.2) (.slice Ao10 t119.length co10)) (fun _ hk => hk.2) (.slice Ao9 t122.length co9)) (fun _ hk => hk.1.2), by (with_reducible repeat (first | apply ra | apply rn | apply rd_)); exact rm (Kd.R_far (p := ⟨gb118, 1, none⟩) (Kd.R_far (p := ⟨gb118, 0, none⟩) (Kd.R_types HO124.out BK118.out (by decide)) (fun _ hk => hk.2) (.slice Ao10 t119.length co10)) (fun _ hk => hk.2) (.slice Ao9 t122.length co9)) (fun _ hk => hk.1.2), zb HB⟩
def sched_Check.f (l0_0 : List Int) (l0_1 : List (S85)) (l1 : List Int) (a2 : Int) (l3 : List (List Int)) : Option (Int) := if ((l0_0.length ≤ 1000 ∧ l0_1.length ≤ 1000) ∧ l1.length ≤ 1000) ∧ l3.length ≤ 5000 then some (SchPlain.lookR l0_0 (l0_1.map fun x => (x.f0, x.f1)) l1 a2 l3) else none
theorem sched_Check.calls (A0_0 : Option Addr) (c0_0 : Nat) (l0_0 : List Int) (A0_1 : Option Addr) (c0_1 : Nat) (l0_1 : List (S85)) (A1 : Option Addr) (c1 : Nat) (l1 : List Int) (a2 : Int) (A3 : Option Addr) (c3 : Nat) (l3 : List (List Int)) (r : Int) (w : World) (hr0_0 : Kd.C (Kd.int .i64) w A0_0 l0_0.length l0_0) (hc0_0 : l0_0.length ≤ c0_0) (hr0_1 : Kd.C k85 w A0_1 l0_1.length l0_1) (hc0_1 : l0_1.length ≤ c0_1) (hr1 : Kd.C (Kd.int .i64) w A1 l1.length l1) (hc1 : l1.length ≤ c1) (hr3 : Kd.C (Kd.slice 3 (Kd.int .i64)) w A3 l3.length l3) (hc3 : l3.length ≤ c3) (h : sched_Check.f l0_0 l0_1 l1 a2 l3 = some r) :
  Calls Try.prog 34 #[.agg #[.slice A0_0 l0_0.length c0_0, .slice A0_1 l0_1.length c0_1], .slice A1 l1.length c1, .int .i64 a2, .slice A3 l3.length c3] w fun e w' => e = .returned (.int .i64 r) ∧ Below w.heap.size w w' := by
 unfold sched_Check.f at h
 split at h
 ·rename_i hb
  simp only [Option.some.injEq] at h
  have hE0 : EdR w A0_1 (l0_1.map fun x => (x.f0, x.f1)) := fun h0 => by
   rw [List.length_map] at h0
   obtain ⟨ad, e, _, _⟩ := at_T85 hr0_1 0 (by omega) (by omega)
   refine ⟨ad, e, fun i hi => ?_⟩
   rw [List.length_map] at hi
   obtain ⟨ad', e', h1, h2⟩ := at_T85 hr0_1 (i : Int) (by omega) (by omega)
   obtain rfl : ad' = ad := Option.some.inj (e'.symm.trans e)
   have hq : (l0_1.map fun x => (x.f0, x.f1)).getD i (0, 0) = ((rd_T85 l0_1 (i : Int)).f0, (rd_T85 l0_1 (i : Int)).f1) := by
    simp [rd_T85, List.getD_eq_getElem?_getD, List.getElem?_map, List.getElem?_eq_getElem hi]
   rw [hq]
   exact ⟨h1, h2⟩
  have hT3 : TrR w A3 l3 := fun h0 => by
   obtain ⟨ad, _, _, e, _⟩ := at_L2 hr3 0 (by omega) (by omega)
   refine ⟨ad, e, fun i hi => ?_⟩
   obtain ⟨ad', A, c, e', h1, h2, h3⟩ := at_L2 hr3 (i : Int) (by omega) (by omega)
   obtain rfl : ad' = ad := Option.some.inj (e'.symm.trans e)
   have hq : rd_L2 l3 (i : Int) = l3.getD i [] := rfl
   rw [hq] at h1 h2 h3
   exact ⟨A, c, h1, h2, Kd.reads_of_C (d := (0 : Int)) h3⟩
  have hp := sCheck_any A0_0 c0_0 l0_0 A0_1 c0_1 (l0_1.map fun x => (x.f0, x.f1)) A1 c1 l1 a2 A3 c3 l3 w ⟨⟨⟨hc0_0, Kd.reads_of_C (d := (0 : Int)) hr0_0⟩, (by rw [List.length_map]; exact hc0_1), hE0⟩, ⟨by omega, by rw [List.length_map]; omega⟩, Kd.reads_of_C (d := (0 : Int)) hr1, by omega, hT3, by omega⟩
  rw [h, List.length_map] at hp
  exact hp
 ·cases h
def list_New.l0 : Nat → Int → Int → List Int → List Int → Option (List Int × List Int × Int)
 | 0, _, _, _, _ => none
 | k + 1, x21, x22, x308000, x308001 => if x22 < x21 then (if x308000.length < 17592186044416 then (list_New.l0 k x21 (wrap64 (x22 + 1)) (x308000 ++ [(-1)]) x308001) else (none)) else (some (x308000, x308001, 0))
def list_New.f (k : Nat) (l0_0 : List Int) (l0_1 : List (S85)) (l1 : List Int) (a2 : Int) : Option (List Int × List Int × Int) := (sched_Check.f l0_0 l0_1 l1 a2 ([] : List (List Int))).bind fun t303 => (if t303 = 0 then ((slices_Clone_int_int.f l1).bind fun t304 => (list_New.l0 k a2 0 ([] : List Int) t304)) else (some (([] : List Int), ([] : List Int), t303)))
set_option maxHeartbeats 8000000 in
set_option maxRecDepth 100000 in
theorem list_New.calls (k : Nat) (A0_0 : Option Addr) (c0_0 : Nat) (l0_0 : List Int) (A0_1 : Option Addr) (c0_1 : Nat) (l0_1 : List (S85)) (A1 : Option Addr) (c1 : Nat) (l1 : List Int) (a2 : Int) (r1 : List Int) (r2 : List Int) (r3 : Int) (w : World) (hr0_0 : Kd.C (Kd.int .i64) w A0_0 l0_0.length l0_0) (hc0_0 : l0_0.length ≤ c0_0) (hr0_1 : Kd.C k85 w A0_1 l0_1.length l0_1) (hc0_1 : l0_1.length ≤ c0_1) (hr1 : Kd.C (Kd.int .i64) w A1 l1.length l1) (hc1 : l1.length ≤ c1) (h : list_New.f k l0_0 l0_1 l1 a2 = some (r1, r2, r3)) :
  Calls Try.prog 28 #[.agg #[.slice A0_0 l0_0.length c0_0, .slice A0_1 l0_1.length c0_1], .slice A1 l1.length c1, .int .i64 a2] w fun e w' => ∃ v0_ v1_ : Value, e = .returned (.tuple #[.agg #[v0_, v1_], .int .i64 r3]) ∧ Kd.R (Kd.int .i64) 3 w' w.heap.size (fun k_ => some k_ ≠ (v1_ : Value).ownBlock) v0_ r1 ∧ Kd.R (Kd.int .i64) 3 w' w.heap.size (fun k_ => some k_ ≠ (v0_ : Value).ownBlock) v1_ r2 ∧ Below w.heap.size w w' := by
 have hu25 := Try.underlying25
 have hu27 := Try.underlying27
 have HR0_0 := Z0 hr0_0
 have HC0_0 := Z0 hc0_0
 clear hr0_0 hc0_0
 have HR0_1 := Z0 hr0_1
 have HC0_1 := Z0 hc0_1
 clear hr0_1 hc0_1
 have HR1 := Z0 hr1
 have HC1 := Z0 hc1
 clear hr1 hc1
 have HB := Z0 (Below.refl w.heap.size w)
 have H : ((sched_Check.f l0_0 l0_1 l1 a2 ([] : List (List Int))).bind fun t303 => (if t303 = 0 then ((slices_Clone_int_int.f l1).bind fun t304 => (list_New.l0 k a2 0 ([] : List Int) t304)) else (some (([] : List Int), ([] : List Int), t303)))) = some (r1, r2, r3) := h
 clear h
 replace H := Option.bind_eq_some_iff.mp H
 obtain ⟨t303, A40, H⟩ := H
 have A4 := Z0 A40
 clear A40
 by_cases c5 : t303 = 0
 ·rw [if_pos c5] at H
  have c5b0 : (t303 == 0) = true := beq_iff_eq.mpr c5
  have c5b1 : (t303 != 0) = false := bne_eq_false_iff_eq.mpr c5
  clear c5
  replace H := Option.bind_eq_some_iff.mp H
  obtain ⟨t304, A60, H⟩ := H
  have A6 := Z0 A60
  clear A60
  have H' := Z0 H
  clear H
  go_enter Try.func28, Try.ntmps28
  go_wp2_with (first | ((with_reducible refine gate_dst (N := 3) rfl ?_); refine zx (N := 3) #[.slice A0_0 l0_0.length c0_0, .slice A0_1 l0_1.length c0_1] 25 ?_; intro gb301 hg w7 hbox hb; have BK301 := Z0 (hbox); have GW301 := Z0 (zh w hg HB); have GE301 := Z0 (zh w hg HB); replace HB := Z0 (below_step (zb HB) hb); clear hb hbox hg) | ((with_reducible refine gate_dst (N := 6) rfl ?_); refine zx (N := 6) #[.slice none 0 0, .slice none 0 0] 27 ?_; intro gb302 hg w8 hbox hb; have BK302 := Z0 (hbox); have GW302 := Z0 (zh w hg HB); have GE302 := Z0 (zh w hg HB); replace HB := Z0 (below_step (zb HB) hb); have NB301_302 := Z0 (zl hg BK301); have NB302_301 := Z0 (zu hg BK301); replace BK301 := Z0 (zkb BK301 hb); clear hb hbox hg; have hnb9 := NB301_302.out; have hnc9 := NB302_301.out; have hcz10_0 := kz0 BK301; have hcz10_1 := kz1 BK301; have hfz10_0 := blk_frozen BK301.out 0; have hfz10_1 := blk_frozen BK301.out 1) | ((with_reducible refine gate_callee (f := 34) rfl ?_); refine goesL_ (some 13) rfl rfl Try.func34 (by kernel_rfl) rfl #[.agg #[.slice A0_0 l0_0.length c0_0, .slice A0_1 l0_1.length c0_1], .slice A1 l1.length c1, .int .i64 a2, .slice none 0 0] rfl (by (try simp only [List.map_toArray, List.map_cons, List.map_nil]); first | done | rfl | (simp only [List.length_drop, List.length_take]; rfl)) ?_; (refine (sched_Check.calls _ _ l0_0 _ _ l0_1 _ _ l1 a2 _ _ ([] : List (List Int)) t303 _ ?side1 ?side2 ?side3 ?side4 ?side5 ?side6 ?side7 ?side8 A4.out).mono ?_); (case side1 => exact zc (Kd.C_below HR0_0.out HB.out)); (case side2 => exact HC0_0.out); (case side3 => exact zc (Kd.C_below HR0_1.out HB.out)); (case side4 => exact HC0_1.out); (case side5 => exact zc (Kd.C_below HR1.out HB.out)); (case side6 => exact HC1.out); (case side7 => exact Kd.C_nil _ _); (case side8 => exact Nat.le_refl _); rintro e w11 ⟨rfl, hb⟩; refine ⟨_, rfl, ?_⟩; replace BK301 := Z0 (zkb BK301 hb); replace BK302 := Z0 (zkb BK302 hb); replace HB := Z0 (below_step (zb HB) hb); (try clear hb); (try clear hb2); (try clear hk); (try clear hi)) | ((with_reducible refine gate_callee (f := 48) rfl ?_); refine goesL_ (some 19) rfl rfl Try.func48 (by kernel_rfl) rfl #[.slice A1 l1.length c1] rfl (by (try simp only [List.map_toArray, List.map_cons, List.map_nil]); first | done | rfl | (simp only [List.length_drop, List.length_take]; rfl)) ?_; (with_reducible refine (slices_Clone_int_int.calls _ _ l1 t304 _ ?side1 ?side2 A6.out).mono ?_); (case side1 => exact zc (Kd.C_below HR1.out HB.out)); (case side2 => exact HC1.out); rintro e w12 ⟨v305, rfl, ho0, hb⟩; refine ⟨_, rfl, ?_⟩; have HO306 := Z0 (rl ho0 (below_size (zb HB))); replace BK301 := Z0 (zkb BK301 hb); replace BK302 := Z0 (zkb BK302 hb); replace HB := Z0 (below_step (zb HB) hb); (try clear hb); (try clear hb2); (try clear hk); (try clear hi); (try clear ho0); obtain ⟨Ao13, co13, eo13⟩ := Kd.R_slice HO306.out; subst eo13) | ((with_reducible refine gate_dst (N := 9) rfl ?_); refine zx (N := 9) #[.slice none 0 0, .slice none 0 0] 27 ?_; intro gb307 hg w14 hbox hb; replace HO306 := Z0 (rbe (zr HO306) hb); have BK307 := Z0 (hbox); have GW307 := Z0 (zh w hg HB); have GE307 := Z0 (zh w hg HB); replace HB := Z0 (below_step (zb HB) hb); have NB301_307 := Z0 (zl hg BK301); have NB307_301 := Z0 (zu hg BK301); replace BK301 := Z0 (zkb BK301 hb); have NB302_307 := Z0 (zl hg BK302); have NB307_302 := Z0 (zu hg BK302); replace BK302 := Z0 (zkb BK302 hb); clear hb hbox hg; have hnb15 := NB307_301.out; have hnc15 := NB301_307.out; have hnb16 := NB307_302.out; have hnc16 := NB302_307.out; have hcz17_0 := kz0 BK307; have hcz17_1 := kz1 BK307; have hfz17_0 := blk_frozen BK307.out 0; have hfz17_1 := blk_frozen BK307.out 1))
  go_loopg [22] k (fun kq v22 w' => ∃ (x22_1 : Int) (x308000_1 : List Int) (u308000 : Value), v22 = .int .i64 x22_1 ∧ Aside0 (list_New.l0 kq a2 x22_1 x308000_1 t304 = some (r1, r2, r3)) ∧ Aside0 (kq ≤ k) ∧ Aside0 (Kd.R (Kd.int .i64) 3 w' w.heap.size (fun k_ => some k_ ≠ ((.slice Ao13 t304.length co13) : Value).ownBlock) u308000 x308000_1) ∧ Aside0 (Kd.R (Kd.int .i64) 3 w' w.heap.size (fun k_ => some k_ ≠ (u308000 : Value).ownBlock) (.slice Ao13 t304.length co13) t304) ∧ Aside0 (w'.heap[gb301]? = some (.cells #[(.slice A0_0 l0_0.length c0_0), (.slice A0_1 l0_1.length c0_1)] 25 (0, 0))) ∧ Aside0 (w'.heap[gb302]? = some (.cells #[(.slice none 0 0), (.slice none 0 0)] 27 (0, 0))) ∧ Aside0 (w'.heap[gb307]? = some (.cells #[u308000, (.slice Ao13 t304.length co13)] 27 (0, 0))) ∧ Aside0 (Below w.heap.size w w'))
  case atStart => exact ⟨(0), (([] : List Int)), (.slice none 0 0), zs, H', ⟨Nat.le_refl _⟩, ⟨by first | exact Kd.R_nil _ _ _ _ _ | exact Kd.N_nil _ _ _ _ _ | exact Kd.V_nil _ _ _ _ _ | exact Kd.Q_nil _ _ _ _ _ | exact Kd.S_nil _ _ _ _ _⟩, ⟨by (with_reducible repeat (first | apply ra | apply rn | apply rd_)); exact rm (Kd.R_far (p := ⟨gb307, 1, none⟩) (Kd.R_far (p := ⟨gb307, 0, none⟩) (Kd.R_types HO306.out BK307.out (by decide)) (fun _ hk => hk.2) (.slice none 0 0)) (fun _ hk => hk.2) (.slice Ao13 t304.length co13)) (fun _ hk => (by simp [Value.ownBlock]))⟩, ⟨by (with_reducible repeat (first | refine kn ?_ _ | refine kd_ ?_ | refine ka ?_ _)); refine blk_far ?_ NB301_307.out _; (with_reducible repeat (first | refine kn ?_ _ | refine kd_ ?_ | refine ka ?_ _)); refine blk_far ?_ NB301_307.out _; (with_reducible repeat (first | refine kn ?_ _ | refine kd_ ?_ | refine ka ?_ _)); exact BK301.out⟩, ⟨by (with_reducible repeat (first | refine kn ?_ _ | refine kd_ ?_ | refine ka ?_ _)); refine blk_far ?_ NB302_307.out _; (with_reducible repeat (first | refine kn ?_ _ | refine kd_ ?_ | refine ka ?_ _)); refine blk_far ?_ NB302_307.out _; (with_reducible repeat (first | refine kn ?_ _ | refine kd_ ?_ | refine ka ?_ _)); exact BK302.out⟩, ⟨by (with_reducible repeat (first | refine kn ?_ _ | refine kd_ ?_ | refine ka ?_ _)); refine blk_put (cs := #[.slice none 0 0, .slice none 0 0]) ?_ 1 _ rfl; (with_reducible repeat (first | refine kn ?_ _ | refine kd_ ?_ | refine ka ?_ _)); refine blk_put (cs := #[.slice none 0 0, .slice none 0 0]) ?_ 0 _ rfl; (with_reducible repeat (first | refine kn ?_ _ | refine kd_ ?_ | refine ka ?_ _)); exact BK307.out⟩, ⟨zb HB⟩⟩
  case round =>
   clear H'
   try clear c1
   try clear c2
   try clear p2
   try clear c3
   try clear c4
   try clear c5
   try clear c5b0
   try clear c5b1
   try clear c9
   try clear c15
   try clear c16
   try clear hcz10_0
   try clear hcz10_1
   try clear hcz17_0
   try clear hcz17_1
   try clear hfz10_0
   try clear hfz10_1
   try clear hfz17_0
   try clear hfz17_1
   obtain ⟨x22_1, x308000_1, u308000, rfl, HA, HK1, HO_308000, HO_308001, BK301, BK302, BK307, HB⟩ := hrel
   cases gk with
   | zero => exact absurd HA.out (by simp [list_New.l0])
   | succ k1 =>
    have H := HA.out
    clear HA
    simp only [list_New.l0] at H
    by_cases c18 : x22_1 < a2
    ·rw [if_pos c18] at H
     have c18b0 : decide (x22_1 < a2) = true := decide_eq_true c18
     clear c18
     by_cases c19 : x308000_1.length < 17592186044416
     ·rw [if_pos c19] at H
      have LMc19 := Z0 c19
      clear c19
      obtain ⟨y308, hy308⟩ : ∃ y_ : List Int, y_ = (x308000_1 ++ [(-1)]) := ⟨_, rfl⟩
      replace H : (list_New.l0 k1 a2 (wrap64 (x22_1 + 1)) y308 t304) = some (r1, r2, r3) := by first | (rw [hy308]; with_reducible exact H) | (have H2_ := (Option.bind_some _ _).symm.trans H; rw [hy308]; with_reducible exact H2_) | (have H2_ := (Option.bind_some _ _).symm.trans H; with_reducible exact H2_) | with_reducible exact H | (rw [hy308]; exact H) | exact H
      have Ny308 := Z0 hy308
      clear hy308
      have H' := Z0 H
      clear H
      have hnb20 := NB307_301.out
      have hnc20 := NB301_307.out
      have hnb21 := NB307_302.out
      have hnc21 := NB302_307.out
      have hcz22_0 := kz0 BK307
      have hcz22_1 := kz1 BK307
      have hfz22_0 := blk_frozen BK307.out 0
      have hfz22_1 := blk_frozen BK307.out 1
      go_wp2_with (first | ((with_reducible refine gate_builtin (b := .append) (xs := #[.tmp 25, .tmp 26]) rfl ?_); at_builtin; refine Kd.R_append (Kd.int .i64) (w0 := w) w.heap.size rfl (.tmp 25) (.tmp 26) 22 3 (.int .i64 0) 8 rfl Try.underlying22 info3 rfl (by decide) (by omega) u308000 x308000_1 (-1) [.int .i64 (-1)] (fun k_ => some k_ ≠ (.slice Ao13 t304.length co13 : Value).ownBlock) (fun _ => False) rfl rfl ?aP (fun _ hk => hk.elim) ?aF ?aO ?aB ?aS ?aL ?_; (case aP => exact rfl); (case aB => exact (zb HB)); (case aF => exact (fun k_ hk => Kd.fresh' (rlt (zr HO_308001)) k_ hk)); (case aO => exact (zr HO_308000)); (case aS => exact (below_size (zb HB))); (case aL => have := LMc19.out; omega); intro v309 w23 ho hb hg hat; rw [← Ny308.out] at ho; have n0_ := Z0 (Kd.R_after (ok := (fun _ => True)) (by (with_reducible repeat (first | apply ra | apply rn | apply rd_)); exact rm HO_308001.out (fun _ hk => ⟨trivial, hk⟩)) hg hat); have n1_ := Z0 (blk_grown (g := gb301) (o := .cells #[.slice A0_0 l0_0.length c0_0, .slice A0_1 l0_1.length c0_1] 25 (0, 0)) (zk BK301) hg (Kd.R_ne HO_308000.out BK301.out (by decide))); have n2_ := Z0 (blk_grown (g := gb302) (o := .cells #[.slice none 0 0, .slice none 0 0] 27 (0, 0)) (zk BK302) hg (Kd.R_ne HO_308000.out BK302.out (by decide))); have n3_ := Z0 (blk_grown (g := gb307) (o := .cells #[u308000, .slice Ao13 t304.length co13] 27 (0, 0)) (zk BK307) hg (Kd.R_ne HO_308000.out BK307.out (by decide))); have n4_ := Z0 (hb); have n5_ := Z0 (ho); clear HO_308001; clear BK301; clear BK302; clear BK307; clear HB; clear HO_308000; have HO_308001 := n0_; have BK301 := n1_; have BK302 := n2_; have BK307 := n3_; have HB := n4_; have HO310 := n5_; clear n0_ n1_ n2_ n3_ n4_ n5_; clear ho hb hg hat; obtain ⟨Ao24, co24, eo24⟩ := Kd.R_slice HO310.out; subst eo24; have hcz25_0 := kz0 BK307; have hcz25_1 := kz1 BK307; have hfz25_0 := blk_frozen BK307.out 0; have hfz25_1 := blk_frozen BK307.out 1))
      go_roundg k1
      case measure => have := HK1.out; omega
      case rel => exact ⟨(wrap64 (x22_1 + 1)), (y308), (.slice Ao24 y308.length co24), zs, H', ⟨by have := HK1.out; omega⟩, ⟨by (with_reducible repeat (first | apply ra | apply rn | apply rd_)); exact rm (Kd.R_far (p := ⟨gb307, 0, none⟩) (Kd.R_types HO310.out BK307.out (by decide)) (fun _ hk => hk.2) (.slice Ao24 y308.length co24)) (fun _ hk => hk.1)⟩, ⟨by (with_reducible repeat (first | apply ra | apply rn | apply rd_)); exact rm (Kd.R_far (p := ⟨gb307, 0, none⟩) (Kd.R_types HO_308001.out BK307.out (by decide)) (fun _ hk => hk.2) (.slice Ao24 y308.length co24)) (fun _ hk => hk.1.2)⟩, ⟨by (with_reducible repeat (first | refine kn ?_ _ | refine kd_ ?_ | refine ka ?_ _)); refine blk_far ?_ NB301_307.out _; (with_reducible repeat (first | refine kn ?_ _ | refine kd_ ?_ | refine ka ?_ _)); exact BK301.out⟩, ⟨by (with_reducible repeat (first | refine kn ?_ _ | refine kd_ ?_ | refine ka ?_ _)); refine blk_far ?_ NB302_307.out _; (with_reducible repeat (first | refine kn ?_ _ | refine kd_ ?_ | refine ka ?_ _)); exact BK302.out⟩, ⟨by (with_reducible repeat (first | refine kn ?_ _ | refine kd_ ?_ | refine ka ?_ _)); refine blk_put (cs := #[u308000, .slice Ao13 t304.length co13]) ?_ 0 _ rfl; (with_reducible repeat (first | refine kn ?_ _ | refine kd_ ?_ | refine ka ?_ _)); exact BK307.out⟩, ⟨zb HB⟩⟩
     ·rw [if_neg c19] at H
      exact absurd H (by simp)
    ·rw [if_neg c18] at H
     have c18b0 : decide (x22_1 < a2) = false := decide_eq_false c18
     clear c18
     simp only [Option.some.injEq, Prod.mk.injEq] at H
     obtain ⟨rfl, rfl, rfl⟩ := H
     have hnb26 := NB307_301.out
     have hnc26 := NB301_307.out
     have hnb27 := NB307_302.out
     have hnc27 := NB302_307.out
     have hcz28_0 := kz0 BK307
     have hcz28_1 := kz1 BK307
     have hfz28_0 := blk_frozen BK307.out 0
     have hfz28_1 := blk_frozen BK307.out 1
     obtain ⟨Ao29, co29, eo29⟩ := Kd.R_slice HO_308000.out
     subst eo29
     have hnb30 := NB302_301.out
     have hnc30 := NB301_302.out
     have hcz31_0 := kz0 BK302
     have hcz31_1 := kz1 BK302
     have hfz31_0 := blk_frozen BK302.out 0
     have hfz31_1 := blk_frozen BK302.out 1
     go_wp2
     refine bodyPost_ret (results_ct rfl _ _ gb302 27 #[.slice Ao29 x308000_1.length co29, .slice Ao13 t304.length co13] (0, 0) _ rfl (by (with_reducible repeat (first | refine kn ?_ _ | refine kd_ ?_ | refine ka ?_ _)); refine blk_put (cs := #[.slice Ao29 x308000_1.length co29, .slice none 0 0]) ?_ 1 _ rfl; (with_reducible repeat (first | refine kn ?_ _ | refine kd_ ?_ | refine ka ?_ _)); refine blk_put (cs := #[.slice none 0 0, .slice none 0 0]) ?_ 0 _ rfl; (with_reducible repeat (first | refine kn ?_ _ | refine kd_ ?_ | refine ka ?_ _)); exact BK302.out) Try.underlying27 rfl (by kernel_rfl)) rfl ?_
     exact ⟨_, _, ze, by (with_reducible repeat (first | apply ra | apply rn | apply rd_)); exact rm (Kd.R_far (p := ⟨gb302, 1, none⟩) (Kd.R_far (p := ⟨gb302, 0, none⟩) (Kd.R_types HO_308000.out BK302.out (by decide)) (fun _ hk => hk.2) (.slice Ao29 x308000_1.length co29)) (fun _ hk => hk.2) (.slice Ao13 t304.length co13)) (fun _ hk => hk.1), by (with_reducible repeat (first | apply ra | apply rn | apply rd_)); exact rm (Kd.R_far (p := ⟨gb302, 1, none⟩) (Kd.R_far (p := ⟨gb302, 0, none⟩) (Kd.R_types HO_308001.out BK302.out (by decide)) (fun _ hk => hk.2) (.slice Ao29 x308000_1.length co29)) (fun _ hk => hk.2) (.slice Ao13 t304.length co13)) (fun _ hk => hk.1), zb HB⟩
 ·rw [if_neg c5] at H
  have c5b0 : (t303 == 0) = false := beq_eq_false_iff_ne.mpr c5
  have c5b1 : (t303 != 0) = true := bne_iff_ne.mpr c5
  simp only [Option.some.injEq, Prod.mk.injEq] at H
  obtain ⟨rfl, rfl, rfl⟩ := H
  go_enter Try.func28, Try.ntmps28
  go_wp2_with (first | ((with_reducible refine gate_dst (N := 3) rfl ?_); refine zx (N := 3) #[.slice A0_0 l0_0.length c0_0, .slice A0_1 l0_1.length c0_1] 25 ?_; intro gb301 hg w32 hbox hb; have BK301 := Z0 (hbox); have GW301 := Z0 (zh w hg HB); have GE301 := Z0 (zh w hg HB); replace HB := Z0 (below_step (zb HB) hb); clear hb hbox hg) | ((with_reducible refine gate_dst (N := 6) rfl ?_); refine zx (N := 6) #[.slice none 0 0, .slice none 0 0] 27 ?_; intro gb302 hg w33 hbox hb; have BK302 := Z0 (hbox); have GW302 := Z0 (zh w hg HB); have GE302 := Z0 (zh w hg HB); replace HB := Z0 (below_step (zb HB) hb); have NB301_302 := Z0 (zl hg BK301); have NB302_301 := Z0 (zu hg BK301); replace BK301 := Z0 (zkb BK301 hb); clear hb hbox hg; have hnb34 := NB301_302.out; have hnc34 := NB302_301.out; have hcz35_0 := kz0 BK301; have hcz35_1 := kz1 BK301; have hfz35_0 := blk_frozen BK301.out 0; have hfz35_1 := blk_frozen BK301.out 1) | ((with_reducible refine gate_callee (f := 34) rfl ?_); refine goesL_ (some 13) rfl rfl Try.func34 (by kernel_rfl) rfl #[.agg #[.slice A0_0 l0_0.length c0_0, .slice A0_1 l0_1.length c0_1], .slice A1 l1.length c1, .int .i64 a2, .slice none 0 0] rfl (by (try simp only [List.map_toArray, List.map_cons, List.map_nil]); first | done | rfl | (simp only [List.length_drop, List.length_take]; rfl)) ?_; (refine (sched_Check.calls _ _ l0_0 _ _ l0_1 _ _ l1 a2 _ _ ([] : List (List Int)) t303 _ ?side1 ?side2 ?side3 ?side4 ?side5 ?side6 ?side7 ?side8 A4.out).mono ?_); (case side1 => exact zc (Kd.C_below HR0_0.out HB.out)); (case side2 => exact HC0_0.out); (case side3 => exact zc (Kd.C_below HR0_1.out HB.out)); (case side4 => exact HC0_1.out); (case side5 => exact zc (Kd.C_below HR1.out HB.out)); (case side6 => exact HC1.out); (case side7 => exact Kd.C_nil _ _); (case side8 => exact Nat.le_refl _); rintro e w36 ⟨rfl, hb⟩; refine ⟨_, rfl, ?_⟩; replace BK301 := Z0 (zkb BK301 hb); replace BK302 := Z0 (zkb BK302 hb); replace HB := Z0 (below_step (zb HB) hb); (try clear hb); (try clear hb2); (try clear hk); (try clear hi); have hcz37_0 := kz0 BK302; have hcz37_1 := kz1 BK302; have hfz37_0 := blk_frozen BK302.out 0; have hfz37_1 := blk_frozen BK302.out 1))
  refine bodyPost_ret (results_ct rfl _ _ gb302 27 #[.slice none 0 0, .slice none 0 0] (0, 0) _ rfl (by (with_reducible repeat (first | refine kn ?_ _ | refine kd_ ?_ | refine ka ?_ _)); refine blk_put (cs := #[.slice none 0 0, .slice none 0 0]) ?_ 1 _ rfl; (with_reducible repeat (first | refine kn ?_ _ | refine kd_ ?_ | refine ka ?_ _)); refine blk_put (cs := #[.slice none 0 0, .slice none 0 0]) ?_ 0 _ rfl; (with_reducible repeat (first | refine kn ?_ _ | refine kd_ ?_ | refine ka ?_ _)); exact BK302.out) Try.underlying27 rfl (by kernel_rfl)) rfl ?_
  exact ⟨_, _, ze, by first | exact Kd.R_nil _ _ _ _ _ | exact Kd.N_nil _ _ _ _ _ | exact Kd.V_nil _ _ _ _ _ | exact Kd.Q_nil _ _ _ _ _ | exact Kd.S_nil _ _ _ _ _, by first | exact Kd.R_nil _ _ _ _ _ | exact Kd.N_nil _ _ _ _ _ | exact Kd.V_nil _ _ _ _ _ | exact Kd.Q_nil _ _ _ _ _ | exact Kd.S_nil _ _ _ _ _, zb HB⟩
end Go.Proofs.Ytmbhjhanafmidaa.PLst
