/- Printed contracts of some functions, put into one: dag_Check, list_Check, list_ready, list_Ready, slices_Equal_int_int, list_Same, trefoilref02_Ints, list_New, list_Run, trefoilref11_SameTrace, list_Fill, list_Tick, trefoillaw11_awake. -/
import Derived.Test.YtmbhjhanafmidaaProg
import Derived.Test.YtmbhjhanafmidaaUSMLstB
import Derived.Below
import Derived.Deep.Draws
import Derived.Deep.AppendLies
import Derived.Maps.AppendAt
import Derived.OwnWalk
import Derived.Laws.BytesArg
import Derived.Laws.MakeOwn
import Derived.Laws.OwnMore
import Derived.Deep.OwnRows
import Derived.Tactics
import Derived.Lib.ConvBytes
import Derived.Laws.Slices
import Derived.WalkKit
import Derived.KernelRfl
import Derived.RowKit3
import Derived.Deep.LoopGhost
import Derived.Deep.QuietTactic
import Derived.BigQuiet
import Derived.WideLaws
import Derived.Deep.DeepCutAuto
import Derived.Deep.CutBlock
import Derived.Deep.RegionHeld3
import Derived.Laws.Rows
import Derived.Lib.AppendStr
import Derived.ArgAppend
import Derived.Laws.IdiomCopy
import Derived.OrdersHeld
import Derived.Laws.BitsLemmas
import Derived.RowKit
import Derived.Test.YtmbhjhanafmidaaUSWWords
import Derived.Test.YtmbhjhanafmidaaUSWLast
import Derived.Test.YtmbhjhanafmidaaUSWTab
import Derived.Test.YtmbhjhanafmidaaUSWFour
import Derived.Test.YtmbhjhanafmidaaUSWQPut
import Derived.Test.YtmbhjhanafmidaaUSWApart
import Derived.Test.YtmbhjhanafmidaaUSWArr
import Derived.Test.YtmbhjhanafmidaaUSWZeros
import Derived.Test.YtmbhjhanafmidaaUSWFoot
import Derived.Test.YtmbhjhanafmidaaUSWKept
import Derived.Test.YtmbhjhanafmidaaUSWShare
import Derived.Test.YtmbhjhanafmidaaUSWN
import Derived.Test.YtmbhjhanafmidaaUSWFootNe
import Derived.Test.YtmbhjhanafmidaaUSWAt
import Derived.Test.YtmbhjhanafmidaaUSWEqStruct
import Derived.Test.YtmbhjhanafmidaaUSWRepsOne
import Derived.Test.YtmbhjhanafmidaaUSWInv
import Derived.Test.YtmbhjhanafmidaaUSWInvWords
import Derived.Test.YtmbhjhanafmidaaUSWGuard
import Derived.Test.YtmbhjhanafmidaaUSWNEv
import Derived.Test.YtmbhjhanafmidaaUSWMore
import Derived.Test.YtmbhjhanafmidaaUSMLstB
import Derived.Test.YtmbhjhanafmidaaUSZr
namespace Go.Proofs.Ytmbhjhanafmidaa.PAw
open Go.Proofs.Ytmbhjhanafmidaa.Zr Go.RowKit Go.Proofs.YtmbhjhanafmidaaW.PrintWords Go.Proofs.YtmbhjhanafmidaaW.PrintLast Go.Proofs.YtmbhjhanafmidaaW.PrintMore
attribute [local go_sem] max2_int min2_int max_two min_two max_three min_three max_four min_four   -- for this text's walks alone
set_option linter.unusedVariables false
set_option linter.unusedSimpArgs false
theorem info3 : (Try.prog.info? 3).map (fun i => (i.zero, i.size, i.bytes)) = some (some (.int .i64 0), 1, 8) := by kernel_rfl
theorem info85 : (Try.prog.info? 85).map (fun i => (i.zero, i.size, i.bytes)) = some (some (.agg #[(.int .i64 0), (.int .i64 0)]), 2, 16) := by kernel_rfl
structure S85 where
 f0 : Int
 f1 : Int
def z85 : S85 := ⟨(0 : Int), (0 : Int)⟩
def k85 : Kd S85 := Kd.iso (Kd.pair (Kd.int .i64) (Kd.int .i64)) (fun x : S85 => (x.f0, x.f1))
theorem k85_open {w : World} {x : S85} {cs : List Value} (h : k85.K w x cs) : cs = [.int .i64 x.f0, .int .i64 x.f1] := by
 obtain ⟨_, _, rfl, rfl, rfl⟩ := h
 exact rfl
theorem k85_mk (w : World) (x : S85)  : k85.K w x [.int .i64 x.f0, .int .i64 x.f1] := ⟨[.int .i64 x.f0], [.int .i64 x.f1], rfl, rfl, rfl⟩
theorem k85_mkM (w : World) (base : Nat) (ok : Nat → Prop) (x : S85)  : k85.M w base ok x [.int .i64 x.f0, .int .i64 x.f1] := ⟨[.int .i64 x.f0], [.int .i64 x.f1], rfl, rfl, rfl⟩
def rd_T85 (xs : List S85) (i : Int) : S85 := xs.getD i.toNat z85
theorem at_T85 {w : World} {A : Option Addr} {n : Nat} {xs : List S85} (h : Kd.C k85 w A n xs) (i : Int) (h0 : 0 ≤ i) (h1 : i < n) : ∃ ad , A = some ad ∧ w.cell? (ad.add (i.toNat * 2)) = some (.int .i64 (rd_T85 xs i).f0) ∧ w.cell? ⟨(ad.add (i.toNat * 2)).block, (ad.add (i.toNat * 2)).off + 1, none⟩ = some (.int .i64 (rd_T85 xs i).f1) := by
 obtain ⟨ad, c, e, _, hK, hc0⟩ := Kd.C_get h z85 i h0 h1
 have hc : ∀ j u, c[j]? = some u → w.cell? (ad.add (i.toNat * 2 + j)) = some u := hc0
 obtain rfl := k85_open hK
 exact ⟨ad, e, hc 0 _ rfl, by rw [← add_field _ _ 1 (by omega)]; exact hc 1 _ rfl⟩
def rd_L2 (xs : List (List Int)) (i : Int) : (List Int) := xs.getD i.toNat ([] : List Int)
theorem at_L2 {w : World} {A : Option Addr} {n : Nat} {xs : List (List Int)} (h : Kd.C (Kd.slice 3 (Kd.int .i64)) w A n xs) (i : Int) (h0 : 0 ≤ i) (h1 : i < n) : ∃ ad A0 c0, A = some ad ∧ w.cell? (ad.add i.toNat) = some (.slice A0 (rd_L2 xs i).length c0) ∧ (rd_L2 xs i).length ≤ c0 ∧ (Kd.int .i64).C w A0 (rd_L2 xs i).length (rd_L2 xs i) := by
 obtain ⟨ad, c, e, _, hK, hc0⟩ := Kd.C_get h ([] : List Int) i h0 h1
 have hc : ∀ j u, c[j]? = some u → w.cell? (ad.add (i.toNat * 1 + j)) = some u := hc0
 obtain ⟨A0, c0, rfl, l0, g0⟩ := hK
 exact ⟨ad, A0, c0, e, by have hq := hc 0 _ rfl; rwa [Nat.mul_one, Nat.add_zero] at hq, l0, g0⟩
open Go.RowKit Go.Proofs.YtmbhjhanafmidaaW.PrintWords Go.Proofs.YtmbhjhanafmidaaW.PrintLast Go.Proofs.YtmbhjhanafmidaaW.PrintMore
attribute [local go_sem] max2_int min2_int max_two min_two max_three min_three max_four min_four   -- for this text's walks alone
set_option linter.unusedVariables false
set_option linter.unusedSimpArgs false
theorem eqA85 (d : Nat) (w : World) (x0 y0 : Int) (x1 y1 : Int) :
  (Op.equalIn (d + 2) 85 (.agg #[.int .i64 x0, .int .i64 x1]) (.agg #[.int .i64 y0, .int .i64 y1])).run Try.prog w = .ok (x0 == y0 && (x1 == y1)) w := by
 refine eqA_of Try.underlying85 (by kernel_rfl) ?_
 refine eqf_cons (by rfl) (by go_simp; rfl) (by go_simp; rfl) (by go_simp) ?_
 exact eqf_last (by rfl) (by go_simp; rfl) (by go_simp; rfl) (by go_simp)
open Go.RowKit Go.Proofs.YtmbhjhanafmidaaW.PrintWords Go.Proofs.YtmbhjhanafmidaaW.PrintLast Go.Proofs.YtmbhjhanafmidaaW.PrintMore
attribute [local go_sem] max2_int min2_int max_two min_two max_three min_three max_four min_four   -- for this text's walks alone
set_option linter.unusedVariables false
set_option linter.unusedSimpArgs false
attribute [local go_sem high] eqA85
def dag_Check.f (l0_0 : List Int) (l0_1 : List (S85)) : Option (Int) := if l0_0.length ≤ 1000 ∧ l0_1.length ≤ 1000 then some (DagPlain.checkL l0_0 (l0_1.map fun x => (x.f0, x.f1))) else none
def list_Check.f (l0_0 : List Int) (l0_1 : List (S85)) (l1_0 : List Int) (l1_1 : List Int) : Option (Int) := if ((l0_0.length ≤ 1000 ∧ l0_1.length ≤ 1000) ∧ l1_0.length ≤ 1000 ∧ l1_1.length ≤ 1000) then some (LstPlain.crewR l0_0 (l0_1.map fun x => (x.f0, x.f1)) l1_0 l1_1) else none
theorem list_Check.calls (A0_0 : Option Addr) (c0_0 : Nat) (l0_0 : List Int) (A0_1 : Option Addr) (c0_1 : Nat) (l0_1 : List (S85)) (A1_0 : Option Addr) (c1_0 : Nat) (l1_0 : List Int) (A1_1 : Option Addr) (c1_1 : Nat) (l1_1 : List Int) (r : Int) (w : World) (hr0_0 : Kd.C (Kd.int .i64) w A0_0 l0_0.length l0_0) (hc0_0 : l0_0.length ≤ c0_0) (hr0_1 : Kd.C k85 w A0_1 l0_1.length l0_1) (hc0_1 : l0_1.length ≤ c0_1) (hr1_0 : Kd.C (Kd.int .i64) w A1_0 l1_0.length l1_0) (hc1_0 : l1_0.length ≤ c1_0) (hr1_1 : Kd.C (Kd.int .i64) w A1_1 l1_1.length l1_1) (hc1_1 : l1_1.length ≤ c1_1) (h : list_Check.f l0_0 l0_1 l1_0 l1_1 = some r) :
  Calls Try.prog 17 #[.agg #[.slice A0_0 l0_0.length c0_0, .slice A0_1 l0_1.length c0_1], .agg #[.slice A1_0 l1_0.length c1_0, .slice A1_1 l1_1.length c1_1]] w fun e w' => e = .returned (.int .i64 r) ∧ Below w.heap.size w w' := by
 unfold list_Check.f at h
 split at h
 ·rename_i hb
  simp only [Option.some.injEq] at h
  have hE0 : EdR w A0_1 (l0_1.map fun x => (x.f0, x.f1)) := fun h0 => by
   rw [List.length_map] at h0
   obtain ⟨ad, e, _, _⟩ := at_T85 hr0_1 0 (by omega) (by omega)
   refine ⟨ad, e, fun i hi => ?_⟩
   rw [List.length_map] at hi
   obtain ⟨ad', e', h1, h2⟩ := at_T85 hr0_1 (i : Int) (by omega) (by omega)
   obtain rfl : ad' = ad := Option.some.inj (e'.symm.trans e)
   have hq : (l0_1.map fun x => (x.f0, x.f1)).getD i (0, 0) = ((rd_T85 l0_1 (i : Int)).f0, (rd_T85 l0_1 (i : Int)).f1) := by
    simp [rd_T85, List.getD_eq_getElem?_getD, List.getElem?_map, List.getElem?_eq_getElem hi]
   rw [hq]
   exact ⟨h1, h2⟩
  have hp := lCheck_any A0_0 c0_0 l0_0 A0_1 c0_1 (l0_1.map fun x => (x.f0, x.f1)) A1_0 c1_0 l1_0 A1_1 c1_1 l1_1 w ⟨⟨hc0_0, Kd.reads_of_C (d := (0 : Int)) hr0_0⟩, (by rw [List.length_map]; exact hc0_1), hE0⟩ ⟨⟨hc1_0, Kd.reads_of_C (d := (0 : Int)) hr1_0⟩, hc1_1, Kd.reads_of_C (d := (0 : Int)) hr1_1⟩ ⟨hb.1.1, by rw [List.length_map]; exact hb.1.2⟩ hb.2.1 hb.2.2
  rw [List.length_map] at hp
  rw [h] at hp; exact hp
 ·cases h
def list_ready.f (l0_0 : List Int) (l0_1 : List (S85)) (l1_0 : List Int) (l1_1 : List Int) : Option (List Int) := if ((l0_0.length ≤ 1000 ∧ l0_1.length ≤ 1000) ∧ l1_0.length ≤ 1000 ∧ l1_1.length ≤ 1000) ∧ ∀ x ∈ l0_1, (0 : Int) ≤ x.f0 ∧ x.f0 < (l1_1.length : Int) then some (LstPlain.readyL (l0_1.map fun x => (x.f0, x.f1)) l1_0 l1_1) else none
theorem list_ready.calls (A0_0 : Option Addr) (c0_0 : Nat) (l0_0 : List Int) (A0_1 : Option Addr) (c0_1 : Nat) (l0_1 : List (S85)) (A1_0 : Option Addr) (c1_0 : Nat) (l1_0 : List Int) (A1_1 : Option Addr) (c1_1 : Nat) (l1_1 : List Int) (r : List Int) (w : World) (hr0_0 : Kd.C (Kd.int .i64) w A0_0 l0_0.length l0_0) (hc0_0 : l0_0.length ≤ c0_0) (hr0_1 : Kd.C k85 w A0_1 l0_1.length l0_1) (hc0_1 : l0_1.length ≤ c0_1) (hr1_0 : Kd.C (Kd.int .i64) w A1_0 l1_0.length l1_0) (hc1_0 : l1_0.length ≤ c1_0) (hr1_1 : Kd.C (Kd.int .i64) w A1_1 l1_1.length l1_1) (hc1_1 : l1_1.length ≤ c1_1) (h : list_ready.f l0_0 l0_1 l1_0 l1_1 = some r) :
  Calls Try.prog 40 #[.agg #[.slice A0_0 l0_0.length c0_0, .slice A0_1 l0_1.length c0_1], .agg #[.slice A1_0 l1_0.length c1_0, .slice A1_1 l1_1.length c1_1]] w fun e w' => ∃ v0_ : Value, e = .returned (v0_) ∧ Kd.R (Kd.int .i64) 3 w' w.heap.size (fun _ => True) v0_ r ∧ Below w.heap.size w w' := by
 unfold list_ready.f at h
 split at h
 ·rename_i hb
  simp only [Option.some.injEq] at h
  have hE0 : EdR w A0_1 (l0_1.map fun x => (x.f0, x.f1)) := fun h0 => by
   rw [List.length_map] at h0
   obtain ⟨ad, e, _, _⟩ := at_T85 hr0_1 0 (by omega) (by omega)
   refine ⟨ad, e, fun i hi => ?_⟩
   rw [List.length_map] at hi
   obtain ⟨ad', e', h1, h2⟩ := at_T85 hr0_1 (i : Int) (by omega) (by omega)
   obtain rfl : ad' = ad := Option.some.inj (e'.symm.trans e)
   have hq : (l0_1.map fun x => (x.f0, x.f1)).getD i (0, 0) = ((rd_T85 l0_1 (i : Int)).f0, (rd_T85 l0_1 (i : Int)).f1) := by
    simp [rd_T85, List.getD_eq_getElem?_getD, List.getElem?_map, List.getElem?_eq_getElem hi]
   rw [hq]
   exact ⟨h1, h2⟩
  have hp := ready_any A0_0 c0_0 l0_0 A0_1 c0_1 (l0_1.map fun x => (x.f0, x.f1)) A1_0 c1_0 l1_0 A1_1 c1_1 l1_1 w ⟨⟨hc0_0, Kd.reads_of_C (d := (0 : Int)) hr0_0⟩, (by rw [List.length_map]; exact hc0_1), hE0⟩ ⟨⟨hc1_0, Kd.reads_of_C (d := (0 : Int)) hr1_0⟩, hc1_1, Kd.reads_of_C (d := (0 : Int)) hr1_1⟩ ⟨hb.1.1.1, by rw [List.length_map]; exact hb.1.1.2⟩ hb.1.2.1 hb.1.2.2 (fun e he => by obtain ⟨x, hx, rfl⟩ := List.mem_map.1 he; exact hb.2 x hx)
  rw [List.length_map] at hp
  rw [h] at hp; exact hp.mono fun e w' ⟨v, h1, h2, h3⟩ => ⟨v, h1, Kd.R_of_own h2 (fun _ _ => trivial), h3⟩
 ·cases h
def list_Ready.f (l0_0 : List Int) (l0_1 : List (S85)) (l1_0 : List Int) (l1_1 : List Int) : Option (List Int) := (list_Check.f l0_0 l0_1 l1_0 l1_1).bind fun t253 => (if t253 = 0 then ((list_ready.f l0_0 l0_1 l1_0 l1_1).bind fun t254 => (some t254)) else (some ([] : List Int)))
set_option maxHeartbeats 8000000 in
set_option maxRecDepth 100000 in
theorem list_Ready.calls (A0_0 : Option Addr) (c0_0 : Nat) (l0_0 : List Int) (A0_1 : Option Addr) (c0_1 : Nat) (l0_1 : List (S85)) (A1_0 : Option Addr) (c1_0 : Nat) (l1_0 : List Int) (A1_1 : Option Addr) (c1_1 : Nat) (l1_1 : List Int) (r : List Int) (w : World) (hr0_0 : Kd.C (Kd.int .i64) w A0_0 l0_0.length l0_0) (hc0_0 : l0_0.length ≤ c0_0) (hr0_1 : Kd.C k85 w A0_1 l0_1.length l0_1) (hc0_1 : l0_1.length ≤ c0_1) (hr1_0 : Kd.C (Kd.int .i64) w A1_0 l1_0.length l1_0) (hc1_0 : l1_0.length ≤ c1_0) (hr1_1 : Kd.C (Kd.int .i64) w A1_1 l1_1.length l1_1) (hc1_1 : l1_1.length ≤ c1_1) (h : list_Ready.f l0_0 l0_1 l1_0 l1_1 = some r) :
  Calls Try.prog 15 #[.agg #[.slice A0_0 l0_0.length c0_0, .slice A0_1 l0_1.length c0_1], .agg #[.slice A1_0 l1_0.length c1_0, .slice A1_1 l1_1.length c1_1]] w fun e w' => ∃ v0_ : Value, e = .returned (v0_) ∧ Kd.R (Kd.int .i64) 3 w' w.heap.size (fun _ => True) v0_ r ∧ Below w.heap.size w w' := by
 have hu25 := Try.underlying25
 have hu27 := Try.underlying27
 have HR0_0 := Z0 hr0_0
 have HC0_0 := Z0 hc0_0
 clear hr0_0 hc0_0
 have HR0_1 := Z0 hr0_1
 have HC0_1 := Z0 hc0_1
 clear hr0_1 hc0_1
 have HR1_0 := Z0 hr1_0
 have HC1_0 := Z0 hc1_0
 clear hr1_0 hc1_0
 have HR1_1 := Z0 hr1_1
 have HC1_1 := Z0 hc1_1
 clear hr1_1 hc1_1
 have HB := Z0 (Below.refl w.heap.size w)
 have H : ((list_Check.f l0_0 l0_1 l1_0 l1_1).bind fun t253 => (if t253 = 0 then ((list_ready.f l0_0 l0_1 l1_0 l1_1).bind fun t254 => (some t254)) else (some ([] : List Int)))) = some r := h
 clear h
 replace H := Option.bind_eq_some_iff.mp H
 obtain ⟨t253, A30, H⟩ := H
 have A3 := Z0 A30
 clear A30
 by_cases c4 : t253 = 0
 ·rw [if_pos c4] at H
  have c4b0 : (t253 == 0) = true := beq_iff_eq.mpr c4
  have c4b1 : (t253 != 0) = false := bne_eq_false_iff_eq.mpr c4
  clear c4
  replace H := Option.bind_eq_some_iff.mp H
  obtain ⟨t254, A50, H⟩ := H
  have A5 := Z0 A50
  clear A50
  obtain rfl := Option.some.inj H
  go_enter Try.func15, Try.ntmps15
  go_wp2_with (first | ((with_reducible refine gate_dst (N := 2) rfl ?_); refine zx (N := 2) #[.slice A0_0 l0_0.length c0_0, .slice A0_1 l0_1.length c0_1] 25 ?_; intro gb251 hg w6 hbox hb; have BK251 := Z0 (hbox); have GW251 := Z0 (zh w hg HB); have GE251 := Z0 (zh w hg HB); replace HB := Z0 (below_step (zb HB) hb); clear hb hbox hg) | ((with_reducible refine gate_dst (N := 3) rfl ?_); refine zx (N := 3) #[.slice A1_0 l1_0.length c1_0, .slice A1_1 l1_1.length c1_1] 27 ?_; intro gb252 hg w7 hbox hb; have BK252 := Z0 (hbox); have GW252 := Z0 (zh w hg HB); have GE252 := Z0 (zh w hg HB); replace HB := Z0 (below_step (zb HB) hb); have NB251_252 := Z0 (zl hg BK251); have NB252_251 := Z0 (zu hg BK251); replace BK251 := Z0 (zkb BK251 hb); clear hb hbox hg; have hnb8 := NB251_252.out; have hnc8 := NB252_251.out; have hcz9_0 := kz0 BK251; have hcz9_1 := kz1 BK251; have hfz9_0 := blk_frozen BK251.out 0; have hfz9_1 := blk_frozen BK251.out 1; have hcz10_0 := kz0 BK252; have hcz10_1 := kz1 BK252; have hfz10_0 := blk_frozen BK252.out 0; have hfz10_1 := blk_frozen BK252.out 1) | ((with_reducible refine gate_callee (f := 17) rfl ?_); refine goesL_ (some 7) rfl rfl Try.func17 (by kernel_rfl) rfl #[.agg #[.slice A0_0 l0_0.length c0_0, .slice A0_1 l0_1.length c0_1], .agg #[.slice A1_0 l1_0.length c1_0, .slice A1_1 l1_1.length c1_1]] rfl (by (try simp only [List.map_toArray, List.map_cons, List.map_nil]); first | done | rfl | (simp only [List.length_drop, List.length_take]; rfl)) ?_; (with_reducible refine (list_Check.calls _ _ l0_0 _ _ l0_1 _ _ l1_0 _ _ l1_1 t253 _ ?side1 ?side2 ?side3 ?side4 ?side5 ?side6 ?side7 ?side8 A3.out).mono ?_); (case side1 => exact zc (Kd.C_below HR0_0.out HB.out)); (case side2 => exact HC0_0.out); (case side3 => exact zc (Kd.C_below HR0_1.out HB.out)); (case side4 => exact HC0_1.out); (case side5 => exact zc (Kd.C_below HR1_0.out HB.out)); (case side6 => exact HC1_0.out); (case side7 => exact zc (Kd.C_below HR1_1.out HB.out)); (case side8 => exact HC1_1.out); rintro e w11 ⟨rfl, hb⟩; refine ⟨_, rfl, ?_⟩; replace BK251 := Z0 (zkb BK251 hb); replace BK252 := Z0 (zkb BK252 hb); replace HB := Z0 (below_step (zb HB) hb); (try clear hb); (try clear hb2); (try clear hk); (try clear hi); have hcz12_0 := kz0 BK251; have hcz12_1 := kz1 BK251; have hfz12_0 := blk_frozen BK251.out 0; have hfz12_1 := blk_frozen BK251.out 1; have hcz13_0 := kz0 BK252; have hcz13_1 := kz1 BK252; have hfz13_0 := blk_frozen BK252.out 0; have hfz13_1 := blk_frozen BK252.out 1) | ((with_reducible refine gate_callee (f := 40) rfl ?_); refine goesL_ (some 11) rfl rfl Try.func40 (by kernel_rfl) rfl #[.agg #[.slice A0_0 l0_0.length c0_0, .slice A0_1 l0_1.length c0_1], .agg #[.slice A1_0 l1_0.length c1_0, .slice A1_1 l1_1.length c1_1]] rfl (by (try simp only [List.map_toArray, List.map_cons, List.map_nil]); first | done | rfl | (simp only [List.length_drop, List.length_take]; rfl)) ?_; (with_reducible refine (list_ready.calls _ _ l0_0 _ _ l0_1 _ _ l1_0 _ _ l1_1 t254 _ ?side1 ?side2 ?side3 ?side4 ?side5 ?side6 ?side7 ?side8 A5.out).mono ?_); (case side1 => exact zc (Kd.C_below HR0_0.out HB.out)); (case side2 => exact HC0_0.out); (case side3 => exact zc (Kd.C_below HR0_1.out HB.out)); (case side4 => exact HC0_1.out); (case side5 => exact zc (Kd.C_below HR1_0.out HB.out)); (case side6 => exact HC1_0.out); (case side7 => exact zc (Kd.C_below HR1_1.out HB.out)); (case side8 => exact HC1_1.out); rintro e w14 ⟨v255, rfl, ho0, hb⟩; refine ⟨_, rfl, ?_⟩; have HO256 := Z0 (rl ho0 (below_size (zb HB))); replace BK251 := Z0 (zkb BK251 hb); replace BK252 := Z0 (zkb BK252 hb); replace HB := Z0 (below_step (zb HB) hb); (try clear hb); (try clear hb2); (try clear hk); (try clear hi); (try clear ho0)))
  go_ret
  exact ⟨_, ze, by (with_reducible repeat (first | apply ra | apply rn | apply rd_)); exact HO256.out, zb HB⟩
 ·rw [if_neg c4] at H
  have c4b0 : (t253 == 0) = false := beq_eq_false_iff_ne.mpr c4
  have c4b1 : (t253 != 0) = true := bne_iff_ne.mpr c4
  obtain rfl := Option.some.inj H
  go_enter Try.func15, Try.ntmps15
  go_wp2_with (first | ((with_reducible refine gate_dst (N := 2) rfl ?_); refine zx (N := 2) #[.slice A0_0 l0_0.length c0_0, .slice A0_1 l0_1.length c0_1] 25 ?_; intro gb251 hg w15 hbox hb; have BK251 := Z0 (hbox); have GW251 := Z0 (zh w hg HB); have GE251 := Z0 (zh w hg HB); replace HB := Z0 (below_step (zb HB) hb); clear hb hbox hg) | ((with_reducible refine gate_dst (N := 3) rfl ?_); refine zx (N := 3) #[.slice A1_0 l1_0.length c1_0, .slice A1_1 l1_1.length c1_1] 27 ?_; intro gb252 hg w16 hbox hb; have BK252 := Z0 (hbox); have GW252 := Z0 (zh w hg HB); have GE252 := Z0 (zh w hg HB); replace HB := Z0 (below_step (zb HB) hb); have NB251_252 := Z0 (zl hg BK251); have NB252_251 := Z0 (zu hg BK251); replace BK251 := Z0 (zkb BK251 hb); clear hb hbox hg; have hnb17 := NB251_252.out; have hnc17 := NB252_251.out; have hcz18_0 := kz0 BK251; have hcz18_1 := kz1 BK251; have hfz18_0 := blk_frozen BK251.out 0; have hfz18_1 := blk_frozen BK251.out 1; have hcz19_0 := kz0 BK252; have hcz19_1 := kz1 BK252; have hfz19_0 := blk_frozen BK252.out 0; have hfz19_1 := blk_frozen BK252.out 1) | ((with_reducible refine gate_callee (f := 17) rfl ?_); refine goesL_ (some 7) rfl rfl Try.func17 (by kernel_rfl) rfl #[.agg #[.slice A0_0 l0_0.length c0_0, .slice A0_1 l0_1.length c0_1], .agg #[.slice A1_0 l1_0.length c1_0, .slice A1_1 l1_1.length c1_1]] rfl (by (try simp only [List.map_toArray, List.map_cons, List.map_nil]); first | done | rfl | (simp only [List.length_drop, List.length_take]; rfl)) ?_; (with_reducible refine (list_Check.calls _ _ l0_0 _ _ l0_1 _ _ l1_0 _ _ l1_1 t253 _ ?side1 ?side2 ?side3 ?side4 ?side5 ?side6 ?side7 ?side8 A3.out).mono ?_); (case side1 => exact zc (Kd.C_below HR0_0.out HB.out)); (case side2 => exact HC0_0.out); (case side3 => exact zc (Kd.C_below HR0_1.out HB.out)); (case side4 => exact HC0_1.out); (case side5 => exact zc (Kd.C_below HR1_0.out HB.out)); (case side6 => exact HC1_0.out); (case side7 => exact zc (Kd.C_below HR1_1.out HB.out)); (case side8 => exact HC1_1.out); rintro e w20 ⟨rfl, hb⟩; refine ⟨_, rfl, ?_⟩; replace BK251 := Z0 (zkb BK251 hb); replace BK252 := Z0 (zkb BK252 hb); replace HB := Z0 (below_step (zb HB) hb); (try clear hb); (try clear hb2); (try clear hk); (try clear hi)))
  go_ret
  exact ⟨_, ze, by first | exact Kd.R_nil _ _ _ _ _ | exact Kd.N_nil _ _ _ _ _ | exact Kd.V_nil _ _ _ _ _ | exact Kd.Q_nil _ _ _ _ _ | exact Kd.S_nil _ _ _ _ _, zb HB⟩
def slices_Equal_int_int.l0 : Nat → List Int → List Int → Int → Int → Option (Bool)
 | 0, _, _, _, _ => none
 | k + 1, x0, x1, x12, x13 => if x13 < x12 then (if 0 ≤ x13 then (if x13 < (x0.length : Int) then (if x13 < (x1.length : Int) then (if (rd x0 x13) = (rd x1 x13) then (slices_Equal_int_int.l0 k x0 x1 x12 (wrap64 (x13 + 1))) else (some false)) else (none)) else (none)) else (none)) else (some true)
def slices_Equal_int_int.f (k : Nat) (l0 : List Int) (l1 : List Int) : Option (Bool) := if (l0.length : Int) = (l1.length : Int) then (slices_Equal_int_int.l0 k l0 l1 (l0.length : Int) 0) else (some false)
set_option maxHeartbeats 8000000 in
set_option maxRecDepth 100000 in
theorem slices_Equal_int_int.calls (k : Nat) (A0 : Option Addr) (c0 : Nat) (l0 : List Int) (A1 : Option Addr) (c1 : Nat) (l1 : List Int) (r : Bool) (w : World) (hr0 : Kd.C (Kd.int .i64) w A0 l0.length l0) (hc0 : l0.length ≤ c0) (hr1 : Kd.C (Kd.int .i64) w A1 l1.length l1) (hc1 : l1.length ≤ c1) (h : slices_Equal_int_int.f k l0 l1 = some r) :
  Calls Try.prog 45 #[.slice A0 l0.length c0, .slice A1 l1.length c1] w fun e w' => e = .returned (.bool r) ∧ Drawn0 w w' := by
 have HR0 := Z0 hr0
 have HC0 := Z0 hc0
 clear hr0 hc0
 have HR1 := Z0 hr1
 have HC1 := Z0 hc1
 clear hr1 hc1
 have H : (if (l0.length : Int) = (l1.length : Int) then (slices_Equal_int_int.l0 k l0 l1 (l0.length : Int) 0) else (some false)) = some r := h
 clear h
 by_cases c3 : (l0.length : Int) = (l1.length : Int)
 ·rw [if_pos c3] at H
  have c3b0 : ((l0.length : Int) == (l1.length : Int)) = true := beq_iff_eq.mpr c3
  have c3b1 : ((l0.length : Int) != (l1.length : Int)) = false := bne_eq_false_iff_eq.mpr c3
  have c3b2 : (l0.length == l1.length) = true := by first | simpa using c3 | (simp at c3 ⊢; omega)
  clear c3
  have H' := Z0 H
  clear H
  go_enter Try.func45, Try.ntmps45
  go_wp2
  repeat (go_quiet (fail); try go_wp2)
  go_loopg [13] k (fun kq v13 w' => ∃ (x13_1 : Int), v13 = .int .i64 x13_1 ∧ Aside0 (slices_Equal_int_int.l0 kq l0 l1 (l0.length : Int) x13_1 = some r) ∧ Aside0 (kq ≤ k) ∧ Drawn0 w w')
  case atStart => exact ⟨(0), zs, H', ⟨Nat.le_refl _⟩, by repeat (first | exact Drawn0.refl _ | apply Drawn0.step)⟩
  case round =>
   clear H'
   try clear c1
   try clear p2
   try clear c3
   try clear c3b0
   try clear c3b1
   try clear c3b2
   obtain ⟨x13_1, rfl, HA, HK1, ⟨m1, rfl⟩⟩ := hrel
   cases gk with
   | zero => exact absurd HA.out (by simp [slices_Equal_int_int.l0])
   | succ k1 =>
    have H := HA.out
    clear HA
    simp only [slices_Equal_int_int.l0] at H
    by_cases c4 : x13_1 < (l0.length : Int)
    ·rw [if_pos c4] at H
     have c4b0 : decide (x13_1 < (l0.length : Int)) = true := decide_eq_true c4
     clear c4
     by_cases c5 : 0 ≤ x13_1
     ·rw [if_pos c5] at H
      have c5b0 : decide (0 ≤ x13_1) = true := decide_eq_true c5
      clear c5
      by_cases c6 : x13_1 < (l0.length : Int)
      ·rw [if_pos c6] at H
       have c6b0 : decide (x13_1 < (l0.length : Int)) = true := decide_eq_true c6
       clear c6
       by_cases c7 : x13_1 < (l1.length : Int)
       ·rw [if_pos c7] at H
        have c7b0 : decide (x13_1 < (l1.length : Int)) = true := decide_eq_true c7
        clear c7
        by_cases c8 : (rd l0 x13_1) = (rd l1 x13_1)
        ·rw [if_pos c8] at H
         have c8b0 : ((rd l0 x13_1) == (rd l1 x13_1)) = true := beq_iff_eq.mpr c8
         have c8b1 : ((rd l0 x13_1) != (rd l1 x13_1)) = false := bne_eq_false_iff_eq.mpr c8
         clear c8
         have H' := Z0 H
         clear H
         have p257 : 0 ≤ (x13_1 : Int) := od
         have q257 : x13_1 < (l0.length : Int) := od
         obtain ⟨ad257, e257, hx257_0⟩ := Kd.at_int HR0.out x13_1 p257 q257
         cases e257
         replace p257 := eq_true p257
         replace q257 := eq_true q257
         have p258 : 0 ≤ (x13_1 : Int) := od
         have q258 : x13_1 < (l1.length : Int) := od
         obtain ⟨ad258, e258, hx258_0⟩ := Kd.at_int HR1.out x13_1 p258 q258
         cases e258
         replace p258 := eq_true p258
         replace q258 := eq_true q258
         go_wp2
         repeat (go_quiet (fail); try go_wp2)
         go_roundg k1
         case measure => have := HK1.out; omega
         case rel => exact ⟨(wrap64 (x13_1 + 1)), zs, H', ⟨by have := HK1.out; omega⟩, by repeat (first | exact Drawn0.refl _ | apply Drawn0.step)⟩
        ·rw [if_neg c8] at H
         have c8b0 : ((rd l0 x13_1) == (rd l1 x13_1)) = false := beq_eq_false_iff_ne.mpr c8
         have c8b1 : ((rd l0 x13_1) != (rd l1 x13_1)) = true := bne_iff_ne.mpr c8
         obtain rfl := Option.some.inj H
         have p257 : 0 ≤ (x13_1 : Int) := od
         have q257 : x13_1 < (l0.length : Int) := od
         obtain ⟨ad257, e257, hx257_0⟩ := Kd.at_int HR0.out x13_1 p257 q257
         cases e257
         replace p257 := eq_true p257
         replace q257 := eq_true q257
         have p258 : 0 ≤ (x13_1 : Int) := od
         have q258 : x13_1 < (l1.length : Int) := od
         obtain ⟨ad258, e258, hx258_0⟩ := Kd.at_int HR1.out x13_1 p258 q258
         cases e258
         replace p258 := eq_true p258
         replace q258 := eq_true q258
         go_wp2
         repeat (go_quiet (fail); try go_wp2)
         go_ret
         exact ⟨by first | rfl | (simp; done) | (simp [*]; done), by repeat (first | exact Drawn0.refl _ | apply Drawn0.step)⟩
       ·rw [if_neg c7] at H
        exact absurd H (by simp)
      ·rw [if_neg c6] at H
       exact absurd H (by simp)
     ·rw [if_neg c5] at H
      exact absurd H (by simp)
    ·rw [if_neg c4] at H
     have c4b0 : decide (x13_1 < (l0.length : Int)) = false := decide_eq_false c4
     clear c4
     obtain rfl := Option.some.inj H
     go_wp2
     repeat (go_quiet (fail); try go_wp2)
     go_ret
     exact ⟨by first | rfl | (simp; done) | (simp [*]; done), by repeat (first | exact Drawn0.refl _ | apply Drawn0.step)⟩
 ·rw [if_neg c3] at H
  have c3b0 : ((l0.length : Int) == (l1.length : Int)) = false := beq_eq_false_iff_ne.mpr c3
  have c3b1 : ((l0.length : Int) != (l1.length : Int)) = true := bne_iff_ne.mpr c3
  have c3b2 : (l0.length == l1.length) = false := by first | simpa using c3 | (simp at c3 ⊢; omega)
  obtain rfl := Option.some.inj H
  go_enter Try.func45, Try.ntmps45
  go_wp2
  repeat (go_quiet (fail); try go_wp2)
  go_ret
  exact ⟨by first | rfl | (simp; done) | (simp [*]; done), by repeat (first | exact Drawn0.refl _ | apply Drawn0.step)⟩
def list_Same.f (k : Nat) (l0_0 : List Int) (l0_1 : List Int) (l1_0 : List Int) (l1_1 : List Int) : Option (Bool) := (slices_Equal_int_int.f k l0_0 l1_0).bind fun t261 => (if t261 = true then ((slices_Equal_int_int.f k l0_1 l1_1).bind fun t262 => (some t262)) else (some false))
set_option maxHeartbeats 8000000 in
set_option maxRecDepth 100000 in
theorem list_Same.calls (k : Nat) (A0_0 : Option Addr) (c0_0 : Nat) (l0_0 : List Int) (A0_1 : Option Addr) (c0_1 : Nat) (l0_1 : List Int) (A1_0 : Option Addr) (c1_0 : Nat) (l1_0 : List Int) (A1_1 : Option Addr) (c1_1 : Nat) (l1_1 : List Int) (r : Bool) (w : World) (hr0_0 : Kd.C (Kd.int .i64) w A0_0 l0_0.length l0_0) (hc0_0 : l0_0.length ≤ c0_0) (hr0_1 : Kd.C (Kd.int .i64) w A0_1 l0_1.length l0_1) (hc0_1 : l0_1.length ≤ c0_1) (hr1_0 : Kd.C (Kd.int .i64) w A1_0 l1_0.length l1_0) (hc1_0 : l1_0.length ≤ c1_0) (hr1_1 : Kd.C (Kd.int .i64) w A1_1 l1_1.length l1_1) (hc1_1 : l1_1.length ≤ c1_1) (h : list_Same.f k l0_0 l0_1 l1_0 l1_1 = some r) :
  Calls Try.prog 18 #[.agg #[.slice A0_0 l0_0.length c0_0, .slice A0_1 l0_1.length c0_1], .agg #[.slice A1_0 l1_0.length c1_0, .slice A1_1 l1_1.length c1_1]] w fun e w' => e = .returned (.bool r) ∧ Below w.heap.size w w' := by
 have hu27 := Try.underlying27
 have HR0_0 := Z0 hr0_0
 have HC0_0 := Z0 hc0_0
 clear hr0_0 hc0_0
 have HR0_1 := Z0 hr0_1
 have HC0_1 := Z0 hc0_1
 clear hr0_1 hc0_1
 have HR1_0 := Z0 hr1_0
 have HC1_0 := Z0 hc1_0
 clear hr1_0 hc1_0
 have HR1_1 := Z0 hr1_1
 have HC1_1 := Z0 hc1_1
 clear hr1_1 hc1_1
 have HB := Z0 (Below.refl w.heap.size w)
 have H : ((slices_Equal_int_int.f k l0_0 l1_0).bind fun t261 => (if t261 = true then ((slices_Equal_int_int.f k l0_1 l1_1).bind fun t262 => (some t262)) else (some false))) = some r := h
 clear h
 replace H := Option.bind_eq_some_iff.mp H
 obtain ⟨t261, A30, H⟩ := H
 have A3 := Z0 A30
 clear A30
 by_cases c4 : t261 = true
 ·subst c4
  rw [if_pos rfl] at H
  replace H := Option.bind_eq_some_iff.mp H
  obtain ⟨t262, A50, H⟩ := H
  have A5 := Z0 A50
  clear A50
  obtain rfl := Option.some.inj H
  go_enter Try.func18, Try.ntmps18
  go_wp2_with (first | ((with_reducible refine gate_dst (N := 2) rfl ?_); refine zx (N := 2) #[.slice A0_0 l0_0.length c0_0, .slice A0_1 l0_1.length c0_1] 27 ?_; intro gb259 hg w6 hbox hb; have BK259 := Z0 (hbox); have GW259 := Z0 (zh w hg HB); have GE259 := Z0 (zh w hg HB); replace HB := Z0 (below_step (zb HB) hb); clear hb hbox hg) | ((with_reducible refine gate_dst (N := 3) rfl ?_); refine zx (N := 3) #[.slice A1_0 l1_0.length c1_0, .slice A1_1 l1_1.length c1_1] 27 ?_; intro gb260 hg w7 hbox hb; have BK260 := Z0 (hbox); have GW260 := Z0 (zh w hg HB); have GE260 := Z0 (zh w hg HB); replace HB := Z0 (below_step (zb HB) hb); have NB259_260 := Z0 (zl hg BK259); have NB260_259 := Z0 (zu hg BK259); replace BK259 := Z0 (zkb BK259 hb); clear hb hbox hg; have hnb8 := NB259_260.out; have hnc8 := NB260_259.out; have hcz9_0 := kz0 BK259; have hcz9_1 := kz1 BK259; have hfz9_0 := blk_frozen BK259.out 0; have hfz9_1 := blk_frozen BK259.out 1; have hcz10_0 := kz0 BK260; have hcz10_1 := kz1 BK260; have hfz10_0 := blk_frozen BK260.out 0; have hfz10_1 := blk_frozen BK260.out 1) | ((with_reducible refine gate_callee (f := 45) rfl ?_); refine goesL_ (some 9) rfl rfl Try.func45 (by kernel_rfl) rfl #[.slice A0_0 l0_0.length c0_0, .slice A1_0 l1_0.length c1_0] rfl (by (try simp only [List.map_toArray, List.map_cons, List.map_nil]); first | done | rfl | (simp only [List.length_drop, List.length_take]; rfl)) ?_; (with_reducible refine (slices_Equal_int_int.calls k _ _ l0_0 _ _ l1_0 true _ ?side1 ?side2 ?side3 ?side4 A3.out).mono ?_); (case side1 => exact zc (Kd.C_below HR0_0.out HB.out)); (case side2 => exact HC0_0.out); (case side3 => exact zc (Kd.C_below HR1_0.out HB.out)); (case side4 => exact HC1_0.out); rintro e w' ⟨rfl, ⟨nd, rfl⟩⟩; refine ⟨_, rfl, ?_⟩) | (go_at_call 45; (with_reducible refine (slices_Equal_int_int.calls k _ _ l0_1 _ _ l1_1 t262 _ ?side1 ?side2 ?side3 ?side4 A5.out).mono ?_); (case side1 => repeat (first | exact (Kd.C_below HR0_1.out (zb HB)) | (with_reducible refine Kd.C_alloc ?_ _) | (with_reducible refine Kd.C_drewN ?_ _) | (with_reducible refine Kd.C_drew ?_))); (case side2 => exact HC0_1.out); (case side3 => repeat (first | exact (Kd.C_below HR1_1.out (zb HB)) | (with_reducible refine Kd.C_alloc ?_ _) | (with_reducible refine Kd.C_drewN ?_ _) | (with_reducible refine Kd.C_drew ?_))); (case side4 => exact HC1_1.out); rintro e w' ⟨rfl, ⟨nd, rfl⟩⟩))
  go_ret
  exact ⟨ze, zb HB⟩
 ·replace c4 := Bool.eq_false_iff.mpr c4
  subst c4
  rw [if_neg nft] at H
  obtain rfl := Option.some.inj H
  go_enter Try.func18, Try.ntmps18
  go_wp2_with (first | ((with_reducible refine gate_dst (N := 2) rfl ?_); refine zx (N := 2) #[.slice A0_0 l0_0.length c0_0, .slice A0_1 l0_1.length c0_1] 27 ?_; intro gb259 hg w11 hbox hb; have BK259 := Z0 (hbox); have GW259 := Z0 (zh w hg HB); have GE259 := Z0 (zh w hg HB); replace HB := Z0 (below_step (zb HB) hb); clear hb hbox hg) | ((with_reducible refine gate_dst (N := 3) rfl ?_); refine zx (N := 3) #[.slice A1_0 l1_0.length c1_0, .slice A1_1 l1_1.length c1_1] 27 ?_; intro gb260 hg w12 hbox hb; have BK260 := Z0 (hbox); have GW260 := Z0 (zh w hg HB); have GE260 := Z0 (zh w hg HB); replace HB := Z0 (below_step (zb HB) hb); have NB259_260 := Z0 (zl hg BK259); have NB260_259 := Z0 (zu hg BK259); replace BK259 := Z0 (zkb BK259 hb); clear hb hbox hg; have hnb13 := NB259_260.out; have hnc13 := NB260_259.out; have hcz14_0 := kz0 BK259; have hcz14_1 := kz1 BK259; have hfz14_0 := blk_frozen BK259.out 0; have hfz14_1 := blk_frozen BK259.out 1; have hcz15_0 := kz0 BK260; have hcz15_1 := kz1 BK260; have hfz15_0 := blk_frozen BK260.out 0; have hfz15_1 := blk_frozen BK260.out 1) | ((with_reducible refine gate_callee (f := 45) rfl ?_); refine goesL_ (some 9) rfl rfl Try.func45 (by kernel_rfl) rfl #[.slice A0_0 l0_0.length c0_0, .slice A1_0 l1_0.length c1_0] rfl (by (try simp only [List.map_toArray, List.map_cons, List.map_nil]); first | done | rfl | (simp only [List.length_drop, List.length_take]; rfl)) ?_; (with_reducible refine (slices_Equal_int_int.calls k _ _ l0_0 _ _ l1_0 false _ ?side1 ?side2 ?side3 ?side4 A3.out).mono ?_); (case side1 => exact zc (Kd.C_below HR0_0.out HB.out)); (case side2 => exact HC0_0.out); (case side3 => exact zc (Kd.C_below HR1_0.out HB.out)); (case side4 => exact HC1_0.out); rintro e w' ⟨rfl, ⟨nd, rfl⟩⟩; refine ⟨_, rfl, ?_⟩))
  go_ret
  exact ⟨ze, zb HB⟩
def trefoilref02_Ints.l0 : Nat → List Int → List Int → Int → Option (Bool)
 | 0, _, _, _ => none
 | k + 1, x0, x1, x5 => if x5 < (x0.length : Int) then (if 0 ≤ x5 then (if x5 < (x1.length : Int) then (if (rd x0 x5) = (rd x1 x5) then (trefoilref02_Ints.l0 k x0 x1 (wrap64 (x5 + 1))) else (some false)) else (none)) else (none)) else (some true)
def trefoilref02_Ints.f (k : Nat) (l0 : List Int) (l1 : List Int) : Option (Bool) := if (l0.length : Int) = (l1.length : Int) then (trefoilref02_Ints.l0 k l0 l1 0) else (some false)
set_option maxHeartbeats 8000000 in
set_option maxRecDepth 100000 in
theorem trefoilref02_Ints.calls (k : Nat) (A0 : Option Addr) (c0 : Nat) (l0 : List Int) (A1 : Option Addr) (c1 : Nat) (l1 : List Int) (r : Bool) (w : World) (hr0 : Kd.C (Kd.int .i64) w A0 l0.length l0) (hc0 : l0.length ≤ c0) (hr1 : Kd.C (Kd.int .i64) w A1 l1.length l1) (hc1 : l1.length ≤ c1) (h : trefoilref02_Ints.f k l0 l1 = some r) :
  Calls Try.prog 22 #[.slice A0 l0.length c0, .slice A1 l1.length c1] w fun e w' => e = .returned (.bool r) ∧ Drawn0 w w' := by
 have HR0 := Z0 hr0
 have HC0 := Z0 hc0
 clear hr0 hc0
 have HR1 := Z0 hr1
 have HC1 := Z0 hc1
 clear hr1 hc1
 have H : (if (l0.length : Int) = (l1.length : Int) then (trefoilref02_Ints.l0 k l0 l1 0) else (some false)) = some r := h
 clear h
 by_cases c3 : (l0.length : Int) = (l1.length : Int)
 ·rw [if_pos c3] at H
  have c3b0 : ((l0.length : Int) == (l1.length : Int)) = true := beq_iff_eq.mpr c3
  have c3b1 : ((l0.length : Int) != (l1.length : Int)) = false := bne_eq_false_iff_eq.mpr c3
  have c3b2 : (l0.length == l1.length) = true := by first | simpa using c3 | (simp at c3 ⊢; omega)
  clear c3
  have H' := Z0 H
  clear H
  go_enter Try.func22, Try.ntmps22
  go_wp2
  repeat (go_quiet (fail); try go_wp2)
  go_loopg [5] k (fun kq v5 w' => ∃ (x5_1 : Int), v5 = .int .i64 x5_1 ∧ Aside0 (trefoilref02_Ints.l0 kq l0 l1 x5_1 = some r) ∧ Aside0 (kq ≤ k) ∧ Drawn0 w w')
  case atStart => exact ⟨(0), zs, H', ⟨Nat.le_refl _⟩, by repeat (first | exact Drawn0.refl _ | apply Drawn0.step)⟩
  case round =>
   clear H'
   try clear c1
   try clear c2
   try clear p2
   try clear c3
   try clear c3b0
   try clear c3b1
   try clear c3b2
   obtain ⟨x5_1, rfl, HA, HK1, ⟨m1, rfl⟩⟩ := hrel
   cases gk with
   | zero => exact absurd HA.out (by simp [trefoilref02_Ints.l0])
   | succ k1 =>
    have H := HA.out
    clear HA
    simp only [trefoilref02_Ints.l0] at H
    by_cases c4 : x5_1 < (l0.length : Int)
    ·rw [if_pos c4] at H
     have c4b0 : decide (x5_1 < (l0.length : Int)) = true := decide_eq_true c4
     clear c4
     by_cases c5 : 0 ≤ x5_1
     ·rw [if_pos c5] at H
      have c5b0 : decide (0 ≤ x5_1) = true := decide_eq_true c5
      clear c5
      by_cases c6 : x5_1 < (l1.length : Int)
      ·rw [if_pos c6] at H
       have c6b0 : decide (x5_1 < (l1.length : Int)) = true := decide_eq_true c6
       clear c6
       by_cases c7 : (rd l0 x5_1) = (rd l1 x5_1)
       ·rw [if_pos c7] at H
        have c7b0 : ((rd l0 x5_1) == (rd l1 x5_1)) = true := beq_iff_eq.mpr c7
        have c7b1 : ((rd l0 x5_1) != (rd l1 x5_1)) = false := bne_eq_false_iff_eq.mpr c7
        clear c7
        have H' := Z0 H
        clear H
        have p263 : 0 ≤ (x5_1 : Int) := od
        have q263 : x5_1 < (l0.length : Int) := od
        obtain ⟨ad263, e263, hx263_0⟩ := Kd.at_int HR0.out x5_1 p263 q263
        cases e263
        replace p263 := eq_true p263
        replace q263 := eq_true q263
        have p264 : 0 ≤ (x5_1 : Int) := od
        have q264 : x5_1 < (l1.length : Int) := od
        obtain ⟨ad264, e264, hx264_0⟩ := Kd.at_int HR1.out x5_1 p264 q264
        cases e264
        replace p264 := eq_true p264
        replace q264 := eq_true q264
        go_wp2
        repeat (go_quiet (fail); try go_wp2)
        go_roundg k1
        case measure => have := HK1.out; omega
        case rel => exact ⟨(wrap64 (x5_1 + 1)), zs, H', ⟨by have := HK1.out; omega⟩, by repeat (first | exact Drawn0.refl _ | apply Drawn0.step)⟩
       ·rw [if_neg c7] at H
        have c7b0 : ((rd l0 x5_1) == (rd l1 x5_1)) = false := beq_eq_false_iff_ne.mpr c7
        have c7b1 : ((rd l0 x5_1) != (rd l1 x5_1)) = true := bne_iff_ne.mpr c7
        obtain rfl := Option.some.inj H
        have p263 : 0 ≤ (x5_1 : Int) := od
        have q263 : x5_1 < (l0.length : Int) := od
        obtain ⟨ad263, e263, hx263_0⟩ := Kd.at_int HR0.out x5_1 p263 q263
        cases e263
        replace p263 := eq_true p263
        replace q263 := eq_true q263
        have p264 : 0 ≤ (x5_1 : Int) := od
        have q264 : x5_1 < (l1.length : Int) := od
        obtain ⟨ad264, e264, hx264_0⟩ := Kd.at_int HR1.out x5_1 p264 q264
        cases e264
        replace p264 := eq_true p264
        replace q264 := eq_true q264
        go_wp2
        repeat (go_quiet (fail); try go_wp2)
        go_ret
        exact ⟨by first | rfl | (simp; done) | (simp [*]; done), by repeat (first | exact Drawn0.refl _ | apply Drawn0.step)⟩
      ·rw [if_neg c6] at H
       exact absurd H (by simp)
     ·rw [if_neg c5] at H
      exact absurd H (by simp)
    ·rw [if_neg c4] at H
     have c4b0 : decide (x5_1 < (l0.length : Int)) = false := decide_eq_false c4
     clear c4
     obtain rfl := Option.some.inj H
     go_wp2
     repeat (go_quiet (fail); try go_wp2)
     go_ret
     exact ⟨by first | rfl | (simp; done) | (simp [*]; done), by repeat (first | exact Drawn0.refl _ | apply Drawn0.step)⟩
 ·rw [if_neg c3] at H
  have c3b0 : ((l0.length : Int) == (l1.length : Int)) = false := beq_eq_false_iff_ne.mpr c3
  have c3b1 : ((l0.length : Int) != (l1.length : Int)) = true := bne_iff_ne.mpr c3
  have c3b2 : (l0.length == l1.length) = false := by first | simpa using c3 | (simp at c3 ⊢; omega)
  obtain rfl := Option.some.inj H
  go_enter Try.func22, Try.ntmps22
  go_wp2
  repeat (go_quiet (fail); try go_wp2)
  go_ret
  exact ⟨by first | rfl | (simp; done) | (simp [*]; done), by repeat (first | exact Drawn0.refl _ | apply Drawn0.step)⟩
def list_New.f (l0_0 : List Int) (l0_1 : List (S85)) (l1 : List Int) (a2 : Int) : Option (List Int × List Int × Int) := if (l0_0.length ≤ 1000 ∧ l0_1.length ≤ 1000) ∧ l1.length ≤ 1000 then some ((newR l0_0 (l0_1.map fun x => (x.f0, x.f1)) l1 a2).1, (newR l0_0 (l0_1.map fun x => (x.f0, x.f1)) l1 a2).2, SchPlain.lookR l0_0 (l0_1.map fun x => (x.f0, x.f1)) l1 a2 []) else none
theorem list_New.calls (A0_0 : Option Addr) (c0_0 : Nat) (l0_0 : List Int) (A0_1 : Option Addr) (c0_1 : Nat) (l0_1 : List (S85)) (A1 : Option Addr) (c1 : Nat) (l1 : List Int) (a2 : Int) (r1 : List Int) (r2 : List Int) (r3 : Int) (w : World) (hr0_0 : Kd.C (Kd.int .i64) w A0_0 l0_0.length l0_0) (hc0_0 : l0_0.length ≤ c0_0) (hr0_1 : Kd.C k85 w A0_1 l0_1.length l0_1) (hc0_1 : l0_1.length ≤ c0_1) (hr1 : Kd.C (Kd.int .i64) w A1 l1.length l1) (hc1 : l1.length ≤ c1) (h : list_New.f l0_0 l0_1 l1 a2 = some (r1, r2, r3)) :
  Calls Try.prog 28 #[.agg #[.slice A0_0 l0_0.length c0_0, .slice A0_1 l0_1.length c0_1], .slice A1 l1.length c1, .int .i64 a2] w fun e w' => ∃ v0_ v1_ : Value, e = .returned (.tuple #[.agg #[v0_, v1_], .int .i64 r3]) ∧ Kd.R (Kd.int .i64) 3 w' w.heap.size (fun k_ => some k_ ≠ (v1_ : Value).ownBlock) v0_ r1 ∧ Kd.R (Kd.int .i64) 3 w' w.heap.size (fun k_ => some k_ ≠ (v0_ : Value).ownBlock) v1_ r2 ∧ Below w.heap.size w w' := by
 unfold list_New.f at h
 split at h
 ·rename_i hb
  simp only [Option.some.injEq, Prod.mk.injEq] at h
  have hE0 : EdR w A0_1 (l0_1.map fun x => (x.f0, x.f1)) := fun h0 => by
   rw [List.length_map] at h0
   obtain ⟨ad, e, _, _⟩ := at_T85 hr0_1 0 (by omega) (by omega)
   refine ⟨ad, e, fun i hi => ?_⟩
   rw [List.length_map] at hi
   obtain ⟨ad', e', h1, h2⟩ := at_T85 hr0_1 (i : Int) (by omega) (by omega)
   obtain rfl : ad' = ad := Option.some.inj (e'.symm.trans e)
   have hq : (l0_1.map fun x => (x.f0, x.f1)).getD i (0, 0) = ((rd_T85 l0_1 (i : Int)).f0, (rd_T85 l0_1 (i : Int)).f1) := by
    simp [rd_T85, List.getD_eq_getElem?_getD, List.getElem?_map, List.getElem?_eq_getElem hi]
   rw [hq]
   exact ⟨h1, h2⟩
  have hp := New_any A0_0 c0_0 l0_0 A0_1 c0_1 (l0_1.map fun x => (x.f0, x.f1)) A1 c1 l1 a2 w ⟨⟨hc0_0, Kd.reads_of_C (d := (0 : Int)) hr0_0⟩, (by rw [List.length_map]; exact hc0_1), hE0⟩ hc1 (Kd.reads_of_C (d := (0 : Int)) hr1) ⟨hb.1.1, by rw [List.length_map]; exact hb.1.2⟩ hb.2
  rw [List.length_map] at hp
  obtain ⟨h1, h2, h3⟩ := h
  rw [h1, h2, h3] at hp
  exact hp.mono fun e w' ⟨v0, v1, e0, hcw⟩ => ⟨v0, v1, e0, Kd.R_of_own hcw.o (fun k hk e => hcw.ne k hk e.symm), Kd.R_of_own hcw.l (fun k hk e => hcw.ne k e.symm hk), hcw.b⟩
 ·cases h
def list_Run.f (l0_0 : List Int) (l0_1 : List (S85)) (l1 : List Int) (a2 : Int) : Option (List (List Int) × Int) := if (l0_0.length ≤ 1000 ∧ l0_1.length ≤ 1000) ∧ l1.length ≤ 1000 then some (runR l0_0 (l0_1.map fun x => (x.f0, x.f1)) l1 a2, runE l0_0 (l0_1.map fun x => (x.f0, x.f1)) l1 a2) else none
theorem list_Run.calls (A0_0 : Option Addr) (c0_0 : Nat) (l0_0 : List Int) (A0_1 : Option Addr) (c0_1 : Nat) (l0_1 : List (S85)) (A1 : Option Addr) (c1 : Nat) (l1 : List Int) (a2 : Int) (r1 : List (List Int)) (r2 : Int) (w : World) (hr0_0 : Kd.C (Kd.int .i64) w A0_0 l0_0.length l0_0) (hc0_0 : l0_0.length ≤ c0_0) (hr0_1 : Kd.C k85 w A0_1 l0_1.length l0_1) (hc0_1 : l0_1.length ≤ c0_1) (hr1 : Kd.C (Kd.int .i64) w A1 l1.length l1) (hc1 : l1.length ≤ c1) (h : list_Run.f l0_0 l0_1 l1 a2 = some (r1, r2)) :
  Calls Try.prog 26 #[.agg #[.slice A0_0 l0_0.length c0_0, .slice A0_1 l0_1.length c0_1], .slice A1 l1.length c1, .int .i64 a2] w fun e w' => ∃ v0_ : Value, e = .returned (.tuple #[v0_, .int .i64 r2]) ∧ Kd.S (Kd.slice 3 (Kd.int .i64)) 22 w' w.heap.size (fun _ => True) v0_ r1 ∧ Below w.heap.size w w' := by
 unfold list_Run.f at h
 split at h
 ·rename_i hb
  simp only [Option.some.injEq, Prod.mk.injEq] at h
  have hE0 : EdR w A0_1 (l0_1.map fun x => (x.f0, x.f1)) := fun h0 => by
   rw [List.length_map] at h0
   obtain ⟨ad, e, _, _⟩ := at_T85 hr0_1 0 (by omega) (by omega)
   refine ⟨ad, e, fun i hi => ?_⟩
   rw [List.length_map] at hi
   obtain ⟨ad', e', h1, h2⟩ := at_T85 hr0_1 (i : Int) (by omega) (by omega)
   obtain rfl : ad' = ad := Option.some.inj (e'.symm.trans e)
   have hq : (l0_1.map fun x => (x.f0, x.f1)).getD i (0, 0) = ((rd_T85 l0_1 (i : Int)).f0, (rd_T85 l0_1 (i : Int)).f1) := by
    simp [rd_T85, List.getD_eq_getElem?_getD, List.getElem?_map, List.getElem?_eq_getElem hi]
   rw [hq]
   exact ⟨h1, h2⟩
  have hp := Run_any A0_0 c0_0 l0_0 A0_1 c0_1 (l0_1.map fun x => (x.f0, x.f1)) A1 c1 l1 a2 w ⟨⟨hc0_0, Kd.reads_of_C (d := (0 : Int)) hr0_0⟩, (by rw [List.length_map]; exact hc0_1), hE0⟩ hc1 (Kd.reads_of_C (d := (0 : Int)) hr1) ⟨hb.1.1, by rw [List.length_map]; exact hb.1.2⟩ hb.2
  rw [List.length_map] at hp
  obtain ⟨h1, h2⟩ := h
  rw [h1, h2] at hp
  exact hp
 ·cases h
def trefoilref11_SameTrace.l0 : Nat → List (List Int) → List (List Int) → Int → Option (Bool)
 | 0, _, _, _ => none
 | k + 1, x0, x1, x5 => if x5 < (x0.length : Int) then (if 0 ≤ x5 then (if x5 < (x1.length : Int) then ((trefoilref02_Ints.f k (rd_L2 x0 x5) (rd_L2 x1 x5)).bind fun t269 => (if t269 = true then (trefoilref11_SameTrace.l0 k x0 x1 (wrap64 (x5 + 1))) else (some false))) else (none)) else (none)) else (some true)
def trefoilref11_SameTrace.f (k : Nat) (l0 : List (List Int)) (l1 : List (List Int)) : Option (Bool) := if (l0.length : Int) = (l1.length : Int) then (trefoilref11_SameTrace.l0 k l0 l1 0) else (some false)
set_option maxHeartbeats 8000000 in
set_option maxRecDepth 100000 in
theorem trefoilref11_SameTrace.calls (k : Nat) (A0 : Option Addr) (c0 : Nat) (l0 : List (List Int)) (A1 : Option Addr) (c1 : Nat) (l1 : List (List Int)) (r : Bool) (w : World) (hr0 : Kd.C (Kd.slice 3 (Kd.int .i64)) w A0 l0.length l0) (hc0 : l0.length ≤ c0) (hr1 : Kd.C (Kd.slice 3 (Kd.int .i64)) w A1 l1.length l1) (hc1 : l1.length ≤ c1) (h : trefoilref11_SameTrace.f k l0 l1 = some r) :
  Calls Try.prog 30 #[.slice A0 l0.length c0, .slice A1 l1.length c1] w fun e w' => e = .returned (.bool r) ∧ Drawn0 w w' := by
 have HR0 := Z0 hr0
 have HC0 := Z0 hc0
 clear hr0 hc0
 have HR1 := Z0 hr1
 have HC1 := Z0 hc1
 clear hr1 hc1
 have H : (if (l0.length : Int) = (l1.length : Int) then (trefoilref11_SameTrace.l0 k l0 l1 0) else (some false)) = some r := h
 clear h
 by_cases c3 : (l0.length : Int) = (l1.length : Int)
 ·rw [if_pos c3] at H
  have c3b0 : ((l0.length : Int) == (l1.length : Int)) = true := beq_iff_eq.mpr c3
  have c3b1 : ((l0.length : Int) != (l1.length : Int)) = false := bne_eq_false_iff_eq.mpr c3
  have c3b2 : (l0.length == l1.length) = true := by first | simpa using c3 | (simp at c3 ⊢; omega)
  clear c3
  have H' := Z0 H
  clear H
  go_enter Try.func30, Try.ntmps30
  go_wp2
  repeat (go_quiet (fail); try go_wp2)
  go_loopg [5] k (fun kq v5 w' => ∃ (x5_1 : Int), v5 = .int .i64 x5_1 ∧ Aside0 (trefoilref11_SameTrace.l0 kq l0 l1 x5_1 = some r) ∧ Aside0 (kq ≤ k) ∧ Drawn0 w w')
  case atStart => exact ⟨(0), zs, H', ⟨Nat.le_refl _⟩, by repeat (first | exact Drawn0.refl _ | apply Drawn0.step)⟩
  case round =>
   clear H'
   try clear c1
   try clear p2
   try clear c3
   try clear c3b0
   try clear c3b1
   try clear c3b2
   obtain ⟨x5_1, rfl, HA, HK1, ⟨m1, rfl⟩⟩ := hrel
   cases gk with
   | zero => exact absurd HA.out (by simp [trefoilref11_SameTrace.l0])
   | succ k1 =>
    have H := HA.out
    clear HA
    simp only [trefoilref11_SameTrace.l0] at H
    by_cases c4 : x5_1 < (l0.length : Int)
    ·rw [if_pos c4] at H
     have c4b0 : decide (x5_1 < (l0.length : Int)) = true := decide_eq_true c4
     clear c4
     by_cases c5 : 0 ≤ x5_1
     ·rw [if_pos c5] at H
      have c5b0 : decide (0 ≤ x5_1) = true := decide_eq_true c5
      clear c5
      by_cases c6 : x5_1 < (l1.length : Int)
      ·rw [if_pos c6] at H
       have c6b0 : decide (x5_1 < (l1.length : Int)) = true := decide_eq_true c6
       clear c6
       replace H := Option.bind_eq_some_iff.mp H
       obtain ⟨t269, A70, H⟩ := H
       have A7 := Z0 A70
       clear A70
       by_cases c8 : t269 = true
       ·subst c8
        rw [if_pos rfl] at H
        have H' := Z0 H
        clear H
        have p267 : 0 ≤ (x5_1 : Int) := od
        have q267 : x5_1 < (l0.length : Int) := od
        obtain ⟨ad267, A267_0, c267_0, e267, hx267_0, hl267_0, hi267_0⟩ := at_L2 HR0.out x5_1 p267 q267
        cases e267
        have HR267_0 := Z0 hi267_0
        have HC267_0 := Z0 hl267_0
        clear hi267_0 hl267_0
        replace p267 := eq_true p267
        replace q267 := eq_true q267
        have p268 : 0 ≤ (x5_1 : Int) := od
        have q268 : x5_1 < (l1.length : Int) := od
        obtain ⟨ad268, A268_0, c268_0, e268, hx268_0, hl268_0, hi268_0⟩ := at_L2 HR1.out x5_1 p268 q268
        cases e268
        have HR268_0 := Z0 hi268_0
        have HC268_0 := Z0 hl268_0
        clear hi268_0 hl268_0
        replace p268 := eq_true p268
        replace q268 := eq_true q268
        go_wp2_with (first | (go_at_call 22; (with_reducible refine (trefoilref02_Ints.calls k1 _ _ (rd_L2 l0 x5_1) _ _ (rd_L2 l1 x5_1) true _ ?side1 ?side2 ?side3 ?side4 A7.out).mono ?_); (case side1 => repeat (first | exact HR267_0.out | (with_reducible refine Kd.C_alloc ?_ _) | (with_reducible refine Kd.C_drewN ?_ _) | (with_reducible refine Kd.C_drew ?_))); (case side2 => exact HC267_0.out); (case side3 => repeat (first | exact HR268_0.out | (with_reducible refine Kd.C_alloc ?_ _) | (with_reducible refine Kd.C_drewN ?_ _) | (with_reducible refine Kd.C_drew ?_))); (case side4 => exact HC268_0.out); rintro e w' ⟨rfl, ⟨nd, rfl⟩⟩; (try first | exact ⟨rfl, _, World.drewN_drewN _ _ _⟩ | exact ⟨rfl, _, Eq.trans (World.drewN_drewN _ _ _) (congrArg (World.drewN _) (Nat.add_assoc _ _ _))⟩)))
        repeat (go_quiet (first | (go_at_call 22; (with_reducible refine (trefoilref02_Ints.calls k1 _ _ (rd_L2 l0 x5_1) _ _ (rd_L2 l1 x5_1) true _ ?side1 ?side2 ?side3 ?side4 A7.out).mono ?_); (case side1 => repeat (first | exact HR267_0.out | (with_reducible refine Kd.C_alloc ?_ _) | (with_reducible refine Kd.C_drewN ?_ _) | (with_reducible refine Kd.C_drew ?_))); (case side2 => exact HC267_0.out); (case side3 => repeat (first | exact HR268_0.out | (with_reducible refine Kd.C_alloc ?_ _) | (with_reducible refine Kd.C_drewN ?_ _) | (with_reducible refine Kd.C_drew ?_))); (case side4 => exact HC268_0.out); rintro e w' ⟨rfl, ⟨nd, rfl⟩⟩; (try first | exact ⟨rfl, _, World.drewN_drewN _ _ _⟩ | exact ⟨rfl, _, Eq.trans (World.drewN_drewN _ _ _) (congrArg (World.drewN _) (Nat.add_assoc _ _ _))⟩))); try go_wp2_with (first | (go_at_call 22; (with_reducible refine (trefoilref02_Ints.calls k1 _ _ (rd_L2 l0 x5_1) _ _ (rd_L2 l1 x5_1) true _ ?side1 ?side2 ?side3 ?side4 A7.out).mono ?_); (case side1 => repeat (first | exact HR267_0.out | (with_reducible refine Kd.C_alloc ?_ _) | (with_reducible refine Kd.C_drewN ?_ _) | (with_reducible refine Kd.C_drew ?_))); (case side2 => exact HC267_0.out); (case side3 => repeat (first | exact HR268_0.out | (with_reducible refine Kd.C_alloc ?_ _) | (with_reducible refine Kd.C_drewN ?_ _) | (with_reducible refine Kd.C_drew ?_))); (case side4 => exact HC268_0.out); rintro e w' ⟨rfl, ⟨nd, rfl⟩⟩; (try first | exact ⟨rfl, _, World.drewN_drewN _ _ _⟩ | exact ⟨rfl, _, Eq.trans (World.drewN_drewN _ _ _) (congrArg (World.drewN _) (Nat.add_assoc _ _ _))⟩))))
        go_roundg k1
        case measure => have := HK1.out; omega
        case rel => exact ⟨(wrap64 (x5_1 + 1)), zs, H', ⟨by have := HK1.out; omega⟩, by repeat (first | exact Drawn0.refl _ | apply Drawn0.step)⟩
       ·replace c8 := Bool.eq_false_iff.mpr c8
        subst c8
        rw [if_neg nft] at H
        obtain rfl := Option.some.inj H
        have p267 : 0 ≤ (x5_1 : Int) := od
        have q267 : x5_1 < (l0.length : Int) := od
        obtain ⟨ad267, A267_0, c267_0, e267, hx267_0, hl267_0, hi267_0⟩ := at_L2 HR0.out x5_1 p267 q267
        cases e267
        have HR267_0 := Z0 hi267_0
        have HC267_0 := Z0 hl267_0
        clear hi267_0 hl267_0
        replace p267 := eq_true p267
        replace q267 := eq_true q267
        have p268 : 0 ≤ (x5_1 : Int) := od
        have q268 : x5_1 < (l1.length : Int) := od
        obtain ⟨ad268, A268_0, c268_0, e268, hx268_0, hl268_0, hi268_0⟩ := at_L2 HR1.out x5_1 p268 q268
        cases e268
        have HR268_0 := Z0 hi268_0
        have HC268_0 := Z0 hl268_0
        clear hi268_0 hl268_0
        replace p268 := eq_true p268
        replace q268 := eq_true q268
        go_wp2_with (first | (go_at_call 22; (with_reducible refine (trefoilref02_Ints.calls k1 _ _ (rd_L2 l0 x5_1) _ _ (rd_L2 l1 x5_1) false _ ?side1 ?side2 ?side3 ?side4 A7.out).mono ?_); (case side1 => repeat (first | exact HR267_0.out | (with_reducible refine Kd.C_alloc ?_ _) | (with_reducible refine Kd.C_drewN ?_ _) | (with_reducible refine Kd.C_drew ?_))); (case side2 => exact HC267_0.out); (case side3 => repeat (first | exact HR268_0.out | (with_reducible refine Kd.C_alloc ?_ _) | (with_reducible refine Kd.C_drewN ?_ _) | (with_reducible refine Kd.C_drew ?_))); (case side4 => exact HC268_0.out); rintro e w' ⟨rfl, ⟨nd, rfl⟩⟩; (try first | exact ⟨rfl, _, World.drewN_drewN _ _ _⟩ | exact ⟨rfl, _, Eq.trans (World.drewN_drewN _ _ _) (congrArg (World.drewN _) (Nat.add_assoc _ _ _))⟩)))
        repeat (go_quiet (first | (go_at_call 22; (with_reducible refine (trefoilref02_Ints.calls k1 _ _ (rd_L2 l0 x5_1) _ _ (rd_L2 l1 x5_1) false _ ?side1 ?side2 ?side3 ?side4 A7.out).mono ?_); (case side1 => repeat (first | exact HR267_0.out | (with_reducible refine Kd.C_alloc ?_ _) | (with_reducible refine Kd.C_drewN ?_ _) | (with_reducible refine Kd.C_drew ?_))); (case side2 => exact HC267_0.out); (case side3 => repeat (first | exact HR268_0.out | (with_reducible refine Kd.C_alloc ?_ _) | (with_reducible refine Kd.C_drewN ?_ _) | (with_reducible refine Kd.C_drew ?_))); (case side4 => exact HC268_0.out); rintro e w' ⟨rfl, ⟨nd, rfl⟩⟩; (try first | exact ⟨rfl, _, World.drewN_drewN _ _ _⟩ | exact ⟨rfl, _, Eq.trans (World.drewN_drewN _ _ _) (congrArg (World.drewN _) (Nat.add_assoc _ _ _))⟩))); try go_wp2_with (first | (go_at_call 22; (with_reducible refine (trefoilref02_Ints.calls k1 _ _ (rd_L2 l0 x5_1) _ _ (rd_L2 l1 x5_1) false _ ?side1 ?side2 ?side3 ?side4 A7.out).mono ?_); (case side1 => repeat (first | exact HR267_0.out | (with_reducible refine Kd.C_alloc ?_ _) | (with_reducible refine Kd.C_drewN ?_ _) | (with_reducible refine Kd.C_drew ?_))); (case side2 => exact HC267_0.out); (case side3 => repeat (first | exact HR268_0.out | (with_reducible refine Kd.C_alloc ?_ _) | (with_reducible refine Kd.C_drewN ?_ _) | (with_reducible refine Kd.C_drew ?_))); (case side4 => exact HC268_0.out); rintro e w' ⟨rfl, ⟨nd, rfl⟩⟩; (try first | exact ⟨rfl, _, World.drewN_drewN _ _ _⟩ | exact ⟨rfl, _, Eq.trans (World.drewN_drewN _ _ _) (congrArg (World.drewN _) (Nat.add_assoc _ _ _))⟩))))
        go_ret
        exact ⟨by first | rfl | (simp; done) | (simp [*]; done), by repeat (first | exact Drawn0.refl _ | apply Drawn0.step)⟩
      ·rw [if_neg c6] at H
       exact absurd H (by simp)
     ·rw [if_neg c5] at H
      exact absurd H (by simp)
    ·rw [if_neg c4] at H
     have c4b0 : decide (x5_1 < (l0.length : Int)) = false := decide_eq_false c4
     clear c4
     obtain rfl := Option.some.inj H
     go_wp2
     repeat (go_quiet (fail); try go_wp2)
     go_ret
     exact ⟨by first | rfl | (simp; done) | (simp [*]; done), by repeat (first | exact Drawn0.refl _ | apply Drawn0.step)⟩
 ·rw [if_neg c3] at H
  have c3b0 : ((l0.length : Int) == (l1.length : Int)) = false := beq_eq_false_iff_ne.mpr c3
  have c3b1 : ((l0.length : Int) != (l1.length : Int)) = true := bne_iff_ne.mpr c3
  have c3b2 : (l0.length == l1.length) = false := by first | simpa using c3 | (simp at c3 ⊢; omega)
  obtain rfl := Option.some.inj H
  go_enter Try.func30, Try.ntmps30
  go_wp2
  repeat (go_quiet (fail); try go_wp2)
  go_ret
  exact ⟨by first | rfl | (simp; done) | (simp [*]; done), by repeat (first | exact Drawn0.refl _ | apply Drawn0.step)⟩
def list_Fill.f (l0_0 : List Int) (l0_1 : List (S85)) (l1_0 : List Int) (l1_1 : List Int) : Option (List Int × List Int × Int) := if ((l0_0.length ≤ 1000 ∧ l0_1.length ≤ 1000) ∧ l1_0.length ≤ 1000 ∧ l1_1.length ≤ 1000) then some (LstPlain.fillR l0_0 (l0_1.map fun x => (x.f0, x.f1)) l1_0 l1_1) else none
theorem list_Fill.calls (A0_0 : Option Addr) (c0_0 : Nat) (l0_0 : List Int) (A0_1 : Option Addr) (c0_1 : Nat) (l0_1 : List (S85)) (A1_0 : Option Addr) (c1_0 : Nat) (l1_0 : List Int) (A1_1 : Option Addr) (c1_1 : Nat) (l1_1 : List Int) (r1 : List Int) (r2 : List Int) (r3 : Int) (w : World) (hr0_0 : Kd.C (Kd.int .i64) w A0_0 l0_0.length l0_0) (hc0_0 : l0_0.length ≤ c0_0) (hr0_1 : Kd.C k85 w A0_1 l0_1.length l0_1) (hc0_1 : l0_1.length ≤ c0_1) (hr1_0 : Kd.C (Kd.int .i64) w A1_0 l1_0.length l1_0) (hc1_0 : l1_0.length ≤ c1_0) (hr1_1 : Kd.C (Kd.int .i64) w A1_1 l1_1.length l1_1) (hc1_1 : l1_1.length ≤ c1_1) (h : list_Fill.f l0_0 l0_1 l1_0 l1_1 = some (r1, r2, r3)) :
  Calls Try.prog 11 #[.agg #[.slice A0_0 l0_0.length c0_0, .slice A0_1 l0_1.length c0_1], .agg #[.slice A1_0 l1_0.length c1_0, .slice A1_1 l1_1.length c1_1]] w fun e w' => ∃ v0_ v1_ : Value, e = .returned (.tuple #[.agg #[v0_, v1_], .int .i64 r3]) ∧ Kd.R (Kd.int .i64) 3 w' w.heap.size (fun k_ => some k_ ≠ (v1_ : Value).ownBlock) v0_ r1 ∧ Kd.R (Kd.int .i64) 3 w' w.heap.size (fun k_ => some k_ ≠ (v0_ : Value).ownBlock) v1_ r2 ∧ Below w.heap.size w w' := by
 unfold list_Fill.f at h
 split at h
 ·rename_i hb
  simp only [Option.some.injEq, Prod.mk.injEq] at h
  have hE0 : EdR w A0_1 (l0_1.map fun x => (x.f0, x.f1)) := fun h0 => by
   rw [List.length_map] at h0
   obtain ⟨ad, e, _, _⟩ := at_T85 hr0_1 0 (by omega) (by omega)
   refine ⟨ad, e, fun i hi => ?_⟩
   rw [List.length_map] at hi
   obtain ⟨ad', e', h1, h2⟩ := at_T85 hr0_1 (i : Int) (by omega) (by omega)
   obtain rfl : ad' = ad := Option.some.inj (e'.symm.trans e)
   have hq : (l0_1.map fun x => (x.f0, x.f1)).getD i (0, 0) = ((rd_T85 l0_1 (i : Int)).f0, (rd_T85 l0_1 (i : Int)).f1) := by
    simp [rd_T85, List.getD_eq_getElem?_getD, List.getElem?_map, List.getElem?_eq_getElem hi]
   rw [hq]
   exact ⟨h1, h2⟩
  have hp := Fill_any A0_0 c0_0 l0_0 A0_1 c0_1 (l0_1.map fun x => (x.f0, x.f1)) A1_0 c1_0 l1_0 A1_1 c1_1 l1_1 w ⟨⟨hc0_0, Kd.reads_of_C (d := (0 : Int)) hr0_0⟩, (by rw [List.length_map]; exact hc0_1), hE0⟩ ⟨⟨hc1_0, Kd.reads_of_C (d := (0 : Int)) hr1_0⟩, hc1_1, Kd.reads_of_C (d := (0 : Int)) hr1_1⟩ ⟨hb.1.1, by rw [List.length_map]; exact hb.1.2⟩ hb.2.1 hb.2.2
  rw [List.length_map] at hp
  unfold LstPlain.fillR at h
  simp only [Prod.mk.injEq] at h
  obtain ⟨h1, h2, h3⟩ := h
  rw [h1, h2, h3] at hp
  exact hp.mono fun e w' ⟨v0, v1, e0, hcw⟩ => ⟨v0, v1, e0, Kd.R_of_own hcw.o (fun k hk e => hcw.ne k hk e.symm), Kd.R_of_own hcw.l (fun k hk e => hcw.ne k e.symm hk), hcw.b⟩
 ·cases h
def list_Tick.f (l0_0 : List Int) (l0_1 : List (S85)) (l1_0 : List Int) (l1_1 : List Int) : Option (List Int × List Int × List Int × Int) := if ((l0_0.length ≤ 1000 ∧ l0_1.length ≤ 1000) ∧ l1_0.length ≤ 1000 ∧ l1_1.length ≤ 1000) then some (LstPlain.tickQ l0_0 (l0_1.map fun x => (x.f0, x.f1)) l1_0 l1_1) else none
theorem list_Tick.calls (A0_0 : Option Addr) (c0_0 : Nat) (l0_0 : List Int) (A0_1 : Option Addr) (c0_1 : Nat) (l0_1 : List (S85)) (A1_0 : Option Addr) (c1_0 : Nat) (l1_0 : List Int) (A1_1 : Option Addr) (c1_1 : Nat) (l1_1 : List Int) (r1 : List Int) (r2 : List Int) (r3 : List Int) (r4 : Int) (w : World) (hr0_0 : Kd.C (Kd.int .i64) w A0_0 l0_0.length l0_0) (hc0_0 : l0_0.length ≤ c0_0) (hr0_1 : Kd.C k85 w A0_1 l0_1.length l0_1) (hc0_1 : l0_1.length ≤ c0_1) (hr1_0 : Kd.C (Kd.int .i64) w A1_0 l1_0.length l1_0) (hc1_0 : l1_0.length ≤ c1_0) (hr1_1 : Kd.C (Kd.int .i64) w A1_1 l1_1.length l1_1) (hc1_1 : l1_1.length ≤ c1_1) (h : list_Tick.f l0_0 l0_1 l1_0 l1_1 = some (r1, r2, r3, r4)) :
  Calls Try.prog 14 #[.agg #[.slice A0_0 l0_0.length c0_0, .slice A0_1 l0_1.length c0_1], .agg #[.slice A1_0 l1_0.length c1_0, .slice A1_1 l1_1.length c1_1]] w fun e w' => ∃ v0_ v1_ v2_ : Value, e = .returned (.tuple #[.agg #[v0_, v1_], v2_, .int .i64 r4]) ∧ Kd.R (Kd.int .i64) 3 w' w.heap.size (fun k_ => some k_ ≠ (v1_ : Value).ownBlock ∧ some k_ ≠ (v2_ : Value).ownBlock) v0_ r1 ∧ Kd.R (Kd.int .i64) 3 w' w.heap.size (fun k_ => some k_ ≠ (v0_ : Value).ownBlock ∧ some k_ ≠ (v2_ : Value).ownBlock) v1_ r2 ∧ Kd.R (Kd.int .i64) 3 w' w.heap.size (fun k_ => some k_ ≠ (v0_ : Value).ownBlock ∧ some k_ ≠ (v1_ : Value).ownBlock) v2_ r3 ∧ Below w.heap.size w w' := by
 unfold list_Tick.f at h
 split at h
 ·rename_i hb
  simp only [Option.some.injEq, Prod.mk.injEq] at h
  have hE0 : EdR w A0_1 (l0_1.map fun x => (x.f0, x.f1)) := fun h0 => by
   rw [List.length_map] at h0
   obtain ⟨ad, e, _, _⟩ := at_T85 hr0_1 0 (by omega) (by omega)
   refine ⟨ad, e, fun i hi => ?_⟩
   rw [List.length_map] at hi
   obtain ⟨ad', e', h1, h2⟩ := at_T85 hr0_1 (i : Int) (by omega) (by omega)
   obtain rfl : ad' = ad := Option.some.inj (e'.symm.trans e)
   have hq : (l0_1.map fun x => (x.f0, x.f1)).getD i (0, 0) = ((rd_T85 l0_1 (i : Int)).f0, (rd_T85 l0_1 (i : Int)).f1) := by
    simp [rd_T85, List.getD_eq_getElem?_getD, List.getElem?_map, List.getElem?_eq_getElem hi]
   rw [hq]
   exact ⟨h1, h2⟩
  have hp := Tick_any A0_0 c0_0 l0_0 A0_1 c0_1 (l0_1.map fun x => (x.f0, x.f1)) A1_0 c1_0 l1_0 A1_1 c1_1 l1_1 w ⟨⟨hc0_0, Kd.reads_of_C (d := (0 : Int)) hr0_0⟩, (by rw [List.length_map]; exact hc0_1), hE0⟩ ⟨⟨hc1_0, Kd.reads_of_C (d := (0 : Int)) hr1_0⟩, hc1_1, Kd.reads_of_C (d := (0 : Int)) hr1_1⟩ ⟨hb.1.1, by rw [List.length_map]; exact hb.1.2⟩ hb.2.1 hb.2.2
  rw [List.length_map] at hp
  unfold LstPlain.tickQ at h
  simp only [Prod.mk.injEq] at h
  obtain ⟨h1, h2, h3, h4⟩ := h
  refine hp.mono fun e w' ⟨v0, v1, v2, e0, hcw, h2o, h2n⟩ => ⟨v0, v1, v2, by rw [e0, h4], ?_, ?_, ?_, hcw.b⟩
  ·exact h1 ▸ Kd.R_of_own hcw.o (fun k hk => ⟨fun e => hcw.ne k hk e.symm, fun e => (h2n k e.symm).1 hk⟩)
  ·exact h2 ▸ Kd.R_of_own hcw.l (fun k hk => ⟨fun e => hcw.ne k e.symm hk, fun e => (h2n k e.symm).2 hk⟩)
  ·exact h3 ▸ Kd.R_of_own h2o (fun k hk => ⟨fun e => (h2n k hk).1 e.symm, fun e => (h2n k hk).2 e.symm⟩)
 ·cases h
def trefoillaw11_awake.f (k : Nat)  : Option (Bool) := (some (([9, 9, 9] : List Int) : List Int)).bind fun y270 => ((list_Run.f y270 ([] : List (S85)) (([3, 1, 1] : List Int)) 2).bind fun bt277 => ((list_New.f y270 ([] : List (S85)) (([3, 1, 1] : List Int)) 2).bind fun bt284 => ((list_Fill.f y270 ([] : List (S85)) bt284.1 bt284.2.1).bind fun bt292 => ((list_Tick.f y270 ([] : List (S85)) bt292.1 bt292.2.1).bind fun bt300 => (if bt277.2 = 0 then ((trefoilref11_SameTrace.f k bt277.1 (([(([0, 1] : List Int)), (([0, 2] : List Int)), (([0, (-1)] : List Int))] : List (List Int)))).bind fun t323 => (if t323 = true then (if bt284.2.2 = 0 then (if bt292.2.2 = 0 then ((trefoilref02_Ints.f k bt292.1 (([0, 1] : List Int))).bind fun t327 => (if t327 = true then (if bt300.2.2.2 = 0 then ((trefoilref02_Ints.f k bt300.2.2.1 (([1] : List Int))).bind fun t331 => (if t331 = true then ((trefoilref02_Ints.f k bt300.2.1 (([2, 0, 1] : List Int))).bind fun t335 => (if t335 = true then ((list_Ready.f y270 ([] : List (S85)) bt300.1 bt300.2.1).bind fun t336 => ((trefoilref02_Ints.f k t336 (([2] : List Int))).bind fun t342 => (if t342 = true then ((list_Check.f y270 ([] : List (S85)) bt300.1 bt300.2.1).bind fun t343 => (if t343 = 0 then ((list_Same.f k bt300.1 bt300.2.1 bt300.1 bt300.2.1).bind fun t344 => (if t344 = true then ((list_Same.f k bt292.1 bt292.2.1 bt300.1 bt300.2.1).bind fun t345 => (some (!t345))) else (some false))) else (some false))) else (some false)))) else (some false))) else (some false))) else (some false)) else (some false))) else (some false)) else (some false)) else (some false))) else (some false))))))
set_option maxHeartbeats 8000000 in
set_option maxRecDepth 100000 in
theorem trefoillaw11_awake.calls (k : Nat)  (r : Bool) (w : World) (h : trefoillaw11_awake.f k  = some r) (hrt0 : r = true) :
  Calls Try.prog 9 #[] w fun e w' => e = .returned (.bool r) ∧ Below w.heap.size w w' := by
 have hrt := Z0 hrt0
 clear hrt0
 have hu25 := Try.underlying25
 have hu27 := Try.underlying27
 have HB := Z0 (Below.refl w.heap.size w)
 have H : ((some (([9, 9, 9] : List Int) : List Int)).bind fun y270 => ((list_Run.f y270 ([] : List (S85)) (([3, 1, 1] : List Int)) 2).bind fun bt277 => ((list_New.f y270 ([] : List (S85)) (([3, 1, 1] : List Int)) 2).bind fun bt284 => ((list_Fill.f y270 ([] : List (S85)) bt284.1 bt284.2.1).bind fun bt292 => ((list_Tick.f y270 ([] : List (S85)) bt292.1 bt292.2.1).bind fun bt300 => (if bt277.2 = 0 then ((trefoilref11_SameTrace.f k bt277.1 (([(([0, 1] : List Int)), (([0, 2] : List Int)), (([0, (-1)] : List Int))] : List (List Int)))).bind fun t323 => (if t323 = true then (if bt284.2.2 = 0 then (if bt292.2.2 = 0 then ((trefoilref02_Ints.f k bt292.1 (([0, 1] : List Int))).bind fun t327 => (if t327 = true then (if bt300.2.2.2 = 0 then ((trefoilref02_Ints.f k bt300.2.2.1 (([1] : List Int))).bind fun t331 => (if t331 = true then ((trefoilref02_Ints.f k bt300.2.1 (([2, 0, 1] : List Int))).bind fun t335 => (if t335 = true then ((list_Ready.f y270 ([] : List (S85)) bt300.1 bt300.2.1).bind fun t336 => ((trefoilref02_Ints.f k t336 (([2] : List Int))).bind fun t342 => (if t342 = true then ((list_Check.f y270 ([] : List (S85)) bt300.1 bt300.2.1).bind fun t343 => (if t343 = 0 then ((list_Same.f k bt300.1 bt300.2.1 bt300.1 bt300.2.1).bind fun t344 => (if t344 = true then ((list_Same.f k bt292.1 bt292.2.1 bt300.1 bt300.2.1).bind fun t345 => (some (!t345))) else (some false))) else (some false))) else (some false)))) else (some false))) else (some false))) else (some false)) else (some false))) else (some false)) else (some false)) else (some false))) else (some false))))))) = some r := h
 clear h
 obtain ⟨y270, hy270⟩ : ∃ y_ : List Int, y_ = (([9, 9, 9] : List Int)) := ⟨_, rfl⟩
 replace H : ((list_Run.f y270 ([] : List (S85)) (([3, 1, 1] : List Int)) 2).bind fun bt277 => ((list_New.f y270 ([] : List (S85)) (([3, 1, 1] : List Int)) 2).bind fun bt284 => ((list_Fill.f y270 ([] : List (S85)) bt284.1 bt284.2.1).bind fun bt292 => ((list_Tick.f y270 ([] : List (S85)) bt292.1 bt292.2.1).bind fun bt300 => (if bt277.2 = 0 then ((trefoilref11_SameTrace.f k bt277.1 (([(([0, 1] : List Int)), (([0, 2] : List Int)), (([0, (-1)] : List Int))] : List (List Int)))).bind fun t323 => (if t323 = true then (if bt284.2.2 = 0 then (if bt292.2.2 = 0 then ((trefoilref02_Ints.f k bt292.1 (([0, 1] : List Int))).bind fun t327 => (if t327 = true then (if bt300.2.2.2 = 0 then ((trefoilref02_Ints.f k bt300.2.2.1 (([1] : List Int))).bind fun t331 => (if t331 = true then ((trefoilref02_Ints.f k bt300.2.1 (([2, 0, 1] : List Int))).bind fun t335 => (if t335 = true then ((list_Ready.f y270 ([] : List (S85)) bt300.1 bt300.2.1).bind fun t336 => ((trefoilref02_Ints.f k t336 (([2] : List Int))).bind fun t342 => (if t342 = true then ((list_Check.f y270 ([] : List (S85)) bt300.1 bt300.2.1).bind fun t343 => (if t343 = 0 then ((list_Same.f k bt300.1 bt300.2.1 bt300.1 bt300.2.1).bind fun t344 => (if t344 = true then ((list_Same.f k bt292.1 bt292.2.1 bt300.1 bt300.2.1).bind fun t345 => (some (!t345))) else (some false))) else (some false))) else (some false)))) else (some false))) else (some false))) else (some false)) else (some false))) else (some false)) else (some false)) else (some false))) else (some false)))))) = some r := by first | (rw [hy270]; with_reducible exact H) | (have H2_ := (Option.bind_some _ _).symm.trans H; rw [hy270]; with_reducible exact H2_) | (have H2_ := (Option.bind_some _ _).symm.trans H; with_reducible exact H2_) | with_reducible exact H | (rw [hy270]; exact H) | exact H
 have Ny270 := Z0 hy270
 clear hy270
 obtain ⟨y274, hy274⟩ : ∃ y_ : List Int, y_ = (([3, 1, 1] : List Int)) := ⟨_, rfl⟩
 replace H : ((list_Run.f y270 ([] : List (S85)) y274 2).bind fun bt277 => ((list_New.f y270 ([] : List (S85)) (([3, 1, 1] : List Int)) 2).bind fun bt284 => ((list_Fill.f y270 ([] : List (S85)) bt284.1 bt284.2.1).bind fun bt292 => ((list_Tick.f y270 ([] : List (S85)) bt292.1 bt292.2.1).bind fun bt300 => (if bt277.2 = 0 then ((trefoilref11_SameTrace.f k bt277.1 (([(([0, 1] : List Int)), (([0, 2] : List Int)), (([0, (-1)] : List Int))] : List (List Int)))).bind fun t323 => (if t323 = true then (if bt284.2.2 = 0 then (if bt292.2.2 = 0 then ((trefoilref02_Ints.f k bt292.1 (([0, 1] : List Int))).bind fun t327 => (if t327 = true then (if bt300.2.2.2 = 0 then ((trefoilref02_Ints.f k bt300.2.2.1 (([1] : List Int))).bind fun t331 => (if t331 = true then ((trefoilref02_Ints.f k bt300.2.1 (([2, 0, 1] : List Int))).bind fun t335 => (if t335 = true then ((list_Ready.f y270 ([] : List (S85)) bt300.1 bt300.2.1).bind fun t336 => ((trefoilref02_Ints.f k t336 (([2] : List Int))).bind fun t342 => (if t342 = true then ((list_Check.f y270 ([] : List (S85)) bt300.1 bt300.2.1).bind fun t343 => (if t343 = 0 then ((list_Same.f k bt300.1 bt300.2.1 bt300.1 bt300.2.1).bind fun t344 => (if t344 = true then ((list_Same.f k bt292.1 bt292.2.1 bt300.1 bt300.2.1).bind fun t345 => (some (!t345))) else (some false))) else (some false))) else (some false)))) else (some false))) else (some false))) else (some false)) else (some false))) else (some false)) else (some false)) else (some false))) else (some false)))))) = some r := by first | (rw [hy274]; with_reducible exact H) | (have H2_ := (Option.bind_some _ _).symm.trans H; rw [hy274]; with_reducible exact H2_) | (have H2_ := (Option.bind_some _ _).symm.trans H; with_reducible exact H2_) | with_reducible exact H | (rw [hy274]; exact H) | exact H
 have Ny274 := Z0 hy274
 clear hy274
 replace H := Option.bind_eq_some_iff.mp H
 obtain ⟨⟨t277, t280⟩, A10, H⟩ := H
 dsimp only at H
 have A1 := Z0 A10
 clear A10
 obtain ⟨y281, hy281⟩ : ∃ y_ : List Int, y_ = (([3, 1, 1] : List Int)) := ⟨_, rfl⟩
 replace H : ((list_New.f y270 ([] : List (S85)) y281 2).bind fun bt284 => ((list_Fill.f y270 ([] : List (S85)) bt284.1 bt284.2.1).bind fun bt292 => ((list_Tick.f y270 ([] : List (S85)) bt292.1 bt292.2.1).bind fun bt300 => (if t280 = 0 then ((trefoilref11_SameTrace.f k t277 (([(([0, 1] : List Int)), (([0, 2] : List Int)), (([0, (-1)] : List Int))] : List (List Int)))).bind fun t323 => (if t323 = true then (if bt284.2.2 = 0 then (if bt292.2.2 = 0 then ((trefoilref02_Ints.f k bt292.1 (([0, 1] : List Int))).bind fun t327 => (if t327 = true then (if bt300.2.2.2 = 0 then ((trefoilref02_Ints.f k bt300.2.2.1 (([1] : List Int))).bind fun t331 => (if t331 = true then ((trefoilref02_Ints.f k bt300.2.1 (([2, 0, 1] : List Int))).bind fun t335 => (if t335 = true then ((list_Ready.f y270 ([] : List (S85)) bt300.1 bt300.2.1).bind fun t336 => ((trefoilref02_Ints.f k t336 (([2] : List Int))).bind fun t342 => (if t342 = true then ((list_Check.f y270 ([] : List (S85)) bt300.1 bt300.2.1).bind fun t343 => (if t343 = 0 then ((list_Same.f k bt300.1 bt300.2.1 bt300.1 bt300.2.1).bind fun t344 => (if t344 = true then ((list_Same.f k bt292.1 bt292.2.1 bt300.1 bt300.2.1).bind fun t345 => (some (!t345))) else (some false))) else (some false))) else (some false)))) else (some false))) else (some false))) else (some false)) else (some false))) else (some false)) else (some false)) else (some false))) else (some false))))) = some r := by first | (rw [hy281]; with_reducible exact H) | (have H2_ := (Option.bind_some _ _).symm.trans H; rw [hy281]; with_reducible exact H2_) | (have H2_ := (Option.bind_some _ _).symm.trans H; with_reducible exact H2_) | with_reducible exact H | (rw [hy281]; exact H) | exact H
 have Ny281 := Z0 hy281
 clear hy281
 replace H := Option.bind_eq_some_iff.mp H
 obtain ⟨⟨t284, t287, t290⟩, A20, H⟩ := H
 dsimp only at H
 have A2 := Z0 A20
 clear A20
 replace H := Option.bind_eq_some_iff.mp H
 obtain ⟨⟨t292, t295, t298⟩, A30, H⟩ := H
 dsimp only at H
 have A3 := Z0 A30
 clear A30
 replace H := Option.bind_eq_some_iff.mp H
 obtain ⟨⟨t300, t303, t306, t309⟩, A40, H⟩ := H
 dsimp only at H
 have A4 := Z0 A40
 clear A40
 by_cases c5 : t280 = 0
 ·rw [if_pos c5] at H
  have c5b0 : (t280 == 0) = true := beq_iff_eq.mpr c5
  have c5b1 : (t280 != 0) = false := bne_eq_false_iff_eq.mpr c5
  clear c5
  obtain ⟨y311, hy311⟩ : ∃ y_ : List Int, y_ = (([0, 1] : List Int)) := ⟨_, rfl⟩
  replace H : ((trefoilref11_SameTrace.f k t277 (([y311, (([0, 2] : List Int)), (([0, (-1)] : List Int))] : List (List Int)))).bind fun t323 => (if t323 = true then (if t290 = 0 then (if t298 = 0 then ((trefoilref02_Ints.f k t292 (([0, 1] : List Int))).bind fun t327 => (if t327 = true then (if t309 = 0 then ((trefoilref02_Ints.f k t306 (([1] : List Int))).bind fun t331 => (if t331 = true then ((trefoilref02_Ints.f k t303 (([2, 0, 1] : List Int))).bind fun t335 => (if t335 = true then ((list_Ready.f y270 ([] : List (S85)) t300 t303).bind fun t336 => ((trefoilref02_Ints.f k t336 (([2] : List Int))).bind fun t342 => (if t342 = true then ((list_Check.f y270 ([] : List (S85)) t300 t303).bind fun t343 => (if t343 = 0 then ((list_Same.f k t300 t303 t300 t303).bind fun t344 => (if t344 = true then ((list_Same.f k t292 t295 t300 t303).bind fun t345 => (some (!t345))) else (some false))) else (some false))) else (some false)))) else (some false))) else (some false))) else (some false)) else (some false))) else (some false)) else (some false)) else (some false))) = some r := by first | (rw [hy311]; with_reducible exact H) | (have H2_ := (Option.bind_some _ _).symm.trans H; rw [hy311]; with_reducible exact H2_) | (have H2_ := (Option.bind_some _ _).symm.trans H; with_reducible exact H2_) | with_reducible exact H | (rw [hy311]; exact H) | exact H
  have Ny311 := Z0 hy311
  clear hy311
  obtain ⟨y314, hy314⟩ : ∃ y_ : List Int, y_ = (([0, 2] : List Int)) := ⟨_, rfl⟩
  replace H : ((trefoilref11_SameTrace.f k t277 (([y311, y314, (([0, (-1)] : List Int))] : List (List Int)))).bind fun t323 => (if t323 = true then (if t290 = 0 then (if t298 = 0 then ((trefoilref02_Ints.f k t292 (([0, 1] : List Int))).bind fun t327 => (if t327 = true then (if t309 = 0 then ((trefoilref02_Ints.f k t306 (([1] : List Int))).bind fun t331 => (if t331 = true then ((trefoilref02_Ints.f k t303 (([2, 0, 1] : List Int))).bind fun t335 => (if t335 = true then ((list_Ready.f y270 ([] : List (S85)) t300 t303).bind fun t336 => ((trefoilref02_Ints.f k t336 (([2] : List Int))).bind fun t342 => (if t342 = true then ((list_Check.f y270 ([] : List (S85)) t300 t303).bind fun t343 => (if t343 = 0 then ((list_Same.f k t300 t303 t300 t303).bind fun t344 => (if t344 = true then ((list_Same.f k t292 t295 t300 t303).bind fun t345 => (some (!t345))) else (some false))) else (some false))) else (some false)))) else (some false))) else (some false))) else (some false)) else (some false))) else (some false)) else (some false)) else (some false))) = some r := by first | (rw [hy314]; with_reducible exact H) | (have H2_ := (Option.bind_some _ _).symm.trans H; rw [hy314]; with_reducible exact H2_) | (have H2_ := (Option.bind_some _ _).symm.trans H; with_reducible exact H2_) | with_reducible exact H | (rw [hy314]; exact H) | exact H
  have Ny314 := Z0 hy314
  clear hy314
  obtain ⟨y317, hy317⟩ : ∃ y_ : List Int, y_ = (([0, (-1)] : List Int)) := ⟨_, rfl⟩
  replace H : ((trefoilref11_SameTrace.f k t277 (([y311, y314, y317] : List (List Int)))).bind fun t323 => (if t323 = true then (if t290 = 0 then (if t298 = 0 then ((trefoilref02_Ints.f k t292 (([0, 1] : List Int))).bind fun t327 => (if t327 = true then (if t309 = 0 then ((trefoilref02_Ints.f k t306 (([1] : List Int))).bind fun t331 => (if t331 = true then ((trefoilref02_Ints.f k t303 (([2, 0, 1] : List Int))).bind fun t335 => (if t335 = true then ((list_Ready.f y270 ([] : List (S85)) t300 t303).bind fun t336 => ((trefoilref02_Ints.f k t336 (([2] : List Int))).bind fun t342 => (if t342 = true then ((list_Check.f y270 ([] : List (S85)) t300 t303).bind fun t343 => (if t343 = 0 then ((list_Same.f k t300 t303 t300 t303).bind fun t344 => (if t344 = true then ((list_Same.f k t292 t295 t300 t303).bind fun t345 => (some (!t345))) else (some false))) else (some false))) else (some false)))) else (some false))) else (some false))) else (some false)) else (some false))) else (some false)) else (some false)) else (some false))) = some r := by first | (rw [hy317]; with_reducible exact H) | (have H2_ := (Option.bind_some _ _).symm.trans H; rw [hy317]; with_reducible exact H2_) | (have H2_ := (Option.bind_some _ _).symm.trans H; with_reducible exact H2_) | with_reducible exact H | (rw [hy317]; exact H) | exact H
  have Ny317 := Z0 hy317
  clear hy317
  obtain ⟨y320, hy320⟩ : ∃ y_ : List (List Int), y_ = (([y311, y314, y317] : List (List Int))) := ⟨_, rfl⟩
  replace H : ((trefoilref11_SameTrace.f k t277 y320).bind fun t323 => (if t323 = true then (if t290 = 0 then (if t298 = 0 then ((trefoilref02_Ints.f k t292 (([0, 1] : List Int))).bind fun t327 => (if t327 = true then (if t309 = 0 then ((trefoilref02_Ints.f k t306 (([1] : List Int))).bind fun t331 => (if t331 = true then ((trefoilref02_Ints.f k t303 (([2, 0, 1] : List Int))).bind fun t335 => (if t335 = true then ((list_Ready.f y270 ([] : List (S85)) t300 t303).bind fun t336 => ((trefoilref02_Ints.f k t336 (([2] : List Int))).bind fun t342 => (if t342 = true then ((list_Check.f y270 ([] : List (S85)) t300 t303).bind fun t343 => (if t343 = 0 then ((list_Same.f k t300 t303 t300 t303).bind fun t344 => (if t344 = true then ((list_Same.f k t292 t295 t300 t303).bind fun t345 => (some (!t345))) else (some false))) else (some false))) else (some false)))) else (some false))) else (some false))) else (some false)) else (some false))) else (some false)) else (some false)) else (some false))) = some r := by first | (rw [hy320]; with_reducible exact H) | (have H2_ := (Option.bind_some _ _).symm.trans H; rw [hy320]; with_reducible exact H2_) | (have H2_ := (Option.bind_some _ _).symm.trans H; with_reducible exact H2_) | with_reducible exact H | (rw [hy320]; exact H) | exact H
  have Ny320 := Z0 hy320
  clear hy320
  replace H := Option.bind_eq_some_iff.mp H
  obtain ⟨t323, A60, H⟩ := H
  have A6 := Z0 A60
  clear A60
  by_cases c7 : t323 = true
  ·subst c7
   rw [if_pos rfl] at H
   by_cases c8 : t290 = 0
   ·rw [if_pos c8] at H
    have c8b0 : (t290 == 0) = true := beq_iff_eq.mpr c8
    have c8b1 : (t290 != 0) = false := bne_eq_false_iff_eq.mpr c8
    clear c8
    by_cases c9 : t298 = 0
    ·rw [if_pos c9] at H
     have c9b0 : (t298 == 0) = true := beq_iff_eq.mpr c9
     have c9b1 : (t298 != 0) = false := bne_eq_false_iff_eq.mpr c9
     clear c9
     obtain ⟨y324, hy324⟩ : ∃ y_ : List Int, y_ = (([0, 1] : List Int)) := ⟨_, rfl⟩
     replace H : ((trefoilref02_Ints.f k t292 y324).bind fun t327 => (if t327 = true then (if t309 = 0 then ((trefoilref02_Ints.f k t306 (([1] : List Int))).bind fun t331 => (if t331 = true then ((trefoilref02_Ints.f k t303 (([2, 0, 1] : List Int))).bind fun t335 => (if t335 = true then ((list_Ready.f y270 ([] : List (S85)) t300 t303).bind fun t336 => ((trefoilref02_Ints.f k t336 (([2] : List Int))).bind fun t342 => (if t342 = true then ((list_Check.f y270 ([] : List (S85)) t300 t303).bind fun t343 => (if t343 = 0 then ((list_Same.f k t300 t303 t300 t303).bind fun t344 => (if t344 = true then ((list_Same.f k t292 t295 t300 t303).bind fun t345 => (some (!t345))) else (some false))) else (some false))) else (some false)))) else (some false))) else (some false))) else (some false)) else (some false))) = some r := by first | (rw [hy324]; with_reducible exact H) | (have H2_ := (Option.bind_some _ _).symm.trans H; rw [hy324]; with_reducible exact H2_) | (have H2_ := (Option.bind_some _ _).symm.trans H; with_reducible exact H2_) | with_reducible exact H | (rw [hy324]; exact H) | exact H
     have Ny324 := Z0 hy324
     clear hy324
     replace H := Option.bind_eq_some_iff.mp H
     obtain ⟨t327, A100, H⟩ := H
     have A10 := Z0 A100
     clear A100
     by_cases c11 : t327 = true
     ·subst c11
      rw [if_pos rfl] at H
      by_cases c12 : t309 = 0
      ·rw [if_pos c12] at H
       have c12b0 : (t309 == 0) = true := beq_iff_eq.mpr c12
       have c12b1 : (t309 != 0) = false := bne_eq_false_iff_eq.mpr c12
       clear c12
       obtain ⟨y328, hy328⟩ : ∃ y_ : List Int, y_ = (([1] : List Int)) := ⟨_, rfl⟩
       replace H : ((trefoilref02_Ints.f k t306 y328).bind fun t331 => (if t331 = true then ((trefoilref02_Ints.f k t303 (([2, 0, 1] : List Int))).bind fun t335 => (if t335 = true then ((list_Ready.f y270 ([] : List (S85)) t300 t303).bind fun t336 => ((trefoilref02_Ints.f k t336 (([2] : List Int))).bind fun t342 => (if t342 = true then ((list_Check.f y270 ([] : List (S85)) t300 t303).bind fun t343 => (if t343 = 0 then ((list_Same.f k t300 t303 t300 t303).bind fun t344 => (if t344 = true then ((list_Same.f k t292 t295 t300 t303).bind fun t345 => (some (!t345))) else (some false))) else (some false))) else (some false)))) else (some false))) else (some false))) = some r := by first | (rw [hy328]; with_reducible exact H) | (have H2_ := (Option.bind_some _ _).symm.trans H; rw [hy328]; with_reducible exact H2_) | (have H2_ := (Option.bind_some _ _).symm.trans H; with_reducible exact H2_) | with_reducible exact H | (rw [hy328]; exact H) | exact H
       have Ny328 := Z0 hy328
       clear hy328
       replace H := Option.bind_eq_some_iff.mp H
       obtain ⟨t331, A130, H⟩ := H
       have A13 := Z0 A130
       clear A130
       by_cases c14 : t331 = true
       ·subst c14
        rw [if_pos rfl] at H
        obtain ⟨y332, hy332⟩ : ∃ y_ : List Int, y_ = (([2, 0, 1] : List Int)) := ⟨_, rfl⟩
        replace H : ((trefoilref02_Ints.f k t303 y332).bind fun t335 => (if t335 = true then ((list_Ready.f y270 ([] : List (S85)) t300 t303).bind fun t336 => ((trefoilref02_Ints.f k t336 (([2] : List Int))).bind fun t342 => (if t342 = true then ((list_Check.f y270 ([] : List (S85)) t300 t303).bind fun t343 => (if t343 = 0 then ((list_Same.f k t300 t303 t300 t303).bind fun t344 => (if t344 = true then ((list_Same.f k t292 t295 t300 t303).bind fun t345 => (some (!t345))) else (some false))) else (some false))) else (some false)))) else (some false))) = some r := by first | (rw [hy332]; with_reducible exact H) | (have H2_ := (Option.bind_some _ _).symm.trans H; rw [hy332]; with_reducible exact H2_) | (have H2_ := (Option.bind_some _ _).symm.trans H; with_reducible exact H2_) | with_reducible exact H | (rw [hy332]; exact H) | exact H
        have Ny332 := Z0 hy332
        clear hy332
        replace H := Option.bind_eq_some_iff.mp H
        obtain ⟨t335, A150, H⟩ := H
        have A15 := Z0 A150
        clear A150
        by_cases c16 : t335 = true
        ·subst c16
         rw [if_pos rfl] at H
         replace H := Option.bind_eq_some_iff.mp H
         obtain ⟨t336, A170, H⟩ := H
         have A17 := Z0 A170
         clear A170
         obtain ⟨y339, hy339⟩ : ∃ y_ : List Int, y_ = (([2] : List Int)) := ⟨_, rfl⟩
         replace H : ((trefoilref02_Ints.f k t336 y339).bind fun t342 => (if t342 = true then ((list_Check.f y270 ([] : List (S85)) t300 t303).bind fun t343 => (if t343 = 0 then ((list_Same.f k t300 t303 t300 t303).bind fun t344 => (if t344 = true then ((list_Same.f k t292 t295 t300 t303).bind fun t345 => (some (!t345))) else (some false))) else (some false))) else (some false))) = some r := by first | (rw [hy339]; with_reducible exact H) | (have H2_ := (Option.bind_some _ _).symm.trans H; rw [hy339]; with_reducible exact H2_) | (have H2_ := (Option.bind_some _ _).symm.trans H; with_reducible exact H2_) | with_reducible exact H | (rw [hy339]; exact H) | exact H
         have Ny339 := Z0 hy339
         clear hy339
         replace H := Option.bind_eq_some_iff.mp H
         obtain ⟨t342, A180, H⟩ := H
         have A18 := Z0 A180
         clear A180
         by_cases c19 : t342 = true
         ·subst c19
          rw [if_pos rfl] at H
          replace H := Option.bind_eq_some_iff.mp H
          obtain ⟨t343, A200, H⟩ := H
          have A20 := Z0 A200
          clear A200
          by_cases c21 : t343 = 0
          ·rw [if_pos c21] at H
           have c21b0 : (t343 == 0) = true := beq_iff_eq.mpr c21
           have c21b1 : (t343 != 0) = false := bne_eq_false_iff_eq.mpr c21
           clear c21
           replace H := Option.bind_eq_some_iff.mp H
           obtain ⟨t344, A220, H⟩ := H
           have A22 := Z0 A220
           clear A220
           by_cases c23 : t344 = true
           ·subst c23
            rw [if_pos rfl] at H
            replace H := Option.bind_eq_some_iff.mp H
            obtain ⟨t345, A240, H⟩ := H
            have A24 := Z0 A240
            clear A240
            obtain rfl := Option.some.inj H
            go_enter Try.func9, Try.ntmps9
            go_wp2_with (first | ((with_reducible refine gate_dst (N := 11) rfl ?_); (try (refine gate_guard (by rfl) ?_; dsimp only)); refine zz (N := 11) 3 [9, 9, 9] Ny270 (zo 9 (zo 9 (zo 9 (Reps.none _ _)))) ?_; intro v271 w25 ho26 hb; have HO272 := Z0 (rl ho26 (below_size (zb HB))); replace HB := Z0 (below_step (zb HB) hb); clear hb ho26; obtain ⟨Ao27, co27, eo27⟩ := Kd.R_slice HO272.out; subst eo27) | ((with_reducible refine gate_dst (N := 1) rfl ?_); (try (refine gate_guard (by rfl) ?_; dsimp only)); refine zx (N := 1) #[.slice none 0 0, .slice none 0 0] 25 ?_; intro gb273 hg w28 hbox hb; replace HO272 := Z0 (rbe (zr HO272) hb); have BK273 := Z0 (hbox); have GW273 := Z0 (zh w hg HB); have GE273 := Z0 (zh w hg HB); replace HB := Z0 (below_step (zb HB) hb); clear hb hbox hg; have hcz29_0 := kz0 BK273; have hcz29_1 := kz1 BK273; have hfz29_0 := blk_frozen BK273.out 0; have hfz29_1 := blk_frozen BK273.out 1) | ((with_reducible refine gate_dst (N := 15) rfl ?_); (try (refine gate_guard (by rfl) ?_; dsimp only)); refine zz (N := 15) 3 [3, 1, 1] Ny274 (zo 3 (zo 1 (zo 1 (Reps.none _ _)))) ?_; intro v275 w30 ho31 hb; have HO276 := Z0 (rl (rw_ ho31 (rlt (zy HO272 BK273))) (below_size (zb HB))); replace HO272 := Z0 (Kd.R_elder' (zy HO272 BK273) (rb ho31) hb); replace BK273 := Z0 (kb (g := gb273) (o := .cells #[.slice Ao27 y270.length co27, .slice none 0 0] 25 (0, 0)) (by (with_reducible repeat (first | refine kn ?_ _ | refine kd_ ?_ | refine ka ?_ _)); refine blk_put (cs := #[.slice Ao27 y270.length co27, .slice none 0 0]) ?_ 1 _ rfl; (with_reducible repeat (first | refine kn ?_ _ | refine kd_ ?_ | refine ka ?_ _)); refine blk_put (cs := #[.slice none 0 0, .slice none 0 0]) ?_ 0 _ rfl; (with_reducible repeat (first | refine kn ?_ _ | refine kd_ ?_ | refine ka ?_ _)); exact BK273.out) hb); replace HB := Z0 (below_step (zb HB) hb); clear hb ho31; obtain ⟨Ao32, co32, eo32⟩ := Kd.R_slice HO276.out; subst eo32) | ((with_reducible refine gate_callee (f := 26) rfl ?_); refine goesL_ (some 16) rfl rfl Try.func26 (by kernel_rfl) rfl #[.agg #[.slice Ao27 y270.length co27, .slice none 0 0], .slice Ao32 y274.length co32, .int .i64 2] rfl (by (try simp only [List.map_toArray, List.map_cons, List.map_nil]); first | done | rfl | (simp only [List.length_drop, List.length_take]; rfl)) ?_; (refine (list_Run.calls _ _ y270 _ _ ([] : List (S85)) _ _ y274 2 t277 t280 _ ?side1 ?side2 ?side3 ?side4 ?side5 ?side6 A1.out).mono ?_); (case side1 => exact zc (rr HO272.out).2.2); (case side2 => exact (rr HO272.out).2.1); (case side3 => exact Kd.C_nil _ _); (case side4 => exact Nat.le_refl _); (case side5 => exact zc (rr HO276.out).2.2); (case side6 => exact (rr HO276.out).2.1); rintro e w33 ⟨v278, rfl, ho0, hb⟩; refine ⟨_, rfl, ?_⟩; have HO279 := Z0 (Kd.N_lower (Kd.N_mono (ok' := fun k_ => some k_ ≠ (.slice Ao27 y270.length co27 : Value).ownBlock ∧ some k_ ≠ (.slice Ao32 y274.length co32 : Value).ownBlock ∧ k_ ≠ gb273) (Kd.S_N (Kd.S_bound ho0)) (fun k_ hk_ => ⟨(Kd.fresh' (rlt (zr HO272)) k_ hk_.2.1), (Kd.fresh' (rlt (zr HO276)) k_ hk_.2.1), (Kd.freshB (g := gb273) (o := .cells #[.slice Ao27 y270.length co27, .slice none 0 0] 25 (0, 0)) (zk BK273) k_ hk_.2.1)⟩)) (below_size (zb HB))); replace HO272 := Z0 (rbe (zr HO272) hb); replace HO276 := Z0 (rbe (zr HO276) hb); replace BK273 := Z0 (zkb BK273 hb); replace HB := Z0 (below_step (zb HB) hb); (try clear hb); (try clear hb2); (try clear hk); (try clear hi); (try clear ho0); have hcz34_0 := kz0 BK273; have hcz34_1 := kz1 BK273; have hfz34_0 := blk_frozen BK273.out 0; have hfz34_1 := blk_frozen BK273.out 1) | ((with_reducible refine gate_dst (N := 21) rfl ?_); (try (refine gate_guard (by rfl) ?_; dsimp only)); refine zz (N := 21) 3 [3, 1, 1] Ny281 (zo 3 (zo 1 (zo 1 (Reps.none _ _)))) ?_; intro v282 w35 ho36 hb; replace HO279 := Z0 (Kd.N_elder' (zn HO279) (rb ho36) hb); have HO283 := Z0 (rl (rw_ (rw_ ho36 (rlt (zr HO272))) (rlt (zr HO276))) (below_size (zb HB))); replace HO272 := Z0 (Kd.R_elder' (zr HO272) (rb ho36) hb); replace HO276 := Z0 (Kd.R_elder' (zr HO276) (rb ho36) hb); replace BK273 := Z0 (zkb BK273 hb); replace HB := Z0 (below_step (zb HB) hb); clear hb ho36; obtain ⟨Ao37, co37, eo37⟩ := Kd.R_slice HO283.out; subst eo37) | ((with_reducible refine gate_callee (f := 28) rfl ?_); refine goesL_ (some 22) rfl rfl Try.func28 (by kernel_rfl) rfl #[.agg #[.slice Ao27 y270.length co27, .slice none 0 0], .slice Ao37 y281.length co37, .int .i64 2] rfl (by (try simp only [List.map_toArray, List.map_cons, List.map_nil]); first | done | rfl | (simp only [List.length_drop, List.length_take]; rfl)) ?_; (refine (list_New.calls _ _ y270 _ _ ([] : List (S85)) _ _ y281 2 t284 t287 t290 _ ?side1 ?side2 ?side3 ?side4 ?side5 ?side6 A2.out).mono ?_); (case side1 => exact zc (rr HO272.out).2.2); (case side2 => exact (rr HO272.out).2.1); (case side3 => exact Kd.C_nil _ _); (case side4 => exact Nat.le_refl _); (case side5 => exact zc (rr HO283.out).2.2); (case side6 => exact (rr HO283.out).2.1); rintro e w38 ⟨v285, v288, rfl, ho0, ho1, hb⟩; refine ⟨_, rfl, ?_⟩; replace HO279 := Z0 (Kd.N_mono (Kd.N_told (Kd.N_told (Kd.N_old (zn HO279) hb) (rb ho0)) (rb ho1)) (fun _ h_ => h_.1)); have HO286 := Z0 (rl (rw_ (rw_ (rw_ ho0 (rlt (zr HO272))) (rlt (zr HO276))) (rlt (zr HO283))) (below_size (zb HB))); have HO289 := Z0 (rl (rw_ (rw_ (rw_ ho1 (rlt (zr HO272))) (rlt (zr HO276))) (rlt (zr HO283))) (below_size (zb HB))); replace HO272 := Z0 (rm (rt (rt (ro (zr HO272) hb) (rb ho0)) (rb ho1)) (fun _ h_ => h_.1)); replace HO276 := Z0 (rm (rt (rt (ro (zr HO276) hb) (rb ho0)) (rb ho1)) (fun _ h_ => h_.1)); replace HO283 := Z0 (rm (rt (rt (ro (zr HO283) hb) (rb ho0)) (rb ho1)) (fun _ h_ => h_.1)); replace BK273 := Z0 (zkb BK273 hb); replace HB := Z0 (below_step (zb HB) hb); (try clear hb); (try clear hb2); (try clear hk); (try clear hi); (try clear ho0); (try clear ho1)) | ((with_reducible refine gate_dst (N := 4) rfl ?_); (try (refine gate_guard (by rfl) ?_; dsimp only)); refine zx (N := 4) #[.slice none 0 0, .slice none 0 0] 27 ?_; intro gb291 hg w39 hbox hb; replace HO272 := Z0 (rbe (zr HO272) hb); replace HO276 := Z0 (rbe (zr HO276) hb); replace HO279 := Z0 (Kd.N_below (Kd.N_elderB (zn HO279) gb291 (Nat.le_of_eq hg.symm)) hb); replace HO283 := Z0 (rbe (zr HO283) hb); replace HO286 := Z0 (rbe (zr HO286) hb); replace HO289 := Z0 (rbe (zr HO289) hb); have BK291 := Z0 (hbox); have GW291 := Z0 (zh w hg HB); have GE291 := Z0 (zh w hg HB); replace HB := Z0 (below_step (zb HB) hb); have NB273_291 := Z0 (zl hg BK273); have NB291_273 := Z0 (zu hg BK273); replace BK273 := Z0 (zkb BK273 hb); clear hb hbox hg; obtain ⟨Ao40, co40, eo40⟩ := Kd.R_slice HO286.out; subst eo40; have hnb41 := NB291_273.out; have hnc41 := NB273_291.out; have hcz42_0 := kz0 BK291; have hcz42_1 := kz1 BK291; have hfz42_0 := blk_frozen BK291.out 0; have hfz42_1 := blk_frozen BK291.out 1; obtain ⟨Ao43, co43, eo43⟩ := Kd.R_slice HO289.out; subst eo43; have hcz44_0 := kz0 BK273; have hcz44_1 := kz1 BK273; have hfz44_0 := blk_frozen BK273.out 0; have hfz44_1 := blk_frozen BK273.out 1) | ((with_reducible refine gate_callee (f := 11) rfl ?_); refine goesL_ (some 28) rfl rfl Try.func11 (by kernel_rfl) rfl #[.agg #[.slice Ao27 y270.length co27, .slice none 0 0], .agg #[.slice Ao40 t284.length co40, .slice Ao43 t287.length co43]] rfl (by (try simp only [List.map_toArray, List.map_cons, List.map_nil]); first | done | rfl | (simp only [List.length_drop, List.length_take]; rfl)) ?_; (refine (list_Fill.calls _ _ y270 _ _ ([] : List (S85)) _ _ t284 _ _ t287 t292 t295 t298 _ ?side1 ?side2 ?side3 ?side4 ?side5 ?side6 ?side7 ?side8 A3.out).mono ?_); (case side1 => refine (rr (e := 3) (base := w.heap.size) (ok := fun k_ => ((((True ∧ some k_ ≠ (.slice Ao32 y274.length co32 : Value).ownBlock) ∧ some k_ ≠ (.slice Ao37 y281.length co37 : Value).ownBlock) ∧ some k_ ≠ (.slice Ao40 t284.length co40 : Value).ownBlock) ∧ some k_ ≠ (.slice Ao43 t287.length co43 : Value).ownBlock)) (n := y270.length) (c := co27) ?_).2.2; exact (zy HO272 BK291)); (case side2 => exact (rr HO272.out).2.1); (case side3 => exact Kd.C_nil _ _); (case side4 => exact Nat.le_refl _); (case side5 => refine (rr (e := 3) (base := w.heap.size) (ok := fun k_ => (((some k_ ≠ (.slice Ao43 t287.length co43 : Value).ownBlock ∧ some k_ ≠ (.slice Ao27 y270.length co27 : Value).ownBlock) ∧ some k_ ≠ (.slice Ao32 y274.length co32 : Value).ownBlock) ∧ some k_ ≠ (.slice Ao37 y281.length co37 : Value).ownBlock)) (n := t284.length) (c := co40) ?_).2.2; exact (zy HO286 BK291)); (case side6 => exact (rr HO286.out).2.1); (case side7 => refine (rr (e := 3) (base := w.heap.size) (ok := fun k_ => (((some k_ ≠ (.slice Ao40 t284.length co40 : Value).ownBlock ∧ some k_ ≠ (.slice Ao27 y270.length co27 : Value).ownBlock) ∧ some k_ ≠ (.slice Ao32 y274.length co32 : Value).ownBlock) ∧ some k_ ≠ (.slice Ao37 y281.length co37 : Value).ownBlock)) (n := t287.length) (c := co43) ?_).2.2; exact (zy HO289 BK291)); (case side8 => exact (rr HO289.out).2.1); rintro e w45 ⟨v293, v296, rfl, ho0, ho1, hb⟩; refine ⟨_, rfl, ?_⟩; replace HO279 := Z0 (Kd.N_mono (Kd.N_told (Kd.N_told (Kd.N_old (by (with_reducible repeat (first | apply Kd.N_alloc | apply Kd.N_drewN | apply Kd.N_drew)); exact (Kd.N_mono (Kd.N_far (p := ⟨gb291, 1, none⟩) (Kd.N_far (p := ⟨gb291, 0, none⟩) (Kd.N_mono HO279.out (fun k_ hk => (⟨hk, hk.2⟩ : _ ∧ k_ ≠ gb291))) (fun _ hk => hk.2) (.slice Ao40 t284.length co40)) (fun _ hk => hk.2) (.slice Ao43 t287.length co43)) (fun _ h_ => h_.1))) hb) (rb ho0)) (rb ho1)) (fun _ h_ => h_.1)); have HO294 := Z0 (rl (rw_ (rw_ (rw_ (rw_ (rw_ ho0 (rlt (zy HO272 BK291))) (rlt (zy HO276 BK291))) (rlt (zy HO283 BK291))) (rlt (zy HO286 BK291))) (rlt (zy HO289 BK291))) (below_size (zb HB))); have HO297 := Z0 (rl (rw_ (rw_ (rw_ (rw_ (rw_ ho1 (rlt (zy HO272 BK291))) (rlt (zy HO276 BK291))) (rlt (zy HO283 BK291))) (rlt (zy HO286 BK291))) (rlt (zy HO289 BK291))) (below_size (zb HB))); replace HO272 := Z0 (rm (rt (rt (ro (zy HO272 BK291) hb) (rb ho0)) (rb ho1)) (fun _ h_ => h_.1)); replace HO276 := Z0 (rm (rt (rt (ro (zy HO276 BK291) hb) (rb ho0)) (rb ho1)) (fun _ h_ => h_.1)); replace HO283 := Z0 (rm (rt (rt (ro (zy HO283 BK291) hb) (rb ho0)) (rb ho1)) (fun _ h_ => h_.1)); replace HO286 := Z0 (rm (rt (rt (ro (zy HO286 BK291) hb) (rb ho0)) (rb ho1)) (fun _ h_ => h_.1)); replace HO289 := Z0 (rm (rt (rt (ro (zy HO289 BK291) hb) (rb ho0)) (rb ho1)) (fun _ h_ => h_.1)); replace BK273 := Z0 (kb (g := gb273) (o := .cells #[.slice Ao27 y270.length co27, .slice none 0 0] 25 (0, 0)) (by (with_reducible repeat (first | refine kn ?_ _ | refine kd_ ?_ | refine ka ?_ _)); refine blk_far ?_ NB273_291.out _; (with_reducible repeat (first | refine kn ?_ _ | refine kd_ ?_ | refine ka ?_ _)); refine blk_far ?_ NB273_291.out _; (with_reducible repeat (first | refine kn ?_ _ | refine kd_ ?_ | refine ka ?_ _)); exact BK273.out) hb); replace BK291 := Z0 (kb (g := gb291) (o := .cells #[.slice Ao40 t284.length co40, .slice Ao43 t287.length co43] 27 (0, 0)) (by (with_reducible repeat (first | refine kn ?_ _ | refine kd_ ?_ | refine ka ?_ _)); refine blk_put (cs := #[.slice Ao40 t284.length co40, .slice none 0 0]) ?_ 1 _ rfl; (with_reducible repeat (first | refine kn ?_ _ | refine kd_ ?_ | refine ka ?_ _)); refine blk_put (cs := #[.slice none 0 0, .slice none 0 0]) ?_ 0 _ rfl; (with_reducible repeat (first | refine kn ?_ _ | refine kd_ ?_ | refine ka ?_ _)); exact BK291.out) hb); replace HB := Z0 (below_step (zb HB) hb); (try clear hb); (try clear hb2); (try clear hk); (try clear hi); (try clear ho0); (try clear ho1)) | ((with_reducible refine gate_dst (N := 6) rfl ?_); (try (refine gate_guard (by rfl) ?_; dsimp only)); refine zx (N := 6) #[.slice none 0 0, .slice none 0 0] 27 ?_; intro gb299 hg w46 hbox hb; replace HO272 := Z0 (rbe (zr HO272) hb); replace HO276 := Z0 (rbe (zr HO276) hb); replace HO279 := Z0 (Kd.N_below (Kd.N_elderB (zn HO279) gb299 (Nat.le_of_eq hg.symm)) hb); replace HO283 := Z0 (rbe (zr HO283) hb); replace HO286 := Z0 (rbe (zr HO286) hb); replace HO289 := Z0 (rbe (zr HO289) hb); replace HO294 := Z0 (rbe (zr HO294) hb); replace HO297 := Z0 (rbe (zr HO297) hb); have BK299 := Z0 (hbox); have GW299 := Z0 (zh w hg HB); have GE299 := Z0 (zh w hg HB); replace HB := Z0 (below_step (zb HB) hb); have NB273_299 := Z0 (zl hg BK273); have NB299_273 := Z0 (zu hg BK273); replace BK273 := Z0 (zkb BK273 hb); have NB291_299 := Z0 (zl hg BK291); have NB299_291 := Z0 (zu hg BK291); replace BK291 := Z0 (zkb BK291 hb); clear hb hbox hg; obtain ⟨Ao47, co47, eo47⟩ := Kd.R_slice HO294.out; subst eo47; have hnb48 := NB299_273.out; have hnc48 := NB273_299.out; have hnb49 := NB299_291.out; have hnc49 := NB291_299.out; have hcz50_0 := kz0 BK299; have hcz50_1 := kz1 BK299; have hfz50_0 := blk_frozen BK299.out 0; have hfz50_1 := blk_frozen BK299.out 1; obtain ⟨Ao51, co51, eo51⟩ := Kd.R_slice HO297.out; subst eo51; have hcz52_0 := kz0 BK273; have hcz52_1 := kz1 BK273; have hfz52_0 := blk_frozen BK273.out 0; have hfz52_1 := blk_frozen BK273.out 1) | ((with_reducible refine gate_callee (f := 14) rfl ?_); refine goesL_ (some 34) rfl rfl Try.func14 (by kernel_rfl) rfl #[.agg #[.slice Ao27 y270.length co27, .slice none 0 0], .agg #[.slice Ao47 t292.length co47, .slice Ao51 t295.length co51]] rfl (by (try simp only [List.map_toArray, List.map_cons, List.map_nil]); first | done | rfl | (simp only [List.length_drop, List.length_take]; rfl)) ?_; (refine (list_Tick.calls _ _ y270 _ _ ([] : List (S85)) _ _ t292 _ _ t295 t300 t303 t306 t309 _ ?side1 ?side2 ?side3 ?side4 ?side5 ?side6 ?side7 ?side8 A4.out).mono ?_); (case side1 => refine (rr (e := 3) (base := w.heap.size) (ok := fun k_ => ((((((True ∧ some k_ ≠ (.slice Ao32 y274.length co32 : Value).ownBlock) ∧ some k_ ≠ (.slice Ao37 y281.length co37 : Value).ownBlock) ∧ some k_ ≠ (.slice Ao40 t284.length co40 : Value).ownBlock) ∧ some k_ ≠ (.slice Ao43 t287.length co43 : Value).ownBlock) ∧ some k_ ≠ (.slice Ao47 t292.length co47 : Value).ownBlock) ∧ some k_ ≠ (.slice Ao51 t295.length co51 : Value).ownBlock)) (n := y270.length) (c := co27) ?_).2.2; exact (zy HO272 BK299)); (case side2 => exact (rr HO272.out).2.1); (case side3 => exact Kd.C_nil _ _); (case side4 => exact Nat.le_refl _); (case side5 => refine (rr (e := 3) (base := w.heap.size) (ok := fun k_ => (((((some k_ ≠ (.slice Ao51 t295.length co51 : Value).ownBlock ∧ some k_ ≠ (.slice Ao27 y270.length co27 : Value).ownBlock) ∧ some k_ ≠ (.slice Ao32 y274.length co32 : Value).ownBlock) ∧ some k_ ≠ (.slice Ao37 y281.length co37 : Value).ownBlock) ∧ some k_ ≠ (.slice Ao40 t284.length co40 : Value).ownBlock) ∧ some k_ ≠ (.slice Ao43 t287.length co43 : Value).ownBlock)) (n := t292.length) (c := co47) ?_).2.2; exact (zy HO294 BK299)); (case side6 => exact (rr HO294.out).2.1); (case side7 => refine (rr (e := 3) (base := w.heap.size) (ok := fun k_ => (((((some k_ ≠ (.slice Ao47 t292.length co47 : Value).ownBlock ∧ some k_ ≠ (.slice Ao27 y270.length co27 : Value).ownBlock) ∧ some k_ ≠ (.slice Ao32 y274.length co32 : Value).ownBlock) ∧ some k_ ≠ (.slice Ao37 y281.length co37 : Value).ownBlock) ∧ some k_ ≠ (.slice Ao40 t284.length co40 : Value).ownBlock) ∧ some k_ ≠ (.slice Ao43 t287.length co43 : Value).ownBlock)) (n := t295.length) (c := co51) ?_).2.2; exact (zy HO297 BK299)); (case side8 => exact (rr HO297.out).2.1); rintro e w53 ⟨v301, v304, v307, rfl, ho0, ho1, ho2, hb⟩; refine ⟨_, rfl, ?_⟩; replace HO279 := Z0 (Kd.N_mono (Kd.N_told (Kd.N_told (Kd.N_told (Kd.N_old (by (with_reducible repeat (first | apply Kd.N_alloc | apply Kd.N_drewN | apply Kd.N_drew)); exact (Kd.N_mono (Kd.N_far (p := ⟨gb299, 1, none⟩) (Kd.N_far (p := ⟨gb299, 0, none⟩) (Kd.N_mono HO279.out (fun k_ hk => (⟨hk, hk.2⟩ : _ ∧ k_ ≠ gb299))) (fun _ hk => hk.2) (.slice Ao47 t292.length co47)) (fun _ hk => hk.2) (.slice Ao51 t295.length co51)) (fun _ h_ => h_.1))) hb) (rb ho0)) (rb ho1)) (rb ho2)) (fun _ h_ => h_.1)); have HO302 := Z0 (rl (rw_ (rw_ (rw_ (rw_ (rw_ (rw_ (rw_ ho0 (rlt (zy HO272 BK299))) (rlt (zy HO276 BK299))) (rlt (zy HO283 BK299))) (rlt (zy HO286 BK299))) (rlt (zy HO289 BK299))) (rlt (zy HO294 BK299))) (rlt (zy HO297 BK299))) (below_size (zb HB))); have HO305 := Z0 (rl (rw_ (rw_ (rw_ (rw_ (rw_ (rw_ (rw_ ho1 (rlt (zy HO272 BK299))) (rlt (zy HO276 BK299))) (rlt (zy HO283 BK299))) (rlt (zy HO286 BK299))) (rlt (zy HO289 BK299))) (rlt (zy HO294 BK299))) (rlt (zy HO297 BK299))) (below_size (zb HB))); have HO308 := Z0 (rl (rw_ (rw_ (rw_ (rw_ (rw_ (rw_ (rw_ ho2 (rlt (zy HO272 BK299))) (rlt (zy HO276 BK299))) (rlt (zy HO283 BK299))) (rlt (zy HO286 BK299))) (rlt (zy HO289 BK299))) (rlt (zy HO294 BK299))) (rlt (zy HO297 BK299))) (below_size (zb HB))); replace HO272 := Z0 (rm (rt (rt (rt (ro (zy HO272 BK299) hb) (rb ho0)) (rb ho1)) (rb ho2)) (fun _ h_ => h_.1)); replace HO276 := Z0 (rm (rt (rt (rt (ro (zy HO276 BK299) hb) (rb ho0)) (rb ho1)) (rb ho2)) (fun _ h_ => h_.1)); replace HO283 := Z0 (rm (rt (rt (rt (ro (zy HO283 BK299) hb) (rb ho0)) (rb ho1)) (rb ho2)) (fun _ h_ => h_.1)); replace HO286 := Z0 (rm (rt (rt (rt (ro (zy HO286 BK299) hb) (rb ho0)) (rb ho1)) (rb ho2)) (fun _ h_ => h_.1)); replace HO289 := Z0 (rm (rt (rt (rt (ro (zy HO289 BK299) hb) (rb ho0)) (rb ho1)) (rb ho2)) (fun _ h_ => h_.1)); replace HO294 := Z0 (rm (rt (rt (rt (ro (zy HO294 BK299) hb) (rb ho0)) (rb ho1)) (rb ho2)) (fun _ h_ => h_.1)); replace HO297 := Z0 (rm (rt (rt (rt (ro (zy HO297 BK299) hb) (rb ho0)) (rb ho1)) (rb ho2)) (fun _ h_ => h_.1)); replace BK273 := Z0 (kb (g := gb273) (o := .cells #[.slice Ao27 y270.length co27, .slice none 0 0] 25 (0, 0)) (by (with_reducible repeat (first | refine kn ?_ _ | refine kd_ ?_ | refine ka ?_ _)); refine blk_far ?_ NB273_299.out _; (with_reducible repeat (first | refine kn ?_ _ | refine kd_ ?_ | refine ka ?_ _)); refine blk_far ?_ NB273_299.out _; (with_reducible repeat (first | refine kn ?_ _ | refine kd_ ?_ | refine ka ?_ _)); exact BK273.out) hb); replace BK291 := Z0 (kb (g := gb291) (o := .cells #[.slice Ao40 t284.length co40, .slice Ao43 t287.length co43] 27 (0, 0)) (by (with_reducible repeat (first | refine kn ?_ _ | refine kd_ ?_ | refine ka ?_ _)); refine blk_far ?_ NB291_299.out _; (with_reducible repeat (first | refine kn ?_ _ | refine kd_ ?_ | refine ka ?_ _)); refine blk_far ?_ NB291_299.out _; (with_reducible repeat (first | refine kn ?_ _ | refine kd_ ?_ | refine ka ?_ _)); exact BK291.out) hb); replace BK299 := Z0 (kb (g := gb299) (o := .cells #[.slice Ao47 t292.length co47, .slice Ao51 t295.length co51] 27 (0, 0)) (by (with_reducible repeat (first | refine kn ?_ _ | refine kd_ ?_ | refine ka ?_ _)); refine blk_put (cs := #[.slice Ao47 t292.length co47, .slice none 0 0]) ?_ 1 _ rfl; (with_reducible repeat (first | refine kn ?_ _ | refine kd_ ?_ | refine ka ?_ _)); refine blk_put (cs := #[.slice none 0 0, .slice none 0 0]) ?_ 0 _ rfl; (with_reducible repeat (first | refine kn ?_ _ | refine kd_ ?_ | refine ka ?_ _)); exact BK299.out) hb); replace HB := Z0 (below_step (zb HB) hb); (try clear hb); (try clear hb2); (try clear hk); (try clear hi); (try clear ho0); (try clear ho1); (try clear ho2)) | ((with_reducible refine gate_dst (N := 8) rfl ?_); (try (refine gate_guard (by rfl) ?_; dsimp only)); refine zx (N := 8) #[.slice none 0 0, .slice none 0 0] 27 ?_; intro gb310 hg w54 hbox hb; replace HO272 := Z0 (rbe (zr HO272) hb); replace HO276 := Z0 (rbe (zr HO276) hb); replace HO279 := Z0 (Kd.N_below (Kd.N_elderB (zn HO279) gb310 (Nat.le_of_eq hg.symm)) hb); replace HO283 := Z0 (rbe (zr HO283) hb); replace HO286 := Z0 (rbe (zr HO286) hb); replace HO289 := Z0 (rbe (zr HO289) hb); replace HO294 := Z0 (rbe (zr HO294) hb); replace HO297 := Z0 (rbe (zr HO297) hb); replace HO302 := Z0 (rbe (zr HO302) hb); replace HO305 := Z0 (rbe (zr HO305) hb); replace HO308 := Z0 (rbe (zr HO308) hb); have BK310 := Z0 (hbox); have GW310 := Z0 (zh w hg HB); have GE310 := Z0 (zh w hg HB); replace HB := Z0 (below_step (zb HB) hb); have NB273_310 := Z0 (zl hg BK273); have NB310_273 := Z0 (zu hg BK273); replace BK273 := Z0 (zkb BK273 hb); have NB291_310 := Z0 (zl hg BK291); have NB310_291 := Z0 (zu hg BK291); replace BK291 := Z0 (zkb BK291 hb); have NB299_310 := Z0 (zl hg BK299); have NB310_299 := Z0 (zu hg BK299); replace BK299 := Z0 (zkb BK299 hb); clear hb hbox hg; obtain ⟨Ao55, co55, eo55⟩ := Kd.R_slice HO302.out; subst eo55; have hnb56 := NB310_273.out; have hnc56 := NB273_310.out; have hnb57 := NB310_291.out; have hnc57 := NB291_310.out; have hnb58 := NB310_299.out; have hnc58 := NB299_310.out; have hcz59_0 := kz0 BK310; have hcz59_1 := kz1 BK310; have hfz59_0 := blk_frozen BK310.out 0; have hfz59_1 := blk_frozen BK310.out 1; obtain ⟨Ao60, co60, eo60⟩ := Kd.R_slice HO305.out; subst eo60) | ((with_reducible refine gate_dst (N := 42) rfl ?_); (try (refine gate_guard (by rfl) ?_; dsimp only)); refine zz (N := 42) 3 [0, 1] Ny311 (zo 0 (zo 1 (Reps.none _ _))) ?_; intro v312 w61 ho62 hb; replace HO279 := Z0 (Kd.N_elder' (by (with_reducible repeat (first | apply Kd.N_alloc | apply Kd.N_drewN | apply Kd.N_drew)); exact (Kd.N_mono (Kd.N_far (p := ⟨gb310, 1, none⟩) (Kd.N_far (p := ⟨gb310, 0, none⟩) (Kd.N_mono HO279.out (fun k_ hk => (⟨hk, hk.2⟩ : _ ∧ k_ ≠ gb310))) (fun _ hk => hk.2) (.slice Ao55 t300.length co55)) (fun _ hk => hk.2) (.slice Ao60 t303.length co60)) (fun _ h_ => h_.1))) (rb ho62) hb); have HO313 := Z0 (rl (rw_ (rw_ (rw_ (rw_ (rw_ (rw_ (rw_ (rw_ (rw_ (rw_ ho62 (rlt (zy HO272 BK310))) (rlt (zy HO276 BK310))) (rlt (zy HO283 BK310))) (rlt (zy HO286 BK310))) (rlt (zy HO289 BK310))) (rlt (zy HO294 BK310))) (rlt (zy HO297 BK310))) (rlt (zy HO302 BK310))) (rlt (zy HO305 BK310))) (rlt (zy HO308 BK310))) (below_size (zb HB))); replace HO272 := Z0 (Kd.R_elder' (zy HO272 BK310) (rb ho62) hb); replace HO276 := Z0 (Kd.R_elder' (zy HO276 BK310) (rb ho62) hb); replace HO283 := Z0 (Kd.R_elder' (zy HO283 BK310) (rb ho62) hb); replace HO286 := Z0 (Kd.R_elder' (zy HO286 BK310) (rb ho62) hb); replace HO289 := Z0 (Kd.R_elder' (zy HO289 BK310) (rb ho62) hb); replace HO294 := Z0 (Kd.R_elder' (zy HO294 BK310) (rb ho62) hb); replace HO297 := Z0 (Kd.R_elder' (zy HO297 BK310) (rb ho62) hb); replace HO302 := Z0 (Kd.R_elder' (zy HO302 BK310) (rb ho62) hb); replace HO305 := Z0 (Kd.R_elder' (zy HO305 BK310) (rb ho62) hb); replace HO308 := Z0 (Kd.R_elder' (zy HO308 BK310) (rb ho62) hb); replace BK273 := Z0 (kb (g := gb273) (o := .cells #[.slice Ao27 y270.length co27, .slice none 0 0] 25 (0, 0)) (by (with_reducible repeat (first | refine kn ?_ _ | refine kd_ ?_ | refine ka ?_ _)); refine blk_far ?_ NB273_310.out _; (with_reducible repeat (first | refine kn ?_ _ | refine kd_ ?_ | refine ka ?_ _)); refine blk_far ?_ NB273_310.out _; (with_reducible repeat (first | refine kn ?_ _ | refine kd_ ?_ | refine ka ?_ _)); exact BK273.out) hb); replace BK291 := Z0 (kb (g := gb291) (o := .cells #[.slice Ao40 t284.length co40, .slice Ao43 t287.length co43] 27 (0, 0)) (by (with_reducible repeat (first | refine kn ?_ _ | refine kd_ ?_ | refine ka ?_ _)); refine blk_far ?_ NB291_310.out _; (with_reducible repeat (first | refine kn ?_ _ | refine kd_ ?_ | refine ka ?_ _)); refine blk_far ?_ NB291_310.out _; (with_reducible repeat (first | refine kn ?_ _ | refine kd_ ?_ | refine ka ?_ _)); exact BK291.out) hb); replace BK299 := Z0 (kb (g := gb299) (o := .cells #[.slice Ao47 t292.length co47, .slice Ao51 t295.length co51] 27 (0, 0)) (by (with_reducible repeat (first | refine kn ?_ _ | refine kd_ ?_ | refine ka ?_ _)); refine blk_far ?_ NB299_310.out _; (with_reducible repeat (first | refine kn ?_ _ | refine kd_ ?_ | refine ka ?_ _)); refine blk_far ?_ NB299_310.out _; (with_reducible repeat (first | refine kn ?_ _ | refine kd_ ?_ | refine ka ?_ _)); exact BK299.out) hb); replace BK310 := Z0 (kb (g := gb310) (o := .cells #[.slice Ao55 t300.length co55, .slice Ao60 t303.length co60] 27 (0, 0)) (by (with_reducible repeat (first | refine kn ?_ _ | refine kd_ ?_ | refine ka ?_ _)); refine blk_put (cs := #[.slice Ao55 t300.length co55, .slice none 0 0]) ?_ 1 _ rfl; (with_reducible repeat (first | refine kn ?_ _ | refine kd_ ?_ | refine ka ?_ _)); refine blk_put (cs := #[.slice none 0 0, .slice none 0 0]) ?_ 0 _ rfl; (with_reducible repeat (first | refine kn ?_ _ | refine kd_ ?_ | refine ka ?_ _)); exact BK310.out) hb); replace HB := Z0 (below_step (zb HB) hb); clear hb ho62) | ((with_reducible refine gate_dst (N := 43) rfl ?_); (try (refine gate_guard (by rfl) ?_; dsimp only)); refine zz (N := 43) 3 [0, 2] Ny314 (zo 0 (zo 2 (Reps.none _ _))) ?_; intro v315 w63 ho64 hb; replace HO279 := Z0 (Kd.N_elder' (zn HO279) (rb ho64) hb); have HO316 := Z0 (rl (rw_ (rw_ (rw_ (rw_ (rw_ (rw_ (rw_ (rw_ (rw_ (rw_ (rw_ ho64 (rlt (zr HO272))) (rlt (zr HO276))) (rlt (zr HO283))) (rlt (zr HO286))) (rlt (zr HO289))) (rlt (zr HO294))) (rlt (zr HO297))) (rlt (zr HO302))) (rlt (zr HO305))) (rlt (zr HO308))) (rlt (zr HO313))) (below_size (zb HB))); replace HO272 := Z0 (Kd.R_elder' (zr HO272) (rb ho64) hb); replace HO276 := Z0 (Kd.R_elder' (zr HO276) (rb ho64) hb); replace HO283 := Z0 (Kd.R_elder' (zr HO283) (rb ho64) hb); replace HO286 := Z0 (Kd.R_elder' (zr HO286) (rb ho64) hb); replace HO289 := Z0 (Kd.R_elder' (zr HO289) (rb ho64) hb); replace HO294 := Z0 (Kd.R_elder' (zr HO294) (rb ho64) hb); replace HO297 := Z0 (Kd.R_elder' (zr HO297) (rb ho64) hb); replace HO302 := Z0 (Kd.R_elder' (zr HO302) (rb ho64) hb); replace HO305 := Z0 (Kd.R_elder' (zr HO305) (rb ho64) hb); replace HO308 := Z0 (Kd.R_elder' (zr HO308) (rb ho64) hb); replace HO313 := Z0 (Kd.R_elder' (zr HO313) (rb ho64) hb); replace BK273 := Z0 (zkb BK273 hb); replace BK291 := Z0 (zkb BK291 hb); replace BK299 := Z0 (zkb BK299 hb); replace BK310 := Z0 (zkb BK310 hb); replace HB := Z0 (below_step (zb HB) hb); clear hb ho64) | ((with_reducible refine gate_dst (N := 44) rfl ?_); (try (refine gate_guard (by rfl) ?_; dsimp only)); refine zz (N := 44) 3 [0, (-1)] Ny317 (zo 0 (zo (-1) (Reps.none _ _))) ?_; intro v318 w65 ho66 hb; replace HO279 := Z0 (Kd.N_elder' (zn HO279) (rb ho66) hb); have HO319 := Z0 (rl (rw_ (rw_ (rw_ (rw_ (rw_ (rw_ (rw_ (rw_ (rw_ (rw_ (rw_ (rw_ ho66 (rlt (zr HO272))) (rlt (zr HO276))) (rlt (zr HO283))) (rlt (zr HO286))) (rlt (zr HO289))) (rlt (zr HO294))) (rlt (zr HO297))) (rlt (zr HO302))) (rlt (zr HO305))) (rlt (zr HO308))) (rlt (zr HO313))) (rlt (zr HO316))) (below_size (zb HB))); replace HO272 := Z0 (Kd.R_elder' (zr HO272) (rb ho66) hb); replace HO276 := Z0 (Kd.R_elder' (zr HO276) (rb ho66) hb); replace HO283 := Z0 (Kd.R_elder' (zr HO283) (rb ho66) hb); replace HO286 := Z0 (Kd.R_elder' (zr HO286) (rb ho66) hb); replace HO289 := Z0 (Kd.R_elder' (zr HO289) (rb ho66) hb); replace HO294 := Z0 (Kd.R_elder' (zr HO294) (rb ho66) hb); replace HO297 := Z0 (Kd.R_elder' (zr HO297) (rb ho66) hb); replace HO302 := Z0 (Kd.R_elder' (zr HO302) (rb ho66) hb); replace HO305 := Z0 (Kd.R_elder' (zr HO305) (rb ho66) hb); replace HO308 := Z0 (Kd.R_elder' (zr HO308) (rb ho66) hb); replace HO313 := Z0 (Kd.R_elder' (zr HO313) (rb ho66) hb); replace HO316 := Z0 (Kd.R_elder' (zr HO316) (rb ho66) hb); replace BK273 := Z0 (zkb BK273 hb); replace BK291 := Z0 (zkb BK291 hb); replace BK299 := Z0 (zkb BK299 hb); replace BK310 := Z0 (zkb BK310 hb); replace HB := Z0 (below_step (zb HB) hb); clear hb ho66; obtain ⟨Ao67, co67, eo67⟩ := Kd.R_slice HO313.out; subst eo67; obtain ⟨Ao68, co68, eo68⟩ := Kd.R_slice HO316.out; subst eo68; obtain ⟨Ao69, co69, eo69⟩ := Kd.R_slice HO319.out; subst eo69) | ((with_reducible refine gate_dst (N := 45) rfl ?_); (try (refine gate_guard (by rfl) ?_; dsimp only)); refine Kd.N_lit (Kd.slice 3 (Kd.int .i64)) _ 22 ?hg (N' := 45) ?hd (xs := ([y311, y314, y317] : List (List Int))) (inner := [.slice Ao67 y311.length co67, .slice Ao68 y314.length co68, .slice Ao69 y317.length co69]) (ok := (fun k_ => some k_ ≠ (.slice Ao27 y270.length co27 : Value).ownBlock ∧ some k_ ≠ (.slice Ao32 y274.length co32 : Value).ownBlock ∧ some k_ ≠ (v278 : Value).ownBlock ∧ some k_ ≠ (.slice Ao37 y281.length co37 : Value).ownBlock ∧ some k_ ≠ (.slice Ao40 t284.length co40 : Value).ownBlock ∧ some k_ ≠ (.slice Ao43 t287.length co43 : Value).ownBlock ∧ some k_ ≠ (.slice Ao47 t292.length co47 : Value).ownBlock ∧ some k_ ≠ (.slice Ao51 t295.length co51 : Value).ownBlock ∧ some k_ ≠ (.slice Ao55 t300.length co55 : Value).ownBlock ∧ some k_ ≠ (.slice Ao60 t303.length co60 : Value).ownBlock ∧ some k_ ≠ (v307 : Value).ownBlock ∧ k_ ≠ gb273 ∧ k_ ≠ gb291 ∧ k_ ≠ gb299 ∧ k_ ≠ gb310)) (okp := (fun k_ => some k_ ≠ (.slice Ao27 y270.length co27 : Value).ownBlock ∧ some k_ ≠ (.slice Ao32 y274.length co32 : Value).ownBlock ∧ some k_ ≠ (v278 : Value).ownBlock ∧ some k_ ≠ (.slice Ao37 y281.length co37 : Value).ownBlock ∧ some k_ ≠ (.slice Ao40 t284.length co40 : Value).ownBlock ∧ some k_ ≠ (.slice Ao43 t287.length co43 : Value).ownBlock ∧ some k_ ≠ (.slice Ao47 t292.length co47 : Value).ownBlock ∧ some k_ ≠ (.slice Ao51 t295.length co51 : Value).ownBlock ∧ some k_ ≠ (.slice Ao55 t300.length co55 : Value).ownBlock ∧ some k_ ≠ (.slice Ao60 t303.length co60 : Value).ownBlock ∧ some k_ ≠ (v307 : Value).ownBlock ∧ k_ ≠ gb273 ∧ k_ ≠ gb291 ∧ k_ ≠ gb299 ∧ k_ ≠ gb310)) ?hr ?hp (fun _ hk => hk) ((show ∀ k_, w65.heap.size ≤ k_ → (fun k_ => some k_ ≠ (.slice Ao27 y270.length co27 : Value).ownBlock ∧ some k_ ≠ (.slice Ao32 y274.length co32 : Value).ownBlock ∧ some k_ ≠ (v278 : Value).ownBlock ∧ some k_ ≠ (.slice Ao37 y281.length co37 : Value).ownBlock ∧ some k_ ≠ (.slice Ao40 t284.length co40 : Value).ownBlock ∧ some k_ ≠ (.slice Ao43 t287.length co43 : Value).ownBlock ∧ some k_ ≠ (.slice Ao47 t292.length co47 : Value).ownBlock ∧ some k_ ≠ (.slice Ao51 t295.length co51 : Value).ownBlock ∧ some k_ ≠ (.slice Ao55 t300.length co55 : Value).ownBlock ∧ some k_ ≠ (.slice Ao60 t303.length co60 : Value).ownBlock ∧ some k_ ≠ (v307 : Value).ownBlock ∧ k_ ≠ gb273 ∧ k_ ≠ gb291 ∧ k_ ≠ gb299 ∧ k_ ≠ gb310) k_ from fun k_ hk => ⟨Kd.fresh' (rlt (zr HO272)) k_ hk, Kd.fresh' (rlt (zr HO276)) k_ hk, Kd.fresh' (Kd.N_lt (zn HO279)) k_ hk, Kd.fresh' (rlt (zr HO283)) k_ hk, Kd.fresh' (rlt (zr HO286)) k_ hk, Kd.fresh' (rlt (zr HO289)) k_ hk, Kd.fresh' (rlt (zr HO294)) k_ hk, Kd.fresh' (rlt (zr HO297)) k_ hk, Kd.fresh' (rlt (zr HO302)) k_ hk, Kd.fresh' (rlt (zr HO305)) k_ hk, Kd.fresh' (rlt (zr HO308)) k_ hk, Kd.freshB (g := gb273) (o := .cells #[.slice Ao27 y270.length co27, .slice none 0 0] 25 (0, 0)) (zk BK273) k_ hk, Kd.freshB (g := gb291) (o := .cells #[.slice Ao40 t284.length co40, .slice Ao43 t287.length co43] 27 (0, 0)) (zk BK291) k_ hk, Kd.freshB (g := gb299) (o := .cells #[.slice Ao47 t292.length co47, .slice Ao51 t295.length co51] 27 (0, 0)) (zk BK299) k_ hk, Kd.freshB (g := gb310) (o := .cells #[.slice Ao55 t300.length co55, .slice Ao60 t303.length co60] 27 (0, 0)) (zk BK310) k_ hk⟩) _ (Nat.le_refl _)) (Below.refl _ _) (Nat.le_refl _) (by simp) ?_; (case hd => rfl); (case hg => rfl); (case hr => first | (go_simp; done) | (go_simp; rfl)); (case hp => exact (Reps.one (show Kd.FK (Kd.slice 3 (Kd.int .i64)) _ _ y311 [.slice Ao67 y311.length co67] from (Kd.FK_slice_mk (rr (rm (ok' := (fun k_ => some k_ ≠ (.slice Ao27 y270.length co27 : Value).ownBlock ∧ some k_ ≠ (.slice Ao32 y274.length co32 : Value).ownBlock ∧ some k_ ≠ (v278 : Value).ownBlock ∧ some k_ ≠ (.slice Ao37 y281.length co37 : Value).ownBlock ∧ some k_ ≠ (.slice Ao40 t284.length co40 : Value).ownBlock ∧ some k_ ≠ (.slice Ao43 t287.length co43 : Value).ownBlock ∧ some k_ ≠ (.slice Ao47 t292.length co47 : Value).ownBlock ∧ some k_ ≠ (.slice Ao51 t295.length co51 : Value).ownBlock ∧ some k_ ≠ (.slice Ao55 t300.length co55 : Value).ownBlock ∧ some k_ ≠ (.slice Ao60 t303.length co60 : Value).ownBlock ∧ some k_ ≠ (v307 : Value).ownBlock ∧ k_ ≠ gb273 ∧ k_ ≠ gb291 ∧ k_ ≠ gb299 ∧ k_ ≠ gb310)) (Kd.R_types (Kd.R_types (Kd.R_types (Kd.R_types (Kd.R_apart' (HO313.out) (Kd.N_typed HO279.out) (by decide)) BK273.out (by decide)) BK291.out (by decide)) BK299.out (by decide)) BK310.out (by decide)) (fun k_ hk => ⟨hk.1.1.1.1.1.1.1.1.1.1.1.1.1.1.1.1.2, ⟨hk.1.1.1.1.1.1.1.1.1.1.1.1.1.1.1.2, ⟨hk.1.1.1.1.2, ⟨hk.1.1.1.1.1.1.1.1.1.1.1.1.1.1.2, ⟨hk.1.1.1.1.1.1.1.1.1.1.1.1.1.2, ⟨hk.1.1.1.1.1.1.1.1.1.1.1.1.2, ⟨hk.1.1.1.1.1.1.1.1.1.1.1.2, ⟨hk.1.1.1.1.1.1.1.1.1.1.2, ⟨hk.1.1.1.1.1.1.1.1.1.2, ⟨hk.1.1.1.1.1.1.1.1.2, ⟨hk.1.1.1.1.1.1.1.2, ⟨hk.1.1.1.2, ⟨hk.1.1.2, ⟨hk.1.2, hk.2⟩⟩⟩⟩⟩⟩⟩⟩⟩⟩⟩⟩⟩⟩))).2.1 (Kd.R_F (rm (ok' := (fun k_ => some k_ ≠ (.slice Ao27 y270.length co27 : Value).ownBlock ∧ some k_ ≠ (.slice Ao32 y274.length co32 : Value).ownBlock ∧ some k_ ≠ (v278 : Value).ownBlock ∧ some k_ ≠ (.slice Ao37 y281.length co37 : Value).ownBlock ∧ some k_ ≠ (.slice Ao40 t284.length co40 : Value).ownBlock ∧ some k_ ≠ (.slice Ao43 t287.length co43 : Value).ownBlock ∧ some k_ ≠ (.slice Ao47 t292.length co47 : Value).ownBlock ∧ some k_ ≠ (.slice Ao51 t295.length co51 : Value).ownBlock ∧ some k_ ≠ (.slice Ao55 t300.length co55 : Value).ownBlock ∧ some k_ ≠ (.slice Ao60 t303.length co60 : Value).ownBlock ∧ some k_ ≠ (v307 : Value).ownBlock ∧ k_ ≠ gb273 ∧ k_ ≠ gb291 ∧ k_ ≠ gb299 ∧ k_ ≠ gb310)) (Kd.R_types (Kd.R_types (Kd.R_types (Kd.R_types (Kd.R_apart' (HO313.out) (Kd.N_typed HO279.out) (by decide)) BK273.out (by decide)) BK291.out (by decide)) BK299.out (by decide)) BK310.out (by decide)) (fun k_ hk => ⟨hk.1.1.1.1.1.1.1.1.1.1.1.1.1.1.1.1.2, ⟨hk.1.1.1.1.1.1.1.1.1.1.1.1.1.1.1.2, ⟨hk.1.1.1.1.2, ⟨hk.1.1.1.1.1.1.1.1.1.1.1.1.1.1.2, ⟨hk.1.1.1.1.1.1.1.1.1.1.1.1.1.2, ⟨hk.1.1.1.1.1.1.1.1.1.1.1.1.2, ⟨hk.1.1.1.1.1.1.1.1.1.1.1.2, ⟨hk.1.1.1.1.1.1.1.1.1.1.2, ⟨hk.1.1.1.1.1.1.1.1.1.2, ⟨hk.1.1.1.1.1.1.1.1.2, ⟨hk.1.1.1.1.1.1.1.2, ⟨hk.1.1.1.2, ⟨hk.1.1.2, ⟨hk.1.2, hk.2⟩⟩⟩⟩⟩⟩⟩⟩⟩⟩⟩⟩⟩⟩))))) (Reps.one (show Kd.FK (Kd.slice 3 (Kd.int .i64)) _ _ y314 [.slice Ao68 y314.length co68] from (Kd.FK_slice_mk (rr (rm (ok' := (fun k_ => some k_ ≠ (.slice Ao27 y270.length co27 : Value).ownBlock ∧ some k_ ≠ (.slice Ao32 y274.length co32 : Value).ownBlock ∧ some k_ ≠ (v278 : Value).ownBlock ∧ some k_ ≠ (.slice Ao37 y281.length co37 : Value).ownBlock ∧ some k_ ≠ (.slice Ao40 t284.length co40 : Value).ownBlock ∧ some k_ ≠ (.slice Ao43 t287.length co43 : Value).ownBlock ∧ some k_ ≠ (.slice Ao47 t292.length co47 : Value).ownBlock ∧ some k_ ≠ (.slice Ao51 t295.length co51 : Value).ownBlock ∧ some k_ ≠ (.slice Ao55 t300.length co55 : Value).ownBlock ∧ some k_ ≠ (.slice Ao60 t303.length co60 : Value).ownBlock ∧ some k_ ≠ (v307 : Value).ownBlock ∧ k_ ≠ gb273 ∧ k_ ≠ gb291 ∧ k_ ≠ gb299 ∧ k_ ≠ gb310)) (Kd.R_types (Kd.R_types (Kd.R_types (Kd.R_types (Kd.R_apart' (HO316.out) (Kd.N_typed HO279.out) (by decide)) BK273.out (by decide)) BK291.out (by decide)) BK299.out (by decide)) BK310.out (by decide)) (fun k_ hk => ⟨hk.1.1.1.1.1.1.1.1.1.1.1.1.1.1.1.1.2, ⟨hk.1.1.1.1.1.1.1.1.1.1.1.1.1.1.1.2, ⟨hk.1.1.1.1.2, ⟨hk.1.1.1.1.1.1.1.1.1.1.1.1.1.1.2, ⟨hk.1.1.1.1.1.1.1.1.1.1.1.1.1.2, ⟨hk.1.1.1.1.1.1.1.1.1.1.1.1.2, ⟨hk.1.1.1.1.1.1.1.1.1.1.1.2, ⟨hk.1.1.1.1.1.1.1.1.1.1.2, ⟨hk.1.1.1.1.1.1.1.1.1.2, ⟨hk.1.1.1.1.1.1.1.1.2, ⟨hk.1.1.1.1.1.1.1.2, ⟨hk.1.1.1.2, ⟨hk.1.1.2, ⟨hk.1.2, hk.2⟩⟩⟩⟩⟩⟩⟩⟩⟩⟩⟩⟩⟩⟩))).2.1 (Kd.R_F (rm (ok' := (fun k_ => some k_ ≠ (.slice Ao27 y270.length co27 : Value).ownBlock ∧ some k_ ≠ (.slice Ao32 y274.length co32 : Value).ownBlock ∧ some k_ ≠ (v278 : Value).ownBlock ∧ some k_ ≠ (.slice Ao37 y281.length co37 : Value).ownBlock ∧ some k_ ≠ (.slice Ao40 t284.length co40 : Value).ownBlock ∧ some k_ ≠ (.slice Ao43 t287.length co43 : Value).ownBlock ∧ some k_ ≠ (.slice Ao47 t292.length co47 : Value).ownBlock ∧ some k_ ≠ (.slice Ao51 t295.length co51 : Value).ownBlock ∧ some k_ ≠ (.slice Ao55 t300.length co55 : Value).ownBlock ∧ some k_ ≠ (.slice Ao60 t303.length co60 : Value).ownBlock ∧ some k_ ≠ (v307 : Value).ownBlock ∧ k_ ≠ gb273 ∧ k_ ≠ gb291 ∧ k_ ≠ gb299 ∧ k_ ≠ gb310)) (Kd.R_types (Kd.R_types (Kd.R_types (Kd.R_types (Kd.R_apart' (HO316.out) (Kd.N_typed HO279.out) (by decide)) BK273.out (by decide)) BK291.out (by decide)) BK299.out (by decide)) BK310.out (by decide)) (fun k_ hk => ⟨hk.1.1.1.1.1.1.1.1.1.1.1.1.1.1.1.1.2, ⟨hk.1.1.1.1.1.1.1.1.1.1.1.1.1.1.1.2, ⟨hk.1.1.1.1.2, ⟨hk.1.1.1.1.1.1.1.1.1.1.1.1.1.1.2, ⟨hk.1.1.1.1.1.1.1.1.1.1.1.1.1.2, ⟨hk.1.1.1.1.1.1.1.1.1.1.1.1.2, ⟨hk.1.1.1.1.1.1.1.1.1.1.1.2, ⟨hk.1.1.1.1.1.1.1.1.1.1.2, ⟨hk.1.1.1.1.1.1.1.1.1.2, ⟨hk.1.1.1.1.1.1.1.1.2, ⟨hk.1.1.1.1.1.1.1.2, ⟨hk.1.1.1.2, ⟨hk.1.1.2, ⟨hk.1.2, hk.2⟩⟩⟩⟩⟩⟩⟩⟩⟩⟩⟩⟩⟩⟩))))) (Reps.one (show Kd.FK (Kd.slice 3 (Kd.int .i64)) _ _ y317 [.slice Ao69 y317.length co69] from (Kd.FK_slice_mk (rr (rm (ok' := (fun k_ => some k_ ≠ (.slice Ao27 y270.length co27 : Value).ownBlock ∧ some k_ ≠ (.slice Ao32 y274.length co32 : Value).ownBlock ∧ some k_ ≠ (v278 : Value).ownBlock ∧ some k_ ≠ (.slice Ao37 y281.length co37 : Value).ownBlock ∧ some k_ ≠ (.slice Ao40 t284.length co40 : Value).ownBlock ∧ some k_ ≠ (.slice Ao43 t287.length co43 : Value).ownBlock ∧ some k_ ≠ (.slice Ao47 t292.length co47 : Value).ownBlock ∧ some k_ ≠ (.slice Ao51 t295.length co51 : Value).ownBlock ∧ some k_ ≠ (.slice Ao55 t300.length co55 : Value).ownBlock ∧ some k_ ≠ (.slice Ao60 t303.length co60 : Value).ownBlock ∧ some k_ ≠ (v307 : Value).ownBlock ∧ k_ ≠ gb273 ∧ k_ ≠ gb291 ∧ k_ ≠ gb299 ∧ k_ ≠ gb310)) (Kd.R_types (Kd.R_types (Kd.R_types (Kd.R_types (Kd.R_apart' (HO319.out) (Kd.N_typed HO279.out) (by decide)) BK273.out (by decide)) BK291.out (by decide)) BK299.out (by decide)) BK310.out (by decide)) (fun k_ hk => ⟨hk.1.1.1.1.1.1.1.1.1.1.1.1.1.1.1.1.2, ⟨hk.1.1.1.1.1.1.1.1.1.1.1.1.1.1.1.2, ⟨hk.1.1.1.1.2, ⟨hk.1.1.1.1.1.1.1.1.1.1.1.1.1.1.2, ⟨hk.1.1.1.1.1.1.1.1.1.1.1.1.1.2, ⟨hk.1.1.1.1.1.1.1.1.1.1.1.1.2, ⟨hk.1.1.1.1.1.1.1.1.1.1.1.2, ⟨hk.1.1.1.1.1.1.1.1.1.1.2, ⟨hk.1.1.1.1.1.1.1.1.1.2, ⟨hk.1.1.1.1.1.1.1.1.2, ⟨hk.1.1.1.1.1.1.1.2, ⟨hk.1.1.1.2, ⟨hk.1.1.2, ⟨hk.1.2, hk.2⟩⟩⟩⟩⟩⟩⟩⟩⟩⟩⟩⟩⟩⟩))).2.1 (Kd.R_F (rm (ok' := (fun k_ => some k_ ≠ (.slice Ao27 y270.length co27 : Value).ownBlock ∧ some k_ ≠ (.slice Ao32 y274.length co32 : Value).ownBlock ∧ some k_ ≠ (v278 : Value).ownBlock ∧ some k_ ≠ (.slice Ao37 y281.length co37 : Value).ownBlock ∧ some k_ ≠ (.slice Ao40 t284.length co40 : Value).ownBlock ∧ some k_ ≠ (.slice Ao43 t287.length co43 : Value).ownBlock ∧ some k_ ≠ (.slice Ao47 t292.length co47 : Value).ownBlock ∧ some k_ ≠ (.slice Ao51 t295.length co51 : Value).ownBlock ∧ some k_ ≠ (.slice Ao55 t300.length co55 : Value).ownBlock ∧ some k_ ≠ (.slice Ao60 t303.length co60 : Value).ownBlock ∧ some k_ ≠ (v307 : Value).ownBlock ∧ k_ ≠ gb273 ∧ k_ ≠ gb291 ∧ k_ ≠ gb299 ∧ k_ ≠ gb310)) (Kd.R_types (Kd.R_types (Kd.R_types (Kd.R_types (Kd.R_apart' (HO319.out) (Kd.N_typed HO279.out) (by decide)) BK273.out (by decide)) BK291.out (by decide)) BK299.out (by decide)) BK310.out (by decide)) (fun k_ hk => ⟨hk.1.1.1.1.1.1.1.1.1.1.1.1.1.1.1.1.2, ⟨hk.1.1.1.1.1.1.1.1.1.1.1.1.1.1.1.2, ⟨hk.1.1.1.1.2, ⟨hk.1.1.1.1.1.1.1.1.1.1.1.1.1.1.2, ⟨hk.1.1.1.1.1.1.1.1.1.1.1.1.1.2, ⟨hk.1.1.1.1.1.1.1.1.1.1.1.1.2, ⟨hk.1.1.1.1.1.1.1.1.1.1.1.2, ⟨hk.1.1.1.1.1.1.1.1.1.1.2, ⟨hk.1.1.1.1.1.1.1.1.1.2, ⟨hk.1.1.1.1.1.1.1.1.2, ⟨hk.1.1.1.1.1.1.1.2, ⟨hk.1.1.1.2, ⟨hk.1.1.2, ⟨hk.1.2, hk.2⟩⟩⟩⟩⟩⟩⟩⟩⟩⟩⟩⟩⟩⟩))))) (Reps.none _ _))))); intro v321 w70 ho71 hb hg_ hnew_; clear hg_ hnew_; (first | rw [← Ny320.out] at ho71 | (simp only [Int.reduceToNat] at ho71; rw [← Ny320.out] at ho71)); replace HO272 := Z0 (rbe (zr HO272) hb); replace HO276 := Z0 (rbe (zr HO276) hb); replace HO279 := Z0 (Kd.N_elder' (zn HO279) (Kd.N_base ho71) hb); replace HO283 := Z0 (rbe (zr HO283) hb); replace HO286 := Z0 (rbe (zr HO286) hb); replace HO289 := Z0 (rbe (zr HO289) hb); replace HO294 := Z0 (rbe (zr HO294) hb); replace HO297 := Z0 (rbe (zr HO297) hb); replace HO302 := Z0 (rbe (zr HO302) hb); replace HO305 := Z0 (rbe (zr HO305) hb); replace HO308 := Z0 (rbe (zr HO308) hb); have HO322 := Z0 (Kd.N_lower ho71 (below_size (zb HB))); replace BK273 := Z0 (zkb BK273 hb); replace BK291 := Z0 (zkb BK291 hb); replace BK299 := Z0 (zkb BK299 hb); replace BK310 := Z0 (zkb BK310 hb); replace HB := Z0 (below_step (zb HB) hb); clear HO313 HO316 HO319; clear hb ho71; obtain ⟨Ao72, co72, eo72⟩ := Kd.N_slice HO279.out; subst eo72; obtain ⟨Ao73, co73, eo73⟩ := Kd.N_slice HO322.out; subst eo73) | (go_at_call 30; (with_reducible refine (trefoilref11_SameTrace.calls k _ _ t277 _ _ y320 true _ ?side1 ?side2 ?side3 ?side4 A6.out).mono ?_); (case side1 => repeat (first | exact (Kd.N_reads' HO279.out).2.2 | (with_reducible refine Kd.C_alloc ?_ _) | (with_reducible refine Kd.C_drewN ?_ _) | (with_reducible refine Kd.C_drew ?_))); (case side2 => exact (Kd.N_reads' HO279.out).2.1); (case side3 => repeat (first | exact (Kd.N_reads' HO322.out).2.2 | (with_reducible refine Kd.C_alloc ?_ _) | (with_reducible refine Kd.C_drewN ?_ _) | (with_reducible refine Kd.C_drew ?_))); (case side4 => exact (Kd.N_reads' HO322.out).2.1); rintro e w' ⟨rfl, ⟨nd, rfl⟩⟩; have hcz74_0 := kz0 BK299; have hcz74_1 := kz1 BK299; have hfz74_0 := blk_frozen BK299.out 0; have hfz74_1 := blk_frozen BK299.out 1) | ((with_reducible refine gate_dst (N := 59) rfl ?_); (try (refine gate_guard (by rfl) ?_; dsimp only)); refine zz (N := 59) 3 [0, 1] Ny324 (zo 0 (zo 1 (Reps.none _ _))) ?_; intro v325 w75 ho76 hb; replace HO279 := Z0 (Kd.N_elder' (zn HO279) (rb ho76) hb); replace HO322 := Z0 (Kd.N_elder' (zn HO322) (rb ho76) hb); have HO326 := Z0 (rl (rw_ (rw_ (rw_ (rw_ (rw_ (rw_ (rw_ (rw_ (rw_ (rw_ ho76 (rlt (zr HO272))) (rlt (zr HO276))) (rlt (zr HO283))) (rlt (zr HO286))) (rlt (zr HO289))) (rlt (zr HO294))) (rlt (zr HO297))) (rlt (zr HO302))) (rlt (zr HO305))) (rlt (zr HO308))) (below_size (zb HB))); replace HO272 := Z0 (Kd.R_elder' (zr HO272) (rb ho76) hb); replace HO276 := Z0 (Kd.R_elder' (zr HO276) (rb ho76) hb); replace HO283 := Z0 (Kd.R_elder' (zr HO283) (rb ho76) hb); replace HO286 := Z0 (Kd.R_elder' (zr HO286) (rb ho76) hb); replace HO289 := Z0 (Kd.R_elder' (zr HO289) (rb ho76) hb); replace HO294 := Z0 (Kd.R_elder' (zr HO294) (rb ho76) hb); replace HO297 := Z0 (Kd.R_elder' (zr HO297) (rb ho76) hb); replace HO302 := Z0 (Kd.R_elder' (zr HO302) (rb ho76) hb); replace HO305 := Z0 (Kd.R_elder' (zr HO305) (rb ho76) hb); replace HO308 := Z0 (Kd.R_elder' (zr HO308) (rb ho76) hb); replace BK273 := Z0 (zkb BK273 hb); replace BK291 := Z0 (zkb BK291 hb); replace BK299 := Z0 (zkb BK299 hb); replace BK310 := Z0 (zkb BK310 hb); replace HB := Z0 (below_step (zb HB) hb); clear hb ho76; obtain ⟨Ao77, co77, eo77⟩ := Kd.R_slice HO326.out; subst eo77) | (go_at_call 22; (with_reducible refine (trefoilref02_Ints.calls k _ _ t292 _ _ y324 true _ ?side1 ?side2 ?side3 ?side4 A10.out).mono ?_); (case side1 => exact zc (rr HO294.out).2.2); (case side2 => exact (rr HO294.out).2.1); (case side3 => exact zc (rr HO326.out).2.2); (case side4 => exact (rr HO326.out).2.1); rintro e w' ⟨rfl, ⟨nd, rfl⟩⟩) | ((with_reducible refine gate_dst (N := 68) rfl ?_); (try (refine gate_guard (by rfl) ?_; dsimp only)); refine zz (N := 68) 3 [1] Ny328 (zo 1 (Reps.none _ _)) ?_; intro v329 w78 ho79 hb; replace HO279 := Z0 (Kd.N_elder' (zn HO279) (rb ho79) hb); replace HO322 := Z0 (Kd.N_elder' (zn HO322) (rb ho79) hb); have HO330 := Z0 (rl (rw_ (rw_ (rw_ (rw_ (rw_ (rw_ (rw_ (rw_ (rw_ (rw_ (rw_ ho79 (rlt (zr HO272))) (rlt (zr HO276))) (rlt (zr HO283))) (rlt (zr HO286))) (rlt (zr HO289))) (rlt (zr HO294))) (rlt (zr HO297))) (rlt (zr HO302))) (rlt (zr HO305))) (rlt (zr HO308))) (rlt (zr HO326))) (below_size (zb HB))); replace HO272 := Z0 (Kd.R_elder' (zr HO272) (rb ho79) hb); replace HO276 := Z0 (Kd.R_elder' (zr HO276) (rb ho79) hb); replace HO283 := Z0 (Kd.R_elder' (zr HO283) (rb ho79) hb); replace HO286 := Z0 (Kd.R_elder' (zr HO286) (rb ho79) hb); replace HO289 := Z0 (Kd.R_elder' (zr HO289) (rb ho79) hb); replace HO294 := Z0 (Kd.R_elder' (zr HO294) (rb ho79) hb); replace HO297 := Z0 (Kd.R_elder' (zr HO297) (rb ho79) hb); replace HO302 := Z0 (Kd.R_elder' (zr HO302) (rb ho79) hb); replace HO305 := Z0 (Kd.R_elder' (zr HO305) (rb ho79) hb); replace HO308 := Z0 (Kd.R_elder' (zr HO308) (rb ho79) hb); replace HO326 := Z0 (Kd.R_elder' (zr HO326) (rb ho79) hb); replace BK273 := Z0 (zkb BK273 hb); replace BK291 := Z0 (zkb BK291 hb); replace BK299 := Z0 (zkb BK299 hb); replace BK310 := Z0 (zkb BK310 hb); replace HB := Z0 (below_step (zb HB) hb); clear hb ho79; obtain ⟨Ao80, co80, eo80⟩ := Kd.R_slice HO308.out; subst eo80; obtain ⟨Ao81, co81, eo81⟩ := Kd.R_slice HO330.out; subst eo81) | (go_at_call 22; (with_reducible refine (trefoilref02_Ints.calls k _ _ t306 _ _ y328 true _ ?side1 ?side2 ?side3 ?side4 A13.out).mono ?_); (case side1 => exact zc (rr HO308.out).2.2); (case side2 => exact (rr HO308.out).2.1); (case side3 => exact zc (rr HO330.out).2.2); (case side4 => exact (rr HO330.out).2.1); rintro e w' ⟨rfl, ⟨nd, rfl⟩⟩; have hcz82_0 := kz0 BK310; have hcz82_1 := kz1 BK310; have hfz82_0 := blk_frozen BK310.out 0; have hfz82_1 := blk_frozen BK310.out 1) | ((with_reducible refine gate_dst (N := 74) rfl ?_); (try (refine gate_guard (by rfl) ?_; dsimp only)); refine zz (N := 74) 3 [2, 0, 1] Ny332 (zo 2 (zo 0 (zo 1 (Reps.none _ _)))) ?_; intro v333 w83 ho84 hb; replace HO279 := Z0 (Kd.N_elder' (zn HO279) (rb ho84) hb); replace HO322 := Z0 (Kd.N_elder' (zn HO322) (rb ho84) hb); have HO334 := Z0 (rl (rw_ (rw_ (rw_ (rw_ (rw_ (rw_ (rw_ (rw_ (rw_ (rw_ (rw_ (rw_ ho84 (rlt (zr HO272))) (rlt (zr HO276))) (rlt (zr HO283))) (rlt (zr HO286))) (rlt (zr HO289))) (rlt (zr HO294))) (rlt (zr HO297))) (rlt (zr HO302))) (rlt (zr HO305))) (rlt (zr HO308))) (rlt (zr HO326))) (rlt (zr HO330))) (below_size (zb HB))); replace HO272 := Z0 (Kd.R_elder' (zr HO272) (rb ho84) hb); replace HO276 := Z0 (Kd.R_elder' (zr HO276) (rb ho84) hb); replace HO283 := Z0 (Kd.R_elder' (zr HO283) (rb ho84) hb); replace HO286 := Z0 (Kd.R_elder' (zr HO286) (rb ho84) hb); replace HO289 := Z0 (Kd.R_elder' (zr HO289) (rb ho84) hb); replace HO294 := Z0 (Kd.R_elder' (zr HO294) (rb ho84) hb); replace HO297 := Z0 (Kd.R_elder' (zr HO297) (rb ho84) hb); replace HO302 := Z0 (Kd.R_elder' (zr HO302) (rb ho84) hb); replace HO305 := Z0 (Kd.R_elder' (zr HO305) (rb ho84) hb); replace HO308 := Z0 (Kd.R_elder' (zr HO308) (rb ho84) hb); replace HO326 := Z0 (Kd.R_elder' (zr HO326) (rb ho84) hb); replace HO330 := Z0 (Kd.R_elder' (zr HO330) (rb ho84) hb); replace BK273 := Z0 (zkb BK273 hb); replace BK291 := Z0 (zkb BK291 hb); replace BK299 := Z0 (zkb BK299 hb); replace BK310 := Z0 (zkb BK310 hb); replace HB := Z0 (below_step (zb HB) hb); clear hb ho84; obtain ⟨Ao85, co85, eo85⟩ := Kd.R_slice HO334.out; subst eo85) | (go_at_call 22; (with_reducible refine (trefoilref02_Ints.calls k _ _ t303 _ _ y332 true _ ?side1 ?side2 ?side3 ?side4 A15.out).mono ?_); (case side1 => exact zc (rr HO305.out).2.2); (case side2 => exact (rr HO305.out).2.1); (case side3 => exact zc (rr HO334.out).2.2); (case side4 => exact (rr HO334.out).2.1); rintro e w' ⟨rfl, ⟨nd, rfl⟩⟩; have hcz86_0 := kz0 BK273; have hcz86_1 := kz1 BK273; have hfz86_0 := blk_frozen BK273.out 0; have hfz86_1 := blk_frozen BK273.out 1; have hcz87_0 := kz0 BK310; have hcz87_1 := kz1 BK310; have hfz87_0 := blk_frozen BK310.out 0; have hfz87_1 := blk_frozen BK310.out 1) | (go_at_call 15; (refine (list_Ready.calls _ _ y270 _ _ ([] : List (S85)) _ _ t300 _ _ t303 t336 _ ?side1 ?side2 ?side3 ?side4 ?side5 ?side6 ?side7 ?side8 A17.out).mono ?_); (case side1 => exact zc (rr HO272.out).2.2); (case side2 => exact (rr HO272.out).2.1); (case side3 => exact Kd.C_nil _ _); (case side4 => exact Nat.le_refl _); (case side5 => exact zc (rr HO302.out).2.2); (case side6 => exact (rr HO302.out).2.1); (case side7 => exact zc (rr HO305.out).2.2); (case side8 => exact (rr HO305.out).2.1); rintro e w88 ⟨v337, rfl, ho0, hb⟩; replace HO279 := Z0 (Kd.N_elder' (zn HO279) (rb ho0) hb); replace HO322 := Z0 (Kd.N_elder' (zn HO322) (rb ho0) hb); have HO338 := Z0 (rl (rw_ (rw_ (rw_ (rw_ (rw_ (rw_ (rw_ (rw_ (rw_ (rw_ (rw_ (rw_ (rw_ ho0 (rlt (zr HO272))) (rlt (zr HO276))) (rlt (zr HO283))) (rlt (zr HO286))) (rlt (zr HO289))) (rlt (zr HO294))) (rlt (zr HO297))) (rlt (zr HO302))) (rlt (zr HO305))) (rlt (zr HO308))) (rlt (zr HO326))) (rlt (zr HO330))) (rlt (zr HO334))) (below_size (zb HB))); replace HO272 := Z0 (Kd.R_elder' (zr HO272) (rb ho0) hb); replace HO276 := Z0 (Kd.R_elder' (zr HO276) (rb ho0) hb); replace HO283 := Z0 (Kd.R_elder' (zr HO283) (rb ho0) hb); replace HO286 := Z0 (Kd.R_elder' (zr HO286) (rb ho0) hb); replace HO289 := Z0 (Kd.R_elder' (zr HO289) (rb ho0) hb); replace HO294 := Z0 (Kd.R_elder' (zr HO294) (rb ho0) hb); replace HO297 := Z0 (Kd.R_elder' (zr HO297) (rb ho0) hb); replace HO302 := Z0 (Kd.R_elder' (zr HO302) (rb ho0) hb); replace HO305 := Z0 (Kd.R_elder' (zr HO305) (rb ho0) hb); replace HO308 := Z0 (Kd.R_elder' (zr HO308) (rb ho0) hb); replace HO326 := Z0 (Kd.R_elder' (zr HO326) (rb ho0) hb); replace HO330 := Z0 (Kd.R_elder' (zr HO330) (rb ho0) hb); replace HO334 := Z0 (Kd.R_elder' (zr HO334) (rb ho0) hb); replace BK273 := Z0 (zkb BK273 hb); replace BK291 := Z0 (zkb BK291 hb); replace BK299 := Z0 (zkb BK299 hb); replace BK310 := Z0 (zkb BK310 hb); replace HB := Z0 (below_step (zb HB) hb); (try clear hb); (try clear hb2); (try clear hk); (try clear hi); (try clear ho0)) | ((with_reducible refine gate_dst (N := 81) rfl ?_); (try (refine gate_guard (by rfl) ?_; dsimp only)); refine zz (N := 81) 3 [2] Ny339 (zo 2 (Reps.none _ _)) ?_; intro v340 w89 ho90 hb; replace HO279 := Z0 (Kd.N_elder' (zn HO279) (rb ho90) hb); replace HO322 := Z0 (Kd.N_elder' (zn HO322) (rb ho90) hb); have HO341 := Z0 (rl (rw_ (rw_ (rw_ (rw_ (rw_ (rw_ (rw_ (rw_ (rw_ (rw_ (rw_ (rw_ (rw_ (rw_ ho90 (rlt (zr HO272))) (rlt (zr HO276))) (rlt (zr HO283))) (rlt (zr HO286))) (rlt (zr HO289))) (rlt (zr HO294))) (rlt (zr HO297))) (rlt (zr HO302))) (rlt (zr HO305))) (rlt (zr HO308))) (rlt (zr HO326))) (rlt (zr HO330))) (rlt (zr HO334))) (rlt (zr HO338))) (below_size (zb HB))); replace HO272 := Z0 (Kd.R_elder' (zr HO272) (rb ho90) hb); replace HO276 := Z0 (Kd.R_elder' (zr HO276) (rb ho90) hb); replace HO283 := Z0 (Kd.R_elder' (zr HO283) (rb ho90) hb); replace HO286 := Z0 (Kd.R_elder' (zr HO286) (rb ho90) hb); replace HO289 := Z0 (Kd.R_elder' (zr HO289) (rb ho90) hb); replace HO294 := Z0 (Kd.R_elder' (zr HO294) (rb ho90) hb); replace HO297 := Z0 (Kd.R_elder' (zr HO297) (rb ho90) hb); replace HO302 := Z0 (Kd.R_elder' (zr HO302) (rb ho90) hb); replace HO305 := Z0 (Kd.R_elder' (zr HO305) (rb ho90) hb); replace HO308 := Z0 (Kd.R_elder' (zr HO308) (rb ho90) hb); replace HO326 := Z0 (Kd.R_elder' (zr HO326) (rb ho90) hb); replace HO330 := Z0 (Kd.R_elder' (zr HO330) (rb ho90) hb); replace HO334 := Z0 (Kd.R_elder' (zr HO334) (rb ho90) hb); replace HO338 := Z0 (Kd.R_elder' (zr HO338) (rb ho90) hb); replace BK273 := Z0 (zkb BK273 hb); replace BK291 := Z0 (zkb BK291 hb); replace BK299 := Z0 (zkb BK299 hb); replace BK310 := Z0 (zkb BK310 hb); replace HB := Z0 (below_step (zb HB) hb); clear hb ho90; obtain ⟨Ao91, co91, eo91⟩ := Kd.R_slice HO338.out; subst eo91; obtain ⟨Ao92, co92, eo92⟩ := Kd.R_slice HO341.out; subst eo92) | (go_at_call 22; (with_reducible refine (trefoilref02_Ints.calls k _ _ t336 _ _ y339 true _ ?side1 ?side2 ?side3 ?side4 A18.out).mono ?_); (case side1 => exact zc (rr HO338.out).2.2); (case side2 => exact (rr HO338.out).2.1); (case side3 => exact zc (rr HO341.out).2.2); (case side4 => exact (rr HO341.out).2.1); rintro e w' ⟨rfl, ⟨nd, rfl⟩⟩; have hcz93_0 := kz0 BK273; have hcz93_1 := kz1 BK273; have hfz93_0 := blk_frozen BK273.out 0; have hfz93_1 := blk_frozen BK273.out 1; have hcz94_0 := kz0 BK310; have hcz94_1 := kz1 BK310; have hfz94_0 := blk_frozen BK310.out 0; have hfz94_1 := blk_frozen BK310.out 1) | (go_at_call 17; (refine (list_Check.calls _ _ y270 _ _ ([] : List (S85)) _ _ t300 _ _ t303 t343 _ ?side1 ?side2 ?side3 ?side4 ?side5 ?side6 ?side7 ?side8 A20.out).mono ?_); (case side1 => exact zc (rr HO272.out).2.2); (case side2 => exact (rr HO272.out).2.1); (case side3 => exact Kd.C_nil _ _); (case side4 => exact Nat.le_refl _); (case side5 => exact zc (rr HO302.out).2.2); (case side6 => exact (rr HO302.out).2.1); (case side7 => exact zc (rr HO305.out).2.2); (case side8 => exact (rr HO305.out).2.1); rintro e w95 ⟨rfl, hb⟩; replace HO272 := Z0 (rbe (zr HO272) hb); replace HO276 := Z0 (rbe (zr HO276) hb); replace HO279 := Z0 (Kd.N_below (zn HO279) hb); replace HO283 := Z0 (rbe (zr HO283) hb); replace HO286 := Z0 (rbe (zr HO286) hb); replace HO289 := Z0 (rbe (zr HO289) hb); replace HO294 := Z0 (rbe (zr HO294) hb); replace HO297 := Z0 (rbe (zr HO297) hb); replace HO302 := Z0 (rbe (zr HO302) hb); replace HO305 := Z0 (rbe (zr HO305) hb); replace HO308 := Z0 (rbe (zr HO308) hb); replace HO322 := Z0 (Kd.N_below (zn HO322) hb); replace HO326 := Z0 (rbe (zr HO326) hb); replace HO330 := Z0 (rbe (zr HO330) hb); replace HO334 := Z0 (rbe (zr HO334) hb); replace HO338 := Z0 (rbe (zr HO338) hb); replace HO341 := Z0 (rbe (zr HO341) hb); replace BK273 := Z0 (zkb BK273 hb); replace BK291 := Z0 (zkb BK291 hb); replace BK299 := Z0 (zkb BK299 hb); replace BK310 := Z0 (zkb BK310 hb); replace HB := Z0 (below_step (zb HB) hb); (try clear hb); (try clear hb2); (try clear hk); (try clear hi); have hcz96_0 := kz0 BK310; have hcz96_1 := kz1 BK310; have hfz96_0 := blk_frozen BK310.out 0; have hfz96_1 := blk_frozen BK310.out 1) | (go_at_call 18; (with_reducible refine (list_Same.calls k _ _ t300 _ _ t303 _ _ t300 _ _ t303 true _ ?side1 ?side2 ?side3 ?side4 ?side5 ?side6 ?side7 ?side8 A22.out).mono ?_); (case side1 => exact zc (rr HO302.out).2.2); (case side2 => exact (rr HO302.out).2.1); (case side3 => exact zc (rr HO305.out).2.2); (case side4 => exact (rr HO305.out).2.1); (case side5 => exact zc (rr HO302.out).2.2); (case side6 => exact (rr HO302.out).2.1); (case side7 => exact zc (rr HO305.out).2.2); (case side8 => exact (rr HO305.out).2.1); rintro e w97 ⟨rfl, hb⟩; replace HO272 := Z0 (rbe (zr HO272) hb); replace HO276 := Z0 (rbe (zr HO276) hb); replace HO279 := Z0 (Kd.N_below (zn HO279) hb); replace HO283 := Z0 (rbe (zr HO283) hb); replace HO286 := Z0 (rbe (zr HO286) hb); replace HO289 := Z0 (rbe (zr HO289) hb); replace HO294 := Z0 (rbe (zr HO294) hb); replace HO297 := Z0 (rbe (zr HO297) hb); replace HO302 := Z0 (rbe (zr HO302) hb); replace HO305 := Z0 (rbe (zr HO305) hb); replace HO308 := Z0 (rbe (zr HO308) hb); replace HO322 := Z0 (Kd.N_below (zn HO322) hb); replace HO326 := Z0 (rbe (zr HO326) hb); replace HO330 := Z0 (rbe (zr HO330) hb); replace HO334 := Z0 (rbe (zr HO334) hb); replace HO338 := Z0 (rbe (zr HO338) hb); replace HO341 := Z0 (rbe (zr HO341) hb); replace BK273 := Z0 (zkb BK273 hb); replace BK291 := Z0 (zkb BK291 hb); replace BK299 := Z0 (zkb BK299 hb); replace BK310 := Z0 (zkb BK310 hb); replace HB := Z0 (below_step (zb HB) hb); (try clear hb); (try clear hb2); (try clear hk); (try clear hi); have hcz98_0 := kz0 BK299; have hcz98_1 := kz1 BK299; have hfz98_0 := blk_frozen BK299.out 0; have hfz98_1 := blk_frozen BK299.out 1; have hcz99_0 := kz0 BK310; have hcz99_1 := kz1 BK310; have hfz99_0 := blk_frozen BK310.out 0; have hfz99_1 := blk_frozen BK310.out 1) | (go_at_call 18; (with_reducible refine (list_Same.calls k _ _ t292 _ _ t295 _ _ t300 _ _ t303 t345 _ ?side1 ?side2 ?side3 ?side4 ?side5 ?side6 ?side7 ?side8 A24.out).mono ?_); (case side1 => exact zc (rr HO294.out).2.2); (case side2 => exact (rr HO294.out).2.1); (case side3 => exact zc (rr HO297.out).2.2); (case side4 => exact (rr HO297.out).2.1); (case side5 => exact zc (rr HO302.out).2.2); (case side6 => exact (rr HO302.out).2.1); (case side7 => exact zc (rr HO305.out).2.2); (case side8 => exact (rr HO305.out).2.1); rintro e w100 ⟨rfl, hb⟩; replace HO272 := Z0 (rbe (zr HO272) hb); replace HO276 := Z0 (rbe (zr HO276) hb); replace HO279 := Z0 (Kd.N_below (zn HO279) hb); replace HO283 := Z0 (rbe (zr HO283) hb); replace HO286 := Z0 (rbe (zr HO286) hb); replace HO289 := Z0 (rbe (zr HO289) hb); replace HO294 := Z0 (rbe (zr HO294) hb); replace HO297 := Z0 (rbe (zr HO297) hb); replace HO302 := Z0 (rbe (zr HO302) hb); replace HO305 := Z0 (rbe (zr HO305) hb); replace HO308 := Z0 (rbe (zr HO308) hb); replace HO322 := Z0 (Kd.N_below (zn HO322) hb); replace HO326 := Z0 (rbe (zr HO326) hb); replace HO330 := Z0 (rbe (zr HO330) hb); replace HO334 := Z0 (rbe (zr HO334) hb); replace HO338 := Z0 (rbe (zr HO338) hb); replace HO341 := Z0 (rbe (zr HO341) hb); replace BK273 := Z0 (zkb BK273 hb); replace BK291 := Z0 (zkb BK291 hb); replace BK299 := Z0 (zkb BK299 hb); replace BK310 := Z0 (zkb BK310 hb); replace HB := Z0 (below_step (zb HB) hb); (try clear hb); (try clear hb2); (try clear hk); (try clear hi)))
            go_ret
            exact ⟨ze, zb HB⟩
           ·replace c23 := Bool.eq_false_iff.mpr c23
            subst c23
            rw [if_neg nft] at H
            exact (nft (ab H hrt)).elim
          ·rw [if_neg c21] at H
           have c21b0 : (t343 == 0) = false := beq_eq_false_iff_ne.mpr c21
           have c21b1 : (t343 != 0) = true := bne_iff_ne.mpr c21
           exact (nft (ab H hrt)).elim
         ·replace c19 := Bool.eq_false_iff.mpr c19
          subst c19
          rw [if_neg nft] at H
          exact (nft (ab H hrt)).elim
        ·replace c16 := Bool.eq_false_iff.mpr c16
         subst c16
         rw [if_neg nft] at H
         exact (nft (ab H hrt)).elim
       ·replace c14 := Bool.eq_false_iff.mpr c14
        subst c14
        rw [if_neg nft] at H
        exact (nft (ab H hrt)).elim
      ·rw [if_neg c12] at H
       have c12b0 : (t309 == 0) = false := beq_eq_false_iff_ne.mpr c12
       have c12b1 : (t309 != 0) = true := bne_iff_ne.mpr c12
       exact (nft (ab H hrt)).elim
     ·replace c11 := Bool.eq_false_iff.mpr c11
      subst c11
      rw [if_neg nft] at H
      exact (nft (ab H hrt)).elim
    ·rw [if_neg c9] at H
     have c9b0 : (t298 == 0) = false := beq_eq_false_iff_ne.mpr c9
     have c9b1 : (t298 != 0) = true := bne_iff_ne.mpr c9
     exact (nft (ab H hrt)).elim
   ·rw [if_neg c8] at H
    have c8b0 : (t290 == 0) = false := beq_eq_false_iff_ne.mpr c8
    have c8b1 : (t290 != 0) = true := bne_iff_ne.mpr c8
    exact (nft (ab H hrt)).elim
  ·replace c7 := Bool.eq_false_iff.mpr c7
   subst c7
   rw [if_neg nft] at H
   exact (nft (ab H hrt)).elim
 ·rw [if_neg c5] at H
  have c5b0 : (t280 == 0) = false := beq_eq_false_iff_ne.mpr c5
  have c5b1 : (t280 != 0) = true := bne_iff_ne.mpr c5
  exact (nft (ab H hrt)).elim
end Go.Proofs.Ytmbhjhanafmidaa.PAw
