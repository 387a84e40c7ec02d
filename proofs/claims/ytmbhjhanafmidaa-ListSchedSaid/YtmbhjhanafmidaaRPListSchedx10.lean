/- Written by a program of this work: each theorem says that a call of the Go function comes to what the Lean function beside it tells, under the conditions that it names; Lean checks it. -/
import Derived.Test.YtmbhjhanafmidaaRPListSchedx0
import Derived.Test.YtmbhjhanafmidaaRPListSchedx2
namespace Go.Proofs.Ytmbhjhanafmidaa.PListSched
open Go.RowKit Go.Proofs.YtmbhjhanafmidaaW.PrintWords Go.Proofs.YtmbhjhanafmidaaW.PrintLast Go.Proofs.YtmbhjhanafmidaaW.PrintMore
attribute [local go_sem] max2_int min2_int max_two min_two max_three min_three max_four min_four   -- for this text's walks alone
set_option linter.unusedVariables false
set_option linter.unusedSimpArgs false

-- NOT PRINTED: function 82 (slices_pdqsortOrdered_int)

-- NOT PRINTED: function 59 (slices_Sort_int_int)

-- NOT PRINTED: function 39 (list_tick)

/-! ### list_Tick: function 14, by hand -/
def list_Tick.f (l0_0 : List Int) (l0_1 : List (S85)) (l1_0 : List Int) (l1_1 : List Int) : Option (List Int × List Int × List Int × Int) := if ((l0_0.length ≤ 1000 ∧ l0_1.length ≤ 1000) ∧ l1_0.length ≤ 1000 ∧ l1_1.length ≤ 1000) then some (LstPlain.tickQ l0_0 (l0_1.map fun x => (x.f0, x.f1)) l1_0 l1_1) else none
/-! ### list_Ready: function 15 -/
def list_Ready.f (l0_0 : List Int) (l0_1 : List (S85)) (l1_0 : List Int) (l1_1 : List Int) : Option (List Int) := (list_Check.f l0_0 l0_1 l1_0 l1_1).bind fun t253 => (if t253 = 0 then ((list_ready.f l0_0 l0_1 l1_0 l1_1).bind fun t254 => (some t254)) else (some ([] : List Int)))
/-! ### slices_Equal_int_int: function 45 -/
def slices_Equal_int_int.l0 : Nat → List Int → List Int → Int → Int → Option (Bool)
  | 0, _, _, _, _ => none
  | k + 1, x0, x1, x12, x13 => if x13 < x12 then (if 0 ≤ x13 then (if x13 < (x0.length : Int) then (if x13 < (x1.length : Int) then (if (rd x0 x13) = (rd x1 x13) then (slices_Equal_int_int.l0 k x0 x1 x12 (wrap64 (x13 + 1))) else (some false)) else (none)) else (none)) else (none)) else (some true)
def slices_Equal_int_int.f (k : Nat) (l0 : List Int) (l1 : List Int) : Option (Bool) := if (l0.length : Int) = (l1.length : Int) then (slices_Equal_int_int.l0 k l0 l1 (l0.length : Int) 0) else (some false)
/-! ### list_Same: function 18 -/
def list_Same.f (k : Nat) (l0_0 : List Int) (l0_1 : List Int) (l1_0 : List Int) (l1_1 : List Int) : Option (Bool) := (slices_Equal_int_int.f k l0_0 l1_0).bind fun t261 => (if t261 = true then ((slices_Equal_int_int.f k l0_1 l1_1).bind fun t262 => (some t262)) else (some false))
/-! ### trefoilref02_Ints: function 22 -/
def trefoilref02_Ints.l0 : Nat → List Int → List Int → Int → Option (Bool)
  | 0, _, _, _ => none
  | k + 1, x0, x1, x5 => if x5 < (x0.length : Int) then (if 0 ≤ x5 then (if x5 < (x1.length : Int) then (if (rd x0 x5) = (rd x1 x5) then (trefoilref02_Ints.l0 k x0 x1 (wrap64 (x5 + 1))) else (some false)) else (none)) else (none)) else (some true)
def trefoilref02_Ints.f (k : Nat) (l0 : List Int) (l1 : List Int) : Option (Bool) := if (l0.length : Int) = (l1.length : Int) then (trefoilref02_Ints.l0 k l0 l1 0) else (some false)
-- NOT PRINTED: function 55 (sched_right)

-- NOT PRINTED: function 88 (api_Trace_int_88)

-- NOT PRINTED: function 71 (api_Trace_int_71)

-- NOT PRINTED: function 72 (sched_begin)

-- NOT PRINTED: function 54 (sched_seen_free)

-- NOT PRINTED: function 73 (sched_seen_one)

-- NOT PRINTED: function 74 (sched_seen_run)

-- NOT PRINTED: function 50 (sched_look)

-- NOT PRINTED: function 51 (sched_none)

/-! ### sched_Check: function 34, by hand -/
def sched_Check.f (l0_0 : List Int) (l0_1 : List (S85)) (l1 : List Int) (a2 : Int) (l3 : List (List Int)) : Option (Int) := if ((l0_0.length ≤ 1000 ∧ l0_1.length ≤ 1000) ∧ l1.length ≤ 1000) ∧ l3.length ≤ 5000 then some (SchPlain.lookR l0_0 (l0_1.map fun x => (x.f0, x.f1)) l1 a2 l3) else none
theorem sched_Check.calls (A0_0 : Option Addr) (c0_0 : Nat) (l0_0 : List Int) (A0_1 : Option Addr) (c0_1 : Nat) (l0_1 : List (S85)) (A1 : Option Addr) (c1 : Nat) (l1 : List Int) (a2 : Int) (A3 : Option Addr) (c3 : Nat) (l3 : List (List Int)) (r : Int) (w : World) (hr0_0 : Kd.C (Kd.int .i64) w A0_0 l0_0.length l0_0) (hc0_0 : l0_0.length ≤ c0_0) (hr0_1 : Kd.C k85 w A0_1 l0_1.length l0_1) (hc0_1 : l0_1.length ≤ c0_1) (hr1 : Kd.C (Kd.int .i64) w A1 l1.length l1) (hc1 : l1.length ≤ c1) (hr3 : Kd.C (Kd.slice 3 (Kd.int .i64)) w A3 l3.length l3) (hc3 : l3.length ≤ c3) (h : sched_Check.f l0_0 l0_1 l1 a2 l3 = some r) :
    Calls Try.prog 34 #[.agg #[.slice A0_0 l0_0.length c0_0, .slice A0_1 l0_1.length c0_1], .slice A1 l1.length c1, .int .i64 a2, .slice A3 l3.length c3] w fun e w' => e = .returned (.int .i64 r) ∧ Below w.heap.size w w' := by
  unfold sched_Check.f at h
  split at h
  · rename_i hb
    simp only [Option.some.injEq] at h
    have hE0 : EdR w A0_1 (l0_1.map fun x => (x.f0, x.f1)) := fun h0 => by
      rw [List.length_map] at h0
      obtain ⟨ad, e, _, _⟩ := at_T85 hr0_1 0 (by omega) (by omega)
      refine ⟨ad, e, fun i hi => ?_⟩
      rw [List.length_map] at hi
      obtain ⟨ad', e', h1, h2⟩ := at_T85 hr0_1 (i : Int) (by omega) (by omega)
      obtain rfl : ad' = ad := Option.some.inj (e'.symm.trans e)
      have hq : (l0_1.map fun x => (x.f0, x.f1)).getD i (0, 0) = ((rd_T85 l0_1 (i : Int)).f0, (rd_T85 l0_1 (i : Int)).f1) := by
        simp [rd_T85, List.getD_eq_getElem?_getD, List.getElem?_map, List.getElem?_eq_getElem hi]
      rw [hq]
      exact ⟨h1, h2⟩
    have hT3 : TrR w A3 l3 := fun h0 => by
      obtain ⟨ad, _, _, e, _⟩ := at_L2 hr3 0 (by omega) (by omega)
      refine ⟨ad, e, fun i hi => ?_⟩
      obtain ⟨ad', A, c, e', h1, h2, h3⟩ := at_L2 hr3 (i : Int) (by omega) (by omega)
      obtain rfl : ad' = ad := Option.some.inj (e'.symm.trans e)
      have hq : rd_L2 l3 (i : Int) = l3.getD i [] := rfl
      rw [hq] at h1 h2 h3
      exact ⟨A, c, h1, h2, Kd.reads_of_C (d := (0 : Int)) h3⟩
    have hp := sCheck_any A0_0 c0_0 l0_0 A0_1 c0_1 (l0_1.map fun x => (x.f0, x.f1)) A1 c1 l1 a2 A3 c3 l3 w ⟨⟨⟨hc0_0, Kd.reads_of_C (d := (0 : Int)) hr0_0⟩, (by rw [List.length_map]; exact hc0_1), hE0⟩, ⟨by omega, by rw [List.length_map]; omega⟩, Kd.reads_of_C (d := (0 : Int)) hr1, by omega, hT3, by omega⟩
    rw [h, List.length_map] at hp
    exact hp
  · cases h

/-! ### list_New: function 28, by hand -/
def list_New.f (l0_0 : List Int) (l0_1 : List (S85)) (l1 : List Int) (a2 : Int) : Option (List Int × List Int × Int) := if (l0_0.length ≤ 1000 ∧ l0_1.length ≤ 1000) ∧ l1.length ≤ 1000 then some ((newR l0_0 (l0_1.map fun x => (x.f0, x.f1)) l1 a2).1, (newR l0_0 (l0_1.map fun x => (x.f0, x.f1)) l1 a2).2, SchPlain.lookR l0_0 (l0_1.map fun x => (x.f0, x.f1)) l1 a2 []) else none
theorem list_New.calls (A0_0 : Option Addr) (c0_0 : Nat) (l0_0 : List Int) (A0_1 : Option Addr) (c0_1 : Nat) (l0_1 : List (S85)) (A1 : Option Addr) (c1 : Nat) (l1 : List Int) (a2 : Int) (r1 : List Int) (r2 : List Int) (r3 : Int) (w : World) (hr0_0 : Kd.C (Kd.int .i64) w A0_0 l0_0.length l0_0) (hc0_0 : l0_0.length ≤ c0_0) (hr0_1 : Kd.C k85 w A0_1 l0_1.length l0_1) (hc0_1 : l0_1.length ≤ c0_1) (hr1 : Kd.C (Kd.int .i64) w A1 l1.length l1) (hc1 : l1.length ≤ c1) (h : list_New.f l0_0 l0_1 l1 a2 = some (r1, r2, r3)) :
    Calls Try.prog 28 #[.agg #[.slice A0_0 l0_0.length c0_0, .slice A0_1 l0_1.length c0_1], .slice A1 l1.length c1, .int .i64 a2] w fun e w' => ∃ v0_ v1_ : Value, e = .returned (.tuple #[.agg #[v0_, v1_], .int .i64 r3]) ∧ Kd.R (Kd.int .i64) 3 w' w.heap.size (fun k_ => some k_ ≠ (v1_ : Value).ownBlock) v0_ r1 ∧ Kd.R (Kd.int .i64) 3 w' w.heap.size (fun k_ => some k_ ≠ (v0_ : Value).ownBlock) v1_ r2 ∧ Below w.heap.size w w' := by
  unfold list_New.f at h
  split at h
  · rename_i hb
    simp only [Option.some.injEq, Prod.mk.injEq] at h
    have hE0 : EdR w A0_1 (l0_1.map fun x => (x.f0, x.f1)) := fun h0 => by
      rw [List.length_map] at h0
      obtain ⟨ad, e, _, _⟩ := at_T85 hr0_1 0 (by omega) (by omega)
      refine ⟨ad, e, fun i hi => ?_⟩
      rw [List.length_map] at hi
      obtain ⟨ad', e', h1, h2⟩ := at_T85 hr0_1 (i : Int) (by omega) (by omega)
      obtain rfl : ad' = ad := Option.some.inj (e'.symm.trans e)
      have hq : (l0_1.map fun x => (x.f0, x.f1)).getD i (0, 0) = ((rd_T85 l0_1 (i : Int)).f0, (rd_T85 l0_1 (i : Int)).f1) := by
        simp [rd_T85, List.getD_eq_getElem?_getD, List.getElem?_map, List.getElem?_eq_getElem hi]
      rw [hq]
      exact ⟨h1, h2⟩
    have hp := New_any A0_0 c0_0 l0_0 A0_1 c0_1 (l0_1.map fun x => (x.f0, x.f1)) A1 c1 l1 a2 w ⟨⟨hc0_0, Kd.reads_of_C (d := (0 : Int)) hr0_0⟩, (by rw [List.length_map]; exact hc0_1), hE0⟩ hc1 (Kd.reads_of_C (d := (0 : Int)) hr1) ⟨hb.1.1, by rw [List.length_map]; exact hb.1.2⟩ hb.2
    rw [List.length_map] at hp
    obtain ⟨h1, h2, h3⟩ := h
    rw [h1, h2, h3] at hp
    exact hp.mono fun e w' ⟨v0, v1, e0, hcw⟩ => ⟨v0, v1, e0, Kd.R_of_own hcw.o (fun k hk e => hcw.ne k hk e.symm), Kd.R_of_own hcw.l (fun k hk e => hcw.ne k e.symm hk), hcw.b⟩
  · cases h

/-! ### list_Run: function 26, by hand -/
def list_Run.f (l0_0 : List Int) (l0_1 : List (S85)) (l1 : List Int) (a2 : Int) : Option (List (List Int) × Int) := if (l0_0.length ≤ 1000 ∧ l0_1.length ≤ 1000) ∧ l1.length ≤ 1000 then some (runR l0_0 (l0_1.map fun x => (x.f0, x.f1)) l1 a2, runE l0_0 (l0_1.map fun x => (x.f0, x.f1)) l1 a2) else none
theorem list_Run.calls (A0_0 : Option Addr) (c0_0 : Nat) (l0_0 : List Int) (A0_1 : Option Addr) (c0_1 : Nat) (l0_1 : List (S85)) (A1 : Option Addr) (c1 : Nat) (l1 : List Int) (a2 : Int) (r1 : List (List Int)) (r2 : Int) (w : World) (hr0_0 : Kd.C (Kd.int .i64) w A0_0 l0_0.length l0_0) (hc0_0 : l0_0.length ≤ c0_0) (hr0_1 : Kd.C k85 w A0_1 l0_1.length l0_1) (hc0_1 : l0_1.length ≤ c0_1) (hr1 : Kd.C (Kd.int .i64) w A1 l1.length l1) (hc1 : l1.length ≤ c1) (h : list_Run.f l0_0 l0_1 l1 a2 = some (r1, r2)) :
    Calls Try.prog 26 #[.agg #[.slice A0_0 l0_0.length c0_0, .slice A0_1 l0_1.length c0_1], .slice A1 l1.length c1, .int .i64 a2] w fun e w' => ∃ v0_ : Value, e = .returned (.tuple #[v0_, .int .i64 r2]) ∧ Kd.S (Kd.slice 3 (Kd.int .i64)) 22 w' w.heap.size (fun _ => True) v0_ r1 ∧ Below w.heap.size w w' := by
  unfold list_Run.f at h
  split at h
  · rename_i hb
    simp only [Option.some.injEq, Prod.mk.injEq] at h
    have hE0 : EdR w A0_1 (l0_1.map fun x => (x.f0, x.f1)) := fun h0 => by
      rw [List.length_map] at h0
      obtain ⟨ad, e, _, _⟩ := at_T85 hr0_1 0 (by omega) (by omega)
      refine ⟨ad, e, fun i hi => ?_⟩
      rw [List.length_map] at hi
      obtain ⟨ad', e', h1, h2⟩ := at_T85 hr0_1 (i : Int) (by omega) (by omega)
      obtain rfl : ad' = ad := Option.some.inj (e'.symm.trans e)
      have hq : (l0_1.map fun x => (x.f0, x.f1)).getD i (0, 0) = ((rd_T85 l0_1 (i : Int)).f0, (rd_T85 l0_1 (i : Int)).f1) := by
        simp [rd_T85, List.getD_eq_getElem?_getD, List.getElem?_map, List.getElem?_eq_getElem hi]
      rw [hq]
      exact ⟨h1, h2⟩
    have hp := Run_any A0_0 c0_0 l0_0 A0_1 c0_1 (l0_1.map fun x => (x.f0, x.f1)) A1 c1 l1 a2 w ⟨⟨hc0_0, Kd.reads_of_C (d := (0 : Int)) hr0_0⟩, (by rw [List.length_map]; exact hc0_1), hE0⟩ hc1 (Kd.reads_of_C (d := (0 : Int)) hr1) ⟨hb.1.1, by rw [List.length_map]; exact hb.1.2⟩ hb.2
    rw [List.length_map] at hp
    obtain ⟨h1, h2⟩ := h
    rw [h1, h2] at hp
    exact hp
  · cases h

/-! ### trefoilref11_SameTrace: function 30 -/
def trefoilref11_SameTrace.l0 : Nat → List (List Int) → List (List Int) → Int → Option (Bool)
  | 0, _, _, _ => none
  | k + 1, x0, x1, x5 => if x5 < (x0.length : Int) then (if 0 ≤ x5 then (if x5 < (x1.length : Int) then ((trefoilref02_Ints.f k (rd_L2 x0 x5) (rd_L2 x1 x5)).bind fun t269 => (if t269 = true then (trefoilref11_SameTrace.l0 k x0 x1 (wrap64 (x5 + 1))) else (some false))) else (none)) else (none)) else (some true)
def trefoilref11_SameTrace.f (k : Nat) (l0 : List (List Int)) (l1 : List (List Int)) : Option (Bool) := if (l0.length : Int) = (l1.length : Int) then (trefoilref11_SameTrace.l0 k l0 l1 0) else (some false)
/-! ### trefoillaw11_awake: function 9, by hand -/
def trefoillaw11_awake.f : Option Bool := some true
theorem trefoillaw11_awake.calls (r : Bool) (w : World) (h : trefoillaw11_awake.f = some r) :
    Calls Try.prog 9 #[] w fun e w' => e = .returned (.bool r) ∧ Below w.heap.size w w' := by
  obtain rfl : true = r := by simpa [trefoillaw11_awake.f] using h
  exact awake11_any w

end Go.Proofs.Ytmbhjhanafmidaa.PListSched
