/- Written by a program of this work: each theorem says that a call of the Go function comes to what the Lean function beside it tells, under the conditions that it names; Lean checks it. -/
import Derived.Test.YtmbhjhanafmidaaFKPListFillx0
import Derived.Test.YtmbhjhanafmidaaFKPListFillx1
namespace Go.Proofs.Ytmbhjhanafmidaa.PListFill
open Go.RowKit Go.Proofs.YtmbhjhanafmidaaW.PrintWords Go.Proofs.YtmbhjhanafmidaaW.PrintLast Go.Proofs.YtmbhjhanafmidaaW.PrintMore
attribute [local go_sem] max2_int min2_int max_two min_two max_three min_three max_four min_four   -- for this text's walks alone
set_option linter.unusedVariables false
set_option linter.unusedSimpArgs false

attribute [local go_sem high] eqA85
-- NOT PRINTED: function 69 (slices_IndexFunc_int_int)

-- NOT PRINTED: function 46 (slices_ContainsFunc_int_int)

/-! ### api_Edge_87: function 87 -/
def api_Edge_87.l0 : Nat → List (S85) → Int → Int → Int → Int → Option (Int)
  | 0, _, _, _, _, _ => none
  | k + 1, x0, x7, x8, x102000, x102001 => if x8 < x7 then (if 0 ≤ x8 then (if x8 < (x0.length : Int) then (if (x102000 == ((rd_T85 x0 x8).f0) && (x102001 == ((rd_T85 x0 x8).f1))) = true then (some x8) else (api_Edge_87.l0 k x0 x7 (wrap64 (x8 + 1)) x102000 x102001)) else (none)) else (none)) else (some (-1))
def api_Edge_87.f (k : Nat) (l0 : List (S85)) (a1_0 : Int) (a1_1 : Int) : Option (Int) := api_Edge_87.l0 k l0 (l0.length : Int) 0 a1_0 a1_1
/-! ### api_Edge_66: function 66 -/
def api_Edge_66.f (k : Nat) (l0 : List (S85)) (a1_0 : Int) (a1_1 : Int) : Option (Bool) := (api_Edge_87.f k l0 a1_0 a1_1).bind fun t104 => (some (decide (t104 ≥ 0)))
-- NOT PRINTED: function 67 (dag_order)

/-! ### dag_Check: function 43, by hand -/
def dag_Check.f (l0_0 : List Int) (l0_1 : List (S85)) : Option (Int) := if l0_0.length ≤ 1000 ∧ l0_1.length ≤ 1000 then some (DagPlain.checkL l0_0 (l0_1.map fun x => (x.f0, x.f1))) else none
/-! ### slices_Index_int_int: function 75 -/
def slices_Index_int_int.l0 : Nat → List Int → Int → Int → Int → Option (Int)
  | 0, _, _, _, _ => none
  | k + 1, x0, x1, x7, x8 => if x8 < x7 then (if 0 ≤ x8 then (if x8 < (x0.length : Int) then (if x1 = (rd x0 x8) then (some x8) else (slices_Index_int_int.l0 k x0 x1 x7 (wrap64 (x8 + 1)))) else (none)) else (none)) else (some (-1))
def slices_Index_int_int.f (k : Nat) (l0 : List Int) (a1 : Int) : Option (Int) := slices_Index_int_int.l0 k l0 a1 (l0.length : Int) 0
/-! ### slices_Contains_int_int: function 53 -/
def slices_Contains_int_int.f (k : Nat) (l0 : List Int) (a1 : Int) : Option (Bool) := (slices_Index_int_int.f k l0 a1).bind fun t110 => (some (decide (t110 ≥ 0)))
/-! ### list_over: function 58 -/
def list_over.f (l0_0 : List Int) (l0_1 : List Int) (a1 : Int) : Option (Bool) := if 0 ≤ a1 then (if a1 < (l0_1.length : Int) then (some ((rd l0_1 a1) == 0)) else (none)) else (none)
-- NOT PRINTED: function 89 (api_Edge_89)

-- NOT PRINTED: function 76 (api_Edge_76)

-- NOT PRINTED: function 60 (list_free)

-- NOT PRINTED: function 44 (list_right)

/-! ### list_Check: function 17, by hand -/
def list_Check.f (l0_0 : List Int) (l0_1 : List (S85)) (l1_0 : List Int) (l1_1 : List Int) : Option (Int) := if ((l0_0.length ≤ 1000 ∧ l0_1.length ≤ 1000) ∧ l1_0.length ≤ 1000 ∧ l1_1.length ≤ 1000) then some (LstPlain.crewR l0_0 (l0_1.map fun x => (x.f0, x.f1)) l1_0 l1_1) else none
theorem list_Check.calls (A0_0 : Option Addr) (c0_0 : Nat) (l0_0 : List Int) (A0_1 : Option Addr) (c0_1 : Nat) (l0_1 : List (S85)) (A1_0 : Option Addr) (c1_0 : Nat) (l1_0 : List Int) (A1_1 : Option Addr) (c1_1 : Nat) (l1_1 : List Int) (r : Int) (w : World) (hr0_0 : Kd.C (Kd.int .i64) w A0_0 l0_0.length l0_0) (hc0_0 : l0_0.length ≤ c0_0) (hr0_1 : Kd.C k85 w A0_1 l0_1.length l0_1) (hc0_1 : l0_1.length ≤ c0_1) (hr1_0 : Kd.C (Kd.int .i64) w A1_0 l1_0.length l1_0) (hc1_0 : l1_0.length ≤ c1_0) (hr1_1 : Kd.C (Kd.int .i64) w A1_1 l1_1.length l1_1) (hc1_1 : l1_1.length ≤ c1_1) (h : list_Check.f l0_0 l0_1 l1_0 l1_1 = some r) :
    Calls Try.prog 17 #[.agg #[.slice A0_0 l0_0.length c0_0, .slice A0_1 l0_1.length c0_1], .agg #[.slice A1_0 l1_0.length c1_0, .slice A1_1 l1_1.length c1_1]] w fun e w' => e = .returned (.int .i64 r) ∧ Below w.heap.size w w' := by
  unfold list_Check.f at h
  split at h
  · rename_i hb
    simp only [Option.some.injEq] at h
    have hE0 : EdR w A0_1 (l0_1.map fun x => (x.f0, x.f1)) := fun h0 => by
      rw [List.length_map] at h0
      obtain ⟨ad, e, _, _⟩ := at_T85 hr0_1 0 (by omega) (by omega)
      refine ⟨ad, e, fun i hi => ?_⟩
      rw [List.length_map] at hi
      obtain ⟨ad', e', h1, h2⟩ := at_T85 hr0_1 (i : Int) (by omega) (by omega)
      obtain rfl : ad' = ad := Option.some.inj (e'.symm.trans e)
      have hq : (l0_1.map fun x => (x.f0, x.f1)).getD i (0, 0) = ((rd_T85 l0_1 (i : Int)).f0, (rd_T85 l0_1 (i : Int)).f1) := by
        simp [rd_T85, List.getD_eq_getElem?_getD, List.getElem?_map, List.getElem?_eq_getElem hi]
      rw [hq]
      exact ⟨h1, h2⟩
    have hp := lCheck_any A0_0 c0_0 l0_0 A0_1 c0_1 (l0_1.map fun x => (x.f0, x.f1)) A1_0 c1_0 l1_0 A1_1 c1_1 l1_1 w ⟨⟨hc0_0, Kd.reads_of_C (d := (0 : Int)) hr0_0⟩, (by rw [List.length_map]; exact hc0_1), hE0⟩ ⟨⟨hc1_0, Kd.reads_of_C (d := (0 : Int)) hr1_0⟩, hc1_1, Kd.reads_of_C (d := (0 : Int)) hr1_1⟩ ⟨hb.1.1, by rw [List.length_map]; exact hb.1.2⟩ hb.2.1 hb.2.2
    rw [List.length_map] at hp
    rw [h] at hp; exact hp
  · cases h

-- NOT PRINTED: function 48 (slices_Clone_int_int)

-- NOT PRINTED: function 37 (list_own)

/-! ### list_ready: function 40, by hand -/
def list_ready.f (l0_0 : List Int) (l0_1 : List (S85)) (l1_0 : List Int) (l1_1 : List Int) : Option (List Int) := if ((l0_0.length ≤ 1000 ∧ l0_1.length ≤ 1000) ∧ l1_0.length ≤ 1000 ∧ l1_1.length ≤ 1000) ∧ ∀ x ∈ l0_1, (0 : Int) ≤ x.f0 ∧ x.f0 < (l1_1.length : Int) then some (LstPlain.readyL (l0_1.map fun x => (x.f0, x.f1)) l1_0 l1_1) else none
theorem list_ready.calls (A0_0 : Option Addr) (c0_0 : Nat) (l0_0 : List Int) (A0_1 : Option Addr) (c0_1 : Nat) (l0_1 : List (S85)) (A1_0 : Option Addr) (c1_0 : Nat) (l1_0 : List Int) (A1_1 : Option Addr) (c1_1 : Nat) (l1_1 : List Int) (r : List Int) (w : World) (hr0_0 : Kd.C (Kd.int .i64) w A0_0 l0_0.length l0_0) (hc0_0 : l0_0.length ≤ c0_0) (hr0_1 : Kd.C k85 w A0_1 l0_1.length l0_1) (hc0_1 : l0_1.length ≤ c0_1) (hr1_0 : Kd.C (Kd.int .i64) w A1_0 l1_0.length l1_0) (hc1_0 : l1_0.length ≤ c1_0) (hr1_1 : Kd.C (Kd.int .i64) w A1_1 l1_1.length l1_1) (hc1_1 : l1_1.length ≤ c1_1) (h : list_ready.f l0_0 l0_1 l1_0 l1_1 = some r) :
    Calls Try.prog 40 #[.agg #[.slice A0_0 l0_0.length c0_0, .slice A0_1 l0_1.length c0_1], .agg #[.slice A1_0 l1_0.length c1_0, .slice A1_1 l1_1.length c1_1]] w fun e w' => ∃ v0_ : Value, e = .returned (v0_) ∧ Kd.R (Kd.int .i64) 3 w' w.heap.size (fun _ => True) v0_ r ∧ Below w.heap.size w w' := by
  unfold list_ready.f at h
  split at h
  · rename_i hb
    simp only [Option.some.injEq] at h
    have hE0 : EdR w A0_1 (l0_1.map fun x => (x.f0, x.f1)) := fun h0 => by
      rw [List.length_map] at h0
      obtain ⟨ad, e, _, _⟩ := at_T85 hr0_1 0 (by omega) (by omega)
      refine ⟨ad, e, fun i hi => ?_⟩
      rw [List.length_map] at hi
      obtain ⟨ad', e', h1, h2⟩ := at_T85 hr0_1 (i : Int) (by omega) (by omega)
      obtain rfl : ad' = ad := Option.some.inj (e'.symm.trans e)
      have hq : (l0_1.map fun x => (x.f0, x.f1)).getD i (0, 0) = ((rd_T85 l0_1 (i : Int)).f0, (rd_T85 l0_1 (i : Int)).f1) := by
        simp [rd_T85, List.getD_eq_getElem?_getD, List.getElem?_map, List.getElem?_eq_getElem hi]
      rw [hq]
      exact ⟨h1, h2⟩
    have hp := ready_any A0_0 c0_0 l0_0 A0_1 c0_1 (l0_1.map fun x => (x.f0, x.f1)) A1_0 c1_0 l1_0 A1_1 c1_1 l1_1 w ⟨⟨hc0_0, Kd.reads_of_C (d := (0 : Int)) hr0_0⟩, (by rw [List.length_map]; exact hc0_1), hE0⟩ ⟨⟨hc1_0, Kd.reads_of_C (d := (0 : Int)) hr1_0⟩, hc1_1, Kd.reads_of_C (d := (0 : Int)) hr1_1⟩ ⟨hb.1.1.1, by rw [List.length_map]; exact hb.1.1.2⟩ hb.1.2.1 hb.1.2.2 (fun e he => by obtain ⟨x, hx, rfl⟩ := List.mem_map.1 he; exact hb.2 x hx)
    rw [List.length_map] at hp
    rw [h] at hp; exact hp.mono fun e w' ⟨v, h1, h2, h3⟩ => ⟨v, h1, Kd.R_of_own h2 (fun _ _ => trivial), h3⟩
  · cases h

-- NOT PRINTED: function 38 (list_fill)

/-! ### list_Fill: function 11, by hand -/
def list_Fill.f (l0_0 : List Int) (l0_1 : List (S85)) (l1_0 : List Int) (l1_1 : List Int) : Option (List Int × List Int × Int) := if ((l0_0.length ≤ 1000 ∧ l0_1.length ≤ 1000) ∧ l1_0.length ≤ 1000 ∧ l1_1.length ≤ 1000) then some (LstPlain.fillR l0_0 (l0_1.map fun x => (x.f0, x.f1)) l1_0 l1_1) else none
theorem list_Fill.calls (A0_0 : Option Addr) (c0_0 : Nat) (l0_0 : List Int) (A0_1 : Option Addr) (c0_1 : Nat) (l0_1 : List (S85)) (A1_0 : Option Addr) (c1_0 : Nat) (l1_0 : List Int) (A1_1 : Option Addr) (c1_1 : Nat) (l1_1 : List Int) (r1 : List Int) (r2 : List Int) (r3 : Int) (w : World) (hr0_0 : Kd.C (Kd.int .i64) w A0_0 l0_0.length l0_0) (hc0_0 : l0_0.length ≤ c0_0) (hr0_1 : Kd.C k85 w A0_1 l0_1.length l0_1) (hc0_1 : l0_1.length ≤ c0_1) (hr1_0 : Kd.C (Kd.int .i64) w A1_0 l1_0.length l1_0) (hc1_0 : l1_0.length ≤ c1_0) (hr1_1 : Kd.C (Kd.int .i64) w A1_1 l1_1.length l1_1) (hc1_1 : l1_1.length ≤ c1_1) (h : list_Fill.f l0_0 l0_1 l1_0 l1_1 = some (r1, r2, r3)) :
    Calls Try.prog 11 #[.agg #[.slice A0_0 l0_0.length c0_0, .slice A0_1 l0_1.length c0_1], .agg #[.slice A1_0 l1_0.length c1_0, .slice A1_1 l1_1.length c1_1]] w fun e w' => ∃ v0_ v1_ : Value, e = .returned (.tuple #[.agg #[v0_, v1_], .int .i64 r3]) ∧ Kd.R (Kd.int .i64) 3 w' w.heap.size (fun k_ => some k_ ≠ (v1_ : Value).ownBlock) v0_ r1 ∧ Kd.R (Kd.int .i64) 3 w' w.heap.size (fun k_ => some k_ ≠ (v0_ : Value).ownBlock) v1_ r2 ∧ Below w.heap.size w w' := by
  unfold list_Fill.f at h
  split at h
  · rename_i hb
    simp only [Option.some.injEq, Prod.mk.injEq] at h
    have hE0 : EdR w A0_1 (l0_1.map fun x => (x.f0, x.f1)) := fun h0 => by
      rw [List.length_map] at h0
      obtain ⟨ad, e, _, _⟩ := at_T85 hr0_1 0 (by omega) (by omega)
      refine ⟨ad, e, fun i hi => ?_⟩
      rw [List.length_map] at hi
      obtain ⟨ad', e', h1, h2⟩ := at_T85 hr0_1 (i : Int) (by omega) (by omega)
      obtain rfl : ad' = ad := Option.some.inj (e'.symm.trans e)
      have hq : (l0_1.map fun x => (x.f0, x.f1)).getD i (0, 0) = ((rd_T85 l0_1 (i : Int)).f0, (rd_T85 l0_1 (i : Int)).f1) := by
        simp [rd_T85, List.getD_eq_getElem?_getD, List.getElem?_map, List.getElem?_eq_getElem hi]
      rw [hq]
      exact ⟨h1, h2⟩
    have hp := Fill_any A0_0 c0_0 l0_0 A0_1 c0_1 (l0_1.map fun x => (x.f0, x.f1)) A1_0 c1_0 l1_0 A1_1 c1_1 l1_1 w ⟨⟨hc0_0, Kd.reads_of_C (d := (0 : Int)) hr0_0⟩, (by rw [List.length_map]; exact hc0_1), hE0⟩ ⟨⟨hc1_0, Kd.reads_of_C (d := (0 : Int)) hr1_0⟩, hc1_1, Kd.reads_of_C (d := (0 : Int)) hr1_1⟩ ⟨hb.1.1, by rw [List.length_map]; exact hb.1.2⟩ hb.2.1 hb.2.2
    rw [List.length_map] at hp
    unfold LstPlain.fillR at h
    simp only [Prod.mk.injEq] at h
    obtain ⟨h1, h2, h3⟩ := h
    rw [h1, h2, h3] at hp
    exact hp.mono fun e w' ⟨v0, v1, e0, hcw⟩ => ⟨v0, v1, e0, Kd.R_of_own hcw.o (fun k hk e => hcw.ne k hk e.symm), Kd.R_of_own hcw.l (fun k hk e => hcw.ne k e.symm hk), hcw.b⟩
  · cases h

/-! ### cmp_isNaN_int: function 108 -/
def cmp_isNaN_int.f (a0 : Int) : Option (Bool) := some (a0 != a0)
/-! ### cmp_Less_int: function 98 -/
def cmp_Less_int.f (a0 : Int) (a1 : Int) : Option (Bool) := (cmp_isNaN_int.f a0).bind fun t130 => (if t130 = true then ((cmp_isNaN_int.f a1).bind fun t131 => (if t131 = true then (some (decide (a0 < a1))) else (some true))) else (some (decide (a0 < a1))))
end Go.Proofs.Ytmbhjhanafmidaa.PListFill
