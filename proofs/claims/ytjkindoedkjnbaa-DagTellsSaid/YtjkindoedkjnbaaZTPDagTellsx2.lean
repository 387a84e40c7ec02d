/- Written by a program of this work: each theorem says that a call of the Go function comes to what the Lean function beside it tells, under the conditions that it names; Lean checks it. -/
import Derived.Test.YtjkindoedkjnbaaZTPDagTellsx0
import Derived.Test.YtjkindoedkjnbaaZTPDagTellsx1
namespace Go.Proofs.Ytjkindoedkjnbaa.PDagTells
open Go.RowKit Go.Proofs.YtjkindoedkjnbaaW.PrintWords Go.Proofs.YtjkindoedkjnbaaW.PrintLast Go.Proofs.YtjkindoedkjnbaaW.PrintMore
attribute [local go_sem] max2_int min2_int max_two min_two max_three min_three max_four min_four   -- for this text's walks alone
set_option linter.unusedVariables false
set_option linter.unusedSimpArgs false

attribute [local go_sem high] eqA40
-- NOT PRINTED: function 45 (slices_IndexFunc_int_int)

-- NOT PRINTED: function 31 (slices_ContainsFunc_int_int)

/-! ### api_Edge_46: function 46 -/
def api_Edge_46.l0 : Nat → List (S40) → Int → Int → Int → Int → Option (Int)
  | 0, _, _, _, _, _ => none
  | k + 1, x0, x7, x8, x102000, x102001 => if x8 < x7 then (if 0 ≤ x8 then (if x8 < (x0.length : Int) then (if (x102000 == ((rd_T40 x0 x8).f0) && (x102001 == ((rd_T40 x0 x8).f1))) = true then (some x8) else (api_Edge_46.l0 k x0 x7 (wrap64 (x8 + 1)) x102000 x102001)) else (none)) else (none)) else (some (-1))
def api_Edge_46.f (k : Nat) (l0 : List (S40)) (a1_0 : Int) (a1_1 : Int) : Option (Int) := api_Edge_46.l0 k l0 (l0.length : Int) 0 a1_0 a1_1
/-! ### api_Edge_34: function 34 -/
def api_Edge_34.f (k : Nat) (l0 : List (S40)) (a1_0 : Int) (a1_1 : Int) : Option (Bool) := (api_Edge_46.f k l0 a1_0 a1_1).bind fun t104 => (some (decide (t104 ≥ 0)))
-- NOT PRINTED: function 35 (dag_order)

/-! ### dag_Check: function 12, by hand -/
def dag_Check.f (l0_0 : List Int) (l0_1 : List (S40)) : Option (Int) := if l0_0.length ≤ 1000 ∧ l0_1.length ≤ 1000 then some (DagPlain.checkL l0_0 (l0_1.map fun x => (x.f0, x.f1))) else none
theorem dag_Check.calls (A0_0 : Option Addr) (c0_0 : Nat) (l0_0 : List Int) (A0_1 : Option Addr) (c0_1 : Nat) (l0_1 : List (S40)) (r : Int) (w : World) (hr0_0 : Kd.C (Kd.int .i64) w A0_0 l0_0.length l0_0) (hc0_0 : l0_0.length ≤ c0_0) (hr0_1 : Kd.C k40 w A0_1 l0_1.length l0_1) (hc0_1 : l0_1.length ≤ c0_1) (h : dag_Check.f l0_0 l0_1 = some r) :
    Calls Try.prog 12 #[.agg #[.slice A0_0 l0_0.length c0_0, .slice A0_1 l0_1.length c0_1]] w fun e w' => e = .returned (.int .i64 r) ∧ Below w.heap.size w w' := by
  unfold dag_Check.f at h
  split at h
  · rename_i hb
    simp only [Option.some.injEq] at h
    have hE0 : EdR w A0_1 (l0_1.map fun x => (x.f0, x.f1)) := fun h0 => by
      rw [List.length_map] at h0
      obtain ⟨ad, e, _, _⟩ := at_T40 hr0_1 0 (by omega) (by omega)
      refine ⟨ad, e, fun i hi => ?_⟩
      rw [List.length_map] at hi
      obtain ⟨ad', e', h1, h2⟩ := at_T40 hr0_1 (i : Int) (by omega) (by omega)
      obtain rfl : ad' = ad := Option.some.inj (e'.symm.trans e)
      have hq : (l0_1.map fun x => (x.f0, x.f1)).getD i (0, 0) = ((rd_T40 l0_1 (i : Int)).f0, (rd_T40 l0_1 (i : Int)).f1) := by
        simp [rd_T40, List.getD_eq_getElem?_getD, List.getElem?_map, List.getElem?_eq_getElem hi]
      rw [hq]
      exact ⟨h1, h2⟩
    have hp := check_any A0_0 c0_0 l0_0 A0_1 c0_1 (l0_1.map fun x => (x.f0, x.f1)) w (Kd.reads_of_C (d := (0 : Int)) hr0_0) hb.1 (by rw [List.length_map]; exact hb.2) hE0 (by rw [List.length_map]; exact hc0_1)
    rw [h, List.length_map] at hp
    exact hp
  · cases h

/-! ### slices_Equal_int_int: function 37 -/
def slices_Equal_int_int.l0 : Nat → List Int → List Int → Int → Int → Option (Bool)
  | 0, _, _, _, _ => none
  | k + 1, x0, x1, x12, x13 => if x13 < x12 then (if 0 ≤ x13 then (if x13 < (x0.length : Int) then (if x13 < (x1.length : Int) then (if (rd x0 x13) = (rd x1 x13) then (slices_Equal_int_int.l0 k x0 x1 x12 (wrap64 (x13 + 1))) else (some false)) else (none)) else (none)) else (none)) else (some true)
def slices_Equal_int_int.f (k : Nat) (l0 : List Int) (l1 : List Int) : Option (Bool) := if (l0.length : Int) = (l1.length : Int) then (slices_Equal_int_int.l0 k l0 l1 (l0.length : Int) 0) else (some false)
/-! ### api_Edge_38: function 38 -/
def api_Edge_38.l0 : Nat → List (S40) → List (S40) → Int → Int → Option (Bool)
  | 0, _, _, _, _ => none
  | k + 1, x0, x1, x12, x13 => if x13 < x12 then (if 0 ≤ x13 then (if x13 < (x0.length : Int) then (if x13 < (x1.length : Int) then (if (!(((rd_T40 x0 x13).f0) == ((rd_T40 x1 x13).f0)) || (!(((rd_T40 x0 x13).f1) == ((rd_T40 x1 x13).f1)))) = true then (some false) else (api_Edge_38.l0 k x0 x1 x12 (wrap64 (x13 + 1)))) else (none)) else (none)) else (none)) else (some true)
def api_Edge_38.f (k : Nat) (l0 : List (S40)) (l1 : List (S40)) : Option (Bool) := if (l0.length : Int) = (l1.length : Int) then (api_Edge_38.l0 k l0 l1 (l0.length : Int) 0) else (some false)
/-! ### dag_Same: function 15, by hand -/
def dag_Same.f (l0_0 : List Int) (l0_1 : List (S40)) (l1_0 : List Int) (l1_1 : List (S40)) : Option (Bool) := if (l0_0.length ≤ 1000 ∧ l0_1.length ≤ 1000) ∧ l1_0.length ≤ 1000 ∧ l1_1.length ≤ 1000 then some (decide (l0_0 = l1_0 ∧ (l0_1.map fun x => (x.f0, x.f1)) = (l1_1.map fun x => (x.f0, x.f1)))) else none
/-! ### dag_Order: function 17, by hand -/
def dag_Order.f (l0_0 : List Int) (l0_1 : List (S40)) : Option (List Int) := if l0_0.length ≤ 1000 ∧ l0_1.length ≤ 1000 then some (ordL l0_0 (l0_1.map fun x => (x.f0, x.f1))) else none
theorem dag_Order.calls (A0_0 : Option Addr) (c0_0 : Nat) (l0_0 : List Int) (A0_1 : Option Addr) (c0_1 : Nat) (l0_1 : List (S40)) (r : List Int) (w : World) (hr0_0 : Kd.C (Kd.int .i64) w A0_0 l0_0.length l0_0) (hc0_0 : l0_0.length ≤ c0_0) (hr0_1 : Kd.C k40 w A0_1 l0_1.length l0_1) (hc0_1 : l0_1.length ≤ c0_1) (h : dag_Order.f l0_0 l0_1 = some r) :
    Calls Try.prog 17 #[.agg #[.slice A0_0 l0_0.length c0_0, .slice A0_1 l0_1.length c0_1]] w fun e w' => ∃ v0_ : Value, e = .returned (v0_) ∧ Kd.R (Kd.int .i64) 3 w' w.heap.size (fun _ => True) v0_ r ∧ Below w.heap.size w w' := by
  unfold dag_Order.f at h
  split at h
  · rename_i hb
    simp only [Option.some.injEq] at h
    have hE0 : EdR w A0_1 (l0_1.map fun x => (x.f0, x.f1)) := fun h0 => by
      rw [List.length_map] at h0
      obtain ⟨ad, e, _, _⟩ := at_T40 hr0_1 0 (by omega) (by omega)
      refine ⟨ad, e, fun i hi => ?_⟩
      rw [List.length_map] at hi
      obtain ⟨ad', e', h1, h2⟩ := at_T40 hr0_1 (i : Int) (by omega) (by omega)
      obtain rfl : ad' = ad := Option.some.inj (e'.symm.trans e)
      have hq : (l0_1.map fun x => (x.f0, x.f1)).getD i (0, 0) = ((rd_T40 l0_1 (i : Int)).f0, (rd_T40 l0_1 (i : Int)).f1) := by
        simp [rd_T40, List.getD_eq_getElem?_getD, List.getElem?_map, List.getElem?_eq_getElem hi]
      rw [hq]
      exact ⟨h1, h2⟩
    have hp := Order_any A0_0 c0_0 l0_0 A0_1 c0_1 (l0_1.map fun x => (x.f0, x.f1)) w (Kd.reads_of_C (d := (0 : Int)) hr0_0) hb.1 (by rw [List.length_map]; exact hb.2) hE0 (by rw [List.length_map]; exact hc0_1)
    rw [h, List.length_map] at hp
    exact hp.mono fun e w' ⟨v, h1, h2, h3⟩ => ⟨v, h1, Kd.R_of_own h2 (fun _ _ => trivial), h3⟩
  · cases h

/-! ### dag_Total: function 18, by hand -/
def dag_Total.f (l0_0 : List Int) (l0_1 : List (S40)) : Option (Int) := if l0_0.length ≤ 1000 ∧ l0_1.length ≤ 1000 then some (totL l0_0 (l0_1.map fun x => (x.f0, x.f1))) else none
theorem dag_Total.calls (A0_0 : Option Addr) (c0_0 : Nat) (l0_0 : List Int) (A0_1 : Option Addr) (c0_1 : Nat) (l0_1 : List (S40)) (r : Int) (w : World) (hr0_0 : Kd.C (Kd.int .i64) w A0_0 l0_0.length l0_0) (hc0_0 : l0_0.length ≤ c0_0) (hr0_1 : Kd.C k40 w A0_1 l0_1.length l0_1) (hc0_1 : l0_1.length ≤ c0_1) (h : dag_Total.f l0_0 l0_1 = some r) :
    Calls Try.prog 18 #[.agg #[.slice A0_0 l0_0.length c0_0, .slice A0_1 l0_1.length c0_1]] w fun e w' => e = .returned (.int .i64 r) ∧ Below w.heap.size w w' := by
  unfold dag_Total.f at h
  split at h
  · rename_i hb
    simp only [Option.some.injEq] at h
    have hE0 : EdR w A0_1 (l0_1.map fun x => (x.f0, x.f1)) := fun h0 => by
      rw [List.length_map] at h0
      obtain ⟨ad, e, _, _⟩ := at_T40 hr0_1 0 (by omega) (by omega)
      refine ⟨ad, e, fun i hi => ?_⟩
      rw [List.length_map] at hi
      obtain ⟨ad', e', h1, h2⟩ := at_T40 hr0_1 (i : Int) (by omega) (by omega)
      obtain rfl : ad' = ad := Option.some.inj (e'.symm.trans e)
      have hq : (l0_1.map fun x => (x.f0, x.f1)).getD i (0, 0) = ((rd_T40 l0_1 (i : Int)).f0, (rd_T40 l0_1 (i : Int)).f1) := by
        simp [rd_T40, List.getD_eq_getElem?_getD, List.getElem?_map, List.getElem?_eq_getElem hi]
      rw [hq]
      exact ⟨h1, h2⟩
    have hp := Total_any A0_0 c0_0 l0_0 A0_1 c0_1 (l0_1.map fun x => (x.f0, x.f1)) w (Kd.reads_of_C (d := (0 : Int)) hr0_0) hb.1 (by rw [List.length_map]; exact hb.2) hE0 (by rw [List.length_map]; exact hc0_1)
    rw [h, List.length_map] at hp
    exact hp
  · cases h

/-! ### cmp_isNaN_int: function 69 -/
def cmp_isNaN_int.f (a0 : Int) : Option (Bool) := some (a0 != a0)
/-! ### cmp_Less_int: function 59 -/
def cmp_Less_int.f (a0 : Int) (a1 : Int) : Option (Bool) := (cmp_isNaN_int.f a0).bind fun t113 => (if t113 = true then ((cmp_isNaN_int.f a1).bind fun t114 => (if t114 = true then (some (decide (a0 < a1))) else (some true))) else (some (decide (a0 < a1))))
end Go.Proofs.Ytjkindoedkjnbaa.PDagTells
