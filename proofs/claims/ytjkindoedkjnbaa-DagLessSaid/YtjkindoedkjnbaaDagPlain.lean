/- Plain functions of layer 4: what dag.order and dag.Check compute. -/
set_option linter.unusedVariables false
set_option linter.unusedSimpArgs false
namespace DagPlain
/-- A node that is not in the order yet, and all that it waits for is. -/
def free (es : List (Int × Int)) (out : List Int) (v : Int) : Bool := !out.contains v && es.all fun e => e.2 != v || out.contains e.1
def next (n : Nat) (es : List (Int × Int)) (out : List Int) : Option Nat := (List.range n).find? fun v => free es out (v : Int)
def orderGo (n : Nat) (es : List (Int × Int)) : Nat → List Int → Option (List Int)
  | 0, out => some out
  | g + 1, out => match next n es out with | some v => orderGo n es g (out ++ [(v : Int)]) | none => none
def orderL (n : Nat) (es : List (Int × Int)) : Option (List Int) := orderGo n es n []
theorem find_range {n : Nat} {p : Nat → Bool} {v : Nat} (hv : v < n) (hp : p v = true) (hno : ∀ i, i < v → p i = false) : (List.range n).find? p = some v := by
  rw [List.find?_range_eq_some]
  exact ⟨hp, by simpa using hv, fun i hi => by simp [hno i hi]⟩
theorem find_none {n : Nat} {p : Nat → Bool} (hno : ∀ i, i < n → p i = false) : (List.range n).find? p = none := by
  rw [List.find?_eq_none]
  intro x hx
  simp [hno x (by simpa using hx)]
theorem next_none {n : Nat} {es : List (Int × Int)} {out : List Int} {g : Nat} (h : ∀ i : Nat, i < n → free es out i = false) : orderGo n es (g + 1) out = none := by
  simp only [orderGo, next]
  rw [find_none h]
theorem next_some {n : Nat} {es : List (Int × Int)} {out : List Int} {g j : Nat} (hj : j < n) (hf : free es out j = true) (h : ∀ i : Nat, i < j → free es out i = false) : orderGo n es (g + 1) out = orderGo n es g (out ++ [(j : Int)]) := by
  conv => lhs; simp only [orderGo, next]
  rw [find_range hj hf h]
theorem free_in {es : List (Int × Int)} {out : List Int} {v : Int} (h : out.contains v = true) : free es out v = false := by unfold free; rw [h]; rfl
theorem free_not {es : List (Int × Int)} {out : List Int} {v : Int} {k : Nat} (hk : k < es.length) (h2 : (es.getD k (0, 0)).2 = v) (h1 : out.contains (es.getD k (0, 0)).1 = false) : free es out v = false := by
  rw [List.getD_eq_getElem?_getD, List.getElem?_eq_getElem hk] at h1 h2
  simp only [free, Bool.and_eq_false_iff]
  refine .inr ?_
  rw [List.all_eq_false]
  refine ⟨es[k], List.getElem_mem hk, ?_⟩
  simp only [Option.getD_some] at h1 h2
  rw [h1, h2]
  simp
theorem free_yes {es : List (Int × Int)} {out : List Int} {v : Int} (h : out.contains v = false) (hk : ∀ k, k < es.length → ((es.getD k (0, 0)).2 != v || out.contains (es.getD k (0, 0)).1) = true) : free es out v = true := by
  simp only [free, h, Bool.not_false, Bool.true_and, List.all_eq_true]
  intro e he
  obtain ⟨k, hk1, rfl⟩ := List.getElem_of_mem he
  have := hk k hk1
  rw [List.getD_eq_getElem?_getD, List.getElem?_eq_getElem hk1] at this
  exact this
def oddW (n : Int) : Bool := decide (n < 0) || decide (1000 < n)
def thereB (n : Nat) (x : Int) : Bool := decide (0 ≤ x) && decide (x < n)
def oddE (n : Nat) (es : List (Int × Int)) (k : Nat) : Bool :=
  !thereB n (es.getD k (0, 0)).1 || (!thereB n (es.getD k (0, 0)).2 || (decide ((es.getD k (0, 0)).1 = (es.getD k (0, 0)).2) || (es.take k).contains (es.getD k (0, 0))))
def oddEs (n : Nat) (es : List (Int × Int)) : Bool := (List.range es.length).any (oddE n es)
def checkL (l : List Int) (es : List (Int × Int)) : Int :=
  if 64 < l.length ∨ 256 < es.length then 40 else if l.any oddW = true then 41 else if oddEs l.length es = true then 42 else if (orderL l.length es).isSome = true then 0 else 43
theorem oddEs_no {n : Nat} {es : List (Int × Int)} (h : ∀ j, j < es.length → oddE n es j = false) : oddEs n es = false := by
  unfold oddEs
  rw [List.any_eq_false]
  intro k hk
  rw [h k (by simpa using hk)]
  simp
theorem oddEs_yes {n : Nat} {es : List (Int × Int)} {k : Nat} (hk : k < es.length) (h : oddE n es k = true) : oddEs n es = true := by
  unfold oddEs
  rw [List.any_eq_true]
  exact ⟨k, by simpa using hk, h⟩
theorem oddEs_in {n : Nat} {es : List (Int × Int)} (h : oddEs n es = false) : ∀ e ∈ es, (0 ≤ e.1 ∧ e.1 < n) ∧ 0 ≤ e.2 ∧ e.2 < n := by
  intro e he
  obtain ⟨k, hk, rfl⟩ := List.getElem_of_mem he
  unfold oddEs at h
  rw [List.any_eq_false] at h
  have := h k (by simpa using hk)
  unfold oddE thereB at this
  rw [List.getD_eq_getElem?_getD, List.getElem?_eq_getElem hk] at this
  simp at this
  omega
end DagPlain
