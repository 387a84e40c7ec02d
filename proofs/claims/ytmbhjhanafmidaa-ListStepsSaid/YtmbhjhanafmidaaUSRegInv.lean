/- A region that draws its order, by an invariant: one step for each operation, not for each order. Rows of the call's own are told apart by a colour of each block. -/
import Derived.Orders
import Derived.Test.YtmbhjhanafmidaaUSWWords
import Derived.Test.YtmbhjhanafmidaaUSWMore
set_option linter.unusedVariables false
set_option linter.unusedSimpArgs false
namespace Go.Proofs.Ytmbhjhanafmidaa.RegInv
open Go Go.RowKit Go.Proofs.YtmbhjhanafmidaaW.PrintWords Go.Proofs.YtmbhjhanafmidaaW.PrintMore
section
variable {P : Program} {ops : Array Oper} {Q : Exit → Act → World → Prop} {md : Region.Mode}
theorem count_false : ∀ (xs : List Bool) (i : Nat), xs[i]? = some false → 1 ≤ xs.count false ∧ (xs.set i true).count false + 1 = xs.count false
 | [], i, h => by simp at h
 | x :: xs, 0, h => by
  simp only [List.getElem?_cons_zero, Option.some.injEq] at h
  subst h
  simp [List.set_cons_zero, List.count_cons]
 | x :: xs, i + 1, h => by
  rw [List.getElem?_cons_succ] at h
  obtain ⟨h1, h2⟩ := count_false xs i h
  rw [List.set_cons_succ, List.count_cons, List.count_cons]
  omega
theorem unlisted {l : Array Bool} {i : Nat} (h : l.getD i true = false) : l.toList[i]? = some false := by
 rw [Array.getElem?_toList]
 rw [Array.getD_eq_getD_getElem?] at h
 cases hq : l[i]? with
 | none => rw [hq] at h; simp at h
 | some b => rw [hq] at h; simpa using h
theorem any_inv {Inv : Array Bool → Act → World → Prop}
  (hend : ∀ l a w, Inv l a w → Region.ready md ops l = [] → Q .normal a w)
  (hstep : ∀ l a w i, Inv l a w → i ∈ Region.ready md ops l → wpOp P ops Q i (Inv (l.setIfInBounds i true)) a w) :
  ∀ (fuel : Nat) (l : Array Bool) (a : Act) (w : World), l.toList.count false ≤ fuel → Inv l a w → wpAny P md ops Q fuel l a w := by
 intro fuel
 induction fuel with
 | zero =>
  intro l a w hc hi
  have hr : Region.ready md ops l = [] := by
   rw [List.eq_nil_iff_forall_not_mem]
   intro i hm
   have := (count_false _ _ (unlisted (Go.mem_ready.1 hm).1)).1
   omega
  exact ⟨hr, hend l a w hi hr⟩
 | succ fuel ih =>
  intro l a w hc hi
  refine ⟨fun hr => hend l a w hi hr, fun i hm => wpOp_mono (fun a' w' h' => ih _ a' w' ?_ h') (hstep l a w i hi hm)⟩
  have := (count_false _ _ (unlisted (Go.mem_ready.1 hm).1)).2
  rw [Array.toList_setIfInBounds]
  omega
theorem wp_region_inv {id : Nat} {a : Act} {w : World} (Inv : Array Bool → Act → World → Prop) (hm : P.follows .mixedOrders = true)
  (h0 : Inv (Array.replicate ops.size false) a w.drew)
  (hend : ∀ l a w, Inv l a w → Region.ready .any ops l = [] → Q .normal a w)
  (hstep : ∀ l a w i, Inv l a w → i ∈ Region.ready .any ops l → wpOp P ops Q i (Inv (l.setIfInBounds i true)) a w) : (Code.region id ops true).wp P Q a w :=
 wp_region_any hm (any_inv hend hstep _ _ _ _ (by rw [Array.toList_replicate]; exact Nat.le_trans List.count_le_length (by simp)) h0)
theorem ready_deps {l : Array Bool} {i : Nat} {o : Oper} (hm : i ∈ Region.ready md ops l) (ho : ops[i]? = some o) : ∀ e ∈ o.after, Region.binds md e = true → l.getD e.on false = true := by
 obtain ⟨_, o', ho', h⟩ := Go.mem_ready.1 hm
 have : o' = o := Option.some.inj (ho'.symm.trans ho)
 subst this
 exact h
theorem wp_op {i : Nat} {o : Oper} {K : Act → World → Prop} {a : Act} {w : World} (ho : ops[i]? = some o)
  (h : if Region.wanted o (yielded ops a.tmps) = true then Oper.wp P o a w K Q else K (a.put o.dst undef) w) : wpOp P ops Q i K a w :=
 wpOp_step ho (fun K' hK => by
  split
  ·rename_i hw; rw [if_pos hw] at h; exact Oper.wp_mono hK h
  ·rename_i hw; rw [if_neg hw] at h; exact hK _ _ h)
theorem end_listed {l : Array Bool} {i : Nat} {o : Oper} (hr : Region.ready md ops l = []) (hs : i < l.size) (ho : ops[i]? = some o) (hd : ∀ e ∈ o.after, Region.binds md e = true → l.getD e.on false = true) : l.getD i false = true := by
 cases h : l.getD i false with
 | true => rfl
 | false =>
  have : i ∈ Region.ready md ops l := Go.mem_ready.2 ⟨by simpa [Array.getD_eq_getD_getElem?, hs] using h, o, ho, hd⟩
  rw [hr] at this
  cases this
theorem get_set_self {l : Array Bool} {i : Nat} (h : i < l.size) : (l.setIfInBounds i true).getD i false = true := by
 rw [Array.getD_eq_getD_getElem?, Array.getElem?_setIfInBounds_self_of_lt h]; rfl
theorem all_listed {l : Array Bool} (hr : Region.ready md ops l = []) (hs : l.size = ops.size) (hd : ((List.range ops.size).all fun i => match ops[i]? with | some o => o.after.toList.all fun e => !Region.binds md e || decide (e.on < i) | none => true) = true) : ∀ i, i < ops.size → l.getD i false = true := by
 intro i
 induction i using Nat.strongRecOn with
 | ind i ih =>
  intro hi
  obtain ⟨o, ho⟩ : ∃ o, ops[i]? = some o := ⟨_, Array.getElem?_eq_getElem hi⟩
  refine end_listed hr (by omega) ho (fun e he hb => ?_)
  have h1 := List.all_eq_true.1 hd i (List.mem_range.2 hi)
  rw [ho] at h1
  have h2 := List.all_eq_true.1 h1 e (by simpa using he)
  have h3 : e.on < i := by simpa [hb] using h2
  exact ih e.on h3 (by omega)
theorem ready_lt {l : Array Bool} {i : Nat} (hm : i ∈ Region.ready md ops l) : i < ops.size := by
 obtain ⟨_, o, ho, _⟩ := Go.mem_ready.1 hm
 exact (Array.getElem?_eq_some_iff.1 ho).1
theorem ready_not {l : Array Bool} {i : Nat} (hm : i ∈ Region.ready md ops l) : l.getD i false = false := by
 have h := unlisted (Go.mem_ready.1 hm).1
 rw [Array.getElem?_toList] at h
 rw [Array.getD_eq_getD_getElem?, h]; rfl
end
theorem rep_no {n k : Nat} {p : Prop} (h : (Array.replicate n false).getD k false = true) : p := by
 rw [Array.getD_eq_getD_getElem?, Array.getElem?_replicate] at h
 split at h <;> simp at h
theorem two_set {w : World} {g : Nat} {a b x y : Value} {t : TypeId} (h : w.heap[g]? = some (.cells #[a, b] t (0, 0))) : ((w.setCell ⟨g, 0, none⟩ x).setCell ⟨g, 1, none⟩ y).heap[g]? = some (.cells #[x, y] t (0, 0)) := by
 have h1 := blk_set h 0 x
 exact blk_set h1 1 y
theorem far_set {w : World} {g k : Nat} {x y : Value} (h : k ≠ g) : ((w.setCell ⟨g, 0, none⟩ x).setCell ⟨g, 1, none⟩ y).heap[k]? = w.heap[k]? :=
 (Below.heap_setCell _ ⟨g, 1, none⟩ y k h).trans (Below.heap_setCell _ ⟨g, 0, none⟩ x k h)
def Rw {α : Type} (d : Kd α) (e : Nat) (c : Nat → Nat) (j base : Nat) (w : World) (v : Value) (xs : List α) : Prop := d.R e w base (fun k => c k = j) v xs
def paint (c : Nat → Nat) (N j : Nat) : Nat → Nat := fun k => if k < N then c k else j
theorem paint_old {c : Nat → Nat} {N j k : Nat} (h : k < N) : paint c N j k = c k := if_pos h
theorem paint_new {c : Nat → Nat} {N j k : Nat} (h : N ≤ k) : paint c N j k = j := if_neg (by omega)
section
variable {α : Type} {d : Kd α} {e : Nat} {c : Nat → Nat} {j base : Nat} {w w1 : World} {v : Value} {xs : List α}
theorem Rw.other (h : Rw d e c j base w v xs) (j' : Nat) (hm : ∀ k, c k = j → k < w.heap.size → w1.heap[k]? = w.heap[k]?) : Rw d e (paint c w.heap.size j') j base w1 v xs :=
 Kd.R_mono (Kd.R_step (Kd.R_mono (Kd.R_bound h) (ok' := fun k => c k = j ∧ k < w.heap.size) (fun k hk => ⟨hk.1, hk.2.2.1⟩)) (fun k hk hlt => hm k hk.1 hlt)) (fun k hk => by rw [paint_old hk.2]; exact hk.1)
theorem Rw.own (h : Rw d e c j base w v xs) : d.R e w base (fun k => paint c w.heap.size j k = j) v xs :=
 Kd.R_mono (Kd.R_bound h) (fun k hk => by rw [paint_old hk.2.2.1]; exact hk.1)
theorem Rw.keep (h : Rw d e c j base w v xs) (hm : ∀ k, c k = j → k < w.heap.size → w1.heap[k]? = w.heap[k]?) : Rw d e c j base w1 v xs :=
 Kd.R_step h hm
end
end Go.Proofs.Ytmbhjhanafmidaa.RegInv
