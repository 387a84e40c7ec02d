/- Texts of this work, put into one. -/
import Derived.Test.YtmbhjhanafmidaaProg
import Derived.Test.YtmbhjhanafmidaaUSWWords
import Derived.WalkKit
import Derived.WalkSpells
import Derived.WalkLawsBesides
import Derived.Handy
import Derived.Lib.Hide
import Derived.Lib.QuietBelow
import Derived.OwnWalk
import Derived.WalkSmall
import Derived.Deep.LoopGhost
import Derived.Deep.QuietTactic
import Derived.BigQuiet

/- Plain functions of layer 4: what dag.order and dag.Check compute. -/
set_option linter.unusedVariables false
set_option linter.unusedSimpArgs false
namespace DagPlain
def free (es : List (Int × Int)) (out : List Int) (v : Int) : Bool := !out.contains v && es.all fun e => e.2 != v || out.contains e.1
def next (n : Nat) (es : List (Int × Int)) (out : List Int) : Option Nat := (List.range n).find? fun v => free es out (v : Int)
def orderGo (n : Nat) (es : List (Int × Int)) : Nat → List Int → Option (List Int)
 | 0, out => some out
 | g + 1, out => match next n es out with | some v => orderGo n es g (out ++ [(v : Int)]) | none => none
def orderL (n : Nat) (es : List (Int × Int)) : Option (List Int) := orderGo n es n []
theorem find_range {n : Nat} {p : Nat → Bool} {v : Nat} (hv : v < n) (hp : p v = true) (hno : ∀ i, i < v → p i = false) : (List.range n).find? p = some v := by
 rw [List.find?_range_eq_some]
 exact ⟨hp, by simpa using hv, fun i hi => by simp [hno i hi]⟩
theorem find_none {n : Nat} {p : Nat → Bool} (hno : ∀ i, i < n → p i = false) : (List.range n).find? p = none := by
 rw [List.find?_eq_none]
 intro x hx
 simp [hno x (by simpa using hx)]
theorem next_none {n : Nat} {es : List (Int × Int)} {out : List Int} {g : Nat} (h : ∀ i : Nat, i < n → free es out i = false) : orderGo n es (g + 1) out = none := by
 simp only [orderGo, next]
 rw [find_none h]
theorem next_some {n : Nat} {es : List (Int × Int)} {out : List Int} {g j : Nat} (hj : j < n) (hf : free es out j = true) (h : ∀ i : Nat, i < j → free es out i = false) : orderGo n es (g + 1) out = orderGo n es g (out ++ [(j : Int)]) := by
 conv => lhs; simp only [orderGo, next]
 rw [find_range hj hf h]
theorem free_in {es : List (Int × Int)} {out : List Int} {v : Int} (h : out.contains v = true) : free es out v = false := by unfold free; rw [h]; rfl
theorem free_not {es : List (Int × Int)} {out : List Int} {v : Int} {k : Nat} (hk : k < es.length) (h2 : (es.getD k (0, 0)).2 = v) (h1 : out.contains (es.getD k (0, 0)).1 = false) : free es out v = false := by
 rw [List.getD_eq_getElem?_getD, List.getElem?_eq_getElem hk] at h1 h2
 simp only [free, Bool.and_eq_false_iff]
 refine .inr ?_
 rw [List.all_eq_false]
 refine ⟨es[k], List.getElem_mem hk, ?_⟩
 simp only [Option.getD_some] at h1 h2
 rw [h1, h2]
 simp
theorem free_yes {es : List (Int × Int)} {out : List Int} {v : Int} (h : out.contains v = false) (hk : ∀ k, k < es.length → ((es.getD k (0, 0)).2 != v || out.contains (es.getD k (0, 0)).1) = true) : free es out v = true := by
 simp only [free, h, Bool.not_false, Bool.true_and, List.all_eq_true]
 intro e he
 obtain ⟨k, hk1, rfl⟩ := List.getElem_of_mem he
 have := hk k hk1
 rw [List.getD_eq_getElem?_getD, List.getElem?_eq_getElem hk1] at this
 exact this
def oddW (n : Int) : Bool := decide (n < 0) || decide (1000 < n)
def thereB (n : Nat) (x : Int) : Bool := decide (0 ≤ x) && decide (x < n)
def oddE (n : Nat) (es : List (Int × Int)) (k : Nat) : Bool :=
 !thereB n (es.getD k (0, 0)).1 || (!thereB n (es.getD k (0, 0)).2 || (decide ((es.getD k (0, 0)).1 = (es.getD k (0, 0)).2) || (es.take k).contains (es.getD k (0, 0))))
def oddEs (n : Nat) (es : List (Int × Int)) : Bool := (List.range es.length).any (oddE n es)
def checkL (l : List Int) (es : List (Int × Int)) : Int :=
 if 64 < l.length ∨ 256 < es.length then 40 else if l.any oddW = true then 41 else if oddEs l.length es = true then 42 else if (orderL l.length es).isSome = true then 0 else 43
theorem oddEs_no {n : Nat} {es : List (Int × Int)} (h : ∀ j, j < es.length → oddE n es j = false) : oddEs n es = false := by
 unfold oddEs
 rw [List.any_eq_false]
 intro k hk
 rw [h k (by simpa using hk)]
 simp
theorem oddEs_yes {n : Nat} {es : List (Int × Int)} {k : Nat} (hk : k < es.length) (h : oddE n es k = true) : oddEs n es = true := by
 unfold oddEs
 rw [List.any_eq_true]
 exact ⟨k, by simpa using hk, h⟩
theorem oddEs_in {n : Nat} {es : List (Int × Int)} (h : oddEs n es = false) : ∀ e ∈ es, (0 ≤ e.1 ∧ e.1 < n) ∧ 0 ≤ e.2 ∧ e.2 < n := by
 intro e he
 obtain ⟨k, hk, rfl⟩ := List.getElem_of_mem he
 unfold oddEs at h
 rw [List.any_eq_false] at h
 have := h k (by simpa using hk)
 unfold oddE thereB at this
 rw [List.getD_eq_getElem?_getD, List.getElem?_eq_getElem hk] at this
 simp at this
 omega
end DagPlain

set_option linter.unusedVariables false
set_option linter.unusedSimpArgs false
namespace Go.Proofs.Ytmbhjhanafmidaa
open Go.RowKit Go.Sort
open DagPlain
open Go.Proofs.YtmbhjhanafmidaaW.PrintWords
set_option maxHeartbeats 400000 in
theorem odd_yes (n : Int) (w : World) (h : oddW n = true) : Calls Try.prog 64 #[.int .i64 n] w fun e w' => e = .returned (.bool true) ∧ w = w' := by
 have hc : n < 0 ∨ (0 ≤ n ∧ 1000 < n) := by unfold oddW at h; simp at h; omega
 clear h
 rcases hc with h | ⟨h, h'⟩
 all_goals
  go_enter Try.func64, Try.ntmps64
  go_wp2
  go_ret
  exact ⟨by simp <;> omega, rfl⟩
set_option maxHeartbeats 400000 in
theorem odd_no (n : Int) (w : World) (h : oddW n = false) : Calls Try.prog 64 #[.int .i64 n] w fun e w' => e = .returned (.bool false) ∧ w = w' := by
 have hc : 0 ≤ n ∧ n ≤ 1000 := by unfold oddW at h; simp at h; omega
 clear h
 obtain ⟨h, h'⟩ := hc
 go_enter Try.func64, Try.ntmps64
 go_wp2
 go_ret
 exact ⟨by simp <;> omega, rfl⟩
def IdxPost (w : World) (l : List Int) (e : Ending) (w' : World) : Prop := ∃ i : Int, e = .returned (.int .i64 i) ∧ (0 ≤ i ↔ l.any oddW = true) ∧ -1 ≤ i ∧ w = w'
set_option maxHeartbeats 1000000 in
theorem idx_any (A : Option Addr) (c : Nat) (l : List Int) (w : World) (hl : ReadsInt w .i64 A l.length l) (hlen : l.length ≤ 1000) :
  Calls Try.prog 69 #[.slice A l.length c, .func (Fn.func 64) #[] #[]] w (IdxPost w l) := by
 have HL := Lib.hid hl
 clear hl
 go_enter Try.func69, Try.ntmps69
 go_wp2
 go_loop [8] (fun i => ∃ k : Nat, k ≤ l.length ∧ i = .int .i64 k ∧ Hid (∀ j, j < k → oddW (l.getD j 0) = false)) (fun i => l.length - (intOf i).toNat)
 case atStart => exact ⟨0, Nat.zero_le _, rfl, by show ∀ j, j < 0 → _; omega⟩
 case round =>
  obtain ⟨k, hk, rfl, HN⟩ := hrel
  by_cases hlt : k < l.length
  ·obtain ⟨ad, hA, hcs⟩ := HL.out.2.2 (by omega)
   subst hA
   have hc := hcs k hlt
   have hmem : l.getD k 0 ∈ l := by rw [List.getD_eq_getElem?_getD, List.getElem?_eq_getElem hlt]; exact List.getElem_mem hlt
   have HM := Lib.hid hmem
   obtain ⟨n, hn⟩ : ∃ n, n = l.getD k 0 := ⟨_, rfl⟩
   rw [← hn] at hc HM
   have HNN := Lib.hid hn
   clear hcs hmem hn
   cases ho : oddW n with
   | true =>
    have C := Lib.hid (fun w1 => odd_yes n w1 ho)
    have HA : Hid (l.any oddW = true) := List.any_eq_true.2 ⟨n, HM.out, ho⟩
    clear ho
    go_wp2_with fail
    refine (C.out _).mono ?_
    rintro e w1 ⟨rfl, rfl⟩
    go_wp2
    go_ret
    exact ⟨_, rfl, ⟨fun _ => HA.out, fun _ => by omega⟩, by omega, rfl⟩
   | false =>
    have C := Lib.hid (fun w1 => odd_no n w1 ho)
    have HN2 : Hid (∀ j, j < k + 1 → oddW (l.getD j 0) = false) := by
     show ∀ j, j < k + 1 → _
     intro j hj
     by_cases e : j = k
     ·rw [e, ← HNN.out]; exact ho
     ·exact HN.out j (by omega)
    clear ho
    go_wp2_with fail
    refine (C.out _).mono ?_
    rintro e w1 ⟨rfl, rfl⟩
    go_wp2
    go_round
    case rel => exact ⟨k + 1, by omega, by go_num, HN2⟩
    case measure => simp [intOf]; omega
  ·obtain rfl : k = l.length := by omega
   have HA : Hid (¬ l.any oddW = true) := by
    show ¬ _
    rw [List.any_eq_true]
    rintro ⟨x, hx, ho⟩
    obtain ⟨j, hj, rfl⟩ := List.getElem_of_mem hx
    have := HN.out j hj
    rw [List.getD_eq_getElem?_getD, List.getElem?_eq_getElem hj] at this
    simp only [Option.getD_some] at this
    rw [this] at ho; cases ho
   clear HN
   go_wp2
   go_ret
   exact ⟨_, rfl, ⟨fun h => by omega, fun h => absurd h HA.out⟩, by omega, rfl⟩
set_option maxHeartbeats 400000 in
theorem cont_any (A : Option Addr) (c : Nat) (l : List Int) (w : World) (hl : ReadsInt w .i64 A l.length l) (hlen : l.length ≤ 1000) :
  Calls Try.prog 46 #[.slice A l.length c, .func (Fn.func 64) #[] #[]] w fun e w' => e = .returned (.bool (l.any oddW)) ∧ w = w' := by
 have C := Lib.hid (idx_any A c l w hl hlen)
 clear hl
 cases ho : l.any oddW with
 | true =>
  have HO := Lib.hid ho
  clear ho
  go_enter Try.func46, Try.ntmps46
  go_wp2_with fail
  refine C.out.mono ?_
  rintro e w1 ⟨i, rfl, h1, h2, rfl⟩
  have h0 : 0 ≤ i := h1.2 HO.out
  clear h1
  go_wp2
  go_ret
  exact ⟨by simp [h0], rfl⟩
 | false =>
  have HO : Hid (¬ l.any oddW = true) := by rw [ho]; show ¬ _; simp
  clear ho
  go_enter Try.func46, Try.ntmps46
  go_wp2_with fail
  refine C.out.mono ?_
  rintro e w1 ⟨i, rfl, h1, h2, rfl⟩
  have h0 : ¬ 0 ≤ i := fun h => HO.out (h1.1 h)
  clear h1
  go_wp2
  go_ret
  exact ⟨by simp [h0], rfl⟩
end Go.Proofs.Ytmbhjhanafmidaa

set_option linter.unusedVariables false
set_option linter.unusedSimpArgs false
namespace Go.Proofs.Ytmbhjhanafmidaa
open Go.RowKit Go.Sort
open Go.Proofs.YtmbhjhanafmidaaW.PrintWords
open DagPlain
theorem info4' : (Try.prog.info? 4).map (fun i => (i.zero, i.size, i.bytes)) = some (some (.bool false), 1, 1) := by kernel_rfl
theorem info3' : (Try.prog.info? 3).map (fun i => (i.zero, i.size, i.bytes)) = some (some (.int .i64 0), 1, 8) := by kernel_rfl
def EdR (w : World) (B : Option Addr) (es : List (Int × Int)) : Prop :=
 0 < es.length → ∃ ad, B = some ad ∧ ∀ i, i < es.length → w.cell? (ad.add (i * 2)) = some (.int .i64 (es.getD i (0, 0)).1) ∧ w.cell? ⟨(ad.add (i * 2)).block, (ad.add (i * 2)).off + 1, none⟩ = some (.int .i64 (es.getD i (0, 0)).2)
theorem EdR.below {w w' : World} {B : Option Addr} {es : List (Int × Int)} (h : EdR w B es) (hb : Below w.heap.size w w') : EdR w' B es := fun h0 => by
 obtain ⟨ad, e, hc⟩ := h h0
 refine ⟨ad, e, fun i hi => ?_⟩
 obtain ⟨h1, h2⟩ := hc i hi
 exact ⟨by rw [hb.cell (block_lt_of_cell h1)]; exact h1, by rw [hb.cell (block_lt_of_cell h2)]; exact h2⟩
def OS (w : World) (A : Option Addr) (n c : Nat) (B : Option Addr) (m d : Nat) (out : List Int) (v0 : Value) (wr : World) : Prop :=
 Below w.heap.size w wr ∧ w.heap.size + 1 < wr.heap.size ∧ wr.cell? ⟨w.heap.size, 0, none⟩ = some (.slice A n c) ∧ wr.cell? ⟨w.heap.size, 1, none⟩ = some (.slice B m d) ∧
 (∀ i, i < n → wr.cell? ⟨w.heap.size + 1, i, none⟩ = some (.bool (out.contains (i : Int)))) ∧ (∀ i, i < n → wr.frozen? ⟨w.heap.size + 1, i, none⟩ = false) ∧
 wr.ownsRow (w.heap.size + 2) 3 1 v0 out.length (encs (Value.int .i64) out)
theorem OS.alloc {w : World} {A : Option Addr} {n c : Nat} {B : Option Addr} {m d : Nat} {out : List Int} {v0 : Value} {wr : World} (h : OS w A n c B m d out v0 wr) (o : Obj) : OS w A n c B m d out v0 (wr.alloc o) := by
 obtain ⟨h1, h2, h3, h4, h5, h6, h7⟩ := h
 have hb : Below wr.heap.size wr (wr.alloc o) := (Below.refl _ _).alloc (Nat.le_refl _) _
 exact ⟨h1.alloc h1.size _, by simp; omega, by rw [hb.cell (by show w.heap.size < _; omega)]; exact h3, by rw [hb.cell (by show w.heap.size < _; omega)]; exact h4,
  fun i hi => by rw [hb.cell (by show w.heap.size + 1 < _; omega)]; exact h5 i hi, fun i hi => by rw [hb.frozen (by show w.heap.size + 1 < _; omega)]; exact h6 i hi, h7.alloc _⟩
theorem OS.push {w : World} {A : Option Addr} {n c : Nat} {B : Option Addr} {m d : Nat} {out : List Int} {v0 v1 : Value} {wr w1 : World} (h : OS w A n c B m d out v0 wr) (j : Nat) (hj : j < n) (o : Obj)
  (ho : w1.ownsRow (w.heap.size + 2) 3 1 v1 (out.length + 1) (encs (Value.int .i64) out ++ [Value.int .i64 (j : Int)])) (hg : ((wr.setCell ⟨w.heap.size + 1, j, none⟩ (.bool true)).alloc o).grownBy w1 v0.ownBlock) : OS w A n c B m d (out ++ [(j : Int)]) v1 w1 := by
 obtain ⟨h1, h2, h3, h4, h5, h6, h7⟩ := h
 have hs : ((wr.setCell ⟨w.heap.size + 1, j, none⟩ (.bool true)).alloc o).heap.size = wr.heap.size + 1 := by simp
 have hne : ∀ k, k < w.heap.size + 2 → some k ≠ v0.ownBlock := fun k hk e => by have := own_base h7 k e.symm; omega
 have hblk : ∀ k, k < w.heap.size + 2 → w1.heap[k]? = (wr.setCell ⟨w.heap.size + 1, j, none⟩ (.bool true)).heap[k]? := fun k hk => by
  rw [hg.block k (by omega) (hne k hk)]
  exact Below.heap_alloc _ _ _ (by simp; omega)
 refine ⟨((h1.setCell (p := ⟨w.heap.size + 1, j, none⟩) (by show w.heap.size ≤ w.heap.size + 1; omega) _).alloc (by simp; omega) o).grown hg (by simp; omega) (fun k hk => by have := own_base h7 k hk; omega), by have := hg.size; omega, ?_, ?_, fun i hi => ?_, fun i hi => ?_, ?_⟩
 ·rw [World.cell?_of_block (hblk w.heap.size (by omega)), World.cell?_setCell_other _ _ _ _ (by intro e; have := congrArg Addr.block e; simp at this)]; exact h3
 ·rw [World.cell?_of_block (hblk w.heap.size (by omega)), World.cell?_setCell_other _ _ _ _ (by intro e; have := congrArg Addr.block e; simp at this)]; exact h4
 ·rw [World.cell?_of_block (hblk (w.heap.size + 1) (by omega))]
  by_cases e : i = j
  ·subst e
   rw [World.cell?_setCell_same _ _ _ (h5 i hi)]
   simp
  ·rw [World.cell?_setCell_other _ _ _ _ (by intro h; exact e (congrArg Addr.off h).symm), h5 i hi]
   simp
   intro h; exact absurd (Int.ofNat.inj h) e
 ·rw [World.frozen?_of_block (hblk (w.heap.size + 1) (by omega)), World.frozen?_setCell]; exact h6 i hi
 ·have e : (out ++ [(j : Int)]).length = out.length + 1 := by simp
  rw [e, encs_append]; exact ho
theorem OS.shape {w : World} {A : Option Addr} {n c : Nat} {B : Option Addr} {m d : Nat} {out : List Int} {v0 : Value} {wr : World} (h : OS w A n c B m d out v0 wr) : ∃ A' c', v0 = .slice A' out.length c' := by
 obtain ⟨_, _, _, _, _, _, h7⟩ := h
 obtain ⟨_, h | ⟨g, cap, cur, e, _⟩⟩ := h7
 ·exact ⟨none, 0, by rw [h.1, h.2]⟩
 ·exact ⟨_, _, e⟩
theorem OS.start {w w1 : World} {A : Option Addr} {n c : Nat} {B : Option Addr} {m d : Nat} {ty : TypeId} (hown : w1.ownsRow w.heap.size 4 1 (.slice (some ⟨w.heap.size + 1, 0, none⟩) n n) n (madeCells #[Value.bool false] n).toList)
  (hgrow : (w.alloc (Obj.cells #[Value.slice A n c, Value.slice B m d] ty)).grownBy w1 none) : OS w A n c B m d [] (.slice none 0 0) w1 := by
 have hs : (w.alloc (Obj.cells #[Value.slice A n c, Value.slice B m d] ty)).heap.size = w.heap.size + 1 := by simp
 have hb0 : w1.heap[w.heap.size]? = (w.alloc (Obj.cells #[Value.slice A n c, Value.slice B m d] ty)).heap[w.heap.size]? := hgrow.block _ (by omega) (by intro h; cases h)
 have hrow := hown
 obtain ⟨hl, h | ⟨g, cap, cur, e, hg1, hg2, hg3, hg4, hg5, hg6⟩⟩ := hrow
 ·cases h.1
 ·obtain rfl : w.heap.size + 1 = g := by injection e with e1; injection e1 with e2; exact congrArg Addr.block e2
  have hsz : w.heap.size + 1 < w1.heap.size := by
   rcases Nat.lt_or_ge (w.heap.size + 1) w1.heap.size with h | h
   ·exact h
   ·rw [Array.getElem?_eq_none h] at hg2; cases hg2
  refine ⟨((Below.refl _ _).alloc (Nat.le_refl _) _).grown hgrow (by simp) (fun k h => by cases h), hsz, ?_, ?_, fun i hi => ?_, fun i hi => ?_, own_nil _ _ _ _⟩
  ·rw [World.cell?_of_block hb0]; simp only [World.cell?]; rw [show (w.alloc (Obj.cells #[Value.slice A n c, Value.slice B m d] ty)).heap[w.heap.size]? = some (Obj.cells #[Value.slice A n c, Value.slice B m d] ty) by show (w.heap.push _)[w.heap.size]? = _; simp]; rfl
  ·rw [World.cell?_of_block hb0]; simp only [World.cell?]; rw [show (w.alloc (Obj.cells #[Value.slice A n c, Value.slice B m d] ty)).heap[w.heap.size]? = some (Obj.cells #[Value.slice A n c, Value.slice B m d] ty) by show (w.heap.push _)[w.heap.size]? = _; simp]; rfl
  ·have h1 : (cur.toList.take (n * 1))[i]? = some (.bool false) := by rw [hg6, toList_madeCells_one]; simp [hi]
   rw [List.getElem?_take, if_pos (by omega), Array.getElem?_toList] at h1
   simp only [World.cell?, hg2]
   simpa using h1
  ·exact hown.frozenAt i
theorem OS.row {w : World} {A : Option Addr} {n c : Nat} {B : Option Addr} {m d : Nat} {out : List Int} {v0 : Value} {wr : World} (h : OS w A n c B m d out v0 wr) (j : Nat) (o : Obj) :
  ((wr.setCell ⟨w.heap.size + 1, j, none⟩ (.bool true)).alloc o).ownsRow (w.heap.size + 2) 3 1 v0 out.length (encs (Value.int .i64) out) := by
 obtain ⟨h1, h2, h3, h4, h5, h6, h7⟩ := h
 exact (own_setCell h7 (p := ⟨w.heap.size + 1, j, none⟩) (fun e => by have := own_base h7 (w.heap.size + 1) e.symm; omega) _).alloc _
def OrderPost (w : World) (r : Option (List Int)) (e : Ending) (w' : World) : Prop :=
 ∃ v, e = .returned (.tuple #[v, .bool r.isSome]) ∧ w'.ownsRow w.heap.size 3 1 v (r.getD []).length (encs (Value.int .i64) (r.getD [])) ∧ Below w.heap.size w w'
end Go.Proofs.Ytmbhjhanafmidaa

set_option linter.unusedVariables false
set_option linter.unusedSimpArgs false
namespace Go.Proofs.Ytmbhjhanafmidaa
open Go.RowKit Go.Sort
open Go.Proofs.YtmbhjhanafmidaaW.PrintWords
open DagPlain
theorem EdR.take {w : World} {B : Option Addr} {es : List (Int × Int)} (h : EdR w B es) (k : Nat) : EdR w B (es.take k) := fun h0 => by
 obtain ⟨ad, e, hc⟩ := h (by rw [List.length_take] at h0; omega)
 refine ⟨ad, e, fun i hi => ?_⟩
 rw [List.length_take] at hi
 have := hc i (by omega)
 rw [List.getD_eq_getElem?_getD, List.getElem?_take, if_pos (by omega), ← List.getD_eq_getElem?_getD]
 exact this
def IdxEPost (w : World) (es : List (Int × Int)) (x : Int × Int) (e : Ending) (w' : World) : Prop := ∃ i : Int, e = .returned (.int .i64 i) ∧ (0 ≤ i ↔ es.contains x = true) ∧ -1 ≤ i ∧ Below w.heap.size w w'
set_option maxHeartbeats 1000000 in
theorem idxE_any (B : Option Addr) (c : Nat) (es : List (Int × Int)) (x y : Int) (w : World) (hE : EdR w B es) (hlen : es.length ≤ 1000) :
  Calls Try.prog 87 #[.slice B es.length c, .agg #[.int .i64 x, .int .i64 y]] w (IdxEPost w es (x, y)) := by
 have HE := Lib.hid hE
 clear hE
 go_enter Try.func87, Try.ntmps87
 go_wp2
 obtain ⟨w0, hw0⟩ : ∃ w0, w0 = w.alloc (Obj.cells #[.int .i64 x, .int .i64 y] 85) := ⟨_, rfl⟩
 have hb0 : Below w.heap.size w w0 := by rw [hw0]; exact (Below.refl _ _).alloc (Nat.le_refl _) _
 have hx0 : w0.cell? ⟨w.heap.size, 0, none⟩ = some (.int .i64 x) := by rw [hw0]; simp
 have hy0 : w0.cell? ⟨w.heap.size, 1, none⟩ = some (.int .i64 y) := by rw [hw0]; simp
 rw [← hw0]
 clear hw0
 have HB0 := Lib.hid hb0
 have HX0 : Hid (w0.cell? ⟨w.heap.size, 0, none⟩ = some (.int .i64 x) ∧ w0.cell? ⟨w.heap.size, 1, none⟩ = some (.int .i64 y)) := ⟨hx0, hy0⟩
 clear hb0 hx0 hy0
 go_loopw [8] (fun i wr => ∃ k : Nat, k ≤ es.length ∧ i = .int .i64 k ∧ Hid (∀ j, j < k → es.getD j (0, 0) ≠ (x, y)) ∧ Hid (Below w0.heap.size w0 wr)) (fun i _ => es.length - (intOf i).toNat)
 case atStart => exact ⟨0, Nat.zero_le _, rfl, by show ∀ j, j < 0 → _; omega, Below.refl _ _⟩
 case round =>
  obtain ⟨k, hk, rfl, HN, HBW⟩ := hrel
  by_cases hlt : k < es.length
  ·obtain ⟨ad, rfl, hcs⟩ := HE.out (by omega)
   obtain ⟨hr1, hr2⟩ := hcs k (by omega)
   have hmem : es.getD k (0, 0) ∈ es := by rw [List.getD_eq_getElem?_getD, List.getElem?_eq_getElem hlt]; exact List.getElem_mem hlt
   obtain ⟨⟨f, t⟩, hft⟩ : ∃ p, p = es.getD k (0, 0) := ⟨_, rfl⟩
   rw [← hft] at hr1 hr2 hmem
   dsimp only at hr1 hr2
   have hbw : Below w.heap.size w wr := HB0.out.trans (HBW.out.mono HB0.out.size)
   have hrr1 : wr.cell? (ad.add (k * 2)) = some (.int .i64 f) := by rw [hbw.cell (block_lt_of_cell hr1)]; exact hr1
   have hrr2 : wr.cell? ⟨(ad.add (k * 2)).block, (ad.add (k * 2)).off + 1, none⟩ = some (.int .i64 t) := by rw [hbw.cell (block_lt_of_cell hr2)]; exact hr2
   have hx1 : wr.cell? ⟨w.heap.size, 0, none⟩ = some (.int .i64 x) := by rw [HBW.out.cell (block_lt_of_cell HX0.out.1)]; exact HX0.out.1
   have hy1 : wr.cell? ⟨w.heap.size, 1, none⟩ = some (.int .i64 y) := by rw [HBW.out.cell (block_lt_of_cell HX0.out.2)]; exact HX0.out.2
   have HM := Lib.hid hmem
   have HFT := Lib.hid hft
   clear hcs hmem hft hr1 hr2 hbw
   by_cases he : x = f
   ·by_cases he2 : y = t
    ·subst he he2
     have HC : Hid (es.contains (x, y) = true) := by show es.contains (x, y) = true; rw [List.contains_iff_mem]; exact HM.out
     go_wp2
     go_quiet (fail)
     go_wp2
     go_ret
     exact ⟨_, rfl, ⟨fun _ => HC.out, fun _ => by omega⟩, by omega, HB0.out.trans ((below_drewN HBW.out nq).mono HB0.out.size)⟩
    ·have HN2 : Hid (∀ j, j < k + 1 → es.getD j (0, 0) ≠ (x, y)) := by
      show ∀ j, j < k + 1 → _
      intro j hj
      by_cases e : j = k
      ·rw [e, ← HFT.out]; intro h; exact he2 (congrArg Prod.snd h).symm
      ·exact HN.out j (by omega)
     go_wp2
     go_quiet (fail)
     go_wp2
     go_roundw
     case rel => exact ⟨k + 1, by omega, by go_num, HN2, below_drewN HBW.out nq⟩
     case measure => simp [intOf]; omega
   ·have HN2 : Hid (∀ j, j < k + 1 → es.getD j (0, 0) ≠ (x, y)) := by
     show ∀ j, j < k + 1 → _
     intro j hj
     by_cases e : j = k
     ·rw [e, ← HFT.out]; intro h; exact he (congrArg Prod.fst h).symm
     ·exact HN.out j (by omega)
    go_wp2
    go_quiet (fail)
    go_wp2
    go_roundw
    case rel => exact ⟨k + 1, by omega, by go_num, HN2, below_drewN HBW.out nq⟩
    case measure => simp [intOf]; omega
  ·obtain rfl : k = es.length := by omega
   have HC : Hid (¬ es.contains (x, y) = true) := by
    show ¬ _
    rw [List.contains_iff_mem]
    intro hm
    obtain ⟨j, hj, e⟩ := List.getElem_of_mem hm
    have := HN.out j hj
    rw [List.getD_eq_getElem?_getD, List.getElem?_eq_getElem hj] at this
    exact this e
   clear HN
   go_wp2
   go_ret
   exact ⟨_, rfl, ⟨fun h => by omega, fun h => absurd h HC.out⟩, by omega, HB0.out.trans (HBW.out.mono HB0.out.size)⟩
set_option maxHeartbeats 400000 in
theorem contE_any (B : Option Addr) (c : Nat) (es : List (Int × Int)) (x y : Int) (w : World) (hE : EdR w B es) (hlen : es.length ≤ 1000) :
  Calls Try.prog 66 #[.slice B es.length c, .agg #[.int .i64 x, .int .i64 y]] w fun e w' => e = .returned (.bool (es.contains (x, y))) ∧ Below w.heap.size w w' := by
 have C := Lib.hid (fun w1 h => idxE_any B c es x y w1 h hlen)
 have HE := Lib.hid hE
 clear hE
 cases ho : es.contains (x, y) with
 | true =>
  have HO := Lib.hid ho
  clear ho
  go_enter Try.func66, Try.ntmps66
  go_wp2_with fail
  refine (C.out _ (HE.out.below ((Below.refl _ _).alloc (Nat.le_refl _) _))).mono ?_
  rintro e w1 ⟨i, rfl, h1, h2, hb⟩
  have h0 : 0 ≤ i := h1.2 HO.out
  have HB := Lib.hid (((Below.refl w.heap.size w).alloc (Nat.le_refl _) _).trans (hb.mono (by simp)))
  clear h1 hb
  go_wp2
  go_ret
  exact ⟨by simp [h0], HB.out⟩
 | false =>
  have HO : Hid (¬ es.contains (x, y) = true) := by rw [ho]; show ¬ _; simp
  clear ho
  go_enter Try.func66, Try.ntmps66
  go_wp2_with fail
  refine (C.out _ (HE.out.below ((Below.refl _ _).alloc (Nat.le_refl _) _))).mono ?_
  rintro e w1 ⟨i, rfl, h1, h2, hb⟩
  have h0 : ¬ 0 ≤ i := fun h => HO.out (h1.1 h)
  have HB := Lib.hid (((Below.refl w.heap.size w).alloc (Nat.le_refl _) _).trans (hb.mono (by simp)))
  clear h1 hb
  go_wp2
  go_ret
  exact ⟨by simp [h0], HB.out⟩
set_option maxHeartbeats 400000 in
theorem thereC_any (p : Addr) (A : Option Addr) (n c : Nat) (x : Int) (w : World) (hc : w.cell? p = some (.slice A n c)) (hn : n ≤ 1000) :
  Calls Try.prog 65 #[.int .i64 x, .pointer (some p)] w fun e w' => e = .returned (.bool (thereB n x)) ∧ w = w' := by
 unfold thereB
 go_enter Try.func65, Try.ntmps65
 go_wp2
 all_goals (go_ret; exact ⟨by simp <;> omega, rfl⟩)
end Go.Proofs.Ytmbhjhanafmidaa

set_option linter.unusedVariables false
set_option linter.unusedSimpArgs false
namespace Go.Proofs.Ytmbhjhanafmidaa
open Go.RowKit Go.Sort
open Go.Proofs.YtmbhjhanafmidaaW.PrintWords
open DagPlain
set_option maxHeartbeats 4000000 in
theorem order_any (A : Option Addr) (c n : Nat) (B : Option Addr) (d : Nat) (es : List (Int × Int)) (w : World) (hn : n ≤ 64) (hm : es.length ≤ 256) (hE : EdR w B es) (hin : ∀ e ∈ es, (0 ≤ e.1 ∧ e.1 < n) ∧ 0 ≤ e.2 ∧ e.2 < n) :
  Calls Try.prog 67 #[.agg #[.slice A n c, .slice B es.length d]] w (OrderPost w (orderL n es)) := by
 obtain ⟨i0, hi, hz0, hz1, hz2⟩ := info_parts info4'
 obtain ⟨j0, ki, kz0, kz1, kz2⟩ := info_parts info3'
 have HE := Lib.hid hE
 have HIN := Lib.hid hin
 clear hE hin
 go_enter Try.func67, Try.ntmps67
 go_wp2
 go_step3
 go_wp2_with (at_make; refine wpList_make_full _ rfl _ _ 81 rfl w.heap.size 4 i0 (.bool false) 1 Try.underlying81 hi hz0 hz1 _ _ _ _ n rfl rfl rfl rfl (by rw [hz2]; omega) (by unfold maxLen; omega) (by simp) ?_)
 intro w1 hown hgrow
 have HS0 : Hid (OS w A n c B es.length d [] (.slice none 0 0) w1) := OS.start hown hgrow
 clear hown hgrow
 go_wp2
 go_step3
 go_wp2
 go_loopg [4] n (fun g v wr => ∃ (out : List Int) (v0 : Value), v0 = v ∧ out.length + g = n ∧ Hid (OS w A n c B es.length d out v0 wr) ∧ Hid (orderGo n es g out = orderL n es))
 case atStart => exact ⟨[], _, rfl, by simp, HS0, rfl⟩
 case round =>
  clear HS0
  obtain ⟨out, v0, rfl, hg, HS, HR⟩ := hrel
  obtain ⟨A', c', rfl⟩ := HS.out.shape
  obtain ⟨hb1, hb2, hc0, hc1, -, -, -⟩ := HS.out
  clear hb1
  cases gk with
  | zero =>
   have hlt : (out.length : Int) = (n : Int) := by omega
   go_wp2_with fail
   rw [Exit.noGoto_ret]; go_ret2
   have HZ : orderL n es = some out := HR.out.symm
   rw [HZ]
   obtain ⟨hb1, -, -, -, -, -, h7⟩ := HS.out
   exact ⟨_, rfl, own_weaken h7 (by omega), hb1⟩
  | succ g =>
   have hlt : (out.length : Int) < (n : Int) := by omega
   go_wp2_with fail
   go_step3
   go_wp2_with fail
   go_step3
   go_wp2_with fail
   go_loopg [4, 22] n (fun g2 v i wr => ∃ (j : Nat), .slice A' out.length c' = v ∧ i = .int .i64 j ∧ j + g2 = n ∧ Hid (OS w A n c B es.length d out (.slice A' out.length c') wr) ∧ Hid (∀ i : Nat, i < j → free es out i = false))
   case atStart => exact ⟨0, rfl, rfl, by omega, HS, by show ∀ i, i < 0 → _; omega⟩
   case round =>
    clear HS hc0 hc1 hb2
    obtain ⟨j, rfl, rfl, hj, HS, HF⟩ := hrel
    cases gk with
    | zero =>
     have hjn : (j : Int) = (n : Int) := by omega
     have HZ : Hid (orderL n es = none) := by
      show orderL n es = none
      rw [← HR.out]
      exact next_none fun i hi => HF.out i (by omega)
     clear HR HF
     go_wp2_with fail
     rw [Exit.noGoto_ret]
     go_wp2_with fail
     rw [Exit.noGoto_ret]
     go_ret2
     rw [HZ.out]
     exact ⟨_, rfl, own_nil _ _ _ _, HS.out.1⟩
    | succ g2 =>
     have hlt : (j : Int) < (n : Int) := by omega
     obtain ⟨hb1, hb2, hc0, hc1, hdn, hfz, -⟩ := HS.out
     have hdj := hdn j (by omega)
     clear hb1 hdn hfz
     cases ho : out.contains (j : Int) with
     | true =>
      rw [ho] at hdj
      have HF2 : Hid (∀ i : Nat, i < j + 1 → free es out i = false) := by
       show ∀ i : Nat, i < j + 1 → _
       intro i hi
       by_cases e : i = j
       ·rw [e]; exact free_in ho
       ·exact HF.out i (by omega)
      clear ho
      go_wp2_with fail
      go_roundg g2
      case rel => exact ⟨j + 1, rfl, by go_num, by omega, HS, HF2⟩
      case measure => omega
     | false =>
      rw [ho] at hdj
      have HOJ := Lib.hid ho
      clear ho
      go_wp2_with fail
      go_loopg [32] es.length (fun g3 i wr => ∃ (k : Nat), i = .int .i64 k ∧ k + g3 = es.length ∧ Hid (OS w A n c B es.length d out (.slice A' out.length c') wr) ∧ Hid (∀ i : Nat, i < k → ((es.getD i (0, 0)).2 != (j : Int) || out.contains (es.getD i (0, 0)).1) = true))
      case atStart => exact ⟨0, rfl, by omega, HS, by show ∀ i, i < 0 → _; omega⟩
      case round =>
       clear HS hc0 hc1 hb2 hdj
       obtain ⟨k, rfl, hk, HS, HG⟩ := hrel
       cases gk with
       | zero =>
        have hkn : (k : Int) = (es.length : Int) := by omega
        obtain ⟨hb1, hb2, hc0, hc1, hdn, hfz, -⟩ := HS.out
        have hdj := hdn j (by omega)
        have hfj := hfz j (by omega)
        clear hb1 hdn hfz
        have hlo : out.length < n := by omega
        go_wp2_with (at_builtin; refine wpList_append_own _ rfl _ _ 22 rfl (w.heap.size + 2) 3 j0 (.int .i64 0) 1 8 Try.underlying22 ki kz0 kz1 kz2 rfl (by decide) _ out.length _ rfl (HS.out.row j _) ⟨wr.heap.size, 0, none⟩ 1 1 [.int .i64 (j : Int)] rfl rfl (by have := cell_one_new (wr.setCell ⟨w.heap.size + 1, j, none⟩ (.bool true)) (.int .i64 (j : Int)) 3; simpa using this) (by simp [Value.oneCell']) (by unfold maxLen; omega) (by omega) (by simp; omega) ?_)
        intro v3 w3 hown3 hgrow3 _
        have HS3 : Hid (OS w A n c B es.length d (out ++ [(j : Int)]) v3 w3) := HS.out.push j (by omega) _ hown3 hgrow3
        have HR3 : Hid (orderGo n es g (out ++ [(j : Int)]) = orderL n es) := by
         show _ = _
         rw [← HR.out]
         exact (next_some (by omega) (free_yes HOJ.out fun k' hk' => HG.out k' (by omega)) HF.out).symm
        clear hown3 hgrow3 HS HR
        go_wp2_with fail
        rw [Exit.noGoto_exit]
        go_wp2_with fail
        go_roundg g
        case rel => exact ⟨out ++ [(j : Int)], v3, rfl, by simp; omega, HS3, HR3⟩
        case measure => omega
       | succ g3 =>
        have hlt3 : (k : Int) < (es.length : Int) := by omega
        obtain ⟨ad, rfl, hcs⟩ := HE.out (by omega)
        obtain ⟨hr1, hr2⟩ := hcs k (by omega)
        have hi1 := HIN.out (es.getD k (0, 0)) (by rw [List.getD_eq_getElem?_getD, List.getElem?_eq_getElem (by omega)]; exact List.getElem_mem _)
        have hi1' := hi1
        obtain ⟨⟨hf0, hf1⟩, ht0, ht1⟩ := hi1'
        obtain ⟨f, hf⟩ : ∃ f : Nat, (f : Int) = (es.getD k (0, 0)).1 := ⟨(es.getD k (0, 0)).1.toNat, by omega⟩
        obtain ⟨t, ht⟩ : ∃ t : Nat, (t : Int) = (es.getD k (0, 0)).2 := ⟨(es.getD k (0, 0)).2.toNat, by omega⟩
        rw [← hf] at hr1 hf0 hf1
        rw [← ht] at hr2 ht0 ht1
        have HFT : Hid ((es.getD k (0, 0)).1 = (f : Int) ∧ (es.getD k (0, 0)).2 = (t : Int)) := ⟨hf.symm, ht.symm⟩
        obtain ⟨hb1, hb2, hc0, hc1, hdn, hfz, -⟩ := HS.out
        have hb1s := hb1.size
        have hrr1 : wr.cell? (ad.add (k * 2)) = some (.int .i64 (f : Int)) := by rw [hb1.cell (block_lt_of_cell hr1)]; exact hr1
        have hrr2 : wr.cell? ⟨(ad.add (k * 2)).block, (ad.add (k * 2)).off + 1, none⟩ = some (.int .i64 (t : Int)) := by rw [hb1.cell (block_lt_of_cell hr2)]; exact hr2
        have hdf := hdn f (by omega)
        have HB := Lib.hid hb1
        clear hb1 hdn hfz hcs hr1 hr2 hi1 hf ht
        by_cases htj : t = j
        ·subst htj
         cases hof : out.contains (f : Int) with
         | true =>
          rw [hof] at hdf
          have HG2 : Hid (∀ i : Nat, i < k + 1 → ((es.getD i (0, 0)).2 != (t : Int) || out.contains (es.getD i (0, 0)).1) = true) := by
           show ∀ i : Nat, i < k + 1 → _
           intro i hi
           by_cases e : i = k
           ·rw [e, HFT.out.1, HFT.out.2, hof]; simp
           ·exact HG.out i (by omega)
          clear hof
          go_wp2_with fail
          go_roundg g3
          case rel => exact ⟨k + 1, by go_num, by omega, HS.out.alloc _, HG2⟩
          case measure => omega
         | false =>
          rw [hof] at hdf
          have HF2 : Hid (∀ i : Nat, i < t + 1 → free es out i = false) := by
           show ∀ i : Nat, i < t + 1 → _
           intro i hi
           by_cases e : i = t
           ·rw [e]; exact free_not (k := k) (by omega) HFT.out.2 (by rw [HFT.out.1]; exact hof)
           ·exact HF.out i (by omega)
          clear hof
          go_wp2_with fail
          go_roundg g2
          case rel => exact ⟨t + 1, rfl, by go_num, by omega, HS.out.alloc _, HF2⟩
          case measure => omega
        ·have htj' : ¬ (t : Int) = (j : Int) := by omega
         have HG2 : Hid (∀ i : Nat, i < k + 1 → ((es.getD i (0, 0)).2 != (j : Int) || out.contains (es.getD i (0, 0)).1) = true) := by
          show ∀ i : Nat, i < k + 1 → _
          intro i hi
          by_cases e : i = k
          ·rw [e, HFT.out.1, HFT.out.2, show ((t : Int) != (j : Int)) = true from bne_iff_ne.2 htj']; rfl
          ·exact HG.out i (by omega)
         clear hdf
         go_wp2_with fail
         go_roundg g3
         case rel => exact ⟨k + 1, by go_num, by omega, HS.out.alloc _, HG2⟩
         case measure => omega
end Go.Proofs.Ytmbhjhanafmidaa

set_option linter.unusedVariables false
set_option linter.unusedSimpArgs false
namespace Go.Proofs.Ytmbhjhanafmidaa
open Go.RowKit Go.Sort
open Go.Proofs.YtmbhjhanafmidaaW.PrintWords
open DagPlain
theorem regrown_calls {P : Program} {f : FuncId} {args : Array Value} {w : World} {v : Value} (h : ∀ W, Below w.heap.size w W → Calls P f args W fun e w' => e = .returned v ∧ Below W.heap.size W w') (d : Nat) (os : Array Obj) :
  Calls P f args (grow (redrawn w d) os) fun e w'' => e = .returned v ∧ ∃ p : Regrown, w'' = grow (redrawn w p.d) p.os := Calls.regrown_of (h _ (below_regrown w d os))
def CheckPost (w : World) (r : Int) (e : Ending) (w' : World) : Prop := e = .returned (.int .i64 r) ∧ Below w.heap.size w w'
set_option maxHeartbeats 1000000 in
theorem check_any (A : Option Addr) (c : Nat) (l : List Int) (B : Option Addr) (d : Nat) (es : List (Int × Int)) (w : World) (hl : ReadsInt w .i64 A l.length l) (hn1 : l.length ≤ 1000) (hm1 : es.length ≤ 1000) (hE : EdR w B es) (hcd : es.length ≤ d) :
  Calls Try.prog 43 #[.agg #[.slice A l.length c, .slice B es.length d]] w (CheckPost w (checkL l es)) := by
 have HE := Lib.hid hE
 have HL := Lib.hid hl
 clear hE hl
 by_cases hn : l.length ≤ 64
 ·by_cases hm : es.length ≤ 256
  ·have hnI : (l.length : Int) ≤ 64 := by omega
   have hmI : (es.length : Int) ≤ 256 := by omega
   have C1 := Lib.hid (fun w1 h => cont_any A c l w1 h hn1)
   cases ho : l.any oddW with
   | true =>
    have HR : Hid (checkL l es = 41) := by show checkL l es = 41; unfold checkL; rw [if_neg (by omega), if_pos ho]
    have HO := Lib.hid ho
    clear ho
    go_enter Try.func43, Try.ntmps43
    go_wp2_with fail
    refine (C1.out _ (HL.out.below ((Below.refl _ _).alloc (Nat.le_refl _) _))).mono ?_
    rintro e w1 ⟨rfl, rfl⟩
    rw [HO.out]
    go_wp2_with fail
    go_ret
    exact ⟨by rw [HR.out]; rfl, (Below.refl _ _).alloc (Nat.le_refl _) _⟩
   | false =>
    have HO := Lib.hid ho
    go_enter Try.func43, Try.ntmps43
    go_wp2_with fail
    refine (C1.out _ (HL.out.below ((Below.refl _ _).alloc (Nat.le_refl _) _))).mono ?_
    rintro e w1 ⟨rfl, rfl⟩
    rw [HO.out]
    clear ho
    go_wp2_with fail
    obtain ⟨w0, hw0⟩ : ∃ w0, w0 = w.alloc (Obj.cells #[.slice A l.length c, .slice B es.length d] 25) := ⟨_, rfl⟩
    have hb0 : Below w.heap.size w w0 := by rw [hw0]; exact (Below.refl _ _).alloc (Nat.le_refl _) _
    have hx0 : w0.cell? ⟨w.heap.size, 0, none⟩ = some (.slice A l.length c) := by rw [hw0]; simp
    have hy0 : w0.cell? ⟨w.heap.size, 1, none⟩ = some (.slice B es.length d) := by rw [hw0]; simp
    rw [← hw0]
    clear hw0
    have HB0 := Lib.hid hb0
    have HX0 : Hid (w0.cell? ⟨w.heap.size, 0, none⟩ = some (.slice A l.length c) ∧ w0.cell? ⟨w.heap.size, 1, none⟩ = some (.slice B es.length d)) := ⟨hx0, hy0⟩
    clear hb0 hx0 hy0
    go_loopw [25] (fun i wr => ∃ k : Nat, k ≤ es.length ∧ i = .int .i64 k ∧ Hid (∀ j, j < k → oddE l.length es j = false) ∧ Hid (Below w0.heap.size w0 wr)) (fun i _ => es.length - (intOf i).toNat)
    case atStart => exact ⟨0, Nat.zero_le _, rfl, by show ∀ j, j < 0 → _; omega, Below.refl _ _⟩
    case round =>
     obtain ⟨k, hk, rfl, HN, HBW⟩ := hrel
     by_cases hlt : k < es.length
     ·obtain ⟨ad, rfl, hcs⟩ := HE.out (by omega)
      obtain ⟨hr1, hr2⟩ := hcs k (by omega)
      obtain ⟨⟨f, t⟩, hft⟩ : ∃ p, p = es.getD k (0, 0) := ⟨_, rfl⟩
      rw [← hft] at hr1 hr2
      dsimp only at hr1 hr2
      have hbw : Below w.heap.size w wr := HB0.out.trans (HBW.out.mono HB0.out.size)
      have hrr1 : wr.cell? (ad.add (k * 2)) = some (.int .i64 f) := by rw [hbw.cell (block_lt_of_cell hr1)]; exact hr1
      have hrr2 : wr.cell? ⟨(ad.add (k * 2)).block, (ad.add (k * 2)).off + 1, none⟩ = some (.int .i64 t) := by rw [hbw.cell (block_lt_of_cell hr2)]; exact hr2
      have HBW2 := Lib.hid hbw
      have HFT := Lib.hid hft
      have hltI : (k : Int) < (es.length : Int) := by omega
      have hkd : (k : Int) ≤ (d : Int) := by omega
      have hkd' : k ≤ d := by omega
      clear hcs hft hr1 hr2 hbw
      go_wp2_with fail
      obtain ⟨W, hW⟩ : ∃ W, W = wr.alloc (Obj.cells #[.int .i64 f, .int .i64 t] 85) := ⟨_, rfl⟩
      have hbW : Below wr.heap.size wr W := by rw [hW]; exact (Below.refl _ _).alloc (Nat.le_refl _) _
      have hf0 : W.cell? ⟨wr.heap.size, 0, none⟩ = some (.int .i64 f) := by rw [hW]; simp
      have ht0 : W.cell? ⟨wr.heap.size, 1, none⟩ = some (.int .i64 t) := by rw [hW]; simp
      rw [← hW]
      clear hW
      have hbW0 : Below w0.heap.size w0 W := HBW.out.trans (hbW.mono HBW.out.size)
      have hA0 : W.cell? ⟨w.heap.size, 0, none⟩ = some (.slice A l.length c) := by rw [hbW0.cell (block_lt_of_cell HX0.out.1)]; exact HX0.out.1
      have hA1 : W.cell? ⟨w.heap.size, 1, none⟩ = some (.slice (some ad) es.length d) := by rw [hbW0.cell (block_lt_of_cell HX0.out.2)]; exact HX0.out.2
      have hbwW : Below w.heap.size w W := HBW2.out.trans (hbW.mono HBW2.out.size)
      have CT : ∀ x d' os', _ := fun x => regrown_calls (w := W) (fun W2 hB => (thereC_any ⟨w.heap.size, 0, none⟩ A l.length c x W2 (by rw [hB.cell (block_lt_of_cell hA0)]; exact hA0) hn1).mono fun e w' ⟨he, hw⟩ => ⟨he, by subst hw; exact Below.refl _ _⟩)
      have CE : ∀ d' os', Calls Try.prog 66 #[.slice (some ad) k d, .agg #[.int .i64 f, .int .i64 t]] (grow (redrawn W d') os') _ := regrown_calls (w := W) (fun W2 hB => by
       have := contE_any (some ad) d (es.take k) f t W2 ((HE.out.take k).below (hbwW.trans (hB.mono hbwW.size))) (by rw [List.length_take]; omega)
       rw [List.length_take, Nat.min_eq_left hk] at this
       exact this)
      have CF := CT f
      have CT := CT t
      have HF0 := fun d' os' => cell_regrown hf0 d' os'
      have HT0 := fun d' os' => cell_regrown ht0 d' os'
      have HA1 := fun d' os' => cell_regrown hA1 d' os'
      have HBW3 := Lib.hid hbW0
      clear hbW hf0 ht0 hA0 hA1 hbwW hrr1 hrr2 hbW0
      cases hb1 : thereB l.length f with
      | false =>
       rw [hb1] at CF
       have HR : Hid (checkL l es = 42) := by
        show checkL l es = 42
        unfold checkL
        rw [if_neg (by omega), if_neg (by rw [HO.out]; simp), if_pos (oddEs_yes hlt (by unfold oddE; rw [← HFT.out]; rw [hb1]; rfl))]
       clear hb1
       refine wp_region_quiet_below (by kernel_rfl) (by kernel_rfl) ?_
       repeat (any_goals (first | go_big_quiet_step ((with_reducible (first | exact CF _ _ | exact CT _ _ | exact CE _ _))) | quiet_step ((with_reducible (first | exact CF _ _ | exact CT _ _ | exact CE _ _)))))
       refine wpQuiet_nil ?_
       rintro _ ⟨⟨dq, osq⟩, rfl⟩
       have HB3 := Lib.hid (HBW3.out.trans ((below_regrown W dq osq).mono HBW3.out.size))
       clear CF CT CE HF0 HT0 HA1
       generalize grow (redrawn W dq) osq = w4 at *
       go_wp2_with fail
       go_ret
       exact ⟨by rw [HR.out]; rfl, HB0.out.trans (HB3.out.mono HB0.out.size)⟩
      | true =>
       rw [hb1] at CF
       cases hb2 : thereB l.length t with
       | false =>
        rw [hb2] at CT
        have HR : Hid (checkL l es = 42) := by
         show checkL l es = 42
         unfold checkL
         rw [if_neg (by omega), if_neg (by rw [HO.out]; simp), if_pos (oddEs_yes hlt (by unfold oddE; rw [← HFT.out]; rw [hb2]; simp))]
        clear hb1 hb2
        refine wp_region_quiet_below (by kernel_rfl) (by kernel_rfl) ?_
        repeat (any_goals (first | go_big_quiet_step ((with_reducible (first | exact CF _ _ | exact CT _ _ | exact CE _ _))) | quiet_step ((with_reducible (first | exact CF _ _ | exact CT _ _ | exact CE _ _)))))
        refine wpQuiet_nil ?_
        rintro _ ⟨⟨dq, osq⟩, rfl⟩
        have HB3 := Lib.hid (HBW3.out.trans ((below_regrown W dq osq).mono HBW3.out.size))
        clear CF CT CE HF0 HT0 HA1
        generalize grow (redrawn W dq) osq = w4 at *
        go_wp2_with fail
        go_ret
        exact ⟨by rw [HR.out]; rfl, HB0.out.trans (HB3.out.mono HB0.out.size)⟩
       | true =>
        rw [hb2] at CT
        by_cases hft2 : f = t
        ·subst hft2
         have HR : Hid (checkL l es = 42) := by
          show checkL l es = 42
          unfold checkL
          rw [if_neg (by omega), if_neg (by rw [HO.out]; simp), if_pos (oddEs_yes hlt (by unfold oddE; rw [← HFT.out]; simp))]
         clear hb1 hb2
         refine wp_region_quiet_below (by kernel_rfl) (by kernel_rfl) ?_
         repeat (any_goals (first | go_big_quiet_step ((with_reducible (first | exact CF _ _ | exact CT _ _ | exact CE _ _))) | quiet_step ((with_reducible (first | exact CF _ _ | exact CT _ _ | exact CE _ _)))))
         refine wpQuiet_nil ?_
         rintro _ ⟨⟨dq, osq⟩, rfl⟩
         have HB3 := Lib.hid (HBW3.out.trans ((below_regrown W dq osq).mono HBW3.out.size))
         clear CF CT CE HF0 HT0 HA1
         generalize grow (redrawn W dq) osq = w4 at *
         go_wp2_with fail
         go_ret
         exact ⟨by rw [HR.out]; rfl, HB0.out.trans (HB3.out.mono HB0.out.size)⟩
        ·have hft3 : decide (f = t) = false := by simpa using hft2
         cases hc : (es.take k).contains (f, t) with
         | true =>
          rw [hc] at CE
          have HR : Hid (checkL l es = 42) := by
           show checkL l es = 42
           unfold checkL
           rw [if_neg (by omega), if_neg (by rw [HO.out]; simp), if_pos (oddEs_yes hlt (by unfold oddE; rw [← HFT.out]; rw [hc]; simp))]
          clear hb1 hb2 hc hft3
          refine wp_region_quiet_below (by kernel_rfl) (by kernel_rfl) ?_
          repeat (any_goals (first | go_big_quiet_step ((with_reducible (first | exact CF _ _ | exact CT _ _ | exact CE _ _))) | quiet_step ((with_reducible (first | exact CF _ _ | exact CT _ _ | exact CE _ _)))))
          refine wpQuiet_nil ?_
          rintro _ ⟨⟨dq, osq⟩, rfl⟩
          have HB3 := Lib.hid (HBW3.out.trans ((below_regrown W dq osq).mono HBW3.out.size))
          clear CF CT CE HF0 HT0 HA1
          generalize grow (redrawn W dq) osq = w4 at *
          go_wp2_with fail
          go_ret
          exact ⟨by rw [HR.out]; rfl, HB0.out.trans (HB3.out.mono HB0.out.size)⟩
         | false =>
          rw [hc] at CE
          have HN2 : Hid (∀ j, j < k + 1 → oddE l.length es j = false) := by
           show ∀ j, j < k + 1 → _
           intro j hj
           by_cases e : j = k
           ·rw [e]; unfold oddE; rw [← HFT.out]; dsimp only; rw [hb1, hb2, hft3, hc]; rfl
           ·exact HN.out j (by omega)
          clear hb1 hb2 hc hft3
          refine wp_region_quiet_below (by kernel_rfl) (by kernel_rfl) ?_
          repeat (any_goals (first | go_big_quiet_step ((with_reducible (first | exact CF _ _ | exact CT _ _ | exact CE _ _))) | quiet_step ((with_reducible (first | exact CF _ _ | exact CT _ _ | exact CE _ _)))))
          refine wpQuiet_nil ?_
          rintro _ ⟨⟨dq, osq⟩, rfl⟩
          have HB3 := Lib.hid (HBW3.out.trans ((below_regrown W dq osq).mono HBW3.out.size))
          clear CF CT CE HF0 HT0 HA1
          generalize grow (redrawn W dq) osq = w4 at *
          go_wp2_with fail
          go_roundw
          case rel => exact ⟨k + 1, by omega, by go_num, HN2, HB3⟩
          case measure => simp [intOf]; omega
     ·obtain rfl : k = es.length := by omega
      have hOE : oddEs l.length es = false := oddEs_no HN.out
      have C2 := Lib.hid (fun w1 h => order_any A c l.length B d es w1 hn hm h (oddEs_in hOE))
      have hw1 : wr.cell? ⟨w.heap.size, 0, none⟩ = some (.slice A l.length c) := by rw [HBW.out.cell (block_lt_of_cell HX0.out.1)]; exact HX0.out.1
      have hw2 : wr.cell? ⟨w.heap.size, 1, none⟩ = some (.slice B es.length d) := by rw [HBW.out.cell (block_lt_of_cell HX0.out.2)]; exact HX0.out.2
      have HR : Hid (checkL l es = if (orderL l.length es).isSome = true then 0 else 43) := by
       show checkL l es = _
       unfold checkL
       rw [if_neg (by omega), if_neg (by rw [HO.out]; simp), if_neg (by rw [hOE]; simp)]
      have HBW2 : Hid (Below w.heap.size w wr) := HB0.out.trans (HBW.out.mono HB0.out.size)
      clear HN hOE
      go_wp2_with fail
      refine (C2.out _ (HE.out.below HBW2.out)).mono ?_
      rintro e w2 ⟨v, rfl, hown, hb⟩
      have HB2 : Hid (Below w.heap.size w w2) := HBW2.out.trans (hb.mono HBW2.out.size)
      clear hown hb
      cases hos : (orderL l.length es).isSome with
      | true =>
       have HR2 : Hid (checkL l es = 0) := by show checkL l es = 0; rw [HR.out, hos]; rfl
       clear hos HR
       go_wp2_with fail
       go_ret
       exact ⟨by rw [HR2.out]; rfl, HB2.out⟩
      | false =>
       have HR2 : Hid (checkL l es = 43) := by show checkL l es = 43; rw [HR.out, hos]; rfl
       clear hos HR
       go_wp2_with fail
       go_ret
       exact ⟨by rw [HR2.out]; rfl, HB2.out⟩
  ·have HR : Hid (checkL l es = 40) := by show checkL l es = 40; unfold checkL; rw [if_pos (by omega)]
   have hnI : (l.length : Int) ≤ 64 := by omega
   have hmI : (256 : Int) < es.length := by omega
   go_enter Try.func43, Try.ntmps43
   go_wp2_with fail
   go_ret
   exact ⟨by rw [HR.out]; rfl, (Below.refl _ _).alloc (Nat.le_refl _) _⟩
 ·have HR : Hid (checkL l es = 40) := by show checkL l es = 40; unfold checkL; rw [if_pos (by omega)]
  have hnI : (64 : Int) < l.length := by omega
  go_enter Try.func43, Try.ntmps43
  go_wp2_with fail
  go_ret
  exact ⟨by rw [HR.out]; rfl, (Below.refl _ _).alloc (Nat.le_refl _) _⟩
end Go.Proofs.Ytmbhjhanafmidaa

set_option linter.unusedVariables false
set_option linter.unusedSimpArgs false
namespace Go.Proofs.Ytmbhjhanafmidaa
open Go.RowKit Go.Sort
open Go.Proofs.YtmbhjhanafmidaaW.PrintWords
open DagPlain
def ordL (l : List Int) (es : List (Int × Int)) : List Int := if checkL l es = 0 then (orderL l.length es).getD [] else []
set_option maxHeartbeats 1000000 in
theorem ordL_yes {l : List Int} {es : List (Int × Int)} (h : checkL l es = 0) : l.length ≤ 64 ∧ es.length ≤ 256 ∧ oddEs l.length es = false ∧ l.any oddW = false ∧ (orderL l.length es).isSome = true := by
 unfold checkL at h
 split at h
 ·cases h
 ·split at h
  ·cases h
  ·split at h
   ·cases h
   ·split at h
    ·rename_i h1 h2 h3 h4
     exact ⟨by omega, by omega, by simpa using h3, by simpa using h2, h4⟩
    ·cases h
theorem sum_snoc (l : List Int) (k : Nat) (h : k < l.length) : (l.take (k + 1)).sum = (l.take k).sum + l.getD k 0 := by
 rw [List.getD_eq_getElem?_getD, List.getElem?_eq_getElem h, List.take_add_one, List.getElem?_eq_getElem h]
 simp only [Option.toList_some, List.sum_append, List.sum_cons, List.sum_nil, Option.getD_some]
 omega
end Go.Proofs.Ytmbhjhanafmidaa
