/- Texts of this work, put into one. -/
import Derived.Test.YtmbhjhanafmidaaUSMSchA
import Derived.Test.YtmbhjhanafmidaaUSMSchB
import Derived.Test.YtmbhjhanafmidaaUSMDagB
set_option linter.unusedVariables false
set_option linter.unusedSimpArgs false
namespace LstPlain
open DagPlain SchPlain
def overC (left : List Int) (n : Int) : Bool := decide (left.getD n.toNat 0 = 0)
def waitL (left : List Int) (n : Int) (e : Int × Int) : Bool := e.2 == n && !overC left e.1
def freeC (es : List (Int × Int)) (left : List Int) (n : Int) : Bool := !es.any (waitL left n)
def badOn (es : List (Int × Int)) (on left : List Int) (c : Nat) : Bool :=
 on.getD c 0 != -1 && (decide (on.getD c 0 < 0) || (decide ((left.length : Int) ≤ on.getD c 0) || (overC left (on.getD c 0) || ((on.take c).contains (on.getD c 0) || !freeC es left (on.getD c 0)))))
def badLeft (es : List (Int × Int)) (left : List Int) (n : Nat) : Bool := overC left n && !freeC es left n
def sizesC (l on left : List Int) : Bool := decide (1 ≤ on.length) && decide (on.length ≤ 8) && decide (left.length = l.length) && !left.any oddW
def rightC (l : List Int) (es : List (Int × Int)) (on left : List Int) : Bool := sizesC l on left && !(List.range on.length).any (badOn es on left) && !(List.range left.length).any (badLeft es left)
def crewR (l : List Int) (es : List (Int × Int)) (on left : List Int) : Int := if checkL l es = 0 then (if rightC l es on left = true then 0 else 110) else checkL l es
def readyB (es : List (Int × Int)) (on left : List Int) (n : Nat) : Bool := !overC left n && !on.contains (n : Int) && freeC es left n
def readyL (es : List (Int × Int)) (on left : List Int) : List Int := ((List.range left.length).filter (readyB es on left)).map fun (n : Nat) => (n : Int)
def fillS (s : List Int × List Int) (c : Nat) : List Int × List Int :=
 if s.1.getD c 0 = -1 then (match s.2 with | [] => s | y :: r => (s.1.set c y, r)) else s
def fillL (r on : List Int) : List Int := ((List.range on.length).foldl fillS (on, r)).1
def tickS (s : List Int × List Int × List Int) (c : Nat) : List Int × List Int × List Int :=
 if s.1.getD c 0 = -1 then s else
  (if s.2.1.getD (s.1.getD c 0).toNat 0 - 1 = 0 then s.1.set c (-1) else s.1, s.2.1.set (s.1.getD c 0).toNat (s.2.1.getD (s.1.getD c 0).toNat 0 - 1), if s.2.1.getD (s.1.getD c 0).toNat 0 - 1 = 0 then s.2.2 ++ [s.1.getD c 0] else s.2.2)
def tickL (on left : List Int) : List Int × List Int × List Int := (List.range on.length).foldl tickS (on, left, [])
end LstPlain

set_option linter.unusedVariables false
set_option linter.unusedSimpArgs false
namespace Go.Proofs.Ytmbhjhanafmidaa
open Go.RowKit Go.Sort
open DagPlain SchPlain LstPlain
open Go.Proofs.YtmbhjhanafmidaaW.PrintWords
def posN (n : Int) : Bool := decide (0 < n)
set_option maxHeartbeats 400000 in
theorem tL_yes (n : Int) (w : World) (h : oddW n = true) : Calls Try.prog 68 #[.int .i64 n] w fun e w' => e = .returned (.bool true) ∧ w = w' := by
 have hc : n < 0 ∨ (0 ≤ n ∧ 1000 < n) := by unfold oddW at h; simp at h; omega
 clear h
 rcases hc with h | ⟨h, h'⟩
 all_goals
  go_enter Try.func68, Try.ntmps68
  go_wp2
  go_ret
  exact ⟨by simp <;> omega, rfl⟩
set_option maxHeartbeats 400000 in
theorem tL_no (n : Int) (w : World) (h : oddW n = false) : Calls Try.prog 68 #[.int .i64 n] w fun e w' => e = .returned (.bool false) ∧ w = w' := by
 have hc : 0 ≤ n ∧ n ≤ 1000 := by unfold oddW at h; simp at h; omega
 clear h
 obtain ⟨h, h'⟩ := hc
 go_enter Try.func68, Try.ntmps68
 go_wp2
 go_ret
 exact ⟨by simp <;> omega, rfl⟩
def IdxLPost (w : World) (l : List Int) (e : Ending) (w' : World) : Prop := ∃ i : Int, e = .returned (.int .i64 i) ∧ (0 ≤ i ↔ l.any oddW = true) ∧ -1 ≤ i ∧ w = w'
set_option maxHeartbeats 1000000 in
theorem idxL_any (A : Option Addr) (c : Nat) (l : List Int) (w : World) (hl : ReadsInt w .i64 A l.length l) (hlen : l.length ≤ 1000) :
  Calls Try.prog 69 #[.slice A l.length c, .func (Fn.func 68) #[] #[]] w (IdxLPost w l) := by
 have HL := Lib.hid hl
 clear hl
 go_enter Try.func69, Try.ntmps69
 go_wp2
 go_loop [8] (fun i => ∃ k : Nat, k ≤ l.length ∧ i = .int .i64 k ∧ Hid (∀ j, j < k → oddW (l.getD j 0) = false)) (fun i => l.length - (intOf i).toNat)
 case atStart => exact ⟨0, Nat.zero_le _, rfl, by show ∀ j, j < 0 → _; omega⟩
 case round =>
  obtain ⟨k, hk, rfl, HN⟩ := hrel
  by_cases hlt : k < l.length
  ·obtain ⟨ad, hA, hcs⟩ := HL.out.2.2 (by omega)
   subst hA
   have hc := hcs k hlt
   have hmem : l.getD k 0 ∈ l := by rw [List.getD_eq_getElem?_getD, List.getElem?_eq_getElem hlt]; exact List.getElem_mem hlt
   have HM := Lib.hid hmem
   obtain ⟨n, hn⟩ : ∃ n, n = l.getD k 0 := ⟨_, rfl⟩
   rw [← hn] at hc HM
   have HNN := Lib.hid hn
   clear hcs hmem hn
   cases ho : oddW n with
   | true =>
    have C := Lib.hid (fun w1 => tL_yes n w1 ho)
    have HA : Hid (l.any oddW = true) := List.any_eq_true.2 ⟨n, HM.out, ho⟩
    clear ho
    go_wp2_with fail
    refine (C.out _).mono ?_
    rintro e w1 ⟨rfl, rfl⟩
    go_wp2
    go_ret
    exact ⟨_, rfl, ⟨fun _ => HA.out, fun _ => by omega⟩, by omega, rfl⟩
   | false =>
    have C := Lib.hid (fun w1 => tL_no n w1 ho)
    have HN2 : Hid (∀ j, j < k + 1 → oddW (l.getD j 0) = false) := by
     show ∀ j, j < k + 1 → _
     intro j hj
     by_cases e : j = k
     ·rw [e, ← HNN.out]; exact ho
     ·exact HN.out j (by omega)
    clear ho
    go_wp2_with fail
    refine (C.out _).mono ?_
    rintro e w1 ⟨rfl, rfl⟩
    go_wp2
    go_round
    case rel => exact ⟨k + 1, by omega, by go_num, HN2⟩
    case measure => simp [intOf]; omega
  ·obtain rfl : k = l.length := by omega
   have HA : Hid (¬ l.any oddW = true) := by
    show ¬ _
    rw [List.any_eq_true]
    rintro ⟨x, hx, ho⟩
    obtain ⟨j, hj, rfl⟩ := List.getElem_of_mem hx
    have := HN.out j hj
    rw [List.getD_eq_getElem?_getD, List.getElem?_eq_getElem hj] at this
    simp only [Option.getD_some] at this
    rw [this] at ho; cases ho
   clear HN
   go_wp2
   go_ret
   exact ⟨_, rfl, ⟨fun h => by omega, fun h => absurd h HA.out⟩, by omega, rfl⟩
set_option maxHeartbeats 400000 in
theorem contL_any (A : Option Addr) (c : Nat) (l : List Int) (w : World) (hl : ReadsInt w .i64 A l.length l) (hlen : l.length ≤ 1000) :
  Calls Try.prog 46 #[.slice A l.length c, .func (Fn.func 68) #[] #[]] w fun e w' => e = .returned (.bool (l.any oddW)) ∧ w = w' := by
 have C := Lib.hid (idxL_any A c l w hl hlen)
 clear hl
 cases ho : l.any oddW with
 | true =>
  have HO := Lib.hid ho
  clear ho
  go_enter Try.func46, Try.ntmps46
  go_wp2_with fail
  refine C.out.mono ?_
  rintro e w1 ⟨i, rfl, h1, h2, rfl⟩
  have h0 : 0 ≤ i := h1.2 HO.out
  clear h1
  go_wp2
  go_ret
  exact ⟨by simp [h0], rfl⟩
 | false =>
  have HO : Hid (¬ l.any oddW = true) := by rw [ho]; show ¬ _; simp
  clear ho
  go_enter Try.func46, Try.ntmps46
  go_wp2_with fail
  refine C.out.mono ?_
  rintro e w1 ⟨i, rfl, h1, h2, rfl⟩
  have h0 : ¬ 0 ≤ i := fun h => HO.out (h1.1 h)
  clear h1
  go_wp2
  go_ret
  exact ⟨by simp [h0], rfl⟩
set_option maxHeartbeats 400000 in
theorem tR_yes (n : Int) (w : World) (h : posN n = true) : Calls Try.prog 47 #[.int .i64 n] w fun e w' => e = .returned (.bool true) ∧ w = w' := by
 have hc : 0 < n ∨ 0 < n := by unfold posN at h; simp at h; omega
 clear h
 rcases hc with h | h
 all_goals
  go_enter Try.func47, Try.ntmps47
  go_wp2
  go_ret
  exact ⟨by simp <;> omega, rfl⟩
set_option maxHeartbeats 400000 in
theorem tR_no (n : Int) (w : World) (h : posN n = false) : Calls Try.prog 47 #[.int .i64 n] w fun e w' => e = .returned (.bool false) ∧ w = w' := by
 have hc : ¬ 0 < n := by unfold posN at h; simp at h; omega
 clear h
 go_enter Try.func47, Try.ntmps47
 go_wp2
 go_ret
 exact ⟨by simp <;> omega, rfl⟩
def IdxRPost (w : World) (l : List Int) (e : Ending) (w' : World) : Prop := ∃ i : Int, e = .returned (.int .i64 i) ∧ (0 ≤ i ↔ l.any posN = true) ∧ -1 ≤ i ∧ w = w'
set_option maxHeartbeats 1000000 in
theorem idxR_any (A : Option Addr) (c : Nat) (l : List Int) (w : World) (hl : ReadsInt w .i64 A l.length l) (hlen : l.length ≤ 1000) :
  Calls Try.prog 69 #[.slice A l.length c, .func (Fn.func 47) #[] #[]] w (IdxRPost w l) := by
 have HL := Lib.hid hl
 clear hl
 go_enter Try.func69, Try.ntmps69
 go_wp2
 go_loop [8] (fun i => ∃ k : Nat, k ≤ l.length ∧ i = .int .i64 k ∧ Hid (∀ j, j < k → posN (l.getD j 0) = false)) (fun i => l.length - (intOf i).toNat)
 case atStart => exact ⟨0, Nat.zero_le _, rfl, by show ∀ j, j < 0 → _; omega⟩
 case round =>
  obtain ⟨k, hk, rfl, HN⟩ := hrel
  by_cases hlt : k < l.length
  ·obtain ⟨ad, hA, hcs⟩ := HL.out.2.2 (by omega)
   subst hA
   have hc := hcs k hlt
   have hmem : l.getD k 0 ∈ l := by rw [List.getD_eq_getElem?_getD, List.getElem?_eq_getElem hlt]; exact List.getElem_mem hlt
   have HM := Lib.hid hmem
   obtain ⟨n, hn⟩ : ∃ n, n = l.getD k 0 := ⟨_, rfl⟩
   rw [← hn] at hc HM
   have HNN := Lib.hid hn
   clear hcs hmem hn
   cases ho : posN n with
   | true =>
    have C := Lib.hid (fun w1 => tR_yes n w1 ho)
    have HA : Hid (l.any posN = true) := List.any_eq_true.2 ⟨n, HM.out, ho⟩
    clear ho
    go_wp2_with fail
    refine (C.out _).mono ?_
    rintro e w1 ⟨rfl, rfl⟩
    go_wp2
    go_ret
    exact ⟨_, rfl, ⟨fun _ => HA.out, fun _ => by omega⟩, by omega, rfl⟩
   | false =>
    have C := Lib.hid (fun w1 => tR_no n w1 ho)
    have HN2 : Hid (∀ j, j < k + 1 → posN (l.getD j 0) = false) := by
     show ∀ j, j < k + 1 → _
     intro j hj
     by_cases e : j = k
     ·rw [e, ← HNN.out]; exact ho
     ·exact HN.out j (by omega)
    clear ho
    go_wp2_with fail
    refine (C.out _).mono ?_
    rintro e w1 ⟨rfl, rfl⟩
    go_wp2
    go_round
    case rel => exact ⟨k + 1, by omega, by go_num, HN2⟩
    case measure => simp [intOf]; omega
  ·obtain rfl : k = l.length := by omega
   have HA : Hid (¬ l.any posN = true) := by
    show ¬ _
    rw [List.any_eq_true]
    rintro ⟨x, hx, ho⟩
    obtain ⟨j, hj, rfl⟩ := List.getElem_of_mem hx
    have := HN.out j hj
    rw [List.getD_eq_getElem?_getD, List.getElem?_eq_getElem hj] at this
    simp only [Option.getD_some] at this
    rw [this] at ho; cases ho
   clear HN
   go_wp2
   go_ret
   exact ⟨_, rfl, ⟨fun h => by omega, fun h => absurd h HA.out⟩, by omega, rfl⟩
set_option maxHeartbeats 400000 in
theorem contR_any (A : Option Addr) (c : Nat) (l : List Int) (w : World) (hl : ReadsInt w .i64 A l.length l) (hlen : l.length ≤ 1000) :
  Calls Try.prog 46 #[.slice A l.length c, .func (Fn.func 47) #[] #[]] w fun e w' => e = .returned (.bool (l.any posN)) ∧ w = w' := by
 have C := Lib.hid (idxR_any A c l w hl hlen)
 clear hl
 cases ho : l.any posN with
 | true =>
  have HO := Lib.hid ho
  clear ho
  go_enter Try.func46, Try.ntmps46
  go_wp2_with fail
  refine C.out.mono ?_
  rintro e w1 ⟨i, rfl, h1, h2, rfl⟩
  have h0 : 0 ≤ i := h1.2 HO.out
  clear h1
  go_wp2
  go_ret
  exact ⟨by simp [h0], rfl⟩
 | false =>
  have HO : Hid (¬ l.any posN = true) := by rw [ho]; show ¬ _; simp
  clear ho
  go_enter Try.func46, Try.ntmps46
  go_wp2_with fail
  refine C.out.mono ?_
  rintro e w1 ⟨i, rfl, h1, h2, rfl⟩
  have h0 : ¬ 0 ≤ i := fun h => HO.out (h1.1 h)
  clear h1
  go_wp2
  go_ret
  exact ⟨by simp [h0], rfl⟩
def CR (w : World) (O : Option Addr) (oc : Nat) (on : List Int) (L : Option Addr) (lc : Nat) (left : List Int) : Prop :=
 (on.length ≤ oc ∧ ReadsInt w .i64 O on.length on) ∧ left.length ≤ lc ∧ ReadsInt w .i64 L left.length left
theorem CR.below {w w' : World} {O : Option Addr} {oc : Nat} {on : List Int} {L : Option Addr} {lc : Nat} {left : List Int} (h : CR w O oc on L lc left) (hb : Below w.heap.size w w') : CR w' O oc on L lc left :=
 ⟨⟨h.1.1, h.1.2.below hb⟩, h.2.1, h.2.2.below hb⟩
set_option maxHeartbeats 1000000 in
theorem over_any (O : Option Addr) (n oc : Nat) (L : Option Addr) (lc : Nat) (left : List Int) (i : Nat) (w : World) (hi : i < left.length) (hm : left.length ≤ 1000) (h : ReadsInt w .i64 L left.length left) :
  Calls Try.prog 58 #[.agg #[.slice O n oc, .slice L left.length lc], .int .i64 (i : Int)] w fun e w' => e = .returned (.bool (overC left i)) ∧ Below w.heap.size w w' := by
 have hal := below_alloc w (.cells #[.slice O n oc, .slice L left.length lc] 27)
 obtain ⟨ad, rfl, hcs⟩ := (h.below hal).2.2 (by omega)
 have hc := hcs i hi
 have HD : Hid (overC left (i : Int) = decide (left.getD i 0 = 0)) := rfl
 clear hcs h
 generalize left.getD i 0 = x at *
 by_cases hx : x = 0
 ·subst hx
  have HR : Hid (overC left (i : Int) = true) := HD.out
  clear HD
  go_enter Try.func58, Try.ntmps58
  go_wp2
  go_ret
  exact ⟨by rw [HR.out]; rfl, hal⟩
 ·have hxb : (x == 0) = false := by simpa using hx
  have HR : Hid (overC left (i : Int) = false) := by show _ = _; rw [HD.out]; simpa using hx
  clear HD hx
  go_enter Try.func58, Try.ntmps58
  go_wp2
  go_ret
  exact ⟨by rw [HR.out]; rfl, hal⟩
def CapL (w : World) (a : Addr) (g : Nat) (x : Int) (O : Option Addr) (n oc : Nat) (L : Option Addr) (m lc : Nat) : Prop := w.cell? a = some (.int .i64 x) ∧ w.cell? ⟨g, 0, none⟩ = some (.slice O n oc) ∧ w.cell? ⟨g, 1, none⟩ = some (.slice L m lc)
theorem CapL.below {w w' : World} {a : Addr} {g : Nat} {x : Int} {O : Option Addr} {n oc : Nat} {L : Option Addr} {m lc : Nat} (h : CapL w a g x O n oc L m lc) (hb : Below w.heap.size w w') : CapL w' a g x O n oc L m lc :=
 ⟨by rw [hb.cell (block_lt_of_cell h.1)]; exact h.1, by rw [hb.cell (block_lt_of_cell h.2.1)]; exact h.2.1, by rw [hb.cell (block_lt_of_cell h.2.2)]; exact h.2.2⟩
set_option maxHeartbeats 1000000 in
theorem waitL_any (a : Addr) (g : Nat) (x : Int) (O : Option Addr) (n oc : Nat) (L : Option Addr) (lc : Nat) (left : List Int) (e : Int × Int) (w : World) (he : 0 ≤ e.1 ∧ e.1 < left.length) (hm : left.length ≤ 1000) (hl : ReadsInt w .i64 L left.length left) (hcp : CapL w a g x O n oc L left.length lc) :
  Calls Try.prog 84 #[.agg #[.int .i64 e.1, .int .i64 e.2], .pointer (some a), .pointer (some ⟨g, 0, none⟩)] w fun x_ w' => x_ = .returned (.bool (waitL left x e)) ∧ Below w.heap.size w w' := by
 obtain ⟨e1, e2⟩ := e
 obtain ⟨i, rfl⟩ : ∃ i : Nat, e1 = (i : Int) := ⟨e1.toNat, by dsimp only at he; omega⟩
 have hi : i < left.length := by dsimp only at he; omega
 dsimp only
 have C := Lib.hid (fun w1 h => over_any O n oc L lc left i w1 hi hm h)
 have HD : Hid (waitL left x ((i : Int), e2) = (e2 == x && !overC left i)) := rfl
 have hal := below_alloc w (.cells #[.int .i64 (i : Int), .int .i64 e2] 85)
 have HL := Lib.hid (hl.below hal)
 obtain ⟨ha, hb, hc⟩ := hcp.below hal
 clear hl he hi hcp
 cases hcmp : e2 == x with
 | true =>
  have HR : Hid (waitL left x ((i : Int), e2) = !overC left i) := by show _ = _; rw [HD.out, hcmp]; rfl
  clear HD
  go_enter Try.func84, Try.ntmps84
  go_wp2_with fail
  refine (C.out _ HL.out).mono ?_
  rintro e w1 ⟨rfl, hb1⟩
  have HB1 := Lib.hid (hal.trans (hb1.mono hal.size))
  clear hb1
  go_wp2_with fail
  go_ret
  exact ⟨by rw [HR.out]; rfl, HB1.out⟩
 | false =>
  have HR : Hid (waitL left x ((i : Int), e2) = false) := by show _ = _; rw [HD.out, hcmp]; rfl
  clear HD
  go_enter Try.func84, Try.ntmps84
  go_wp2_with fail
  go_ret
  exact ⟨by rw [HR.out]; rfl, hal⟩
def IdxKPost (w : World) (left : List Int) (x : Int) (es : List (Int × Int)) (e : Ending) (w' : World) : Prop := ∃ i : Int, e = .returned (.int .i64 i) ∧ (0 ≤ i ↔ es.any (waitL left x) = true) ∧ -1 ≤ i ∧ Below w.heap.size w w'
set_option maxHeartbeats 2000000 in
theorem idxK_any (a : Addr) (g : Nat) (x : Int) (O : Option Addr) (n oc : Nat) (L : Option Addr) (lc : Nat) (left : List Int) (hlm : left.length ≤ 1000) (B : Option Addr) (d : Nat) (es : List (Int × Int)) (w : World) (hs : ReadsInt w .i64 L left.length left) (hE : EdR w B es) (hm : es.length ≤ 1000) (hes : ∀ e ∈ es, 0 ≤ e.1 ∧ e.1 < left.length) (hcp : CapL w a g x O n oc L left.length lc) :
  Calls Try.prog 89 #[.slice B es.length d, .func (Fn.func 84) #[] #[.pointer (some a), .pointer (some ⟨g, 0, none⟩)]] w (IdxKPost w left x es) := by
 have HE := Lib.hid hE
 have HS := Lib.hid hs
 have HCP := Lib.hid hcp
 have HES := Lib.hid hes
 clear hE hs hcp hes
 go_enter Try.func89, Try.ntmps89
 go_wp2_with fail
 go_loopw [8] (fun i wr => ∃ k : Nat, k ≤ es.length ∧ i = .int .i64 k ∧ Hid (∀ j, j < k → waitL left x (es.getD j (0, 0)) = false) ∧ Hid (Below w.heap.size w wr)) (fun i _ => es.length - (intOf i).toNat)
 case atStart => exact ⟨0, Nat.zero_le _, rfl, by show ∀ j, j < 0 → _; omega, Below.refl _ _⟩
 case round =>
  obtain ⟨k, hk, rfl, HN, HBW⟩ := hrel
  by_cases hlt : k < es.length
  ·obtain ⟨ad, hA, hcs⟩ := (HE.out.below HBW.out) (by omega)
   subst hA
   obtain ⟨hc1, hc2⟩ := hcs k hlt
   have hmem : es.getD k (0, 0) ∈ es := by rw [List.getD_eq_getElem?_getD, List.getElem?_eq_getElem hlt]; exact List.getElem_mem hlt
   have HM := Lib.hid hmem
   have hin := HES.out _ hmem
   obtain ⟨y, hy⟩ : ∃ y, y = es.getD k (0, 0) := ⟨_, rfl⟩
   rw [← hy] at hc1 hc2 HM hin
   have HNN := Lib.hid hy
   clear hcs hmem hy
   have C := Lib.hid (fun w1 h1 h2 => waitL_any a g x O n oc L lc left y w1 hin hlm h1 h2)
   cases ho : waitL left x y with
   | true =>
    rw [ho] at C
    have HA : Hid (es.any (waitL left x) = true) := List.any_eq_true.2 ⟨y, HM.out, ho⟩
    clear ho
    go_wp2_with fail
    refine (C.out _ (HS.out.below HBW.out) (HCP.out.below HBW.out)).mono ?_
    rintro e w1 ⟨rfl, hb⟩
    have HB1 := Lib.hid (HBW.out.trans (hb.mono HBW.out.size))
    clear hb hc1 hc2 HBW
    go_wp2_with fail
    go_ret
    exact ⟨_, rfl, ⟨fun _ => HA.out, fun _ => by omega⟩, by omega, HB1.out⟩
   | false =>
    rw [ho] at C
    have HN2 : Hid (∀ j, j < k + 1 → waitL left x (es.getD j (0, 0)) = false) := by
     show ∀ j, j < k + 1 → _
     intro j hj
     by_cases e : j = k
     ·rw [e, ← HNN.out]; exact ho
     ·exact HN.out j (by omega)
    clear ho
    go_wp2_with fail
    refine (C.out _ (HS.out.below HBW.out) (HCP.out.below HBW.out)).mono ?_
    rintro e w1 ⟨rfl, hb⟩
    have HB1 := Lib.hid (HBW.out.trans (hb.mono HBW.out.size))
    clear hb hc1 hc2 HBW
    go_wp2_with fail
    go_roundw
    case rel => exact ⟨k + 1, by omega, by go_num, HN2, HB1⟩
    case measure => simp [intOf]; omega
  ·obtain rfl : k = es.length := by omega
   have HA : Hid (¬ es.any (waitL left x) = true) := by
    show ¬ _
    rw [List.any_eq_true]
    rintro ⟨y, hy, ho⟩
    obtain ⟨j, hj, rfl⟩ := List.getElem_of_mem hy
    have := HN.out j hj
    rw [List.getD_eq_getElem?_getD, List.getElem?_eq_getElem hj] at this
    simp only [Option.getD_some] at this
    rw [this] at ho; cases ho
   clear HN
   go_wp2_with fail
   go_ret
   exact ⟨_, rfl, ⟨fun h => by omega, fun h => absurd h HA.out⟩, by omega, HBW.out⟩
set_option maxHeartbeats 400000 in
theorem contK_any (a : Addr) (g : Nat) (x : Int) (O : Option Addr) (n oc : Nat) (L : Option Addr) (lc : Nat) (left : List Int) (hlm : left.length ≤ 1000) (B : Option Addr) (d : Nat) (es : List (Int × Int)) (w : World) (hs : ReadsInt w .i64 L left.length left) (hE : EdR w B es) (hm : es.length ≤ 1000) (hes : ∀ e ∈ es, 0 ≤ e.1 ∧ e.1 < left.length) (hcp : CapL w a g x O n oc L left.length lc) :
  Calls Try.prog 76 #[.slice B es.length d, .func (Fn.func 84) #[] #[.pointer (some a), .pointer (some ⟨g, 0, none⟩)]] w fun e w' => e = .returned (.bool (es.any (waitL left x))) ∧ Below w.heap.size w w' := by
 have C := Lib.hid (idxK_any a g x O n oc L lc left hlm B d es w hs hE hm hes hcp)
 clear hs hE hcp hes
 cases ho : es.any (waitL left x) with
 | true =>
  have HO := Lib.hid ho
  clear ho
  go_enter Try.func76, Try.ntmps76
  go_wp2_with fail
  refine C.out.mono ?_
  rintro e w1 ⟨i, rfl, h1, h2, hb⟩
  have h0 : 0 ≤ i := h1.2 HO.out
  have HB := Lib.hid hb
  clear h1 hb
  go_wp2_with fail
  go_ret
  exact ⟨by simp [h0], HB.out⟩
 | false =>
  have HO : Hid (¬ es.any (waitL left x) = true) := by rw [ho]; show ¬ _; simp
  clear ho
  go_enter Try.func76, Try.ntmps76
  go_wp2_with fail
  refine C.out.mono ?_
  rintro e w1 ⟨i, rfl, h1, h2, hb⟩
  have h0 : ¬ 0 ≤ i := fun h => HO.out (h1.1 h)
  have HB := Lib.hid hb
  clear h1 hb
  go_wp2_with fail
  go_ret
  exact ⟨by simp [h0], HB.out⟩
theorem capL_new (w : World) (V : Array Value) (x : Int) (O : Option Addr) (n oc : Nat) (L : Option Addr) (m lc : Nat) (t1 t2 t3 : TypeId) : CapL (((w.alloc (Obj.cells V t1)).alloc (Obj.cells #[Value.slice O n oc, Value.slice L m lc] t2)).alloc (Obj.cells #[Value.int IntKind.i64 x] t3)) ⟨w.heap.size + 1 + 1, 0, none⟩ (w.heap.size + 1) x O n oc L m lc := by
 have s1 : (w.alloc (Obj.cells V t1)).heap.size = w.heap.size + 1 := World.size_alloc _ _
 generalize w.alloc (Obj.cells V t1) = w1 at *
 have s2 : (w1.alloc (Obj.cells #[Value.slice O n oc, Value.slice L m lc] t2)).heap.size = w.heap.size + 1 + 1 := by rw [World.size_alloc, s1]
 have e2 : (w1.alloc (Obj.cells #[Value.slice O n oc, Value.slice L m lc] t2)).cell? ⟨w.heap.size + 1, 0, none⟩ = some (.slice O n oc) := by rw [← s1, World.cell?_alloc_mark]; rfl
 have f2 : (w1.alloc (Obj.cells #[Value.slice O n oc, Value.slice L m lc] t2)).cell? ⟨w.heap.size + 1, 1, none⟩ = some (.slice L m lc) := by rw [← s1, World.cell?_alloc_mark]; rfl
 generalize w1.alloc (Obj.cells #[Value.slice O n oc, Value.slice L m lc] t2) = w2 at *
 exact ⟨by rw [← s2, World.cell?_alloc_mark]; rfl, ((below_alloc w2 _).cell (block_lt_of_cell e2)).trans e2, ((below_alloc w2 _).cell (block_lt_of_cell f2)).trans f2⟩
set_option maxHeartbeats 1000000 in
theorem lFree_any (A : Option Addr) (c : Nat) (l : List Int) (B : Option Addr) (d : Nat) (es : List (Int × Int)) (O : Option Addr) (oc : Nat) (on : List Int) (L : Option Addr) (lc : Nat) (left : List Int) (x : Int) (w : World) (hg : GR w A c l B d es) (hcr : CR w O oc on L lc left) (hn : l.length ≤ 1000 ∧ es.length ≤ 1000) (ho : on.length ≤ 1000) (hlm : left.length ≤ 1000) (hes : ∀ e ∈ es, 0 ≤ e.1 ∧ e.1 < left.length) :
  Calls Try.prog 60 #[.agg #[.slice A l.length c, .slice B es.length d], .agg #[.slice O on.length oc, .slice L left.length lc], .int .i64 x] w fun e w' => e = .returned (.bool (freeC es left x)) ∧ Below w.heap.size w w' := by
 have HE := Lib.hid hg.2.2
 have HS := Lib.hid hcr.2.2
 have C := Lib.hid (fun a g w1 h1 h2 h3 => contK_any a g x O on.length oc L lc left hlm B d es w1 h1 h2 hn.2 hes h3)
 have HF : Hid (freeC es left x = !es.any (waitL left x)) := rfl
 clear hg hcr hes
 generalize on.length = no at *
 generalize l.length = nl at *
 go_enter Try.func60, Try.ntmps60
 go_wp2_with fail
 have HBA : Hid (Below w.heap.size w (((w.alloc (Obj.cells #[Value.slice A nl c, Value.slice B es.length d] 25)).alloc (Obj.cells #[Value.slice O no oc, Value.slice L left.length lc] 27)).alloc (Obj.cells #[Value.int IntKind.i64 x] 3))) :=
  (((Below.refl _ _).alloc (Nat.le_refl _) _).alloc (by simp) _).alloc (by simp; omega) _
 refine (C.out ⟨w.heap.size + 1 + 1, 0, none⟩ (w.heap.size + 1) _ (HS.out.below HBA.out) (HE.out.below HBA.out) (capL_new w _ x O no oc L left.length lc _ _ _)).mono ?_
 rintro e w1 ⟨rfl, hb⟩
 have HB1 := Lib.hid (HBA.out.trans (hb.mono HBA.out.size))
 clear hb HBA
 go_wp2_with fail
 go_ret
 exact ⟨by rw [HF.out]; rfl, HB1.out⟩
def ClonePost (w : World) (zs : List Int) (e : Ending) (w' : World) : Prop := ∃ v, e = .returned v ∧ w'.ownsRow w.heap.size 3 1 v zs.length (encs (Value.int .i64) zs) ∧ Below w.heap.size w w'
set_option maxHeartbeats 2000000 in
set_option maxRecDepth 100000 in
theorem clone_any (A : Option Addr) (c : Nat) (zs : List Int) (w : World) (h : ReadsInt w .i64 A zs.length zs) (hbig : zs.length ≤ 100000) : Calls Try.prog 48 #[.slice A zs.length c] w (ClonePost w zs) := by
 have q22 : ∀ (w : World) (a : Option Addr) (n c n' c' : Nat), (binOp .eql 22 (.slice a n c) (.slice none n' c')).run Try.prog w = .ok (.bool a.isNone) w := fun w a n c n' c' => Lib.run_eql_slice_nil w _ _ a n c n' c' Try.underlying22
 obtain ⟨i0, hi, hz0, hz1, hz2⟩ := info_parts info3''
 cases A with
 | none =>
  have h0 : zs.length = 0 := by
   rcases Nat.eq_zero_or_pos zs.length with e | e
   ·exact e
   ·obtain ⟨ad, e2, _⟩ := h.2.2 e; cases e2
  have hz : Hid (zs = []) := List.length_eq_zero_iff.1 h0
  rw [h0]
  clear h h0
  go_enter Try.func48, Try.ntmps48
  go_wp2
  go_ret
  exact ⟨_, rfl, by rw [hz.out]; exact World.ownsRow_nil _ _ _ _, Below.refl _ _⟩
 | some ad =>
  have HA : Hid (ReadsInt w .i64 (some ad) zs.length zs) := h
  clear h
  go_enter Try.func48, Try.ntmps48
  go_wp2_with (at_builtin; refine wpList_append_own _ rfl _ _ 22 rfl w.heap.size 3 i0 (.int .i64 0) 1 8 Try.underlying22 hi hz0 hz1 hz2 rfl (by decide) _ _ _ rfl (World.ownsRow_made w #[] 0 (Nat.le_refl _) (Nat.zero_le _) rfl) ad zs.length c (encs (Value.int .i64) zs) rfl ?qc1 ?qc2 ?qc3 ?qc4 ?qc5 ?qc6 ?_)
  case qc1 => simp [encs]
  case qc2 =>
   intro j u hj
   have hjn : j < zs.length := by
    have := (List.getElem?_eq_some_iff.1 hj).1
    simpa [encs] using this
   obtain ⟨ad', e, hc⟩ := HA.out.2.2 (by omega)
   cases e
   refine Lib.cell?_alloc_some _ ?_
   rw [hc j hjn, ← hj]
   simp [encs, List.getD_eq_getElem?_getD, List.getElem?_eq_getElem hjn]
  case qc3 => intro u hu; obtain ⟨x, _, rfl⟩ := List.mem_map.1 hu; rfl
  case qc4 => unfold maxLen; omega
  case qc5 => omega
  case qc6 => simp
  intro v' w1 hown hgrow hnil
  go_wp2
  go_ret
  exact ⟨v', rfl, by simpa using hown, ((Below.refl _ w).alloc (Nat.le_refl _) _).grown hgrow (by simp) (by intro k hk; simp [Value.ownBlock] at hk; omega)⟩
end Go.Proofs.Ytmbhjhanafmidaa

set_option linter.unusedVariables false
set_option linter.unusedSimpArgs false
namespace Go.Proofs.Ytmbhjhanafmidaa
open Go.RowKit Go.Sort
open DagPlain SchPlain LstPlain
open Go.Proofs.YtmbhjhanafmidaaW.PrintWords
theorem boxes2 (w : World) (A : Option Addr) (n c : Nat) (B : Option Addr) (m d : Nat) (O : Option Addr) (no oc : Nat) (L : Option Addr) (nl lc : Nat) (t1 t2 : TypeId) :
  Below w.heap.size w ((w.alloc (Obj.cells #[Value.slice A n c, Value.slice B m d] t1)).alloc (Obj.cells #[Value.slice O no oc, Value.slice L nl lc] t2)) ∧
  ((w.alloc (Obj.cells #[Value.slice A n c, Value.slice B m d] t1)).alloc (Obj.cells #[Value.slice O no oc, Value.slice L nl lc] t2)).heap.size = w.heap.size + 1 + 1 ∧
  (((w.alloc (Obj.cells #[Value.slice A n c, Value.slice B m d] t1)).alloc (Obj.cells #[Value.slice O no oc, Value.slice L nl lc] t2)).cell? ⟨w.heap.size, 0, none⟩ = some (.slice A n c) ∧
   ((w.alloc (Obj.cells #[Value.slice A n c, Value.slice B m d] t1)).alloc (Obj.cells #[Value.slice O no oc, Value.slice L nl lc] t2)).cell? ⟨w.heap.size, 1, none⟩ = some (.slice B m d)) ∧
  ((w.alloc (Obj.cells #[Value.slice A n c, Value.slice B m d] t1)).alloc (Obj.cells #[Value.slice O no oc, Value.slice L nl lc] t2)).cell? ⟨w.heap.size + 1, 0, none⟩ = some (.slice O no oc) ∧
  ((w.alloc (Obj.cells #[Value.slice A n c, Value.slice B m d] t1)).alloc (Obj.cells #[Value.slice O no oc, Value.slice L nl lc] t2)).cell? ⟨w.heap.size + 1, 1, none⟩ = some (.slice L nl lc) := by
 refine ⟨(((Below.refl _ _).alloc (Nat.le_refl _) _).alloc (by simp) _), by simp, ?_⟩
 have s1 : (w.alloc (Obj.cells #[Value.slice A n c, Value.slice B m d] t1)).heap.size = w.heap.size + 1 := World.size_alloc _ _
 have e1 : (w.alloc (Obj.cells #[Value.slice A n c, Value.slice B m d] t1)).cell? ⟨w.heap.size, 0, none⟩ = some (.slice A n c) := by rw [World.cell?_alloc_mark]; rfl
 have f1 : (w.alloc (Obj.cells #[Value.slice A n c, Value.slice B m d] t1)).cell? ⟨w.heap.size, 1, none⟩ = some (.slice B m d) := by rw [World.cell?_alloc_mark]; rfl
 generalize w.alloc (Obj.cells #[Value.slice A n c, Value.slice B m d] t1) = w1 at *
 exact ⟨⟨((below_alloc w1 _).cell (block_lt_of_cell e1)).trans e1, ((below_alloc w1 _).cell (block_lt_of_cell f1)).trans f1⟩, by rw [← s1, World.cell?_alloc_mark]; rfl, by rw [← s1, World.cell?_alloc_mark]; rfl⟩
def BXL (g : Nat) (A : Option Addr) (n c : Nat) (B : Option Addr) (m d : Nat) (O : Option Addr) (no oc : Nat) (L : Option Addr) (nl lc : Nat) (W : World) : Prop :=
 (W.cell? ⟨g, 0, none⟩ = some (.slice A n c) ∧ W.cell? ⟨g, 1, none⟩ = some (.slice B m d)) ∧ W.cell? ⟨g + 1, 0, none⟩ = some (.slice O no oc) ∧ W.cell? ⟨g + 1, 1, none⟩ = some (.slice L nl lc)
theorem BXL.below {g : Nat} {A : Option Addr} {n c : Nat} {B : Option Addr} {m d : Nat} {O : Option Addr} {no oc : Nat} {L : Option Addr} {nl lc : Nat} {W W' : World} (h : BXL g A n c B m d O no oc L nl lc W) (hb : Below W.heap.size W W') : BXL g A n c B m d O no oc L nl lc W' :=
 ⟨⟨(hb.cell (block_lt_of_cell h.1.1)).trans h.1.1, (hb.cell (block_lt_of_cell h.1.2)).trans h.1.2⟩, (hb.cell (block_lt_of_cell h.2.1)).trans h.2.1, (hb.cell (block_lt_of_cell h.2.2)).trans h.2.2⟩
def rTake (es : List (Int × Int)) (on left : List Int) (k : Nat) : List Int := ((List.range k).filter (readyB es on left)).map fun (n : Nat) => (n : Int)
theorem rTake_next (es : List (Int × Int)) (on left : List Int) (k : Nat) : rTake es on left (k + 1) = rTake es on left k ++ (if readyB es on left k = true then [(k : Int)] else []) := by
 unfold rTake
 rw [List.range_succ, List.filter_append, List.map_append]
 congr 1
 by_cases h : readyB es on left k = true
 ·simp [h]
 ·simp [h]
theorem rTake_len (es : List (Int × Int)) (on left : List Int) (k : Nat) : (rTake es on left k).length ≤ k := by
 unfold rTake
 rw [List.length_map]
 have := List.length_filter_le (readyB es on left) (List.range k)
 rw [List.length_range] at this
 exact this
def OI (W : World) (base : Nat) (v : Value) (xs : List Int) : Prop := W.ownsRow base 3 1 v xs.length (encs (Value.int .i64) xs)
theorem OI.below {W W' : World} {base : Nat} {v : Value} {xs : List Int} (h : OI W base v xs) (hb : Below W.heap.size W W') : OI W' base v xs := own_move h (fun q hq => hb.block q (own_lt h q hq))
def OIPost (w : World) (r : List Int) (e : Ending) (w' : World) : Prop := ∃ v, e = .returned v ∧ OI w' w.heap.size v r ∧ Below w.heap.size w w'
set_option maxRecDepth 100000 in
set_option maxHeartbeats 4000000 in
theorem ready_any (A : Option Addr) (c : Nat) (l : List Int) (B : Option Addr) (d : Nat) (es : List (Int × Int)) (O : Option Addr) (oc : Nat) (on : List Int) (L : Option Addr) (lc : Nat) (left : List Int) (w : World) (hg : GR w A c l B d es) (hcr : CR w O oc on L lc left) (hn : l.length ≤ 1000 ∧ es.length ≤ 1000) (ho : on.length ≤ 1000) (hlm : left.length ≤ 1000) (hes : ∀ e ∈ es, 0 ≤ e.1 ∧ e.1 < left.length) :
  Calls Try.prog 40 #[.agg #[.slice A l.length c, .slice B es.length d], .agg #[.slice O on.length oc, .slice L left.length lc]] w (OIPost w (readyL es on left)) := by
 have C1 := Lib.hid (fun (i : Nat) w1 (hi : i < left.length) h => over_any O on.length oc L lc left i w1 hi hlm h)
 have C2 := Lib.hid (fun (x : Int) w1 h => contI_any O oc on x w1 h ho)
 have C3 := Lib.hid (fun (x : Int) w1 h1 h2 => lFree_any A c l B d es O oc on L lc left x w1 h1 h2 hn ho hlm hes)
 obtain ⟨j0, ki, kz0, kz1, kz2⟩ := info_parts info3''
 have hbx := boxes2 w A l.length c B es.length d O on.length oc L left.length lc 25 27
 have HG := Lib.hid (hg.below hbx.1)
 have HC := Lib.hid (hcr.below hbx.1)
 have HBW0 := Lib.hid hbx.1
 have HBX : Hid (BXL w.heap.size A l.length c B es.length d O on.length oc L left.length lc _) := hbx.2.2
 have hsz := hbx.2.1
 clear hg hcr hbx hes
 go_enter Try.func40, Try.ntmps40
 go_wp2_with fail
 generalize (w.alloc (Obj.cells #[Value.slice A l.length c, Value.slice B es.length d] 25)).alloc (Obj.cells #[Value.slice O on.length oc, Value.slice L left.length lc] 27) = W1 at *
 have HSZ := Lib.hid hsz
 clear hsz
 go_loopw [5, 10] (fun v i wr => ∃ (k : Nat) (v0 : Value), k ≤ left.length ∧ v0 = v ∧ i = .int .i64 k ∧ Hid (OI wr W1.heap.size v0 (rTake es on left k)) ∧ Hid (Below W1.heap.size W1 wr)) (fun _ i _ => left.length - (intOf i).toNat)
 case atStart => exact ⟨0, _, Nat.zero_le _, rfl, rfl, World.ownsRow_nil _ _ _ _, Below.refl _ _⟩
 case round =>
  obtain ⟨k, v0, hk, rfl, rfl, HO, HBW⟩ := hrel
  by_cases hlt : k < left.length
  ·have HNX := Lib.hid (rTake_next es on left k)
   have hlen := rTake_len es on left k
   have HG1 := Lib.hid (HG.out.below HBW.out)
   have HC1 := Lib.hid (HC.out.below HBW.out)
   have HBX1 := Lib.hid (HBX.out.below HBW.out)
   have HRB : Hid (readyB es on left k = (!overC left (k : Int) && !on.contains (k : Int) && freeC es left (k : Int))) := rfl
   obtain ⟨⟨hb1, hb2⟩, hb3, hb4⟩ := HBX1.out
   generalize rTake es on left k = zs at *
   have D1 := Lib.hid (fun w1 h => C1.out k w1 hlt h)
   have D2 := Lib.hid (fun w1 h => C2.out (k : Int) w1 h)
   have D3 := Lib.hid (fun w1 h1 h2 => C3.out (k : Int) w1 h1 h2)
   cases hov : overC left (k : Int) with
   | true =>
    have HZ : Hid (rTake es on left (k + 1) = zs) := by show _ = _; rw [HNX.out, HRB.out, hov]; simp
    rw [hov] at D1
    clear hov HNX HRB
    go_wp2_with fail
    refine (D1.out _ HC1.out.2.2).mono ?_
    rintro e w1 ⟨rfl, hb⟩
    have HB1 := Lib.hid (HBW.out.trans (hb.mono HBW.out.size))
    have HO1 := Lib.hid (HO.out.below hb)
    clear hb hb1 hb2 hb3 hb4
    go_wp2_with fail
    go_roundw
    case rel => exact ⟨k + 1, v0, by omega, rfl, by go_num, by rw [HZ.out]; exact HO1, HB1⟩
    case measure => simp [intOf]; omega
   | false =>
    rw [hov] at D1
    cases hct : on.contains (k : Int) with
    | true =>
     have HZ : Hid (rTake es on left (k + 1) = zs) := by show _ = _; rw [HNX.out, HRB.out, hct]; simp
     rw [hct] at D2
     clear hov hct HNX HRB
     go_wp2_with fail
     refine (D1.out _ HC1.out.2.2).mono ?_
     rintro e w1 ⟨rfl, hb⟩
     have HB1 := Lib.hid (HBW.out.trans (hb.mono HBW.out.size))
     have HO1 := Lib.hid (HO.out.below hb)
     have HC2 := Lib.hid (HC1.out.below hb)
     obtain ⟨⟨hb1, hb2⟩, hb3, hb4⟩ := HBX1.out.below hb
     clear hb
     go_wp2_with fail
     refine (D2.out _ HC2.out.1.2).mono ?_
     rintro e w2 ⟨rfl, hb⟩
     have HB2 := Lib.hid (HB1.out.trans (hb.mono HB1.out.size))
     have HO2 := Lib.hid (HO1.out.below hb)
     clear hb hb1 hb2 hb3 hb4
     go_wp2_with fail
     go_roundw
     case rel => exact ⟨k + 1, v0, by omega, rfl, by go_num, by rw [HZ.out]; exact HO2, HB2⟩
     case measure => simp [intOf]; omega
    | false =>
     rw [hct] at D2
     cases hfr : freeC es left (k : Int) with
     | false =>
      have HZ : Hid (rTake es on left (k + 1) = zs) := by show _ = _; rw [HNX.out, HRB.out, hfr]; simp
      rw [hfr] at D3
      clear hov hct hfr HNX HRB
      go_wp2_with fail
      refine (D1.out _ HC1.out.2.2).mono ?_
      rintro e w1 ⟨rfl, hb⟩
      have HB1 := Lib.hid (HBW.out.trans (hb.mono HBW.out.size))
      have HO1 := Lib.hid (HO.out.below hb)
      have HC2 := Lib.hid (HC1.out.below hb)
      have HG2 := Lib.hid (HG1.out.below hb)
      have HBX2 := Lib.hid (HBX1.out.below hb)
      obtain ⟨⟨hb1, hb2⟩, hb3, hb4⟩ := HBX2.out
      clear hb
      go_wp2_with fail
      refine (D2.out _ HC2.out.1.2).mono ?_
      rintro e w2 ⟨rfl, hb⟩
      have HB2 := Lib.hid (HB1.out.trans (hb.mono HB1.out.size))
      have HO2 := Lib.hid (HO1.out.below hb)
      have HC3 := Lib.hid (HC2.out.below hb)
      have HG3 := Lib.hid (HG2.out.below hb)
      have HBX3 := Lib.hid (HBX2.out.below hb)
      clear hb1 hb2 hb3 hb4
      obtain ⟨⟨hb1, hb2⟩, hb3, hb4⟩ := HBX3.out
      clear hb
      go_wp2_with fail
      refine (D3.out _ HG3.out HC3.out).mono ?_
      rintro e w3 ⟨rfl, hb⟩
      have HB3 := Lib.hid (HB2.out.trans (hb.mono HB2.out.size))
      have HO3 := Lib.hid (HO2.out.below hb)
      clear hb hb1 hb2 hb3 hb4
      go_wp2_with fail
      go_roundw
      case rel => exact ⟨k + 1, v0, by omega, rfl, by go_num, by rw [HZ.out]; exact HO3, HB3⟩
      case measure => simp [intOf]; omega
     | true =>
      have HZ : Hid (rTake es on left (k + 1) = zs ++ [(k : Int)]) := by show _ = _; rw [HNX.out, HRB.out, hov, hct, hfr]; simp
      rw [hfr] at D3
      clear hov hct hfr HNX HRB
      go_wp2_with fail
      refine (D1.out _ HC1.out.2.2).mono ?_
      rintro e w1 ⟨rfl, hb⟩
      have HB1 := Lib.hid (HBW.out.trans (hb.mono HBW.out.size))
      have HO1 := Lib.hid (HO.out.below hb)
      have HC2 := Lib.hid (HC1.out.below hb)
      have HG2 := Lib.hid (HG1.out.below hb)
      have HBX2 := Lib.hid (HBX1.out.below hb)
      obtain ⟨⟨hb1, hb2⟩, hb3, hb4⟩ := HBX2.out
      clear hb
      go_wp2_with fail
      refine (D2.out _ HC2.out.1.2).mono ?_
      rintro e w2 ⟨rfl, hb⟩
      have HB2 := Lib.hid (HB1.out.trans (hb.mono HB1.out.size))
      have HO2 := Lib.hid (HO1.out.below hb)
      have HC3 := Lib.hid (HC2.out.below hb)
      have HG3 := Lib.hid (HG2.out.below hb)
      have HBX3 := Lib.hid (HBX2.out.below hb)
      clear hb1 hb2 hb3 hb4
      obtain ⟨⟨hb1, hb2⟩, hb3, hb4⟩ := HBX3.out
      clear hb
      go_wp2_with fail
      refine (D3.out _ HG3.out HC3.out).mono ?_
      rintro e w3 ⟨rfl, hb⟩
      have HB3 := Lib.hid (HB2.out.trans (hb.mono HB2.out.size))
      have HO3 : Hid (w3.ownsRow W1.heap.size 3 1 v0 zs.length (encs (Value.int .i64) zs)) := HO2.out.below hb
      clear hb hb1 hb2 hb3 hb4
      go_wp2_with (at_builtin; refine wpList_append_own _ rfl _ _ 22 rfl W1.heap.size 3 j0 (.int .i64 0) 1 8 Try.underlying22 ki kz0 kz1 kz2 rfl (by decide) v0 zs.length _ rfl (HO3.out.alloc _) ⟨w3.heap.size, 0, none⟩ 1 1 [.int .i64 (k : Int)] rfl rfl (cell_one_new _ _ _) (by simp [Value.oneCell']) (by unfold maxLen; omega) (by omega) (by have := HB3.out.size; simp; omega) ?_)
      intro v4 w4 hown4 hgrow4 _
      have HO4 : Hid (OI w4 W1.heap.size v4 (rTake es on left (k + 1))) := by
       show OI _ _ _ _
       unfold OI
       rw [HZ.out, List.length_append, encs_append]; exact hown4
      have HB4 : Hid (Below W1.heap.size W1 w4) := (HB3.out.alloc HB3.out.size _).grown hgrow4 (by have := HB3.out.size; simp; omega) (fun q hq => own_base HO3.out q hq)
      clear hown4 hgrow4
      go_wp2_with fail
      go_roundw
      case rel => exact ⟨k + 1, v4, by omega, rfl, by go_num, HO4, HB4⟩
      case measure => simp [intOf]; omega
  ·obtain rfl : k = left.length := by omega
   go_wp2_with fail
   go_ret
   have hO := HO.out
   have hsz := HSZ.out
   exact ⟨_, rfl, own_weaken hO (by omega), HBW0.out.trans (HBW.out.mono (by omega))⟩
end Go.Proofs.Ytmbhjhanafmidaa

set_option linter.unusedVariables false
set_option linter.unusedSimpArgs false
namespace Go.Proofs.Ytmbhjhanafmidaa
open Go.RowKit Go.Sort
open DagPlain SchPlain LstPlain
open Go.Proofs.YtmbhjhanafmidaaW.PrintWords
theorem right_sizes {l on left : List Int} {es : List (Int × Int)} (h : sizesC l on left = false) : rightC l es on left = false := by unfold rightC; rw [h]; rfl
theorem right_on {l on left : List Int} {es : List (Int × Int)} {k : Nat} (hk : k < on.length) (h : badOn es on left k = true) : rightC l es on left = false := by
 have : (List.range on.length).any (badOn es on left) = true := List.any_eq_true.2 ⟨k, by simpa using hk, h⟩
 unfold rightC; rw [this]; simp
theorem right_left {l on left : List Int} {es : List (Int × Int)} {k : Nat} (hk : k < left.length) (h : badLeft es left k = true) : rightC l es on left = false := by
 have : (List.range left.length).any (badLeft es left) = true := List.any_eq_true.2 ⟨k, by simpa using hk, h⟩
 unfold rightC; rw [this]; simp
theorem range_none {n : Nat} {p : Nat → Bool} (h : ∀ j, j < n → p j = false) : (List.range n).any p = false := by
 rw [List.any_eq_false]; intro j hj; rw [h j (by simpa using hj)]; simp
theorem right_yes {l on left : List Int} {es : List (Int × Int)} (h1 : sizesC l on left = true) (h2 : ∀ j, j < on.length → badOn es on left j = false) (h3 : ∀ j, j < left.length → badLeft es left j = false) : rightC l es on left = true := by
 unfold rightC; rw [h1, range_none h2, range_none h3]; rfl
theorem snoc_no {p : Nat → Bool} {k : Nat} (h : ∀ j, j < k → p j = false) (hk : p k = false) : ∀ j, j < k + 1 → p j = false := fun j hj => by
 by_cases e : j = k
 ·rw [e]; exact hk
 ·exact h j (by omega)
set_option maxRecDepth 100000 in
set_option maxHeartbeats 8000000 in
theorem lRight_any (A : Option Addr) (c : Nat) (l : List Int) (B : Option Addr) (d : Nat) (es : List (Int × Int)) (O : Option Addr) (oc : Nat) (on : List Int) (L : Option Addr) (lc : Nat) (left : List Int) (w : World) (hg : GR w A c l B d es) (hcr : CR w O oc on L lc left) (hn : l.length ≤ 1000 ∧ es.length ≤ 1000) (ho : on.length ≤ 1000) (hlm : left.length ≤ 1000) (hz : checkL l es = 0) :
  Calls Try.prog 44 #[.agg #[.slice A l.length c, .slice B es.length d], .agg #[.slice O on.length oc, .slice L left.length lc]] w fun e w' => e = .returned (.bool (rightC l es on left)) ∧ Below w.heap.size w w' := by
 have hbx := boxes2 w A l.length c B es.length d O on.length oc L left.length lc 25 27
 have HG := Lib.hid (hg.below hbx.1)
 have HC := Lib.hid (hcr.below hbx.1)
 have HBW0 := Lib.hid hbx.1
 have HBX : Hid (BXL w.heap.size A l.length c B es.length d O on.length oc L left.length lc _) := hbx.2.2
 have HSZ := Lib.hid hbx.2.1
 have HZ := Lib.hid hz
 clear hg hcr hbx hz
 by_cases h1 : on.length < 1
 ·have HQ := Lib.hid (right_sizes (es := es) (show sizesC l on left = false by unfold sizesC; rw [decide_eq_false (by omega)]; rfl))
  rw [HQ.out]
  clear HQ HZ
  generalize on.length = no at *
  obtain rfl : no = 0 := by omega
  clear h1
  go_enter Try.func44, Try.ntmps44
  go_wp2_with fail
  go_ret
  exact ⟨rfl, HBW0.out⟩
 by_cases h2 : 8 < on.length
 ·have HQ := Lib.hid (right_sizes (es := es) (show sizesC l on left = false by unfold sizesC; rw [decide_eq_false (show ¬ on.length ≤ 8 by omega)]; simp))
  rw [HQ.out]
  clear HQ HZ
  generalize on.length = no at *
  have h1' : ¬ (no : Int) < 1 := by omega
  have h2' : (8 : Int) < (no : Int) := by omega
  clear h1 h2
  go_enter Try.func44, Try.ntmps44
  go_wp2_with fail
  go_ret
  exact ⟨rfl, HBW0.out⟩
 have h1' : ¬ (on.length : Int) < 1 := by omega
 have h2' : ¬ (8 : Int) < (on.length : Int) := by omega
 by_cases h3 : left.length = l.length
 case neg =>
  have HQ := Lib.hid (right_sizes (es := es) (show sizesC l on left = false by unfold sizesC; rw [decide_eq_false h3]; simp))
  rw [HQ.out]
  clear HQ HZ h1 h2
  generalize on.length = no at *
  generalize left.length = nl at *
  generalize l.length = n at *
  have h3' : ((nl : Int) != (n : Int)) = true := by simp; omega
  have h3a : (nl != n) = true := by simp; omega
  clear h3
  go_enter Try.func44, Try.ntmps44
  go_wp2_with fail
  go_ret
  exact ⟨rfl, HBW0.out⟩
 have C4 := Lib.hid (fun w1 h => contL_any L lc left w1 h hlm)
 cases h4 : left.any oddW with
 | true =>
  have HQ := Lib.hid (right_sizes (es := es) (show sizesC l on left = false by unfold sizesC; rw [h4]; simp))
  rw [HQ.out]
  rw [h4] at C4
  clear HQ HZ h4 h1 h2
  generalize on.length = no at *
  rw [← h3] at HBW0 HC ⊢
  have HL := Lib.hid HC.out.2.2
  clear HC h3
  go_enter Try.func44, Try.ntmps44
  go_wp2_with fail
  refine (C4.out _ HL.out).mono ?_
  rintro e w1 ⟨rfl, rfl⟩
  go_wp2_with fail
  go_ret
  exact ⟨rfl, HBW0.out⟩
 | false =>
  rw [h4] at C4
  obtain ⟨y1, y2, y3, y4, y5⟩ := ordL_yes HZ.out
  have hes : ∀ e ∈ es, 0 ≤ e.1 ∧ e.1 < left.length := fun e he => by rw [h3]; exact (oddEs_in y3 e he).1
  have HSC : Hid (sizesC l on left = true) := by show _ = _; unfold sizesC; rw [decide_eq_true (by omega), decide_eq_true (by omega), decide_eq_true h3, h4]; rfl
  have C1 := Lib.hid (fun (i : Nat) w1 (hi : i < left.length) h => over_any O on.length oc L lc left i w1 hi hlm h)
  have C2 := Lib.hid (fun (k : Nat) (x : Int) w1 h => contI_any O oc (on.take k) x w1 h (by rw [List.length_take]; omega))
  have C3 := Lib.hid (fun (x : Int) w1 h1 h2 => lFree_any A c l B d es O oc on L lc left x w1 h1 h2 hn ho hlm hes)
  clear y1 y2 y3 y4 y5 hes HZ h4
  rw [← h3] at HBX HSZ HBW0 HC HG C3 ⊢
  clear h3
  go_enter Try.func44, Try.ntmps44
  go_wp2_with fail
  generalize (w.alloc (Obj.cells #[Value.slice A left.length c, Value.slice B es.length d] 25)).alloc (Obj.cells #[Value.slice O on.length oc, Value.slice L left.length lc] 27) = W1 at *
  have HL := Lib.hid HC.out.2.2
  refine (C4.out _ HL.out).mono ?_
  rintro e w1 ⟨rfl, rfl⟩
  clear C4 HL
  obtain ⟨⟨hb1, hb2⟩, hb3, hb4⟩ := HBX.out
  go_wp2_with fail
  clear hb1 hb2 hb3 hb4
  go_loopw [37] (fun i wr => ∃ k : Nat, k ≤ on.length ∧ i = .int .i64 k ∧ Hid (∀ j, j < k → badOn es on left j = false) ∧ Hid (Below W1.heap.size W1 wr)) (fun i _ => on.length - (intOf i).toNat)
  case atStart => exact ⟨0, Nat.zero_le _, rfl, by show ∀ j, j < 0 → _; omega, Below.refl _ _⟩
  case round =>
   obtain ⟨k, hk, rfl, HN, HB1⟩ := hrel
   have HG1 := Lib.hid (HG.out.below HB1.out)
   have HC1 := Lib.hid (HC.out.below HB1.out)
   have HBX1 := Lib.hid (HBX.out.below HB1.out)
   by_cases hlt : k < on.length
   ·have hkr : (k : Int) < (on.length : Int) := by omega
    have hk0 : (0 : Int) ≤ (k : Int) := by omega
    have hkoc : k ≤ oc := by have := HC1.out.1.1; omega
    obtain ⟨oa, hOA, hoo⟩ := HC1.out.1.2.2.2 (by omega)
    have hok := hoo k hlt
    have HBD : Hid (badOn es on left k = (on.getD k 0 != -1 && (decide (on.getD k 0 < 0) || (decide ((left.length : Int) ≤ on.getD k 0) || (overC left (on.getD k 0) || ((on.take k).contains (on.getD k 0) || !freeC es left (on.getD k 0))))))) := rfl
    have HRO := Lib.hid (@right_on l on left es k hlt)
    have HT0 := Lib.hid (fun (W : World) (h : ReadsInt W .i64 O on.length on) => reads_take h k (by omega))
    have C2k := Lib.hid (C2.out k)
    subst hOA
    obtain ⟨x, hx⟩ : ∃ x, x = on.getD k 0 := ⟨_, rfl⟩
    rw [← hx] at hok HBD
    clear hoo hx
    obtain ⟨⟨hb1, hb2⟩, hb3, hb4⟩ := HBX1.out
    by_cases x1 : x = -1
    ·have HN2 := Lib.hid (snoc_no HN.out (show badOn es on left k = false by rw [HBD.out, x1]; rfl))
     subst x1
     clear HN HBD
     go_wp2_with fail
     go_roundw
     case rel => exact ⟨k + 1, by omega, by go_num, HN2, HB1⟩
     case measure => simp [intOf]; omega
    have x1b : (x == -1) = false := by simpa using x1
    have x1c : (x != -1) = true := by simpa using x1
    rw [x1c, Bool.true_and] at HBD
    clear x1 x1c
    by_cases x2 : x < 0
    ·have HQ := Lib.hid (HRO.out (by rw [HBD.out, decide_eq_true x2]; rfl))
     clear HBD HRO HN
     go_wp2_with fail
     go_ret
     exact ⟨by rw [HQ.out]; rfl, HBW0.out.trans (HB1.out.mono (by have := HSZ.out; omega))⟩
    by_cases x3 : (left.length : Int) ≤ x
    ·have HQ := Lib.hid (HRO.out (by rw [HBD.out, decide_eq_true x3]; simp))
     clear HBD HRO HN
     go_wp2_with fail
     go_ret
     exact ⟨by rw [HQ.out]; rfl, HBW0.out.trans (HB1.out.mono (by have := HSZ.out; omega))⟩
    rw [decide_eq_false x2, decide_eq_false x3, Bool.false_or, Bool.false_or] at HBD
    obtain ⟨i, rfl⟩ : ∃ i : Nat, x = (i : Int) := ⟨x.toNat, by omega⟩
    have hil : i < left.length := by omega
    have hil' : (i : Int) < (left.length : Int) := by omega
    have hi0 : (0 : Int) ≤ (i : Int) := by omega
    have D1 := Lib.hid (fun w1 h => C1.out i w1 hil h)
    have D2 := Lib.hid (fun w1 h => C2k.out (i : Int) w1 h)
    have D3 := Lib.hid (fun w1 h1 h2 => C3.out (i : Int) w1 h1 h2)
    have HTL : Hid ((on.take k).length = k) := by show _ = _; rw [List.length_take]; omega
    rw [HTL.out] at D2
    have HT := Lib.hid (fun (W : World) (h : ReadsInt W .i64 (some oa) on.length on) => (show ReadsInt W .i64 (some oa) k (on.take k) from by have := HT0.out W h; rw [HTL.out] at this; exact this))
    clear x2 x3 C2k HT0
    cases hov : overC left (i : Int) with
    | true =>
     rw [hov] at D1 HBD
     have HQ := Lib.hid (HRO.out (by rw [HBD.out]; rfl))
     clear hov HBD HRO HN
     go_wp2_with fail
     refine (D1.out _ HC1.out.2.2).mono ?_
     rintro e w2 ⟨rfl, hb⟩
     have HB2 := Lib.hid (HB1.out.trans (hb.mono HB1.out.size))
     have HC2 := Lib.hid (HC1.out.below hb)
     have HG2 := Lib.hid (HG1.out.below hb)
     have HBX2 := Lib.hid (HBX1.out.below hb)
     clear hb hb1 hb2 hb3 hb4
     obtain ⟨⟨hb1, hb2⟩, hb3, hb4⟩ := HBX2.out
     go_wp2_with fail
     go_ret
     exact ⟨by rw [HQ.out]; rfl, HBW0.out.trans (HB2.out.mono (by have := HSZ.out; omega))⟩
    | false =>
     rw [hov] at D1 HBD
     cases hct : (on.take k).contains (i : Int) with
     | true =>
      rw [hct] at D2 HBD
      have HQ := Lib.hid (HRO.out (by rw [HBD.out]; rfl))
      clear hov hct HBD HRO HN
      go_wp2_with fail
      refine (D1.out _ HC1.out.2.2).mono ?_
      rintro e w2 ⟨rfl, hb⟩
      have HB2 := Lib.hid (HB1.out.trans (hb.mono HB1.out.size))
      have HC2 := Lib.hid (HC1.out.below hb)
      have HG2 := Lib.hid (HG1.out.below hb)
      have HBX2 := Lib.hid (HBX1.out.below hb)
      clear hb hb1 hb2 hb3 hb4
      obtain ⟨⟨hb1, hb2⟩, hb3, hb4⟩ := HBX2.out
      go_wp2_with fail
      refine (D2.out _ (HT.out _ HC2.out.1.2)).mono ?_
      rintro e w3 ⟨rfl, hb⟩
      have HB3 := Lib.hid (HB2.out.trans (hb.mono HB2.out.size))
      have HC3 := Lib.hid (HC2.out.below hb)
      have HG3 := Lib.hid (HG2.out.below hb)
      have HBX3 := Lib.hid (HBX2.out.below hb)
      clear hb hb1 hb2 hb3 hb4
      obtain ⟨⟨hb1, hb2⟩, hb3, hb4⟩ := HBX3.out
      go_wp2_with fail
      go_ret
      exact ⟨by rw [HQ.out]; rfl, HBW0.out.trans (HB3.out.mono (by have := HSZ.out; omega))⟩
     | false =>
      rw [hct] at D2 HBD
      cases hfr : freeC es left (i : Int) with
      | false =>
       rw [hfr] at D3 HBD
       have HQ := Lib.hid (HRO.out (by rw [HBD.out]; rfl))
       clear hov hct hfr HBD HRO HN
       go_wp2_with fail
       refine (D1.out _ HC1.out.2.2).mono ?_
       rintro e w2 ⟨rfl, hb⟩
       have HB2 := Lib.hid (HB1.out.trans (hb.mono HB1.out.size))
       have HC2 := Lib.hid (HC1.out.below hb)
       have HG2 := Lib.hid (HG1.out.below hb)
       have HBX2 := Lib.hid (HBX1.out.below hb)
       clear hb hb1 hb2 hb3 hb4
       obtain ⟨⟨hb1, hb2⟩, hb3, hb4⟩ := HBX2.out
       go_wp2_with fail
       refine (D2.out _ (HT.out _ HC2.out.1.2)).mono ?_
       rintro e w3 ⟨rfl, hb⟩
       have HB3 := Lib.hid (HB2.out.trans (hb.mono HB2.out.size))
       have HC3 := Lib.hid (HC2.out.below hb)
       have HG3 := Lib.hid (HG2.out.below hb)
       have HBX3 := Lib.hid (HBX2.out.below hb)
       clear hb hb1 hb2 hb3 hb4
       obtain ⟨⟨hb1, hb2⟩, hb3, hb4⟩ := HBX3.out
       go_wp2_with fail
       refine (D3.out _ HG3.out HC3.out).mono ?_
       rintro e w4 ⟨rfl, hb⟩
       have HB4 := Lib.hid (HB3.out.trans (hb.mono HB3.out.size))
       have HC4 := Lib.hid (HC3.out.below hb)
       have HG4 := Lib.hid (HG3.out.below hb)
       have HBX4 := Lib.hid (HBX3.out.below hb)
       clear hb hb1 hb2 hb3 hb4
       obtain ⟨⟨hb1, hb2⟩, hb3, hb4⟩ := HBX4.out
       go_wp2_with fail
       go_ret
       exact ⟨by rw [HQ.out]; rfl, HBW0.out.trans (HB4.out.mono (by have := HSZ.out; omega))⟩
      | true =>
       rw [hfr] at D3 HBD
       have HN2 := Lib.hid (snoc_no HN.out (show badOn es on left k = false by rw [HBD.out]; rfl))
       clear hov hct hfr HBD HRO HN
       go_wp2_with fail
       refine (D1.out _ HC1.out.2.2).mono ?_
       rintro e w2 ⟨rfl, hb⟩
       have HB2 := Lib.hid (HB1.out.trans (hb.mono HB1.out.size))
       have HC2 := Lib.hid (HC1.out.below hb)
       have HG2 := Lib.hid (HG1.out.below hb)
       have HBX2 := Lib.hid (HBX1.out.below hb)
       clear hb hb1 hb2 hb3 hb4
       obtain ⟨⟨hb1, hb2⟩, hb3, hb4⟩ := HBX2.out
       go_wp2_with fail
       refine (D2.out _ (HT.out _ HC2.out.1.2)).mono ?_
       rintro e w3 ⟨rfl, hb⟩
       have HB3 := Lib.hid (HB2.out.trans (hb.mono HB2.out.size))
       have HC3 := Lib.hid (HC2.out.below hb)
       have HG3 := Lib.hid (HG2.out.below hb)
       have HBX3 := Lib.hid (HBX2.out.below hb)
       clear hb hb1 hb2 hb3 hb4
       obtain ⟨⟨hb1, hb2⟩, hb3, hb4⟩ := HBX3.out
       go_wp2_with fail
       refine (D3.out _ HG3.out HC3.out).mono ?_
       rintro e w4 ⟨rfl, hb⟩
       have HB4 := Lib.hid (HB3.out.trans (hb.mono HB3.out.size))
       have HC4 := Lib.hid (HC3.out.below hb)
       have HG4 := Lib.hid (HG3.out.below hb)
       have HBX4 := Lib.hid (HBX3.out.below hb)
       clear hb hb1 hb2 hb3 hb4
       obtain ⟨⟨hb1, hb2⟩, hb3, hb4⟩ := HBX4.out
       go_wp2_with fail
       go_roundw
       case rel => exact ⟨k + 1, by omega, by go_num, HN2, HB4⟩
       case measure => simp [intOf]; omega
   ·obtain rfl : k = on.length := by omega
    have HNO := Lib.hid HN.out
    obtain ⟨⟨hb1, hb2⟩, hb3, hb4⟩ := HBX1.out
    have HB0 := Lib.hid HB1.out
    clear HN HB1 HG1 HC1 HBX1 hlt
    go_wp2_with fail
    clear hb1 hb2 hb3 hb4
    go_loopw [77] (fun i wr => ∃ k : Nat, k ≤ left.length ∧ i = .int .i64 k ∧ Hid (∀ j, j < k → badLeft es left j = false) ∧ Hid (Below W1.heap.size W1 wr)) (fun i _ => left.length - (intOf i).toNat)
    case atStart => exact ⟨0, Nat.zero_le _, rfl, by show ∀ j, j < 0 → _; omega, HB0⟩
    case round =>
     clear HB0
     obtain ⟨k, hk, rfl, HN, HB1⟩ := hrel
     have HG1 := Lib.hid (HG.out.below HB1.out)
     have HC1 := Lib.hid (HC.out.below HB1.out)
     have HBX1 := Lib.hid (HBX.out.below HB1.out)
     obtain ⟨⟨hb1, hb2⟩, hb3, hb4⟩ := HBX1.out
     by_cases hlt : k < left.length
     ·have HBD : Hid (badLeft es left k = (overC left (k : Int) && !freeC es left (k : Int))) := rfl
      have HRO := Lib.hid (@right_left l on left es k hlt)
      have D1 := Lib.hid (fun w1 h => C1.out k w1 hlt h)
      have D3 := Lib.hid (fun w1 h1 h2 => C3.out (k : Int) w1 h1 h2)
      cases hov : overC left (k : Int) with
      | false =>
       rw [hov] at D1 HBD
       have HN2 := Lib.hid (snoc_no HN.out (show badLeft es left k = false by rw [HBD.out]; rfl))
       clear hov HBD HRO HN
       go_wp2_with fail
       refine (D1.out _ HC1.out.2.2).mono ?_
       rintro e w2 ⟨rfl, hb⟩
       have HB2 := Lib.hid (HB1.out.trans (hb.mono HB1.out.size))
       have HC2 := Lib.hid (HC1.out.below hb)
       have HG2 := Lib.hid (HG1.out.below hb)
       have HBX2 := Lib.hid (HBX1.out.below hb)
       clear hb hb1 hb2 hb3 hb4
       obtain ⟨⟨hb1, hb2⟩, hb3, hb4⟩ := HBX2.out
       go_wp2_with fail
       go_roundw
       case rel => exact ⟨k + 1, by omega, by go_num, HN2, HB2⟩
       case measure => simp [intOf]; omega
      | true =>
       rw [hov] at D1 HBD
       cases hfr : freeC es left (k : Int) with
       | false =>
        rw [hfr] at D3 HBD
        have HQ := Lib.hid (HRO.out (by rw [HBD.out]; rfl))
        clear hov hfr HBD HRO HN
        go_wp2_with fail
        refine (D1.out _ HC1.out.2.2).mono ?_
        rintro e w2 ⟨rfl, hb⟩
        have HB2 := Lib.hid (HB1.out.trans (hb.mono HB1.out.size))
        have HC2 := Lib.hid (HC1.out.below hb)
        have HG2 := Lib.hid (HG1.out.below hb)
        have HBX2 := Lib.hid (HBX1.out.below hb)
        clear hb hb1 hb2 hb3 hb4
        obtain ⟨⟨hb1, hb2⟩, hb3, hb4⟩ := HBX2.out
        go_wp2_with fail
        refine (D3.out _ HG2.out HC2.out).mono ?_
        rintro e w3 ⟨rfl, hb⟩
        have HB3 := Lib.hid (HB2.out.trans (hb.mono HB2.out.size))
        have HC3 := Lib.hid (HC2.out.below hb)
        have HG3 := Lib.hid (HG2.out.below hb)
        have HBX3 := Lib.hid (HBX2.out.below hb)
        clear hb hb1 hb2 hb3 hb4
        obtain ⟨⟨hb1, hb2⟩, hb3, hb4⟩ := HBX3.out
        go_wp2_with fail
        go_ret
        exact ⟨by rw [HQ.out]; rfl, HBW0.out.trans (HB3.out.mono (by have := HSZ.out; omega))⟩
       | true =>
        rw [hfr] at D3 HBD
        have HN2 := Lib.hid (snoc_no HN.out (show badLeft es left k = false by rw [HBD.out]; rfl))
        clear hov hfr HBD HRO HN
        go_wp2_with fail
        refine (D1.out _ HC1.out.2.2).mono ?_
        rintro e w2 ⟨rfl, hb⟩
        have HB2 := Lib.hid (HB1.out.trans (hb.mono HB1.out.size))
        have HC2 := Lib.hid (HC1.out.below hb)
        have HG2 := Lib.hid (HG1.out.below hb)
        have HBX2 := Lib.hid (HBX1.out.below hb)
        clear hb hb1 hb2 hb3 hb4
        obtain ⟨⟨hb1, hb2⟩, hb3, hb4⟩ := HBX2.out
        go_wp2_with fail
        refine (D3.out _ HG2.out HC2.out).mono ?_
        rintro e w3 ⟨rfl, hb⟩
        have HB3 := Lib.hid (HB2.out.trans (hb.mono HB2.out.size))
        have HC3 := Lib.hid (HC2.out.below hb)
        have HG3 := Lib.hid (HG2.out.below hb)
        have HBX3 := Lib.hid (HBX2.out.below hb)
        clear hb hb1 hb2 hb3 hb4
        obtain ⟨⟨hb1, hb2⟩, hb3, hb4⟩ := HBX3.out
        go_wp2_with fail
        go_roundw
        case rel => exact ⟨k + 1, by omega, by go_num, HN2, HB3⟩
        case measure => simp [intOf]; omega
     ·obtain rfl : k = left.length := by omega
      have HQ := Lib.hid (right_yes (l := l) HSC.out HNO.out HN.out)
      clear HN hb1 hb2 hb3 hb4
      go_wp2_with fail
      go_ret
      exact ⟨by rw [HQ.out]; rfl, HBW0.out.trans (HB1.out.mono (by have := HSZ.out; omega))⟩
end Go.Proofs.Ytmbhjhanafmidaa
