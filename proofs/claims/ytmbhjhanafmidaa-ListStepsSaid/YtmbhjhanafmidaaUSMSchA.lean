/- Texts of this work, put into one. -/
import Derived.Test.YtmbhjhanafmidaaUSMDagA
import Derived.Test.YtmbhjhanafmidaaUSMDagB
import Derived.Deep.QuietTactic
import Derived.BigQuiet
import Derived.Laws.Rows
set_option linter.unusedVariables false
set_option linter.unusedSimpArgs false
namespace SchPlain
open DagPlain
structure Seen where
 ran : List Int
 last : List (Int × Int)
 fin : List Int
def begin_ (n : Nat) : Seen := ⟨List.replicate n 0, List.replicate n (0, 0), List.replicate n (-1)⟩
def doneB (s : Seen) (n : Int) (tick : Int) : Bool := decide (0 ≤ s.fin.getD n.toNat 0) && decide (s.fin.getD n.toNat 0 ≤ tick)
def runS (need : List Int) (s : Seen) (n : Int) (tick core : Int) : Seen :=
 { ran := s.ran.set n.toNat (s.ran.getD n.toNat 0 + 1), last := s.last.set n.toNat (tick, core), fin := if s.ran.getD n.toNat 0 + 1 = need.getD n.toNat 0 then s.fin.set n.toNat (tick + 1) else s.fin }
def waitE (s : Seen) (n tick : Int) (e : Int × Int) : Bool := e.2 == n && !doneB s e.1 tick
def freeB (es : List (Int × Int)) (s : Seen) (n tick : Int) : Bool := !es.any (waitE s n tick)
def splitB (s : Seen) (n tick core : Int) : Bool := decide (0 < s.ran.getD n.toNat 0) && (s.last.getD n.toNat (0, 0) != (tick - 1, core))
def oneE (es : List (Int × Int)) (need : List Int) (s : Seen) (row : List Int) (tick : Int) (c : Nat) : Int :=
 if row.getD c 0 < -1 ∨ need.length ≤ row.getD c 0 then 101 else if (row.take c).contains (row.getD c 0) = true then 102
 else if need.getD (row.getD c 0).toNat 0 ≤ s.ran.getD (row.getD c 0).toNat 0 then 105 else if splitB s (row.getD c 0) tick c = true then 104
 else if s.ran.getD (row.getD c 0).toNat 0 = 0 ∧ freeB es s (row.getD c 0) tick = false then 103 else 0
def badC (es : List (Int × Int)) (need : List Int) (s : Seen) (row : List Int) (tick : Int) (c : Nat) : Bool := (row.getD c 0 != -1) && (oneE es need s row tick c != 0)
def rowE (es : List (Int × Int)) (need : List Int) (s : Seen) (row : List Int) (tick : Int) : Int :=
 match (List.range row.length).find? (badC es need s row tick) with
 | some c => oneE es need s row tick c
 | none => 0
def runC (need : List Int) (row : List Int) (tick : Int) (s : Seen) (c : Nat) : Seen := if row.getD c 0 = -1 then s else runS need s (row.getD c 0) tick c
def runRow (need : List Int) (s : Seen) (row : List Int) (tick : Int) : Seen := (List.range row.length).foldl (runC need row tick) s
def stAt (need : List Int) (ts : List (List Int)) : Nat → Seen
 | 0 => begin_ need.length
 | k + 1 => runRow need (stAt need ts k) (ts.getD k []) k
def rowErr (es : List (Int × Int)) (need : List Int) (ts : List (List Int)) (k : Nat) : Int := rowE es need (stAt need ts k) (ts.getD k []) k
def lookE (es : List (Int × Int)) (need : List Int) (ts : List (List Int)) : Int :=
 match (List.range ts.length).find? (fun k => rowErr es need ts k != 0) with
 | some k => rowErr es need ts k
 | none => 0
def oddN (n : Int) : Bool := decide (n < 1) || decide (1000 < n)
def rightB (l need : List Int) (cores : Int) : Bool := decide (need.length = l.length) && !need.any oddN && decide (1 ≤ cores) && decide (cores ≤ 8)
def formB (l need : List Int) (cores : Int) (ts : List (List Int)) : Bool := rightB l need cores && decide (ts.length ≤ 4096) && !ts.any (fun r => decide ((r.length : Int) ≠ cores))
def lookR (l : List Int) (es : List (Int × Int)) (need : List Int) (cores : Int) (ts : List (List Int)) : Int :=
 if checkL l es ≠ 0 then checkL l es else if formB l need cores ts = false then 100 else lookE es need ts
def busyRow (row : List Int) : Int := (row.filter (· != -1)).length
theorem rowE_none {es : List (Int × Int)} {need : List Int} {s : Seen} {row : List Int} {tick : Int} (h : ∀ j, j < row.length → badC es need s row tick j = false) : rowE es need s row tick = 0 := by
 unfold rowE
 rw [find_none h]
theorem rowE_some {es : List (Int × Int)} {need : List Int} {s : Seen} {row : List Int} {tick : Int} {c : Nat} (hc : c < row.length) (h : ∀ j, j < c → badC es need s row tick j = false) (hb : badC es need s row tick c = true) : rowE es need s row tick = oneE es need s row tick c := by
 unfold rowE
 rw [find_range hc hb h]
theorem rowE_zero {es : List (Int × Int)} {need : List Int} {s : Seen} {row : List Int} {tick : Int} (h : rowE es need s row tick = 0) : ∀ j, j < row.length → badC es need s row tick j = false := by
 intro j hj
 unfold rowE at h
 split at h
 ·rename_i c hc
  have := List.find?_some hc
  unfold badC at this
  simp only [Bool.and_eq_true, bne_iff_ne, ne_eq] at this
  exact absurd h this.2
 ·rename_i hn
  have := List.find?_eq_none.1 hn j (by simpa using hj)
  simpa using this
theorem bad_not {es : List (Int × Int)} {need : List Int} {s : Seen} {row : List Int} {tick : Int} {c : Nat} (h : badC es need s row tick c = false) (hx : row.getD c 0 ≠ -1) : oneE es need s row tick c = 0 := by
 unfold badC at h
 simp only [Bool.and_eq_false_iff, bne_eq_false_iff_eq] at h
 rcases h with h | h
 ·exact absurd h hx
 ·exact h
theorem bad_yes {es : List (Int × Int)} {need : List Int} {s : Seen} {row : List Int} {tick : Int} {c : Nat} (hx : row.getD c 0 ≠ -1) (h : oneE es need s row tick c ≠ 0) : badC es need s row tick c = true := by
 unfold badC
 simp only [Bool.and_eq_true, bne_iff_ne, ne_eq]
 exact ⟨hx, h⟩
theorem bad_idle {es : List (Int × Int)} {need : List Int} {s : Seen} {row : List Int} {tick : Int} {c : Nat} (hx : row.getD c 0 = -1) : badC es need s row tick c = false := by
 unfold badC; rw [hx]; rfl
theorem bad_zero {es : List (Int × Int)} {need : List Int} {s : Seen} {row : List Int} {tick : Int} {c : Nat} (h : oneE es need s row tick c = 0) : badC es need s row tick c = false := by
 unfold badC; rw [h]; simp
theorem one_in {es : List (Int × Int)} {need : List Int} {s : Seen} {row : List Int} {tick : Int} {c : Nat} (h : oneE es need s row tick c = 0) : -1 ≤ row.getD c 0 ∧ row.getD c 0 < need.length := by
 unfold oneE at h
 split at h
 ·cases h
 ·omega
theorem lookE_none {es : List (Int × Int)} {need : List Int} {ts : List (List Int)} (h : ∀ j, j < ts.length → rowErr es need ts j = 0) : lookE es need ts = 0 := by
 unfold lookE
 rw [find_none (fun i hi => by rw [h i hi]; rfl)]
theorem lookE_some {es : List (Int × Int)} {need : List Int} {ts : List (List Int)} {k : Nat} (hk : k < ts.length) (h : ∀ j, j < k → rowErr es need ts j = 0) (hb : rowErr es need ts k ≠ 0) : lookE es need ts = rowErr es need ts k := by
 unfold lookE
 rw [find_range hk (by simpa using hb) (fun i hi => by rw [h i hi]; rfl)]
theorem lookE_zero {es : List (Int × Int)} {need : List Int} {ts : List (List Int)} (h : lookE es need ts = 0) : ∀ j, j < ts.length → rowErr es need ts j = 0 := by
 intro j hj
 unfold lookE at h
 split at h
 ·rename_i c hc
  have := List.find?_some hc
  simp only [bne_iff_ne, ne_eq] at this
  exact absurd h this
 ·rename_i hn
  have := List.find?_eq_none.1 hn j (by simpa using hj)
  simpa using this
def partRow (need : List Int) (s : Seen) (row : List Int) (tick : Int) (c : Nat) : Seen := (List.range c).foldl (runC need row tick) s
theorem partRow_next (need : List Int) (s : Seen) (row : List Int) (tick : Int) (c : Nat) : partRow need s row tick (c + 1) = runC need row tick (partRow need s row tick c) c := by
 unfold partRow
 rw [List.range_succ, List.foldl_append]
 rfl
def RanIn (s : Seen) (m : Int) : Prop := ∀ i : Nat, 0 ≤ s.ran.getD i 0 ∧ s.ran.getD i 0 ≤ m
theorem ranIn_set {F : List Int} {m : Int} (h : ∀ i : Nat, 0 ≤ F.getD i 0 ∧ F.getD i 0 ≤ m) (j : Nat) : ∀ i : Nat, 0 ≤ (F.set j (F.getD j 0 + 1)).getD i 0 ∧ (F.set j (F.getD j 0 + 1)).getD i 0 ≤ m + 1 := by
 intro i
 have h1 := h i
 have h2 := h j
 rw [List.getD_eq_getElem?_getD, List.getElem?_set]
 by_cases e : j = i
 ·subst e
  rw [if_pos rfl]
  split
  ·simp only [Option.getD_some]; omega
  ·simp only [Option.getD_none]; omega
 ·rw [if_neg e, ← List.getD_eq_getElem?_getD]; omega
theorem RanIn.run {s : Seen} {m : Int} (h : RanIn s m) (need : List Int) (n tick core : Int) : RanIn (runS need s n tick core) (m + 1) := ranIn_set h _
theorem RanIn.part {s : Seen} {m : Int} (h : RanIn s m) (need row : List Int) (tick : Int) : ∀ c : Nat, RanIn (partRow need s row tick c) (m + c)
 | 0 => by simpa [partRow] using h
 | c + 1 => by
  rw [partRow_next]
  unfold runC
  have ih := RanIn.part h need row tick c
  split
  ·exact fun i => ⟨(ih i).1, by have := (ih i).2; omega⟩
  ·exact fun i => ⟨(ih.run need _ _ _ i).1, by have := (ih.run need (row.getD c 0) tick c i).2; omega⟩
theorem RanIn.at_ (need : List Int) (ts : List (List Int)) (M : Nat) (hM : ∀ r ∈ ts, r.length ≤ M) : ∀ k : Nat, k ≤ ts.length → RanIn (stAt need ts k) ((k * M : Nat) : Int)
 | 0, _ => fun i => by
  have : (begin_ need.length).ran.getD i 0 = 0 := by simp [begin_, List.getD_eq_getElem?_getD, List.getElem?_replicate]; split <;> rfl
  show 0 ≤ (begin_ need.length).ran.getD i 0 ∧ (begin_ need.length).ran.getD i 0 ≤ ((0 * M : Nat) : Int)
  rw [this]; simp
 | k + 1, hk => by
  have ih := RanIn.at_ need ts M hM k (by omega)
  have h := ih.part need (ts.getD k []) k (ts.getD k []).length
  have hl : (ts.getD k []).length ≤ M := by
   rw [List.getD_eq_getElem?_getD, List.getElem?_eq_getElem (by omega)]
   exact hM _ (List.getElem_mem _)
  intro i
  have := h i
  refine ⟨this.1, Int.le_trans this.2 ?_⟩
  rw [Nat.succ_mul]
  omega
end SchPlain

set_option linter.unusedVariables false
set_option linter.unusedSimpArgs false
namespace Go.Proofs.Ytmbhjhanafmidaa
open Go.RowKit Go.Sort
open DagPlain SchPlain
open Go.Proofs.YtmbhjhanafmidaaW.PrintWords
set_option maxHeartbeats 400000 in
theorem oddN_yes (n : Int) (w : World) (h : oddN n = true) : Calls Try.prog 79 #[.int .i64 n] w fun e w' => e = .returned (.bool true) ∧ w = w' := by
 have hc : n < 1 ∨ (1 ≤ n ∧ 1000 < n) := by unfold oddN at h; simp at h; omega
 clear h
 rcases hc with h | ⟨h, h'⟩
 all_goals
  go_enter Try.func79, Try.ntmps79
  go_wp2
  go_ret
  exact ⟨by simp <;> omega, rfl⟩
set_option maxHeartbeats 400000 in
theorem oddN_no (n : Int) (w : World) (h : oddN n = false) : Calls Try.prog 79 #[.int .i64 n] w fun e w' => e = .returned (.bool false) ∧ w = w' := by
 have hc : 1 ≤ n ∧ n ≤ 1000 := by unfold oddN at h; simp at h; omega
 clear h
 obtain ⟨h, h'⟩ := hc
 go_enter Try.func79, Try.ntmps79
 go_wp2
 go_ret
 exact ⟨by simp <;> omega, rfl⟩
def IdxNPost (w : World) (l : List Int) (e : Ending) (w' : World) : Prop := ∃ i : Int, e = .returned (.int .i64 i) ∧ (0 ≤ i ↔ l.any oddN = true) ∧ -1 ≤ i ∧ w = w'
set_option maxHeartbeats 1000000 in
theorem idxN_any (A : Option Addr) (c : Nat) (l : List Int) (w : World) (hl : ReadsInt w .i64 A l.length l) (hlen : l.length ≤ 1000) :
  Calls Try.prog 69 #[.slice A l.length c, .func (Fn.func 79) #[] #[]] w (IdxNPost w l) := by
 have HL := Lib.hid hl
 clear hl
 go_enter Try.func69, Try.ntmps69
 go_wp2
 go_loop [8] (fun i => ∃ k : Nat, k ≤ l.length ∧ i = .int .i64 k ∧ Hid (∀ j, j < k → oddN (l.getD j 0) = false)) (fun i => l.length - (intOf i).toNat)
 case atStart => exact ⟨0, Nat.zero_le _, rfl, by show ∀ j, j < 0 → _; omega⟩
 case round =>
  obtain ⟨k, hk, rfl, HN⟩ := hrel
  by_cases hlt : k < l.length
  ·obtain ⟨ad, hA, hcs⟩ := HL.out.2.2 (by omega)
   subst hA
   have hc := hcs k hlt
   have hmem : l.getD k 0 ∈ l := by rw [List.getD_eq_getElem?_getD, List.getElem?_eq_getElem hlt]; exact List.getElem_mem hlt
   have HM := Lib.hid hmem
   obtain ⟨n, hn⟩ : ∃ n, n = l.getD k 0 := ⟨_, rfl⟩
   rw [← hn] at hc HM
   have HNN := Lib.hid hn
   clear hcs hmem hn
   cases ho : oddN n with
   | true =>
    have C := Lib.hid (fun w1 => oddN_yes n w1 ho)
    have HA : Hid (l.any oddN = true) := List.any_eq_true.2 ⟨n, HM.out, ho⟩
    clear ho
    go_wp2_with fail
    refine (C.out _).mono ?_
    rintro e w1 ⟨rfl, rfl⟩
    go_wp2
    go_ret
    exact ⟨_, rfl, ⟨fun _ => HA.out, fun _ => by omega⟩, by omega, rfl⟩
   | false =>
    have C := Lib.hid (fun w1 => oddN_no n w1 ho)
    have HN2 : Hid (∀ j, j < k + 1 → oddN (l.getD j 0) = false) := by
     show ∀ j, j < k + 1 → _
     intro j hj
     by_cases e : j = k
     ·rw [e, ← HNN.out]; exact ho
     ·exact HN.out j (by omega)
    clear ho
    go_wp2_with fail
    refine (C.out _).mono ?_
    rintro e w1 ⟨rfl, rfl⟩
    go_wp2
    go_round
    case rel => exact ⟨k + 1, by omega, by go_num, HN2⟩
    case measure => simp [intOf]; omega
  ·obtain rfl : k = l.length := by omega
   have HA : Hid (¬ l.any oddN = true) := by
    show ¬ _
    rw [List.any_eq_true]
    rintro ⟨x, hx, ho⟩
    obtain ⟨j, hj, rfl⟩ := List.getElem_of_mem hx
    have := HN.out j hj
    rw [List.getD_eq_getElem?_getD, List.getElem?_eq_getElem hj] at this
    simp only [Option.getD_some] at this
    rw [this] at ho; cases ho
   clear HN
   go_wp2
   go_ret
   exact ⟨_, rfl, ⟨fun h => by omega, fun h => absurd h HA.out⟩, by omega, rfl⟩
set_option maxHeartbeats 400000 in
theorem contN_any (A : Option Addr) (c : Nat) (l : List Int) (w : World) (hl : ReadsInt w .i64 A l.length l) (hlen : l.length ≤ 1000) :
  Calls Try.prog 46 #[.slice A l.length c, .func (Fn.func 79) #[] #[]] w fun e w' => e = .returned (.bool (l.any oddN)) ∧ w = w' := by
 have C := Lib.hid (idxN_any A c l w hl hlen)
 clear hl
 cases ho : l.any oddN with
 | true =>
  have HO := Lib.hid ho
  clear ho
  go_enter Try.func46, Try.ntmps46
  go_wp2_with fail
  refine C.out.mono ?_
  rintro e w1 ⟨i, rfl, h1, h2, rfl⟩
  have h0 : 0 ≤ i := h1.2 HO.out
  clear h1
  go_wp2
  go_ret
  exact ⟨by simp [h0], rfl⟩
 | false =>
  have HO : Hid (¬ l.any oddN = true) := by rw [ho]; show ¬ _; simp
  clear ho
  go_enter Try.func46, Try.ntmps46
  go_wp2_with fail
  refine C.out.mono ?_
  rintro e w1 ⟨i, rfl, h1, h2, rfl⟩
  have h0 : ¬ 0 ≤ i := fun h => HO.out (h1.1 h)
  clear h1
  go_wp2
  go_ret
  exact ⟨by simp [h0], rfl⟩
def GR (w : World) (A : Option Addr) (c : Nat) (l : List Int) (B : Option Addr) (d : Nat) (es : List (Int × Int)) : Prop :=
 (l.length ≤ c ∧ ReadsInt w .i64 A l.length l) ∧ es.length ≤ d ∧ EdR w B es
theorem GR.below {w w' : World} {A : Option Addr} {c : Nat} {l : List Int} {B : Option Addr} {d : Nat} {es : List (Int × Int)} (h : GR w A c l B d es) (hb : Below w.heap.size w w') : GR w' A c l B d es :=
 ⟨⟨h.1.1, h.1.2.below hb⟩, h.2.1, h.2.2.below hb⟩
def DS (w : World) (g : Nat) (A : Option Addr) (n c : Nat) (B : Option Addr) (m d : Nat) (W : World) : Prop :=
 Below w.heap.size w W ∧ W.cell? ⟨g, 0, none⟩ = some (.slice A n c) ∧ W.cell? ⟨g, 1, none⟩ = some (.slice B m d)
theorem DS.below {w : World} {g : Nat} {A : Option Addr} {n c : Nat} {B : Option Addr} {m d : Nat} {W W' : World} (h : DS w g A n c B m d W) (hb : Below W.heap.size W W') : DS w g A n c B m d W' :=
 ⟨h.1.trans (hb.mono h.1.size), by rw [hb.cell (block_lt_of_cell h.2.1)]; exact h.2.1, by rw [hb.cell (block_lt_of_cell h.2.2)]; exact h.2.2⟩
theorem DS.start (w : World) (A : Option Addr) (n c : Nat) (B : Option Addr) (m d : Nat) (ty : TypeId) : DS w w.heap.size A n c B m d (w.alloc (.cells #[.slice A n c, .slice B m d] ty)) :=
 ⟨below_alloc _ _, by rw [World.cell?_alloc_mark]; rfl, by rw [World.cell?_alloc_mark]; rfl⟩
def rightR (l : List Int) (es : List (Int × Int)) (need : List Int) (cores : Int) : Bool := decide (checkL l es = 0) && rightB l need cores
def RightPost (w : World) (l : List Int) (es : List (Int × Int)) (need : List Int) (cores : Int) (e : Ending) (w' : World) : Prop := e = .returned (.tuple #[.bool (rightR l es need cores), .int .i64 (checkL l es)]) ∧ Below w.heap.size w w'
set_option maxHeartbeats 2000000 in
theorem right_any (A : Option Addr) (c : Nat) (l : List Int) (B : Option Addr) (d : Nat) (es : List (Int × Int)) (D : Option Addr) (f : Nat) (need : List Int) (cores : Int) (w : World) (hg : GR w A c l B d es) (hn : l.length ≤ 1000) (hm : es.length ≤ 1000) (hD : ReadsInt w .i64 D need.length need) (hk : need.length ≤ 1000) :
  Calls Try.prog 55 #[.agg #[.slice A l.length c, .slice B es.length d], .slice D need.length f, .int .i64 cores] w (RightPost w l es need cores) := by
 have CC := Lib.hid (fun A' c' B' d' w1 (h : GR w1 A' c' l B' d' es) => check_any A' c' l B' d' es w1 h.1.2 hn hm h.2.2 h.2.1)
 have CN := Lib.hid (fun w1 h => contN_any D f need w1 h hk)
 have HG := Lib.hid hg
 have HD := Lib.hid hD
 clear hg hD
 by_cases hz : checkL l es = 0
 ·have hr : rightR l es need cores = rightB l need cores := by unfold rightR; rw [hz]; rfl
  unfold RightPost
  rw [hr]
  rw [hz] at CC ⊢
  clear hr hz
  by_cases hl : need.length = l.length
  ·cases ho : need.any oddN with
   | true =>
    have HR : Hid (rightB l need cores = false) := by show _ = _; unfold rightB; rw [ho]; simp
    rw [ho] at CN
    clear ho
    have HL := Lib.hid hl
    have hlb : ((need.length : Int) == (l.length : Int)) = true := by rw [hl]; simp
    clear hl
    go_enter Try.func55, Try.ntmps55
    go_wp2_with fail
    have HS0 := Lib.hid (DS.start w A l.length c B es.length d 25)
    refine (CC.out _ _ _ _ _ (HG.out.below HS0.out.1)).mono ?_
    rintro e w1 ⟨rfl, hb⟩
    have HS1 := Lib.hid (HS0.out.below hb)
    obtain ⟨-, hx0, hx1⟩ := HS1.out
    clear hb HS0
    go_wp2_with fail
    refine (CN.out _ (HD.out.below HS1.out.1)).mono ?_
    rintro e w2 ⟨rfl, rfl⟩
    go_wp2_with fail
    go_ret2
    exact ⟨by rw [HR.out]; rfl, HS1.out.1⟩
   | false =>
    rw [ho] at CN
    have hlb : ((need.length : Int) == (l.length : Int)) = true := by rw [hl]; simp
    have HR : Hid (rightB l need cores = (decide (1 ≤ cores) && decide (cores ≤ 8))) := by show _ = _; unfold rightB; rw [ho]; simp [hl]
    clear ho hl
    by_cases h1 : 1 ≤ cores
    ·by_cases h2 : cores ≤ 8
     ·have HQ : Hid (rightB l need cores = true) := by show _ = _; rw [HR.out]; simp [h1, h2]
      clear HR
      go_enter Try.func55, Try.ntmps55
      go_wp2_with fail
      have HS0 := Lib.hid (DS.start w A l.length c B es.length d 25)
      refine (CC.out _ _ _ _ _ (HG.out.below HS0.out.1)).mono ?_
      rintro e w1 ⟨rfl, hb⟩
      have HS1 := Lib.hid (HS0.out.below hb)
      obtain ⟨-, hx0, hx1⟩ := HS1.out
      clear hb HS0
      go_wp2_with fail
      refine (CN.out _ (HD.out.below HS1.out.1)).mono ?_
      rintro e w2 ⟨rfl, rfl⟩
      go_wp2_with fail
      go_ret2
      exact ⟨by rw [HQ.out]; rfl, HS1.out.1⟩
     ·have HQ : Hid (rightB l need cores = false) := by show _ = _; rw [HR.out]; simp [h2]
      clear HR
      go_enter Try.func55, Try.ntmps55
      go_wp2_with fail
      have HS0 := Lib.hid (DS.start w A l.length c B es.length d 25)
      refine (CC.out _ _ _ _ _ (HG.out.below HS0.out.1)).mono ?_
      rintro e w1 ⟨rfl, hb⟩
      have HS1 := Lib.hid (HS0.out.below hb)
      obtain ⟨-, hx0, hx1⟩ := HS1.out
      clear hb HS0
      go_wp2_with fail
      refine (CN.out _ (HD.out.below HS1.out.1)).mono ?_
      rintro e w2 ⟨rfl, rfl⟩
      go_wp2_with fail
      go_ret2
      exact ⟨by rw [HQ.out, show decide (cores ≤ 8) = false from decide_eq_false (by omega)]; rfl, HS1.out.1⟩
    ·have HQ : Hid (rightB l need cores = false) := by show _ = _; rw [HR.out]; simp [h1]
     clear HR
     go_enter Try.func55, Try.ntmps55
     go_wp2_with fail
     have HS0 := Lib.hid (DS.start w A l.length c B es.length d 25)
     refine (CC.out _ _ _ _ _ (HG.out.below HS0.out.1)).mono ?_
     rintro e w1 ⟨rfl, hb⟩
     have HS1 := Lib.hid (HS0.out.below hb)
     obtain ⟨-, hx0, hx1⟩ := HS1.out
     clear hb HS0
     go_wp2_with fail
     refine (CN.out _ (HD.out.below HS1.out.1)).mono ?_
     rintro e w2 ⟨rfl, rfl⟩
     go_wp2_with fail
     go_ret2
     exact ⟨by rw [HQ.out]; rfl, HS1.out.1⟩
  ·have hlb : ((need.length : Int) == (l.length : Int)) = false := by simp; omega
   have HR : Hid (rightB l need cores = false) := by show _ = _; unfold rightB; simp [hl]
   clear hl
   go_enter Try.func55, Try.ntmps55
   go_wp2_with fail
   have HS0 := Lib.hid (DS.start w A l.length c B es.length d 25)
   refine (CC.out _ _ _ _ _ (HG.out.below HS0.out.1)).mono ?_
   rintro e w1 ⟨rfl, hb⟩
   have HS1 := Lib.hid (HS0.out.below hb)
   obtain ⟨-, hx0, hx1⟩ := HS1.out
   clear hb HS0
   go_wp2_with fail
   go_ret2
   exact ⟨by rw [HR.out]; rfl, HS1.out.1⟩
 ·have hr : rightR l es need cores = false := by unfold rightR; rw [decide_eq_false hz]; rfl
  unfold RightPost
  rw [hr]
  have hzb : (checkL l es != 0) = true := by simpa using hz
  generalize checkL l es = z at *
  clear hr hz
  go_enter Try.func55, Try.ntmps55
  go_wp2_with fail
  have HS0 := Lib.hid (DS.start w A l.length c B es.length d 25)
  refine (CC.out _ _ _ _ _ (HG.out.below HS0.out.1)).mono ?_
  rintro e w1 ⟨rfl, hb⟩
  have HS1 := Lib.hid (HS0.out.below hb)
  clear hb HS0
  go_wp2_with fail
  go_ret2
  exact ⟨rfl, HS1.out.1⟩
end Go.Proofs.Ytmbhjhanafmidaa

set_option linter.unusedVariables false
set_option linter.unusedSimpArgs false
namespace Go.Proofs.Ytmbhjhanafmidaa
open Go.RowKit Go.Sort
open DagPlain SchPlain
open Go.Proofs.YtmbhjhanafmidaaW.PrintWords
def TrR (w : World) (T : Option Addr) (ts : List (List Int)) : Prop :=
 0 < ts.length → ∃ ad, T = some ad ∧ ∀ i, i < ts.length → ∃ A c, w.cell? (ad.add i) = some (.slice A (ts.getD i []).length c) ∧ (ts.getD i []).length ≤ c ∧ ReadsInt w .i64 A (ts.getD i []).length (ts.getD i [])
theorem TrR.below {w w' : World} {T : Option Addr} {ts : List (List Int)} (h : TrR w T ts) (hb : Below w.heap.size w w') : TrR w' T ts := fun h0 => by
 obtain ⟨ad, e, hc⟩ := h h0
 refine ⟨ad, e, fun i hi => ?_⟩
 obtain ⟨A, c, h1, h2, h3⟩ := hc i hi
 exact ⟨A, c, by rw [hb.cell (block_lt_of_cell h1)]; exact h1, h2, h3.below hb⟩
def longB (cores : Int) (r : List Int) : Bool := decide ((r.length : Int) ≠ cores)
set_option maxHeartbeats 400000 in
theorem lenC_any (A : Option Addr) (c : Nat) (r : List Int) (p : Addr) (cores : Int) (w : World) (hc : w.cell? p = some (.int .i64 cores)) :
  Calls Try.prog 70 #[.slice A r.length c, .pointer (some p)] w fun e w' => e = .returned (.bool (longB cores r)) ∧ w = w' := by
 go_enter Try.func70, Try.ntmps70
 go_wp2
 go_ret
 exact ⟨by unfold longB; simp [bne]; rfl, rfl⟩
def IdxTPost (w : World) (cores : Int) (ts : List (List Int)) (e : Ending) (w' : World) : Prop := ∃ i : Int, e = .returned (.int .i64 i) ∧ (0 ≤ i ↔ ts.any (longB cores) = true) ∧ -1 ≤ i ∧ w = w'
set_option maxHeartbeats 1000000 in
theorem idxT_any (T : Option Addr) (c : Nat) (ts : List (List Int)) (p : Addr) (cores : Int) (w : World) (hl : TrR w T ts) (hlen : ts.length ≤ 5000) (hc : w.cell? p = some (.int .i64 cores)) :
  Calls Try.prog 88 #[.slice T ts.length c, .func (Fn.func 70) #[] #[.pointer (some p)]] w (IdxTPost w cores ts) := by
 have HL := Lib.hid hl
 have HC := Lib.hid hc
 clear hl hc
 go_enter Try.func88, Try.ntmps88
 go_wp2
 go_loop [8] (fun i => ∃ k : Nat, k ≤ ts.length ∧ i = .int .i64 k ∧ Hid (∀ j, j < k → longB cores (ts.getD j []) = false)) (fun i => ts.length - (intOf i).toNat)
 case atStart => exact ⟨0, Nat.zero_le _, rfl, by show ∀ j, j < 0 → _; omega⟩
 case round =>
  obtain ⟨k, hk, rfl, HN⟩ := hrel
  by_cases hlt : k < ts.length
  ·obtain ⟨ad, hA, hcs⟩ := HL.out (by omega)
   subst hA
   obtain ⟨A, c', hc, -, -⟩ := hcs k hlt
   have hmem : ts.getD k [] ∈ ts := by rw [List.getD_eq_getElem?_getD, List.getElem?_eq_getElem hlt]; exact List.getElem_mem hlt
   have HM := Lib.hid hmem
   obtain ⟨r, hr⟩ : ∃ r, r = ts.getD k [] := ⟨_, rfl⟩
   rw [← hr] at hc HM
   have HNN := Lib.hid hr
   clear hcs hmem hr
   have C := Lib.hid (lenC_any A c' r p cores w HC.out)
   cases ho : longB cores r with
   | true =>
    rw [ho] at C
    have HA : Hid (ts.any (longB cores) = true) := List.any_eq_true.2 ⟨r, HM.out, ho⟩
    clear ho
    go_wp2_with fail
    refine C.out.mono ?_
    rintro e w1 ⟨rfl, rfl⟩
    go_wp2
    go_ret
    exact ⟨_, rfl, ⟨fun _ => HA.out, fun _ => by omega⟩, by omega, rfl⟩
   | false =>
    rw [ho] at C
    have HN2 : Hid (∀ j, j < k + 1 → longB cores (ts.getD j []) = false) := by
     show ∀ j, j < k + 1 → _
     intro j hj
     by_cases e : j = k
     ·rw [e, ← HNN.out]; exact ho
     ·exact HN.out j (by omega)
    clear ho
    go_wp2_with fail
    refine C.out.mono ?_
    rintro e w1 ⟨rfl, rfl⟩
    go_wp2
    go_round
    case rel => exact ⟨k + 1, by omega, by go_num, HN2⟩
    case measure => simp [intOf]; omega
  ·obtain rfl : k = ts.length := by omega
   have HA : Hid (¬ ts.any (longB cores) = true) := by
    show ¬ _
    rw [List.any_eq_true]
    rintro ⟨x, hx, ho⟩
    obtain ⟨j, hj, rfl⟩ := List.getElem_of_mem hx
    have := HN.out j hj
    rw [List.getD_eq_getElem?_getD, List.getElem?_eq_getElem hj] at this
    simp only [Option.getD_some] at this
    rw [this] at ho; cases ho
   clear HN
   go_wp2
   go_ret
   exact ⟨_, rfl, ⟨fun h => by omega, fun h => absurd h HA.out⟩, by omega, rfl⟩
set_option maxHeartbeats 400000 in
theorem contT_any (T : Option Addr) (c : Nat) (ts : List (List Int)) (p : Addr) (cores : Int) (w : World) (hl : TrR w T ts) (hlen : ts.length ≤ 5000) (hc : w.cell? p = some (.int .i64 cores)) :
  Calls Try.prog 71 #[.slice T ts.length c, .func (Fn.func 70) #[] #[.pointer (some p)]] w fun e w' => e = .returned (.bool (ts.any (longB cores))) ∧ w = w' := by
 have C := Lib.hid (idxT_any T c ts p cores w hl hlen hc)
 clear hl hc
 cases ho : ts.any (longB cores) with
 | true =>
  have HO := Lib.hid ho
  clear ho
  go_enter Try.func71, Try.ntmps71
  go_wp2_with fail
  refine C.out.mono ?_
  rintro e w1 ⟨i, rfl, h1, h2, rfl⟩
  have h0 : 0 ≤ i := h1.2 HO.out
  clear h1
  go_wp2
  go_ret
  exact ⟨by simp [h0], rfl⟩
 | false =>
  have HO : Hid (¬ ts.any (longB cores) = true) := by rw [ho]; show ¬ _; simp
  clear ho
  go_enter Try.func71, Try.ntmps71
  go_wp2_with fail
  refine C.out.mono ?_
  rintro e w1 ⟨i, rfl, h1, h2, rfl⟩
  have h0 : ¬ 0 ≤ i := fun h => HO.out (h1.1 h)
  clear h1
  go_wp2
  go_ret
  exact ⟨by simp [h0], rfl⟩
end Go.Proofs.Ytmbhjhanafmidaa

set_option linter.unusedVariables false
set_option linter.unusedSimpArgs false
namespace Go.Proofs.Ytmbhjhanafmidaa
open Go.RowKit Go.Sort
open DagPlain SchPlain
open Go.Proofs.YtmbhjhanafmidaaW.PrintWords
structure SeenAt (W : World) (p r q f n : Nat) (nv : Value) (s : Seen) : Prop where
 l1 : s.ran.length = n
 l2 : s.last.length = n
 l3 : s.fin.length = n
 c0 : W.cell? ⟨p, 0, none⟩ = some nv
 c1 : W.cell? ⟨p, 1, none⟩ = some (.slice (some ⟨r, 0, none⟩) n n)
 c2 : W.cell? ⟨p, 2, none⟩ = some (.slice (some ⟨q, 0, none⟩) n n)
 c3 : W.cell? ⟨p, 3, none⟩ = some (.slice (some ⟨f, 0, none⟩) n n)
 ran : ∀ i : Nat, i < n → W.cell? ⟨r, i, none⟩ = some (.int .i64 (s.ran.getD i 0)) ∧ W.frozen? ⟨r, i, none⟩ = false
 last : ∀ i : Nat, i < n → (W.cell? ⟨q, i * 2, none⟩ = some (.int .i64 (s.last.getD i (0, 0)).1) ∧ W.frozen? ⟨q, i * 2, none⟩ = false) ∧ W.cell? ⟨q, i * 2 + 1, none⟩ = some (.int .i64 (s.last.getD i (0, 0)).2) ∧ W.frozen? ⟨q, i * 2 + 1, none⟩ = false
 fin : ∀ i : Nat, i < n → W.cell? ⟨f, i, none⟩ = some (.int .i64 (s.fin.getD i 0)) ∧ W.frozen? ⟨f, i, none⟩ = false
 d1 : (r ≠ p ∧ q ≠ p ∧ f ≠ p) ∧ r ≠ q ∧ r ≠ f ∧ q ≠ f
 fb : ∃ cur, W.heap[f]? = some (.cells cur 3 (0, 0)) ∧ cur.size = n
theorem heap_lt {W : World} {k : Nat} {o : Obj} (h : W.heap[k]? = some o) : k < W.heap.size := by
 rcases Nat.lt_or_ge k W.heap.size with g | g
 ·exact g
 ·rw [Array.getElem?_eq_none g] at h; cases h
theorem SeenAt.below {W W' : World} {p r q f n : Nat} {nv : Value} {s : Seen} (h : SeenAt W p r q f n nv s) (hb : Below W.heap.size W W') : SeenAt W' p r q f n nv s := by
 have hc : ∀ a v, W.cell? a = some v → W'.cell? a = some v := fun a v h => by rw [hb.cell (block_lt_of_cell h)]; exact h
 have hf : ∀ a v, W.cell? a = some v → W.frozen? a = false → W'.frozen? a = false := fun a v h k => by rw [hb.frozen (block_lt_of_cell h)]; exact k
 exact ⟨h.l1, h.l2, h.l3, hc _ _ h.c0, hc _ _ h.c1, hc _ _ h.c2, hc _ _ h.c3, fun i hi => ⟨hc _ _ (h.ran i hi).1, hf _ _ (h.ran i hi).1 (h.ran i hi).2⟩,
  fun i hi => ⟨⟨hc _ _ (h.last i hi).1.1, hf _ _ (h.last i hi).1.1 (h.last i hi).1.2⟩, hc _ _ (h.last i hi).2.1, hf _ _ (h.last i hi).2.1 (h.last i hi).2.2⟩,
  fun i hi => ⟨hc _ _ (h.fin i hi).1, hf _ _ (h.fin i hi).1 (h.fin i hi).2⟩, h.d1, by obtain ⟨cur, h1, h2⟩ := h.fb; exact ⟨cur, by rw [hb.block f (heap_lt h1)]; exact h1, h2⟩⟩
set_option maxHeartbeats 1000000 in
theorem done_any (p r q f N : Nat) (nv : Value) (s : Seen) (i : Nat) (tick : Int) (w : World) (hs : SeenAt w p r q f N nv s) (hi : i < N) :
  Calls Try.prog 78 #[.pointer (some ⟨p, 0, none⟩), .int .i64 (i : Int), .int .i64 tick] w fun e w' => e = .returned (.bool (doneB s i tick)) ∧ w = w' := by
 have h3 := hs.c3
 have hf := (hs.fin i hi).1
 clear hs
 have HD : Hid (doneB s i tick = (decide (0 ≤ s.fin.getD i 0) && decide (s.fin.getD i 0 ≤ tick))) := rfl
 generalize s.fin.getD i 0 = x at *
 by_cases hx : 0 ≤ x
 ·by_cases ht : x ≤ tick
  ·have HR : Hid (doneB s i tick = true) := by show _ = _; rw [HD.out]; simp [hx, ht]
   clear HD
   go_enter Try.func78, Try.ntmps78
   go_wp2
   go_ret
   exact ⟨by rw [HR.out]; simp [hx, ht], rfl⟩
  ·have HR : Hid (doneB s i tick = false) := by show _ = _; rw [HD.out]; simp [ht]
   clear HD
   go_enter Try.func78, Try.ntmps78
   go_wp2
   go_ret
   exact ⟨by rw [HR.out]; simp [hx, ht] <;> omega, rfl⟩
 ·have HR : Hid (doneB s i tick = false) := by show _ = _; rw [HD.out]; simp [hx]
  clear HD
  go_enter Try.func78, Try.ntmps78
  go_wp2
  go_ret
  exact ⟨by rw [HR.out]; simp [hx], rfl⟩
set_option maxHeartbeats 1000000 in
theorem waitC_any (p r q f N : Nat) (nv : Value) (s : Seen) (e : Int × Int) (n tick : Int) (a b c : Addr) (w : World) (hs : SeenAt w p r q f N nv s) (he : 0 ≤ e.1 ∧ e.1 < N) (ha : w.cell? a = some (.int .i64 n)) (hb : w.cell? b = some (.pointer (some ⟨p, 0, none⟩))) (hc : w.cell? c = some (.int .i64 tick)) :
  Calls Try.prog 77 #[.agg #[.int .i64 e.1, .int .i64 e.2], .pointer (some a), .pointer (some b), .pointer (some c)] w fun x w' => x = .returned (.bool (waitE s n tick e)) ∧ Below w.heap.size w w' := by
 obtain ⟨e1, e2⟩ := e
 obtain ⟨i, rfl⟩ : ∃ i : Nat, e1 = (i : Int) := ⟨e1.toNat, by dsimp only at he; omega⟩
 have hi : i < N := by dsimp only at he; omega
 dsimp only
 have C := Lib.hid (fun w1 h => done_any p r q f N nv s i tick w1 h hi)
 have HD : Hid (waitE s n tick ((i : Int), e2) = (e2 == n && !doneB s i tick)) := rfl
 have hal := below_alloc w (.cells #[.int .i64 (i : Int), .int .i64 e2] 85)
 have HS := Lib.hid (hs.below hal)
 have ha' := (hal.cell (block_lt_of_cell ha)).trans ha
 have hb' := (hal.cell (block_lt_of_cell hb)).trans hb
 have hc' := (hal.cell (block_lt_of_cell hc)).trans hc
 clear hs he hi ha hb hc
 cases hcmp : e2 == n with
 | true =>
  have HR : Hid (waitE s n tick ((i : Int), e2) = !doneB s i tick) := by show _ = _; rw [HD.out, hcmp]; rfl
  clear HD
  go_enter Try.func77, Try.ntmps77
  go_wp2_with fail
  refine (C.out _ HS.out).mono ?_
  rintro e w1 ⟨rfl, rfl⟩
  go_wp2_with fail
  go_ret
  exact ⟨by rw [HR.out]; simp, hal⟩
 | false =>
  have HR : Hid (waitE s n tick ((i : Int), e2) = false) := by show _ = _; rw [HD.out, hcmp]; rfl
  clear HD
  go_enter Try.func77, Try.ntmps77
  go_wp2_with fail
  go_ret
  exact ⟨by rw [HR.out]; simp, hal⟩
end Go.Proofs.Ytmbhjhanafmidaa

set_option linter.unusedVariables false
set_option linter.unusedSimpArgs false
namespace Go.Proofs.Ytmbhjhanafmidaa
open Go.RowKit Go.Sort
open DagPlain SchPlain
open Go.Proofs.YtmbhjhanafmidaaW.PrintWords
def Caps (w : World) (a b c : Addr) (p : Nat) (n tick : Int) : Prop := w.cell? a = some (.int .i64 n) ∧ w.cell? b = some (.pointer (some ⟨p, 0, none⟩)) ∧ w.cell? c = some (.int .i64 tick)
theorem Caps.below {w w' : World} {a b c : Addr} {p : Nat} {n tick : Int} (h : Caps w a b c p n tick) (hb : Below w.heap.size w w') : Caps w' a b c p n tick :=
 ⟨by rw [hb.cell (block_lt_of_cell h.1)]; exact h.1, by rw [hb.cell (block_lt_of_cell h.2.1)]; exact h.2.1, by rw [hb.cell (block_lt_of_cell h.2.2)]; exact h.2.2⟩
theorem caps_new (w : World) (V : Array Value) (p : Nat) (x tick : Int) (t1 t2 t3 t4 : TypeId) : Caps ((((w.alloc (Obj.cells #[Value.pointer (some { block := p, off := 0 })] t1)).alloc (Obj.cells V t2)).alloc (Obj.cells #[Value.int IntKind.i64 x] t3)).alloc (Obj.cells #[Value.int IntKind.i64 tick] t4)) ⟨w.heap.size + 1 + 1, 0, none⟩ ⟨w.heap.size, 0, none⟩ ⟨w.heap.size + 1 + 1 + 1, 0, none⟩ p x tick := by
 have s1 : (w.alloc (Obj.cells #[Value.pointer (some { block := p, off := 0 })] t1)).heap.size = w.heap.size + 1 := World.size_alloc _ _
 have e1 : (w.alloc (Obj.cells #[Value.pointer (some { block := p, off := 0 })] t1)).cell? ⟨w.heap.size, 0, none⟩ = some (.pointer (some ⟨p, 0, none⟩)) := by rw [World.cell?_alloc_mark]; rfl
 generalize w.alloc (Obj.cells #[Value.pointer (some { block := p, off := 0 })] t1) = w1 at *
 have s2 : (w1.alloc (Obj.cells V t2)).heap.size = w.heap.size + 1 + 1 := by rw [World.size_alloc, s1]
 have e2 := ((below_alloc w1 (Obj.cells V t2)).cell (block_lt_of_cell e1)).trans e1
 generalize w1.alloc (Obj.cells V t2) = w2 at *
 have s3 : (w2.alloc (Obj.cells #[Value.int IntKind.i64 x] t3)).heap.size = w.heap.size + 1 + 1 + 1 := by rw [World.size_alloc, s2]
 have e3 := ((below_alloc w2 (Obj.cells #[Value.int IntKind.i64 x] t3)).cell (block_lt_of_cell e2)).trans e2
 have f3 : (w2.alloc (Obj.cells #[Value.int IntKind.i64 x] t3)).cell? ⟨w.heap.size + 1 + 1, 0, none⟩ = some (.int .i64 x) := by rw [← s2, World.cell?_alloc_mark]; rfl
 generalize w2.alloc (Obj.cells #[Value.int IntKind.i64 x] t3) = w3 at *
 exact ⟨((below_alloc w3 _).cell (block_lt_of_cell f3)).trans f3, ((below_alloc w3 _).cell (block_lt_of_cell e3)).trans e3, by rw [← s3, World.cell?_alloc_mark]; rfl⟩
def IdxWPost (w : World) (s : Seen) (n tick : Int) (es : List (Int × Int)) (e : Ending) (w' : World) : Prop := ∃ i : Int, e = .returned (.int .i64 i) ∧ (0 ≤ i ↔ es.any (waitE s n tick) = true) ∧ -1 ≤ i ∧ Below w.heap.size w w'
set_option maxHeartbeats 2000000 in
theorem idxW_any (p r q f N : Nat) (nv : Value) (s : Seen) (n tick : Int) (a b c : Addr) (B : Option Addr) (d : Nat) (es : List (Int × Int)) (w : World) (hs : SeenAt w p r q f N nv s) (hE : EdR w B es) (hm : es.length ≤ 1000) (hes : ∀ e ∈ es, 0 ≤ e.1 ∧ e.1 < N) (hcp : Caps w a b c p n tick) :
  Calls Try.prog 89 #[.slice B es.length d, .func (Fn.func 77) #[] #[.pointer (some a), .pointer (some b), .pointer (some c)]] w (IdxWPost w s n tick es) := by
 have HE := Lib.hid hE
 have HS := Lib.hid hs
 have HCP := Lib.hid hcp
 have HES := Lib.hid hes
 clear hE hs hcp hes
 go_enter Try.func89, Try.ntmps89
 go_wp2_with fail
 go_loopw [8] (fun i wr => ∃ k : Nat, k ≤ es.length ∧ i = .int .i64 k ∧ Hid (∀ j, j < k → waitE s n tick (es.getD j (0, 0)) = false) ∧ Hid (Below w.heap.size w wr)) (fun i _ => es.length - (intOf i).toNat)
 case atStart => exact ⟨0, Nat.zero_le _, rfl, by show ∀ j, j < 0 → _; omega, Below.refl _ _⟩
 case round =>
  obtain ⟨k, hk, rfl, HN, HBW⟩ := hrel
  by_cases hlt : k < es.length
  ·obtain ⟨ad, hA, hcs⟩ := (HE.out.below HBW.out) (by omega)
   subst hA
   obtain ⟨hc1, hc2⟩ := hcs k hlt
   have hmem : es.getD k (0, 0) ∈ es := by rw [List.getD_eq_getElem?_getD, List.getElem?_eq_getElem hlt]; exact List.getElem_mem hlt
   have HM := Lib.hid hmem
   have hin := HES.out _ hmem
   obtain ⟨x, hx⟩ : ∃ x, x = es.getD k (0, 0) := ⟨_, rfl⟩
   rw [← hx] at hc1 hc2 HM hin
   have HNN := Lib.hid hx
   clear hcs hmem hx
   have C := Lib.hid (fun w1 h1 h2 => waitC_any p r q f N nv s x n tick a b c w1 h1 hin (h2 : Caps w1 a b c p n tick).1 h2.2.1 h2.2.2)
   cases ho : waitE s n tick x with
   | true =>
    rw [ho] at C
    have HA : Hid (es.any (waitE s n tick) = true) := List.any_eq_true.2 ⟨x, HM.out, ho⟩
    clear ho
    go_wp2_with fail
    refine (C.out _ (HS.out.below HBW.out) (HCP.out.below HBW.out)).mono ?_
    rintro e w1 ⟨rfl, hb⟩
    have HB1 := Lib.hid (HBW.out.trans (hb.mono HBW.out.size))
    clear hb hc1 hc2 HBW
    go_wp2_with fail
    go_ret
    exact ⟨_, rfl, ⟨fun _ => HA.out, fun _ => by omega⟩, by omega, HB1.out⟩
   | false =>
    rw [ho] at C
    have HN2 : Hid (∀ j, j < k + 1 → waitE s n tick (es.getD j (0, 0)) = false) := by
     show ∀ j, j < k + 1 → _
     intro j hj
     by_cases e : j = k
     ·rw [e, ← HNN.out]; exact ho
     ·exact HN.out j (by omega)
    clear ho
    go_wp2_with fail
    refine (C.out _ (HS.out.below HBW.out) (HCP.out.below HBW.out)).mono ?_
    rintro e w1 ⟨rfl, hb⟩
    have HB1 := Lib.hid (HBW.out.trans (hb.mono HBW.out.size))
    clear hb hc1 hc2 HBW
    go_wp2_with fail
    go_roundw
    case rel => exact ⟨k + 1, by omega, by go_num, HN2, HB1⟩
    case measure => simp [intOf]; omega
  ·obtain rfl : k = es.length := by omega
   have HA : Hid (¬ es.any (waitE s n tick) = true) := by
    show ¬ _
    rw [List.any_eq_true]
    rintro ⟨x, hx, ho⟩
    obtain ⟨j, hj, rfl⟩ := List.getElem_of_mem hx
    have := HN.out j hj
    rw [List.getD_eq_getElem?_getD, List.getElem?_eq_getElem hj] at this
    simp only [Option.getD_some] at this
    rw [this] at ho; cases ho
   clear HN
   go_wp2_with fail
   go_ret
   exact ⟨_, rfl, ⟨fun h => by omega, fun h => absurd h HA.out⟩, by omega, HBW.out⟩
set_option maxHeartbeats 400000 in
theorem contW_any (p r q f N : Nat) (nv : Value) (s : Seen) (n tick : Int) (a b c : Addr) (B : Option Addr) (d : Nat) (es : List (Int × Int)) (w : World) (hs : SeenAt w p r q f N nv s) (hE : EdR w B es) (hm : es.length ≤ 1000) (hes : ∀ e ∈ es, 0 ≤ e.1 ∧ e.1 < N) (hcp : Caps w a b c p n tick) :
  Calls Try.prog 76 #[.slice B es.length d, .func (Fn.func 77) #[] #[.pointer (some a), .pointer (some b), .pointer (some c)]] w fun e w' => e = .returned (.bool (es.any (waitE s n tick))) ∧ Below w.heap.size w w' := by
 have C := Lib.hid (idxW_any p r q f N nv s n tick a b c B d es w hs hE hm hes hcp)
 clear hs hE hcp hes
 cases ho : es.any (waitE s n tick) with
 | true =>
  have HO := Lib.hid ho
  clear ho
  go_enter Try.func76, Try.ntmps76
  go_wp2_with fail
  refine C.out.mono ?_
  rintro e w1 ⟨i, rfl, h1, h2, hb⟩
  have h0 : 0 ≤ i := h1.2 HO.out
  have HB := Lib.hid hb
  clear h1 hb
  go_wp2_with fail
  go_ret
  exact ⟨by simp [h0], HB.out⟩
 | false =>
  have HO : Hid (¬ es.any (waitE s n tick) = true) := by rw [ho]; show ¬ _; simp
  clear ho
  go_enter Try.func76, Try.ntmps76
  go_wp2_with fail
  refine C.out.mono ?_
  rintro e w1 ⟨i, rfl, h1, h2, hb⟩
  have h0 : ¬ 0 ≤ i := fun h => HO.out (h1.1 h)
  have HB := Lib.hid hb
  clear h1 hb
  go_wp2_with fail
  go_ret
  exact ⟨by simp [h0], HB.out⟩
set_option maxHeartbeats 1000000 in
theorem free_any (p r q f N : Nat) (nv : Value) (s : Seen) (A : Option Addr) (n c : Nat) (B : Option Addr) (d : Nat) (es : List (Int × Int)) (x tick : Int) (w : World) (hs : SeenAt w p r q f N nv s) (hE : EdR w B es) (hm : es.length ≤ 1000) (hes : ∀ e ∈ es, 0 ≤ e.1 ∧ e.1 < N) :
  Calls Try.prog 54 #[.pointer (some ⟨p, 0, none⟩), .agg #[.slice A n c, .slice B es.length d], .int .i64 x, .int .i64 tick] w fun e w' => e = .returned (.bool (freeB es s x tick)) ∧ Below w.heap.size w w' := by
 have HE := Lib.hid hE
 have HS := Lib.hid hs
 have C := Lib.hid (fun a b c w1 h1 h2 h3 => contW_any p r q f N nv s x tick a b c B d es w1 h1 h2 hm hes h3)
 have HF : Hid (freeB es s x tick = !es.any (waitE s x tick)) := rfl
 clear hE hs hes
 go_enter Try.func54, Try.ntmps54
 go_wp2_with fail
 have HBA : Hid (Below w.heap.size w ((((w.alloc (Obj.cells #[Value.pointer (some { block := p, off := 0 })] 68)).alloc (Obj.cells #[Value.slice A n c, Value.slice B es.length d] 25)).alloc (Obj.cells #[Value.int IntKind.i64 x] 3)).alloc (Obj.cells #[Value.int IntKind.i64 tick] 3))) :=
  ((((Below.refl _ _).alloc (Nat.le_refl _) _).alloc (by simp) _).alloc (by simp; omega) _).alloc (by simp; omega) _
 have HCP : Hid (Caps ((((w.alloc (Obj.cells #[Value.pointer (some { block := p, off := 0 })] 68)).alloc (Obj.cells #[Value.slice A n c, Value.slice B es.length d] 25)).alloc (Obj.cells #[Value.int IntKind.i64 x] 3)).alloc (Obj.cells #[Value.int IntKind.i64 tick] 3)) ⟨w.heap.size + 1 + 1, 0, none⟩ ⟨w.heap.size, 0, none⟩ ⟨w.heap.size + 1 + 1 + 1, 0, none⟩ p x tick) := caps_new w _ p x tick _ _ _ _
 refine (C.out ⟨w.heap.size + 1 + 1, 0, none⟩ ⟨w.heap.size, 0, none⟩ ⟨w.heap.size + 1 + 1 + 1, 0, none⟩ _ (HS.out.below HBA.out) (HE.out.below HBA.out) HCP.out).mono ?_
 rintro e w1 ⟨rfl, hb⟩
 have HB1 := Lib.hid (HBA.out.trans (hb.mono HBA.out.size))
 clear hb HBA
 go_wp2_with fail
 go_ret
 exact ⟨by rw [HF.out]; rfl, HB1.out⟩
end Go.Proofs.Ytmbhjhanafmidaa

set_option linter.unusedVariables false
set_option linter.unusedSimpArgs false
namespace Go.Proofs.Ytmbhjhanafmidaa
open Go.RowKit Go.Sort
open DagPlain SchPlain
open Go.Proofs.YtmbhjhanafmidaaW.PrintWords
theorem eqArr (a b c d : Int) (w : World) : (Op.equalIn 10000 105 (.agg #[.int .i64 a, .int .i64 b]) (.agg #[.int .i64 c, .int .i64 d])).run Try.prog w = .ok (a == c && b == d) w := by
 have u3 := Try.underlying3
 have a3 := Try.isAgg3
 have z3 := Try.sizeOf3
 rw [show (10000 : Nat) = 9999 + 1 from rfl, Op.equalIn]
 simp only [Sem.run_bind, run_underlying Try.underlying105, Result.andThen_ok]
 simp only [Std.Legacy.Range.forIn_eq_forIn_range', Std.Legacy.Range.size, Nat.sub_zero, Nat.add_sub_cancel, Nat.div_one, List.range'_succ, List.range'_zero, List.forIn_cons, List.forIn_nil]
 go_simp
 by_cases h1 : a = c <;> by_cases h2 : b = d <;> simp [h1, h2]
theorem reads_take {w : World} {A : Option Addr} {l : List Int} (h : ReadsInt w .i64 A l.length l) (k : Nat) (hk : k ≤ l.length) : ReadsInt w .i64 A (l.take k).length (l.take k) := by
 have e : (l.take k).length = k := by rw [List.length_take]; omega
 refine ⟨rfl, by have := h.2.1; omega, fun h0 => ?_⟩
 obtain ⟨ad, rfl, hc⟩ := h.2.2 (by omega)
 refine ⟨ad, rfl, fun j hj => ?_⟩
 rw [hc j (by omega), List.getD_eq_getElem?_getD, List.getD_eq_getElem?_getD, List.getElem?_take_of_lt (by omega)]
set_option maxRecDepth 100000 in
set_option maxHeartbeats 4000000 in
theorem one_any (p r q f : Nat) (need : List Int) (D : Option Addr) (dc : Nat) (s : Seen) (A : Option Addr) (n c : Nat) (B : Option Addr) (d : Nat) (es : List (Int × Int)) (R : Option Addr) (rc : Nat) (row : List Int) (tick : Int) (k : Nat) (w : World)
  (hs : SeenAt w p r q f need.length (.slice D need.length dc) s) (hD : ReadsInt w .i64 D need.length need) (hE : EdR w B es) (hm : es.length ≤ 1000) (hes : ∀ e ∈ es, 0 ≤ e.1 ∧ e.1 < need.length) (hR : ReadsInt w .i64 R row.length row) (hrc : row.length ≤ rc) (hk : k < row.length) (hr1 : row.length ≤ 1000) (hnl : need.length ≤ 1000) (hx : row.getD k 0 ≠ -1) (ht : 0 ≤ tick ∧ tick ≤ 5000) (hpos : ∀ i : Nat, 0 ≤ s.ran.getD i 0) :
  Calls Try.prog 73 #[.pointer (some ⟨p, 0, none⟩), .agg #[.slice A n c, .slice B es.length d], .slice R row.length rc, .int .i64 tick, .int .i64 (k : Int)] w fun e w' => e = .returned (.int .i64 (oneE es need s row tick k)) ∧ Below w.heap.size w w' := by
 have hal := below_alloc w (.cells #[.slice A n c, .slice B es.length d] 25)
 have HS := Lib.hid (hs.below hal)
 have HD := Lib.hid (ReadsInt.below hD hal)
 have HE := Lib.hid (hE.below hal)
 have HR := Lib.hid (ReadsInt.below hR hal)
 have HES := Lib.hid hes
 obtain ⟨ra, rfl, hrr⟩ := HR.out.2.2 (by omega)
 have hrk := hrr k hk
 have hN := HS.out.c0
 have hkr : (k : Int) < (row.length : Int) := by omega
 have hk0 : (0 : Int) ≤ (k : Int) := by omega
 have CC := Lib.hid (contI_any (some ra) rc (row.take k) (row.getD k 0))
 have HO : Hid (oneE es need s row tick k = if row.getD k 0 < -1 ∨ need.length ≤ row.getD k 0 then 101 else if (row.take k).contains (row.getD k 0) = true then 102 else if need.getD (row.getD k 0).toNat 0 ≤ s.ran.getD (row.getD k 0).toNat 0 then 105 else if splitB s (row.getD k 0) tick k = true then 104 else if s.ran.getD (row.getD k 0).toNat 0 = 0 ∧ freeB es s (row.getD k 0) tick = false then 103 else 0) := rfl
 generalize oneE es need s row tick k = res at *
 obtain ⟨x, hxd⟩ : ∃ x, x = row.getD k 0 := ⟨_, rfl⟩
 rw [← hxd] at hrk CC HO hx
 have HAL := Lib.hid hal
 clear hal hs hD hE hR hes hrr hxd
 by_cases h1 : x < -1
 ·have HQ : Hid (res = 101) := by show _ = _; rw [HO.out, if_pos (.inl h1)]
  clear HO
  go_enter Try.func73, Try.ntmps73
  go_wp2_with fail
  go_ret
  exact ⟨by rw [HQ.out]; rfl, HAL.out⟩
 by_cases h2 : (need.length : Int) ≤ x
 ·have HQ : Hid (res = 101) := by show _ = _; rw [HO.out, if_pos (.inr h2)]
  clear HO
  go_enter Try.func73, Try.ntmps73
  go_wp2_with fail
  go_ret
  exact ⟨by rw [HQ.out]; rfl, HAL.out⟩
 obtain ⟨i, rfl⟩ : ∃ i : Nat, x = (i : Int) := ⟨x.toNat, by omega⟩
 have hi : i < need.length := by omega
 have hil : (i : Int) < (need.length : Int) := by omega
 have hi0 : (0 : Int) ≤ (i : Int) := by omega
 have HT := Lib.hid (reads_take HR.out k (by omega))
 have hlt : (row.take k).length = k := by rw [List.length_take]; omega
 rw [hlt] at CC HT
 cases ho : (row.take k).contains (i : Int) with
 | true =>
  have HQ : Hid (res = 102) := by show _ = _; rw [HO.out, if_neg (by omega), if_pos ho]
  rw [ho] at CC
  clear HO ho
  go_enter Try.func73, Try.ntmps73
  go_wp2_with fail
  refine (CC.out _ HT.out (by omega)).mono ?_
  rintro e w1 ⟨rfl, hb⟩
  have HB1 := Lib.hid (HAL.out.trans (hb.mono HAL.out.size))
  clear hb
  go_wp2_with fail
  go_ret
  exact ⟨by rw [HQ.out]; rfl, HB1.out⟩
 | false =>
  rw [ho] at CC
  rw [if_neg (by omega), if_neg (by rw [ho]; simp), Int.toNat_natCast] at HO
  obtain ⟨da, rfl, hdd⟩ := HD.out.2.2 (by omega)
  clear hdd
  by_cases h5 : need.getD i 0 ≤ s.ran.getD i 0
  ·have HQ : Hid (res = 105) := by show _ = _; rw [HO.out, if_pos h5]
   clear HO ho
   go_enter Try.func73, Try.ntmps73
   go_wp2_with fail
   refine (CC.out _ HT.out (by omega)).mono ?_
   rintro e w1 ⟨rfl, hb⟩
   have HB1 := Lib.hid (HAL.out.trans (hb.mono HAL.out.size))
   have HS1 := Lib.hid (HS.out.below hb)
   have HD1 := Lib.hid (ReadsInt.below HD.out hb)
   have HE1 := Lib.hid (HE.out.below hb)
   have HX1 := Lib.hid ((DS.start w A n c B es.length d 25).below hb)
   clear hb HS HD HE HAL hrk hN
   have hc0 := HS1.out.c0
   have hc1 := HS1.out.c1
   have hcr := (HS1.out.ran i hi).1
   obtain ⟨da', e', hdd⟩ := HD1.out.2.2 (by omega)
   cases e'
   have hcn := hdd i hi
   clear hdd
   generalize hxr : s.ran.getD i 0 = xr at *
   generalize need.getD i 0 = xn at *
   have HXR := Lib.hid hxr
   clear hxr
   go_wp2_with fail
   go_quiet (fail)
   have HB2 := Lib.hid (below_drewN HB1.out nq)
   go_wp2_with fail
   go_ret
   exact ⟨by rw [HQ.out]; rfl, HB2.out⟩
  rw [if_neg h5] at HO
  have h50 : s.ran.getD i 0 < need.getD i 0 := by omega
  clear h5
  have hp := hpos i
  clear hpos
  by_cases h6 : 0 < s.ran.getD i 0
  ·have HSP : Hid (splitB s (i : Int) tick k = (s.last.getD i (0, 0) != (tick - 1, (k : Int)))) := by show _ = _; unfold splitB; rw [Int.toNat_natCast, decide_eq_true h6]; rfl
   have HEQ := Lib.hid (eqArr (s.last.getD i (0, 0)).1 (s.last.getD i (0, 0)).2 (tick - 1) (k : Int))
   by_cases h7 : s.last.getD i (0, 0) = (tick - 1, (k : Int))
   ·have HQ : Hid (res = 0) := by show _ = _; rw [HO.out, if_neg (by rw [HSP.out, h7]; simp), if_neg (by omega)]
    have HEB : Hid (((s.last.getD i (0, 0)).1 == tick - 1 && (s.last.getD i (0, 0)).2 == (k : Int)) = true) := by show _ = _; rw [h7]; simp
    rw [HEB.out] at HEQ
    clear HO ho HSP h7 HEB
    go_enter Try.func73, Try.ntmps73
    go_wp2_with fail
    refine (CC.out _ HT.out (by omega)).mono ?_
    rintro e w1 ⟨rfl, hb⟩
    have HB1 := Lib.hid (HAL.out.trans (hb.mono HAL.out.size))
    have HS1 := Lib.hid (HS.out.below hb)
    have HD1 := Lib.hid (ReadsInt.below HD.out hb)
    have HE1 := Lib.hid (HE.out.below hb)
    have HX1 := Lib.hid ((DS.start w A n c B es.length d 25).below hb)
    clear hb HS HD HE HAL hrk hN
    have hc0 := HS1.out.c0
    have hc1 := HS1.out.c1
    have hcr := (HS1.out.ran i hi).1
    obtain ⟨da', e', hdd⟩ := HD1.out.2.2 (by omega)
    cases e'
    have hcn := hdd i hi
    clear hdd
    generalize hxr : s.ran.getD i 0 = xr at *
    generalize need.getD i 0 = xn at *
    have HXR := Lib.hid hxr
    clear hxr
    go_wp2_with fail
    go_quiet (fail)
    have HB2 := Lib.hid (below_drewN HB1.out nq)
    have HS2 := Lib.hid (HS1.out.below (below_drewN (Below.refl _ _) nq))
    have HE2 := Lib.hid (HE1.out.below (below_drewN (Below.refl _ _) nq))
    have HX2 := Lib.hid (HX1.out.below (below_drewN (Below.refl _ _) nq))
    clear HB1 HS1 HD1 HE1 HX1 hc0 hc1 hcr hcn
    generalize w1.drewN nq = w2 at *
    have hc1 := HS2.out.c1
    have hc2 := HS2.out.c2
    have hcr := (HS2.out.ran i hi).1
    rw [HXR.out] at hcr
    obtain ⟨⟨hl1, -⟩, hl2, -⟩ := HS2.out.last i hi
    obtain ⟨-, hx0, hx1⟩ := HX2.out
    have hEQ := HEQ.out
    generalize (s.last.getD i (0, 0)).1 = la at *
    generalize (s.last.getD i (0, 0)).2 = lb at *
    go_wp2_with fail
    go_ret
    exact ⟨by rw [HQ.out]; rfl, HB2.out⟩
   ·have HQ : Hid (res = 104) := by show _ = _; rw [HO.out, if_pos (by rw [HSP.out]; simpa using h7)]
    have HEB : Hid (((s.last.getD i (0, 0)).1 == tick - 1 && (s.last.getD i (0, 0)).2 == (k : Int)) = false) := by
     show _ = _
     rw [Bool.and_eq_false_iff]
     by_cases e1 : (s.last.getD i (0, 0)).1 = tick - 1
     ·by_cases e2 : (s.last.getD i (0, 0)).2 = (k : Int)
      ·exact absurd (Prod.ext e1 e2) h7
      ·exact .inr (by simpa using e2)
     ·exact .inl (by simpa using e1)
    rw [HEB.out] at HEQ
    clear HO ho HSP h7 HEB
    go_enter Try.func73, Try.ntmps73
    go_wp2_with fail
    refine (CC.out _ HT.out (by omega)).mono ?_
    rintro e w1 ⟨rfl, hb⟩
    have HB1 := Lib.hid (HAL.out.trans (hb.mono HAL.out.size))
    have HS1 := Lib.hid (HS.out.below hb)
    have HD1 := Lib.hid (ReadsInt.below HD.out hb)
    have HE1 := Lib.hid (HE.out.below hb)
    have HX1 := Lib.hid ((DS.start w A n c B es.length d 25).below hb)
    clear hb HS HD HE HAL hrk hN
    have hc0 := HS1.out.c0
    have hc1 := HS1.out.c1
    have hcr := (HS1.out.ran i hi).1
    obtain ⟨da', e', hdd⟩ := HD1.out.2.2 (by omega)
    cases e'
    have hcn := hdd i hi
    clear hdd
    generalize hxr : s.ran.getD i 0 = xr at *
    generalize need.getD i 0 = xn at *
    have HXR := Lib.hid hxr
    clear hxr
    go_wp2_with fail
    go_quiet (fail)
    have HB2 := Lib.hid (below_drewN HB1.out nq)
    have HS2 := Lib.hid (HS1.out.below (below_drewN (Below.refl _ _) nq))
    have HE2 := Lib.hid (HE1.out.below (below_drewN (Below.refl _ _) nq))
    have HX2 := Lib.hid (HX1.out.below (below_drewN (Below.refl _ _) nq))
    clear HB1 HS1 HD1 HE1 HX1 hc0 hc1 hcr hcn
    generalize w1.drewN nq = w2 at *
    have hc1 := HS2.out.c1
    have hc2 := HS2.out.c2
    have hcr := (HS2.out.ran i hi).1
    rw [HXR.out] at hcr
    obtain ⟨⟨hl1, -⟩, hl2, -⟩ := HS2.out.last i hi
    obtain ⟨-, hx0, hx1⟩ := HX2.out
    have hEQ := HEQ.out
    generalize (s.last.getD i (0, 0)).1 = la at *
    generalize (s.last.getD i (0, 0)).2 = lb at *
    go_wp2_with fail
    go_ret
    exact ⟨by rw [HQ.out]; rfl, HB2.out⟩
  ·have h60 : s.ran.getD i 0 = 0 := by omega
   have HSP : Hid (splitB s (i : Int) tick k = false) := by show _ = _; unfold splitB; rw [Int.toNat_natCast, decide_eq_false h6]; rfl
   have CF := Lib.hid (fun w1 h1 h2 => free_any p r q f need.length (.slice (some da) need.length dc) s A n c B d es (i : Int) tick w1 h1 h2 hm HES.out)
   rw [if_neg (by rw [HSP.out]; simp)] at HO
   rw [h60] at h50
   clear h6 hp HSP
   cases hfr : freeB es s (i : Int) tick with
   | true =>
    have HQ : Hid (res = 0) := by show _ = _; rw [HO.out, if_neg (by rw [hfr]; simp)]
    rw [hfr] at CF
    have HF60 := Lib.hid h60
    clear HO ho hfr h60
    go_enter Try.func73, Try.ntmps73
    go_wp2_with fail
    refine (CC.out _ HT.out (by omega)).mono ?_
    rintro e w1 ⟨rfl, hb⟩
    have HB1 := Lib.hid (HAL.out.trans (hb.mono HAL.out.size))
    have HS1 := Lib.hid (HS.out.below hb)
    have HD1 := Lib.hid (ReadsInt.below HD.out hb)
    have HE1 := Lib.hid (HE.out.below hb)
    have HX1 := Lib.hid ((DS.start w A n c B es.length d 25).below hb)
    clear hb HS HD HE HAL hrk hN
    have hc0 := HS1.out.c0
    have hc1 := HS1.out.c1
    have hcr := (HS1.out.ran i hi).1
    obtain ⟨da', e', hdd⟩ := HD1.out.2.2 (by omega)
    cases e'
    have hcn := hdd i hi
    clear hdd
    rw [HF60.out] at hcr
    generalize need.getD i 0 = xn at *
    go_wp2_with fail
    go_quiet (fail)
    have HB2 := Lib.hid (below_drewN HB1.out nq)
    have HS2 := Lib.hid (HS1.out.below (below_drewN (Below.refl _ _) nq))
    have HE2 := Lib.hid (HE1.out.below (below_drewN (Below.refl _ _) nq))
    have HX2 := Lib.hid (HX1.out.below (below_drewN (Below.refl _ _) nq))
    clear HB1 HS1 HD1 HE1 HX1 hc0 hc1 hcr hcn
    generalize w1.drewN nq = w2 at *
    have hc1 := HS2.out.c1
    have hc2 := HS2.out.c2
    have hcr := (HS2.out.ran i hi).1
    rw [HF60.out] at hcr
    obtain ⟨⟨hl1, -⟩, hl2, -⟩ := HS2.out.last i hi
    obtain ⟨-, hx0, hx1⟩ := HX2.out
    clear hl1 hl2
    go_wp2_with fail
    refine (CF.out _ HS2.out HE2.out).mono ?_
    rintro e w3 ⟨rfl, hb⟩
    have HB3 := Lib.hid (HB2.out.trans (hb.mono HB2.out.size))
    clear hb hc1 hc2 hcr hx0 hx1
    go_wp2_with fail
    go_ret
    exact ⟨by rw [HQ.out]; rfl, HB3.out⟩
   | false =>
    have HQ : Hid (res = 103) := by show _ = _; rw [HO.out, if_pos ⟨h60, hfr⟩]
    rw [hfr] at CF
    have HF60 := Lib.hid h60
    clear HO ho hfr h60
    go_enter Try.func73, Try.ntmps73
    go_wp2_with fail
    refine (CC.out _ HT.out (by omega)).mono ?_
    rintro e w1 ⟨rfl, hb⟩
    have HB1 := Lib.hid (HAL.out.trans (hb.mono HAL.out.size))
    have HS1 := Lib.hid (HS.out.below hb)
    have HD1 := Lib.hid (ReadsInt.below HD.out hb)
    have HE1 := Lib.hid (HE.out.below hb)
    have HX1 := Lib.hid ((DS.start w A n c B es.length d 25).below hb)
    clear hb HS HD HE HAL hrk hN
    have hc0 := HS1.out.c0
    have hc1 := HS1.out.c1
    have hcr := (HS1.out.ran i hi).1
    obtain ⟨da', e', hdd⟩ := HD1.out.2.2 (by omega)
    cases e'
    have hcn := hdd i hi
    clear hdd
    rw [HF60.out] at hcr
    generalize need.getD i 0 = xn at *
    go_wp2_with fail
    go_quiet (fail)
    have HB2 := Lib.hid (below_drewN HB1.out nq)
    have HS2 := Lib.hid (HS1.out.below (below_drewN (Below.refl _ _) nq))
    have HE2 := Lib.hid (HE1.out.below (below_drewN (Below.refl _ _) nq))
    have HX2 := Lib.hid (HX1.out.below (below_drewN (Below.refl _ _) nq))
    clear HB1 HS1 HD1 HE1 HX1 hc0 hc1 hcr hcn
    generalize w1.drewN nq = w2 at *
    have hc1 := HS2.out.c1
    have hc2 := HS2.out.c2
    have hcr := (HS2.out.ran i hi).1
    rw [HF60.out] at hcr
    obtain ⟨⟨hl1, -⟩, hl2, -⟩ := HS2.out.last i hi
    obtain ⟨-, hx0, hx1⟩ := HX2.out
    clear hl1 hl2
    go_wp2_with fail
    refine (CF.out _ HS2.out HE2.out).mono ?_
    rintro e w3 ⟨rfl, hb⟩
    have HB3 := Lib.hid (HB2.out.trans (hb.mono HB2.out.size))
    clear hb hc1 hc2 hcr hx0 hx1
    go_wp2_with fail
    go_ret
    exact ⟨by rw [HQ.out]; rfl, HB3.out⟩
end Go.Proofs.Ytmbhjhanafmidaa

set_option linter.unusedVariables false
set_option linter.unusedSimpArgs false
namespace Go.Proofs.Ytmbhjhanafmidaa
open Go.RowKit Go.Sort
open DagPlain SchPlain
open Go.Proofs.YtmbhjhanafmidaaW.PrintWords
theorem getD_setB {α : Type} (F : List α) (i j : Nat) (x d : α) : (F.set i x).getD j d = if i = j ∧ i < F.length then x else F.getD j d := by
 rw [List.getD_eq_getElem?_getD, List.getD_eq_getElem?_getD, List.getElem?_set]
 by_cases h : i = j
 ·subst h
  by_cases h2 : i < F.length
  ·simp [h2]
  ·simp [h2]
 ·simp [h]
theorem set_far (w : World) (b o : Nat) (v : Value) {b' : Nat} (o' : Nat) (h : b' ≠ b) : (w.setCell ⟨b, o, none⟩ v).cell? ⟨b', o', none⟩ = w.cell? ⟨b', o', none⟩ :=
 World.cell?_setCell_other _ _ _ _ (fun e => h (congrArg Addr.block e).symm)
theorem set_off (w : World) (b o : Nat) (v : Value) {o' : Nat} (h : o' ≠ o) : (w.setCell ⟨b, o, none⟩ v).cell? ⟨b, o', none⟩ = w.cell? ⟨b, o', none⟩ :=
 World.cell?_setCell_other _ _ _ _ (fun e => h (congrArg Addr.off e).symm)
theorem SeenAt.setRan {w : World} {p r q f n : Nat} {nv : Value} {s : Seen} (h : SeenAt w p r q f n nv s) (i : Nat) (hi : i < n) (x : Int) :
  SeenAt (w.setCell ⟨r, i, none⟩ (.int .i64 x)) p r q f n nv { s with ran := s.ran.set i x } := by
 obtain ⟨⟨m1, m2, m3⟩, m4, m5, m6⟩ := h.d1
 have hc0 := (h.ran i hi).1
 refine ⟨by simpa using h.l1, h.l2, h.l3, ?_, ?_, ?_, ?_, fun j hj => ⟨?_, by rw [World.frozen?_setCell]; exact (h.ran j hj).2⟩, fun j hj => ?_, fun j hj => ?_, h.d1, by obtain ⟨cur, h1, h2⟩ := h.fb; exact ⟨cur, by rw [Below.heap_setCell _ _ _ _ (Ne.symm m5)]; exact h1, h2⟩⟩
 ·rw [set_far _ _ _ _ _ (Ne.symm m1)]; exact h.c0
 ·rw [set_far _ _ _ _ _ (Ne.symm m1)]; exact h.c1
 ·rw [set_far _ _ _ _ _ (Ne.symm m1)]; exact h.c2
 ·rw [set_far _ _ _ _ _ (Ne.symm m1)]; exact h.c3
 ·show _ = some (Value.int .i64 ((s.ran.set i x).getD j 0))
  rw [getD_setB, h.l1]
  by_cases e : i = j
  ·subst e
   rw [if_pos ⟨rfl, hi⟩, World.cell?_setCell_same _ _ _ hc0]
  ·rw [if_neg (fun h => e h.1), set_off _ _ _ _ (Ne.symm e)]; exact (h.ran j hj).1
 ·obtain ⟨⟨a1, a2⟩, a3, a4⟩ := h.last j hj
  exact ⟨⟨by rw [set_far _ _ _ _ _ (Ne.symm m4)]; exact a1, by rw [World.frozen?_setCell]; exact a2⟩, by rw [set_far _ _ _ _ _ (Ne.symm m4)]; exact a3, by rw [World.frozen?_setCell]; exact a4⟩
 ·obtain ⟨a1, a2⟩ := h.fin j hj
  exact ⟨by rw [set_far _ _ _ _ _ (Ne.symm m5)]; exact a1, by rw [World.frozen?_setCell]; exact a2⟩
theorem SeenAt.setFin {w : World} {p r q f n : Nat} {nv : Value} {s : Seen} (h : SeenAt w p r q f n nv s) (i : Nat) (hi : i < n) (x : Int) :
  SeenAt (w.setCell ⟨f, i, none⟩ (.int .i64 x)) p r q f n nv { s with fin := s.fin.set i x } := by
 obtain ⟨⟨m1, m2, m3⟩, m4, m5, m6⟩ := h.d1
 have hc0 := (h.fin i hi).1
 refine ⟨h.l1, h.l2, by simpa using h.l3, ?_, ?_, ?_, ?_, fun j hj => ?_, fun j hj => ?_, fun j hj => ⟨?_, by rw [World.frozen?_setCell]; exact (h.fin j hj).2⟩, h.d1, by obtain ⟨cur, h1, h2⟩ := h.fb; exact ⟨_, heap_setCell_same w f i cur _ _ h1, by simpa using h2⟩⟩
 ·rw [set_far _ _ _ _ _ (Ne.symm m3)]; exact h.c0
 ·rw [set_far _ _ _ _ _ (Ne.symm m3)]; exact h.c1
 ·rw [set_far _ _ _ _ _ (Ne.symm m3)]; exact h.c2
 ·rw [set_far _ _ _ _ _ (Ne.symm m3)]; exact h.c3
 ·obtain ⟨a1, a2⟩ := h.ran j hj
  exact ⟨by rw [set_far _ _ _ _ _ m5]; exact a1, by rw [World.frozen?_setCell]; exact a2⟩
 ·obtain ⟨⟨a1, a2⟩, a3, a4⟩ := h.last j hj
  exact ⟨⟨by rw [set_far _ _ _ _ _ m6]; exact a1, by rw [World.frozen?_setCell]; exact a2⟩, by rw [set_far _ _ _ _ _ m6]; exact a3, by rw [World.frozen?_setCell]; exact a4⟩
 ·show _ = some (Value.int .i64 ((s.fin.set i x).getD j 0))
  rw [getD_setB, h.l3]
  by_cases e : i = j
  ·subst e
   rw [if_pos ⟨rfl, hi⟩, World.cell?_setCell_same _ _ _ hc0]
  ·rw [if_neg (fun h => e h.1), set_off _ _ _ _ (Ne.symm e)]; exact (h.fin j hj).1
theorem SeenAt.setLast {w : World} {p r q f n : Nat} {nv : Value} {s : Seen} (h : SeenAt w p r q f n nv s) (i : Nat) (hi : i < n) (x y : Int) :
  SeenAt ((w.setCell ⟨q, i * 2, none⟩ (.int .i64 x)).setCell ⟨q, i * 2 + 1, none⟩ (.int .i64 y)) p r q f n nv { s with last := s.last.set i (x, y) } := by
 obtain ⟨⟨m1, m2, m3⟩, m4, m5, m6⟩ := h.d1
 obtain ⟨⟨b1, b2⟩, b3, b4⟩ := h.last i hi
 have b3' : (w.setCell ⟨q, i * 2, none⟩ (.int .i64 x)).cell? ⟨q, i * 2 + 1, none⟩ = some (.int .i64 (s.last.getD i (0, 0)).2) := by rw [set_off _ _ _ _ (by omega)]; exact b3
 have far : ∀ b o, b ≠ q → ((w.setCell ⟨q, i * 2, none⟩ (.int .i64 x)).setCell ⟨q, i * 2 + 1, none⟩ (.int .i64 y)).cell? ⟨b, o, none⟩ = w.cell? ⟨b, o, none⟩ := fun b o hb => by rw [set_far _ _ _ _ _ hb, set_far _ _ _ _ _ hb]
 have fz : ∀ a, ((w.setCell ⟨q, i * 2, none⟩ (.int .i64 x)).setCell ⟨q, i * 2 + 1, none⟩ (.int .i64 y)).frozen? a = w.frozen? a := fun a => by rw [World.frozen?_setCell, World.frozen?_setCell]
 refine ⟨h.l1, by simpa using h.l2, h.l3, ?_, ?_, ?_, ?_, fun j hj => ?_, fun j hj => ⟨⟨?_, by rw [fz]; exact (h.last j hj).1.2⟩, ?_, by rw [fz]; exact (h.last j hj).2.2⟩, fun j hj => ?_, h.d1, by obtain ⟨cur, h1, h2⟩ := h.fb; exact ⟨cur, by rw [Below.heap_setCell _ _ _ _ (Ne.symm m6), Below.heap_setCell _ _ _ _ (Ne.symm m6)]; exact h1, h2⟩⟩
 ·rw [far _ _ (Ne.symm m2)]; exact h.c0
 ·rw [far _ _ (Ne.symm m2)]; exact h.c1
 ·rw [far _ _ (Ne.symm m2)]; exact h.c2
 ·rw [far _ _ (Ne.symm m2)]; exact h.c3
 ·rw [far _ _ m4, fz]; exact h.ran j hj
 ·show _ = some (Value.int .i64 ((s.last.set i (x, y)).getD j (0, 0)).1)
  rw [getD_setB, h.l2]
  by_cases e : i = j
  ·subst e
   rw [if_pos ⟨rfl, hi⟩, set_off _ _ _ _ (by omega), World.cell?_setCell_same _ _ _ b1]
  ·rw [if_neg (fun h => e h.1), set_off _ _ _ _ (by omega), set_off _ _ _ _ (by omega)]; exact (h.last j hj).1.1
 ·show _ = some (Value.int .i64 ((s.last.set i (x, y)).getD j (0, 0)).2)
  rw [getD_setB, h.l2]
  by_cases e : i = j
  ·subst e
   rw [if_pos ⟨rfl, hi⟩, World.cell?_setCell_same _ _ _ b3']
  ·rw [if_neg (fun h => e h.1), set_off _ _ _ _ (by omega), set_off _ _ _ _ (by omega)]; exact (h.last j hj).2.1
 ·rw [far _ _ (Ne.symm m6), fz]; exact h.fin j hj
def Three (w : World) (r q f : Nat) (w' : World) : Prop := w'.heap.size = w.heap.size ∧ w'.os = w.os ∧ w'.tape = w.tape ∧ w'.output = w.output ∧ ∀ k, k ≠ r → k ≠ q → k ≠ f → w'.heap[k]? = w.heap[k]?
theorem Three.refl (w : World) (r q f : Nat) : Three w r q f w := ⟨rfl, rfl, rfl, rfl, fun _ _ _ _ => rfl⟩
theorem Three.set {w w' : World} {r q f : Nat} (h : Three w r q f w') (b o : Nat) (v : Value) (hb : b = r ∨ b = q ∨ b = f) : Three w r q f (w'.setCell ⟨b, o, none⟩ v) := by
 obtain ⟨h1, h2, h3, h4, h5⟩ := h
 have hw : Below 0 w' (w'.setCell ⟨b, o, none⟩ v) := (Below.refl 0 w').setCell (p := ⟨b, o, none⟩) (Nat.zero_le _) v
 exact ⟨(by simp : _ = w'.heap.size).trans h1, hw.os.trans h2, hw.tape.trans h3, hw.output.trans h4, fun k n1 n2 n3 => (Below.heap_setCell w' ⟨b, o, none⟩ v k (by rcases hb with rfl | rfl | rfl <;> assumption)).trans (h5 k n1 n2 n3)⟩
theorem Three.drewN {w w' : World} {r q f : Nat} (h : Three w r q f w') (n : Nat) : Three w r q f (w'.drewN n) := by
 obtain ⟨h1, h2, h3, h4, h5⟩ := h
 have hw := below_drewN (Below.refl 0 w') n
 have hw2 := below_drewN (Below.refl w'.heap.size w') n
 refine ⟨?_, hw.os.trans h2, hw.tape.trans h3, hw.output.trans h4, fun k n1 n2 n3 => ?_⟩
 ·rw [← h1]; rfl
 ·rw [← h5 k n1 n2 n3]; rfl
theorem Three.below {w w' : World} {r q f base : Nat} (h : Three w r q f w') (hr : base ≤ r) (hq : base ≤ q) (hf : base ≤ f) : Below base w w' :=
 ⟨h.2.1, h.2.2.1, h.2.2.2.1, by rw [h.1]; exact Nat.le_refl _, fun k hk => h.2.2.2.2 k (by omega) (by omega) (by omega)⟩
def RunPost (w : World) (p r q f n : Nat) (nv : Value) (s : Seen) (e : Ending) (w' : World) : Prop := e = .returned (.tuple #[]) ∧ SeenAt w' p r q f n nv s ∧ Three w r q f w'
set_option maxRecDepth 100000 in
set_option maxHeartbeats 4000000 in
theorem run_any (p r q f : Nat) (need : List Int) (D : Option Addr) (dc : Nat) (s : Seen) (i : Nat) (tick k : Int) (w : World)
  (hs : SeenAt w p r q f need.length (.slice D need.length dc) s) (hD : ReadsInt w .i64 D need.length need) (hi : i < need.length) (hap : ∀ a, D = some a → a.block ≠ r ∧ a.block ≠ q ∧ a.block ≠ f) (ht : 0 ≤ tick ∧ tick ≤ 5000) (hpos : 0 ≤ s.ran.getD i 0 ∧ s.ran.getD i 0 ≤ 100000) :
  Calls Try.prog 74 #[.pointer (some ⟨p, 0, none⟩), .int .i64 (i : Int), .int .i64 tick, .int .i64 k] w (RunPost w p r q f need.length (.slice D need.length dc) (runS need s i tick k)) := by
 obtain ⟨da, rfl, hdd⟩ := hD.2.2 (by omega)
 have hdi := hdd i hi
 obtain ⟨n1, n2, n3⟩ := hap da rfl
 have hc0 := hs.c0
 have hc1 := hs.c1
 have hc2 := hs.c2
 have hc3 := hs.c3
 obtain ⟨hr1, hr2⟩ := hs.ran i hi
 obtain ⟨hf1, hf2⟩ := hs.fin i hi
 obtain ⟨⟨hl1, hl2⟩, hl3, hl4⟩ := hs.last i hi
 have HS := Lib.hid hs
 obtain ⟨⟨m1, m2, m3⟩, m4, m5, m6⟩ := hs.d1
 have hil : (i : Int) < (need.length : Int) := by omega
 have hi0 : (0 : Int) ≤ (i : Int) := by omega
 have hdf : ∀ b o v, b ≠ da.block → (w.setCell ⟨b, o, none⟩ v).cell? (da.add i) = w.cell? (da.add i) := fun b o v h => World.cell?_setCell_other _ _ _ _ (fun e => h ((congrArg Addr.block e).trans (by unfold Addr.add; split <;> rfl)))
 have HS1 := Lib.hid ((hs.setRan i hi (s.ran.getD i 0 + 1)).setLast i hi tick k)
 have HT1 : Hid (Three w r q f (((w.setCell ⟨r, i, none⟩ (.int .i64 (s.ran.getD i 0 + 1))).setCell ⟨q, i * 2, none⟩ (.int .i64 tick)).setCell ⟨q, i * 2 + 1, none⟩ (.int .i64 k))) :=
  (((Three.refl w r q f).set r _ _ (.inl rfl)).set q _ _ (.inr (.inl rfl))).set q _ _ (.inr (.inl rfl))
 have hdi2 : (((w.setCell ⟨r, i, none⟩ (.int .i64 (s.ran.getD i 0 + 1))).setCell ⟨q, i * 2, none⟩ (.int .i64 tick)).setCell ⟨q, i * 2 + 1, none⟩ (.int .i64 k)).cell? (da.add i) = some (.int .i64 (need.getD i 0)) := by
  have hbl : (da.add i).block = da.block := by unfold Addr.add; split <;> rfl
  rw [World.cell?_setCell_other _ _ _ _ (fun e => n2 ((hbl.symm.trans (congrArg Addr.block e).symm))), World.cell?_setCell_other _ _ _ _ (fun e => n2 ((hbl.symm.trans (congrArg Addr.block e).symm))), World.cell?_setCell_other _ _ _ _ (fun e => n1 ((hbl.symm.trans (congrArg Addr.block e).symm)))]
  exact hdi
 have HRS : Hid (runS need s i tick k = { ran := s.ran.set i (s.ran.getD i 0 + 1), last := s.last.set i (tick, k), fin := if s.ran.getD i 0 + 1 = need.getD i 0 then s.fin.set i (tick + 1) else s.fin }) := rfl
 have hcr2 := (HS1.out.ran i hi).1
 have e0 : ((s.ran.set i (s.ran.getD i 0 + 1))).getD i 0 = s.ran.getD i 0 + 1 := by rw [getD_setB, if_pos ⟨rfl, by rw [HS.out.l1]; exact hi⟩]
 rw [e0] at hcr2
 obtain ⟨hp0, hp1⟩ := hpos
 clear hs hdd hD hap hdf e0
 generalize runS need s i tick k = s2 at *
 generalize s.ran.getD i 0 = x at *
 generalize need.getD i 0 = y at *
 by_cases hxy : x + 1 = y
 ·have HX : Hid (s2 = { ran := s.ran.set i (x + 1), last := s.last.set i (tick, k), fin := s.fin.set i (tick + 1) }) := by show _ = _; rw [HRS.out, if_pos hxy]
  have hxyb : (x + 1 == y) = true := by simpa using hxy
  clear HRS hxy
  go_enter Try.func74, Try.ntmps74
  go_wp2_with fail
  clear hc0 hc1 hc2 hc3 hr1 hr2 hf1 hf2 hl1 hl2 hl3 hl4 hdi
  generalize (((w.setCell ⟨r, i, none⟩ (.int .i64 (x + 1))).setCell ⟨q, i * 2, none⟩ (.int .i64 tick)).setCell ⟨q, i * 2 + 1, none⟩ (.int .i64 k)) = w2 at *
  have hc0 := HS1.out.c0
  have hc1 := HS1.out.c1
  go_quiet (fail)
  have HS2 := Lib.hid (HS1.out.below (below_drewN (Below.refl _ _) nq))
  have HT2 := Lib.hid (HT1.out.drewN nq)
  clear HS1 HT1 hc0 hc1 hcr2 hdi2
  generalize w2.drewN nq = w3 at *
  have hc3 := HS2.out.c3
  obtain ⟨hf1, hf2⟩ := HS2.out.fin i hi
  have HS3 := Lib.hid (HS2.out.setFin i hi (tick + 1))
  have HT3 : Hid (Three w r q f (w3.setCell ⟨f, i, none⟩ (.int .i64 (tick + 1)))) := HT2.out.set f _ _ (.inr (.inr rfl))
  go_wp2_with fail
  go_end0
  exact ⟨rfl, by rw [HX.out]; exact HS3.out, HT3.out⟩
 ·have HX : Hid (s2 = { ran := s.ran.set i (x + 1), last := s.last.set i (tick, k), fin := s.fin }) := by show _ = _; rw [HRS.out, if_neg hxy]
  have hxyb : (x + 1 == y) = false := by simpa using hxy
  clear HRS hxy
  go_enter Try.func74, Try.ntmps74
  go_wp2_with fail
  clear hc0 hc1 hc2 hc3 hr1 hr2 hf1 hf2 hl1 hl2 hl3 hl4 hdi
  generalize (((w.setCell ⟨r, i, none⟩ (.int .i64 (x + 1))).setCell ⟨q, i * 2, none⟩ (.int .i64 tick)).setCell ⟨q, i * 2 + 1, none⟩ (.int .i64 k)) = w2 at *
  have hc0 := HS1.out.c0
  have hc1 := HS1.out.c1
  go_quiet (fail)
  have HS2 := Lib.hid (HS1.out.below (below_drewN (Below.refl _ _) nq))
  have HT2 := Lib.hid (HT1.out.drewN nq)
  clear HS1 HT1 hc0 hc1 hcr2 hdi2
  generalize w2.drewN nq = w3 at *
  go_wp2_with fail
  go_end0
  exact ⟨rfl, by rw [HX.out]; exact HS2.out, HT2.out⟩
end Go.Proofs.Ytmbhjhanafmidaa
