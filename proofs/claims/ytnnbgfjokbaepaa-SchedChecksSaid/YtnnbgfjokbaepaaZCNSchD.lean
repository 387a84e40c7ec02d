/- Texts of this work, put into one: SchRef, SchStep, SchOpen. -/
import Derived.Test.YtnnbgfjokbaepaaZCNSchC
import Derived.Test.YtnnbgfjokbaepaaZCMSchB
import Derived.Test.YtnnbgfjokbaepaaZCMDagB
import Derived.Test.YtnnbgfjokbaepaaZCMSchA
set_option linter.unusedVariables false
set_option linter.unusedSimpArgs false
namespace SchPlain
open DagPlain
/-- In how many ticks ahead of one a node runs. -/
def ranL (ts : List (List Int)) (n : Int) (k : Nat) : Int := ((ts.take k).map (fun r => (r.count n : Int))).sum
theorem ranL_next (ts : List (List Int)) (n : Int) (k : Nat) (h : k < ts.length) : ranL ts n (k + 1) = ranL ts n k + ((ts.getD k []).count n : Int) := by
  unfold ranL
  rw [List.getD_eq_getElem?_getD, List.getElem?_eq_getElem h, List.take_add_one, List.getElem?_eq_getElem h]
  show ((ts.take k ++ [ts[k]]).map _).sum = _
  rw [List.map_append, List.sum_append]
  simp only [List.map_cons, List.map_nil, List.sum_cons, List.sum_nil, Int.add_zero, Option.getD_some]
theorem ranL_le (ts : List (List Int)) (n : Int) (h : ∀ r ∈ ts, r.length ≤ 12) : ∀ k, k ≤ ts.length → 0 ≤ ranL ts n k ∧ ranL ts n k ≤ 12 * k
  | 0, _ => by simp [ranL]
  | k + 1, hk => by
    rw [ranL_next ts n k (by omega)]
    have ih := ranL_le ts n h k (by omega)
    have h1 := h (ts.getD k []) (by rw [List.getD_eq_getElem?_getD, List.getElem?_eq_getElem (by omega)]; exact List.getElem_mem _)
    have h2 : (ts.getD k []).count n ≤ (ts.getD k []).length := List.count_le_length
    omega
theorem count_take_next (row : List Int) (n : Int) (c : Nat) (h : c < row.length) : ((row.take (c + 1)).count n : Int) = (row.take c).count n + if row.getD c 0 = n then 1 else 0 := by
  rw [List.take_add_one, List.getElem?_eq_getElem h, List.getD_eq_getElem?_getD, List.getElem?_eq_getElem h, List.count_append]
  simp only [Option.toList_some, Option.getD_some]
  rw [List.count_singleton]
  by_cases e : row[c] = n
  · simp [e]
  · simp [e]
theorem count_row {es : List (Int × Int)} {need : List Int} {s : Seen} {row : List Int} {tick : Int} (h : RowOk es need s row tick) (n : Nat) : (row.count (n : Int) : Int) = if (n : Int) ∈ row then 1 else 0 := by
  by_cases hm : (n : Int) ∈ row
  · rw [if_pos hm]
    obtain ⟨c, hc, e⟩ := mem_getD_row hm
    have key : ∀ m, m ≤ row.length → ((row.take m).count (n : Int) : Int) = if c < m then 1 else 0 := by
      intro m
      induction m with
      | zero => intro _; simp
      | succ m ih =>
        intro hm2
        rw [count_take_next row _ m (by omega), ih (by omega)]
        by_cases e2 : row.getD m 0 = (n : Int)
        · obtain rfl := h.one n m c (by omega) hc e2 e
          rw [if_neg (by omega), if_pos e2, if_pos (by omega)]; rfl
        · have : m ≠ c := fun x => e2 (by rw [x]; exact e)
          rw [if_neg e2]
          by_cases h3 : c < m
          · rw [if_pos h3, if_pos (by omega)]; rfl
          · rw [if_neg h3, if_neg (by omega)]; rfl
    have := key row.length (Nat.le_refl _)
    rw [List.take_length, if_pos hc] at this
    exact this
  · rw [if_neg hm, List.count_eq_zero.2 hm]; rfl
section
variable {es : List (Int × Int)} {need : List Int} {ts : List (List Int)}
theorem ran_eq : ∀ k, k ≤ ts.length → (∀ j, j < k → rowErr es need ts j = 0) → ∀ n, n < need.length → ranL ts (n : Int) k = (stAt need ts k).ran.getD n 0
  | 0, _, _, n, hn => by
    show (0 : Int) = (List.replicate need.length (0 : Int)).getD n 0
    simp [List.getD_eq_getElem?_getD, List.getElem?_replicate, hn]
  | k + 1, hk, hv, n, hn => by
    have ih := ran_eq k (by omega) (fun j hj => hv j (by omega)) n hn
    have hro : RowOk es need (stAt need ts k) (ts.getD k []) k := row_ok (hv k (by omega))
    rw [ranL_next ts _ k (by omega), ih, count_row hro]
    by_cases hm : (n : Int) ∈ ts.getD k []
    · obtain ⟨c, hc, e⟩ := mem_getD_row hm
      have ha : At (stAt need ts (k + 1)) n = _ := row_at hro (stAt_len need ts k) hn hc e
      unfold At at ha
      simp only [Prod.mk.injEq] at ha
      rw [if_pos hm, ha.1]
    · have ha : At (stAt need ts (k + 1)) n = At (stAt need ts k) n := row_far hro hm
      unfold At at ha
      simp only [Prod.mk.injEq] at ha
      rw [if_neg hm, ha.1]; omega
def blk (need : List Int) (ts : List (List Int)) (n : Int) (k : Nat) (e : Int × Int) : Bool := e.2 == n && decide (ranL ts e.1 k < need.getD e.1.toNat 0)
theorem blk_eq (hin : ∀ e ∈ es, 0 ≤ e.1 ∧ e.1 < need.length) (hpos : ∀ n : Nat, n < need.length → 1 ≤ need.getD n 0) {k : Nat} (hk : k ≤ ts.length) (hv : ∀ j, j < k → rowErr es need ts j = 0) (n : Int) {e : Int × Int} (he : e ∈ es) : blk need ts n k e = waitE (stAt need ts k) n k e := by
  unfold blk waitE
  have h1 := hin e he
  have hr := ran_eq k hk hv e.1.toNat (by omega)
  rw [show ((e.1.toNat : Nat) : Int) = e.1 by omega] at hr
  congr 1
  have hp := hpos e.1.toNat (by omega)
  unfold doneB
  rcases of_all hin hpos k hk hv e.1.toNat (by omega) with ⟨i1, i2, i3⟩ | ⟨f, r, c', q1, q2, q3, q4, q5, q6, q7, q8, q9⟩
  · have hf : (stAt need ts k).fin.getD e.1.toNat 0 = -1 := by unfold At at i1; simpa using i1
    rw [hf, hr, i2, decide_eq_true (show (0 : Int) < need.getD e.1.toNat 0 by omega), decide_eq_false (show ¬ (0 : Int) ≤ -1 by omega)]
    rfl
  · rw [hr, q3, q6]
    by_cases hq : (r : Int) = need.getD e.1.toNat 0
    · rw [if_pos hq, decide_eq_false (by omega), decide_eq_true (by omega), decide_eq_true (by omega)]; rfl
    · rw [if_neg hq, decide_eq_true (by omega)]; rfl
def freeR (es : List (Int × Int)) (need : List Int) (ts : List (List Int)) (n : Int) (k : Nat) : Bool := !es.any (blk need ts n k)
theorem any_congr' {α : Type} {f g : α → Bool} : ∀ {l : List α}, (∀ x ∈ l, f x = g x) → l.any f = l.any g
  | [], _ => rfl
  | x :: l, h => by rw [List.any_cons, List.any_cons, h x List.mem_cons_self, any_congr' (fun y hy => h y (List.mem_cons_of_mem _ hy))]
theorem free_eq (hin : ∀ e ∈ es, 0 ≤ e.1 ∧ e.1 < need.length) (hpos : ∀ n : Nat, n < need.length → 1 ≤ need.getD n 0) {k : Nat} (hk : k ≤ ts.length) (hv : ∀ j, j < k → rowErr es need ts j = 0) (n : Int) : freeR es need ts n k = freeB es (stAt need ts k) n k := by
  unfold freeR freeB
  rw [any_congr' (fun e he => blk_eq hin hpos hk hv n he)]
/-- What is wrong at a tick, on a core, by the document. -/
def oneR (es : List (Int × Int)) (need : List Int) (ts : List (List Int)) (k c : Nat) : Int :=
  if (ts.getD k []).getD c 0 = -1 then 0 else if (ts.getD k []).getD c 0 < 0 ∨ need.length ≤ (ts.getD k []).getD c 0 then 101 else if ((ts.getD k []).take c).contains ((ts.getD k []).getD c 0) = true then 102
  else if need.getD ((ts.getD k []).getD c 0).toNat 0 ≤ ranL ts ((ts.getD k []).getD c 0) k then 105 else if 0 < ranL ts ((ts.getD k []).getD c 0) k ∧ (ts.getD (k - 1) []).getD c 0 ≠ (ts.getD k []).getD c 0 then 104
  else if ranL ts ((ts.getD k []).getD c 0) k = 0 ∧ freeR es need ts ((ts.getD k []).getD c 0) k = false then 103 else 0
theorem split_eq (hin : ∀ e ∈ es, 0 ≤ e.1 ∧ e.1 < need.length) (hpos : ∀ n : Nat, n < need.length → 1 ≤ need.getD n 0) {k : Nat} (hk : k < ts.length) (hv : ∀ j, j < k → rowErr es need ts j = 0) {w : Nat} (hw : ∀ r ∈ ts, r.length = w) {n c : Nat} (hn : n < need.length) (hc : c < w) :
    (0 < ranL ts (n : Int) k ∧ (ts.getD (k - 1) []).getD c 0 ≠ (n : Int)) ↔ splitB (stAt need ts k) (n : Int) k c = true := by
  have hr := ran_eq k (by omega) hv n hn
  have hwj : ∀ j, j < ts.length → (ts.getD j []).length = w := fun j hj => hw _ (by rw [List.getD_eq_getElem?_getD, List.getElem?_eq_getElem hj]; exact List.getElem_mem _)
  unfold splitB
  rw [Int.toNat_natCast, hr]
  rcases of_all hin hpos k (by omega) hv n hn with ⟨i1, i2, i3⟩ | ⟨f, r, c', q1, q2, q3, q4, q5, q6, q7, q8, q9⟩
  · rw [i2]; simp
  · rw [q3, q5, decide_eq_true (by omega), Bool.true_and, bne_iff_ne]
    have hro : RowOk es need (stAt need ts (k - 1)) (ts.getD (k - 1) []) ((k - 1 : Nat) : Int) := row_ok (hv (k - 1) (by omega))
    have hcl : c < (ts.getD (k - 1) []).length := by rw [hwj (k - 1) (by omega)]; exact hc
    constructor
    · rintro ⟨-, h⟩ e
      simp only [Prod.mk.injEq] at e
      have hfr : f + r = k := by omega
      obtain rfl : c' = c := by omega
      exact h (q8 (k - 1) (by omega) (by omega)).2
    · intro h
      refine ⟨by omega, fun e => h ?_⟩
      have hmem : (n : Int) ∈ ts.getD (k - 1) [] := getD_row_mem hcl e
      have hb := (q7 (k - 1) (by omega)).1 hmem
      have h8 := q8 (k - 1) hb.1 hb.2
      have := hro.one n c c' hcl h8.1 e h8.2
      simp only [Prod.mk.injEq]
      omega
theorem one_eq (hin : ∀ e ∈ es, 0 ≤ e.1 ∧ e.1 < need.length) (hpos : ∀ n : Nat, n < need.length → 1 ≤ need.getD n 0) {k : Nat} (hk : k < ts.length) (hv : ∀ j, j < k → rowErr es need ts j = 0) {w : Nat} (hw : ∀ r ∈ ts, r.length = w) {c : Nat} (hc : c < w) :
    oneR es need ts k c = if (ts.getD k []).getD c 0 = -1 then 0 else oneE es need (stAt need ts k) (ts.getD k []) k c := by
  unfold oneR
  by_cases h0 : (ts.getD k []).getD c 0 = -1
  · rw [if_pos h0, if_pos h0]
  · rw [if_neg h0, if_neg h0]
    unfold oneE
    generalize hx : (ts.getD k []).getD c 0 = x at *
    by_cases h1 : x < 0 ∨ need.length ≤ x
    · rw [if_pos h1, if_pos (show x < -1 ∨ (need.length : Int) ≤ x by omega)]
    · rw [if_neg h1, if_neg (show ¬ (x < -1 ∨ (need.length : Int) ≤ x) by omega)]
      obtain ⟨n, rfl⟩ : ∃ n : Nat, x = (n : Int) := ⟨x.toNat, by omega⟩
      have hn : n < need.length := by omega
      have hr := ran_eq k (by omega) hv n hn
      have hs := split_eq hin hpos hk hv hw hn hc
      have hf := free_eq hin hpos (Nat.le_of_lt hk) hv (n : Int)
      rw [Int.toNat_natCast, hf]
      rw [hr] at hs ⊢
      by_cases h2 : ((ts.getD k []).take c).contains (n : Int) = true
      · rw [if_pos h2, if_pos h2]
      · rw [if_neg h2, if_neg h2]
        by_cases h3 : need.getD n 0 ≤ (stAt need ts k).ran.getD n 0
        · rw [if_pos h3, if_pos h3]
        · rw [if_neg h3, if_neg h3]
          by_cases h4 : splitB (stAt need ts k) (n : Int) k c = true
          · rw [if_pos (hs.2 h4), if_pos h4]
          · rw [if_neg (fun h => h4 (hs.1 h)), if_neg h4]
theorem bad_eq (hin : ∀ e ∈ es, 0 ≤ e.1 ∧ e.1 < need.length) (hpos : ∀ n : Nat, n < need.length → 1 ≤ need.getD n 0) {k : Nat} (hk : k < ts.length) (hv : ∀ j, j < k → rowErr es need ts j = 0) {w : Nat} (hw : ∀ r ∈ ts, r.length = w) {c : Nat} (hc : c < w) :
    (oneR es need ts k c = 0 → badC es need (stAt need ts k) (ts.getD k []) k c = false) ∧ (oneR es need ts k c ≠ 0 → badC es need (stAt need ts k) (ts.getD k []) k c = true ∧ oneR es need ts k c = oneE es need (stAt need ts k) (ts.getD k []) k c) := by
  rw [one_eq hin hpos hk hv hw hc]
  unfold badC
  by_cases h0 : (ts.getD k []).getD c 0 = -1
  · rw [if_pos h0, h0]
    exact ⟨fun _ => rfl, fun h => absurd rfl h⟩
  · rw [if_neg h0]
    have : ((ts.getD k []).getD c 0 != -1) = true := by simpa using h0
    rw [this, Bool.true_and]
    exact ⟨fun h => by rw [h]; rfl, fun h => ⟨by simpa using h, rfl⟩⟩
/-- Downward: the last place told by g. -/
def downF (g : Nat → Bool) : Int → Nat → Int
  | e, 0 => e
  | e, m + 1 => downF g (if g m = true then (m : Int) else e) m
theorem down_none {g : Nat → Bool} : ∀ (m : Nat) (e : Int), (∀ j, j < m → g j = false) → downF g e m = e
  | 0, e, _ => rfl
  | m + 1, e, h => by
    show downF g (if g m = true then (m : Int) else e) m = e
    rw [h m (by omega), if_neg (by simp)]
    exact down_none m e (fun j hj => h j (by omega))
theorem down_some {g : Nat → Bool} {a : Nat} : ∀ (m : Nat) (e : Int), a < m → (∀ j, j < m → (g j = true ↔ a ≤ j)) → downF g e m = (a : Int)
  | 0, e, h, _ => absurd h (by omega)
  | m + 1, e, h, hg => by
    show downF g (if g m = true then (m : Int) else e) m = _
    rw [if_pos ((hg m (by omega)).2 (by omega))]
    by_cases hm : a < m
    · exact down_some m _ hm (fun j hj => hg j (by omega))
    · obtain rfl : a = m := by omega
      exact down_none a _ (fun j hj => by
        cases hgj : g j with
        | false => rfl
        | true => exact absurd ((hg j (by omega)).1 hgj) (by omega))
def endG (need : List Int) (ts : List (List Int)) (n : Nat) (k : Nat) : Bool := decide (need.getD n 0 ≤ ranL ts (n : Int) k)
theorem end_eq (hin : ∀ e ∈ es, 0 ≤ e.1 ∧ e.1 < need.length) (hpos : ∀ n : Nat, n < need.length → 1 ≤ need.getD n 0) (hv : ∀ j, j < ts.length → rowErr es need ts j = 0) {n : Nat} (hn : n < need.length) :
    downF (endG need ts n) (-1) (ts.length + 1) = (stAt need ts ts.length).fin.getD n 0 := by
  have hp := hpos n hn
  have hro : ∀ j, j < ts.length → RowOk es need (stAt need ts j) (ts.getD j []) j := fun j hj => row_ok (hv j hj)
  rcases of_all hin hpos ts.length (Nat.le_refl _) hv n hn with ⟨i1, i2, i3⟩ | ⟨f, r, c', q1, q2, q3, q4, q5, q6, q7, q8, q9⟩
  · have hf : (stAt need ts ts.length).fin.getD n 0 = -1 := by unfold At at i1; simpa using i1
    have h0 : ∀ k, k ≤ ts.length → ranL ts (n : Int) k = 0 := by
      intro k
      induction k with
      | zero => intro _; simp [ranL]
      | succ k ih =>
        intro hk
        rw [ranL_next ts _ k (by omega), ih (by omega), count_row (hro k (by omega)), if_neg (i3 k (by omega))]; rfl
    rw [hf]
    exact down_none _ _ (fun j hj => by unfold endG; rw [h0 j (by omega)]; exact decide_eq_false (by omega))
  · have h0 : ∀ k, k ≤ ts.length → ranL ts (n : Int) k = if k ≤ f then 0 else if k ≤ f + r then (k : Int) - f else r := by
      intro k
      induction k with
      | zero => intro _; simp [ranL]
      | succ k ih =>
        intro hk
        rw [ranL_next ts _ k (by omega), ih (by omega), count_row (hro k (by omega))]
        by_cases hm : (n : Int) ∈ ts.getD k []
        · have hb := (q7 k (by omega)).1 hm
          rw [if_pos hm, if_neg (by omega : ¬ k + 1 ≤ f), if_pos (by omega : k + 1 ≤ f + r)]
          by_cases h1 : k ≤ f
          · rw [if_pos h1]; omega
          · rw [if_neg h1, if_pos (by omega)]; omega
        · have hb : ¬ (f ≤ k ∧ k < f + r) := fun h => hm ((q7 k (by omega)).2 h)
          rw [if_neg hm]
          by_cases h1 : k + 1 ≤ f
          · rw [if_pos h1, if_pos (by omega)]; rfl
          · rw [if_neg h1, if_neg (by omega : ¬ k + 1 ≤ f + r)]
            by_cases h2 : k ≤ f
            · omega
            · rw [if_neg h2]
              by_cases h3 : k ≤ f + r
              · rw [if_pos h3]; omega
              · rw [if_neg h3]; omega
    rw [q6]
    by_cases hq : (r : Int) = need.getD n 0
    · rw [if_pos hq, show (f : Int) + r = ((f + r : Nat) : Int) by omega]
      refine down_some _ _ (by omega) (fun j hj => ?_)
      unfold endG
      rw [decide_eq_true_eq, h0 j (by omega), ← hq]
      split
      · omega
      · split <;> omega
    · rw [if_neg hq]
      refine down_none _ _ (fun j hj => ?_)
      unfold endG
      rw [h0 j (by omega)]
      apply decide_eq_false
      split
      · omega
      · split <;> omega
theorem lazy_eq (hin : ∀ e ∈ es, 0 ≤ e.1 ∧ e.1 < need.length) (hpos : ∀ n : Nat, n < need.length → 1 ≤ need.getD n 0) {k : Nat} (hk : k < ts.length) (hv : ∀ j, j < k → rowErr es need ts j = 0) {n : Nat} (hn : n < need.length) :
    lazyN es (stAt need ts k) (ts.getD k []) k n = (decide (ranL ts (n : Int) k = 0) && (ts.getD k []).contains (-1) && !(ts.getD k []).contains (n : Int) && freeR es need ts n k) := by
  unfold lazyN
  rw [free_eq hin hpos (Nat.le_of_lt hk) hv, ran_eq k (Nat.le_of_lt hk) hv n hn]
  rfl
end
end SchPlain

set_option linter.unusedVariables false
set_option linter.unusedSimpArgs false
namespace Go.Proofs.Ytnnbgfjokbaepaa
open Go.RowKit Go.Sort
open DagPlain SchPlain
end Go.Proofs.Ytnnbgfjokbaepaa

set_option linter.unusedVariables false
set_option maxRecDepth 100000
set_option linter.unusedSimpArgs false
namespace Go.Proofs.Ytnnbgfjokbaepaa
open Go.RowKit Go.Sort Go.Joins Go.Deep Go.ChangeShapes Go.WideShapes
open Go.Proofs.YtnnbgfjokbaepaaW.PrintWords
def NeedIn (w : World) (A : Option Addr) (c : Nat) (l : List Int) : Prop := l.length ≤ c ∧ ReadsInt w .i64 A l.length l ∧ ∀ x ∈ l, I64 x
theorem open_need {H : Type} {enc : TypeId × Value → H} {w : World} {base b0 : Nat} {sp : Nat → Bool} {held : Bool} {v : Value} {d : DataW H} {p : List MemPlace} (hv : Value.okWide Try.prog w .any b0 22 v) (h : DataW.Trod enc Try.prog w base sp held 22 v d p) :
    ∃ A c l, v = .slice A l.length c ∧ NeedIn w A c l := by
  obtain ⟨a, len, cap, rfl⟩ := okWide_slice Try.underlying22 hv
  obtain ⟨m, hm⟩ := h
  obtain ⟨A, c, l, e, h1, h2, h3⟩ := trod_ints (v := .slice a len cap) hm
  exact ⟨A, c, l, e, h1, h2, h3⟩
def TrIn (w : World) (T : Option Addr) (c : Nat) (ts : List (List Int)) : Prop := ts.length ≤ c ∧ ts.length ≤ maxLen ∧ TrR w T ts ∧ (T = none → c = 0)
theorem cellsInts : Try.prog.cellsOf 22 = 1 := by kernel_rfl
theorem open_trace {H : Type} {enc : TypeId × Value → H} {w : World} {base b0 : Nat} {sp : Nat → Bool} {held : Bool} {v : Value} {d : DataW H} {p : List MemPlace} (hv : Value.okWide Try.prog w .any b0 27 v) (h : DataW.Trod enc Try.prog w base sp held 27 v d p) :
    ∃ T c ts, v = .slice T ts.length c ∧ TrIn w T c ts := by
  obtain ⟨a, len, cap, rfl⟩ := okWide_slice Try.underlying27 hv
  obtain ⟨m, hm⟩ := h
  rcases open_slice1 Try.underlying27 cellsInts (cs := [.slice a len cap]) hm with ⟨hcs, _⟩ | ⟨x, n, cap', k, q, V, Dd, Pl, hcs, _, hl, hm2, hmm, _, hx⟩
  · have e : Value.slice a len cap = .slice none 0 0 := by simpa using hcs
    exact ⟨none, 0, [], e, Nat.le_refl _, by simp, fun h => absurd h (by simp), fun _ => rfl⟩
  · have e : Value.slice a len cap = .slice (some x) n cap' := by simpa using hcs
    have hlm : n ≤ k := by rw [hmm]; split <;> omega
    have hval : ∀ i, i < n → ∃ r : List Int, ∃ A c, V i = .slice A r.length c ∧ r.length ≤ c ∧ ReadsInt w .i64 A r.length r := by
      intro i hi
      obtain ⟨_, h1⟩ := hx i (by omega)
      obtain ⟨A, c, r, e1, h2, h3, _⟩ := trod_ints h1
      exact ⟨r, A, c, e1, h2, h3⟩
    obtain ⟨f, hf⟩ := choose_lt hval
    refine ⟨some x, cap', (List.range n).map f, by rw [e]; simp, by simpa using hl, by simp; omega, fun _ => ⟨x, rfl, fun i hi => ?_⟩, fun h => by cases h⟩
    have hi' : i < n := by simpa using hi
    have hg : ((List.range n).map f).getD i [] = f i := by simp [List.getD_eq_getElem?_getD, hi']
    obtain ⟨A, c, h1, h2, h3⟩ := hf i hi'
    rw [hg]
    exact ⟨A, c, by rw [(hx i (by omega)).1, h1], h2, h3⟩
end Go.Proofs.Ytnnbgfjokbaepaa
