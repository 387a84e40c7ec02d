/- Texts of this work, put into one: SchCut, SchGraham, SchOpen, SchOrd. -/
import Derived.Test.YtnnbgfjokbaepaaMSchC
import Derived.Test.YtnnbgfjokbaepaaMDagB
import Derived.Test.YtnnbgfjokbaepaaMSchA
set_option linter.unusedVariables false
set_option linter.unusedSimpArgs false
namespace Go.Proofs.Ytnnbgfjokbaepaa
open Go.RowKit Go.Sort
open DagPlain SchPlain
open Go.Proofs.YtnnbgfjokbaepaaW.PrintWords
theorem few_in {need : List Int} {ts : List (List Int)} (h : fewB need ts = true) : need.length ≤ 70 ∧ ts.length ≤ 120 ∧ ∀ r ∈ ts, r.length ≤ 12 := by
  unfold fewB at h
  simp only [Bool.and_eq_true, decide_eq_true_eq, List.all_eq_true] at h
  refine ⟨h.1.2, h.2, fun r hr => ?_⟩
  have := h.1.1 r (by rw [List.take_of_length_le (by omega)]; exact hr)
  exact this
theorem sum_in {need : List Int} (h : ∀ n : Nat, n < need.length → 1 ≤ need.getD n 0 ∧ need.getD n 0 ≤ 1000) : ∀ k, k ≤ need.length → 0 ≤ (need.take k).sum ∧ (need.take k).sum ≤ 1000 * k
  | 0, _ => by simp
  | k + 1, hk => by
    rw [sum_snoc need k (by omega)]
    have := sum_in h k (by omega)
    have := h k (by omega)
    omega
theorem trR_take {w : World} {T : Option Addr} {ts : List (List Int)} (h : TrR w T ts) (a : Nat) (ha : a ≤ ts.length) : TrR w T (ts.take a) := fun h0 => by
  have hl : (ts.take a).length = a := by rw [List.length_take]; omega
  obtain ⟨ad, e, hc⟩ := h (by omega)
  refine ⟨ad, e, fun i hi => ?_⟩
  have e2 : (ts.take a).getD i [] = ts.getD i [] := by rw [List.getD_eq_getElem?_getD, List.getD_eq_getElem?_getD, List.getElem?_take_of_lt (by omega)]
  rw [e2]
  exact hc i (by omega)
/-- Ends, at a row whose length goes by another name, with what it comes to. -/
def EndPost (w : World) (n : Nat) (r : List Int) (e : Ending) (w' : World) : Prop := ∃ A c, e = .returned (.slice A n c) ∧ ReadsInt w' .i64 A n r ∧ Below w.heap.size w w'
theorem sEndsW (A : Option Addr) (c : Nat) (l : List Int) (B : Option Addr) (d : Nat) (es : List (Int × Int)) (D : Option Addr) (dc : Nat) (need : List Int) (cores : Int) (T : Option Addr) (tc : Nat) (ts : List (List Int)) {m : Nat} {r : List Int} (w : World) (hm : ts.length = m) (h : SI w A c l B d es D dc need T tc ts) (hr : endsL l es need cores ts = r) (hl : r.length = need.length) :
    Calls Try.prog 18 #[.agg #[.slice A l.length c, .slice B es.length d], .slice D need.length dc, .int .i64 cores, .slice T m tc] w (EndPost w need.length r) := by
  subst hm hr
  refine (sEnds_any A c l B d es D dc need cores T tc ts w h).mono ?_
  rintro e w' ⟨A', c', rfl, h1, h2, h3⟩
  rw [hl] at h2 ⊢
  exact ⟨A', c', rfl, h2, h3⟩
theorem sCheckW (A : Option Addr) (c : Nat) (l : List Int) (B : Option Addr) (d : Nat) (es : List (Int × Int)) (D : Option Addr) (dc : Nat) (need : List Int) (cores : Int) (T : Option Addr) (tc : Nat) (ts : List (List Int)) {m : Nat} {r : Int} (w : World) (hm : ts.length = m) (h : SI w A c l B d es D dc need T tc ts) (hr : lookR l es need cores ts = r) :
    Calls Try.prog 14 #[.agg #[.slice A l.length c, .slice B es.length d], .slice D need.length dc, .int .i64 cores, .slice T m tc] w fun e w' => e = .returned (.int .i64 r) ∧ Below w.heap.size w w' := by
  subst hm hr
  exact sCheck_any A c l B d es D dc need cores T tc ts w h
theorem sGreedyW (A : Option Addr) (c : Nat) (l : List Int) (B : Option Addr) (d : Nat) (es : List (Int × Int)) (D : Option Addr) (dc : Nat) (need : List Int) (cores : Int) (T : Option Addr) (tc : Nat) (ts : List (List Int)) {m : Nat} {r : Bool} (w : World) (hm : ts.length = m) (h : SI w A c l B d es D dc need T tc ts) (hr : greedyL l es need cores ts = r) :
    Calls Try.prog 19 #[.agg #[.slice A l.length c, .slice B es.length d], .slice D need.length dc, .int .i64 cores, .slice T m tc] w fun e w' => e = .returned (.bool r) ∧ Below w.heap.size w w' := by
  subst hm hr
  exact sGreedy_any A c l B d es D dc need cores T tc ts w h
theorem take_getD (ts : List (List Int)) (a k : Nat) (h : k < a) : (ts.take a).getD k [] = ts.getD k [] := by
  rw [List.getD_eq_getElem?_getD, List.getD_eq_getElem?_getD, List.getElem?_take_of_lt h]
theorem stAt_take (need : List Int) (ts : List (List Int)) (a : Nat) : ∀ k, k ≤ a → stAt need (ts.take a) k = stAt need ts k
  | 0, _ => rfl
  | k + 1, h => by
    show runRow need (stAt need (ts.take a) k) ((ts.take a).getD k []) k = runRow need (stAt need ts k) (ts.getD k []) k
    rw [stAt_take need ts a k (by omega), take_getD ts a k (by omega)]
section
variable {l : List Int} {es : List (Int × Int)} {need : List Int} {cores : Int} {ts : List (List Int)}
theorem valid_take (h : Valid l es need cores ts) (a : Nat) (ha : a ≤ ts.length) : Valid l es need cores (ts.take a) := by
  have hl : (ts.take a).length = a := by rw [List.length_take]; omega
  refine ⟨h.zd, h.rb, by have := h.len; omega, fun r hr => h.rows r (List.mem_of_mem_take hr), fun j hj => ?_⟩
  have := h.ok j (by omega)
  unfold rowErr at this ⊢
  rw [stAt_take need ts a j (by omega), take_getD ts a j (by omega)]
  exact this
theorem fin_of {k n : Nat} (h : Of es need ts k n) (h0 : 0 ≤ (stAt need ts k).fin.getD n 0) : ∃ f r : Nat, 0 < r ∧ f + r ≤ k ∧ (r : Int) = need.getD n 0 ∧ (stAt need ts k).fin.getD n 0 = (f : Int) + r ∧ ∀ i, i < k → ((n : Int) ∈ ts.getD i [] ↔ f ≤ i ∧ i < f + r) := by
  rcases h with ⟨i1, i2, i3⟩ | ⟨f, r, c', q1, q2, q3, q4, q5, q6, q7, q8, q9⟩
  · have : (stAt need ts k).fin.getD n 0 = -1 := by unfold SchPlain.At at i1; simpa using i1
    omega
  · rw [q6] at h0
    split at h0
    · rename_i e
      exact ⟨f, r, q1, q2, e, by rw [q6, if_pos e], q7⟩
    · omega
theorem fin_later (h : Valid l es need cores ts) {j k n : Nat} (hjk : j ≤ k) (hk : k ≤ ts.length) (hn : n < need.length) (h0 : 0 ≤ (stAt need ts j).fin.getD n 0) : (stAt need ts k).fin.getD n 0 = (stAt need ts j).fin.getD n 0 := by
  obtain ⟨f, r, p1, p2, p3, p4, p5⟩ := fin_of (h.of j (by omega) n hn) h0
  have hf : (n : Int) ∈ ts.getD f [] := (p5 f (by omega)).2 ⟨Nat.le_refl _, by omega⟩
  have hl : (n : Int) ∈ ts.getD (f + r - 1) [] := (p5 _ (by omega)).2 ⟨by omega, by omega⟩
  rcases h.of k hk n hn with ⟨i1, i2, i3⟩ | ⟨f', r', c', q1, q2, q3, q4, q5, q6, q7, q8, q9⟩
  · exact absurd hf (i3 f (by omega))
  · have a1 := (q7 f (by omega)).1 hf
    have a2 := (q7 _ (by omega)).1 hl
    have e : f' = f := by
      rcases Nat.lt_or_ge f' f with hlt | hge
      · have := (q7 f' (by omega)).2 ⟨Nat.le_refl _, by omega⟩
        have := (p5 f' (by omega)).1 this
        omega
      · omega
    subst e
    have : r' = r := by omega
    subst this
    rw [q6, p4, if_pos p3]
theorem fin_early (h : Valid l es need cores ts) {j k n : Nat} (hjk : j ≤ k) (hk : k ≤ ts.length) (hn : n < need.length) (h0 : 0 ≤ (stAt need ts k).fin.getD n 0) (h1 : (stAt need ts k).fin.getD n 0 ≤ j) : (stAt need ts j).fin.getD n 0 = (stAt need ts k).fin.getD n 0 := by
  obtain ⟨f, r, p1, p2, p3, p4, p5⟩ := fin_of (h.of k hk n hn) h0
  rw [p4] at h1
  have hf : (n : Int) ∈ ts.getD f [] := (p5 f (by omega)).2 ⟨Nat.le_refl _, by omega⟩
  have hl : (n : Int) ∈ ts.getD (f + r - 1) [] := (p5 _ (by omega)).2 ⟨by omega, by omega⟩
  rcases h.of j (by omega) n hn with ⟨i1, i2, i3⟩ | ⟨f', r', c', q1, q2, q3, q4, q5, q6, q7, q8, q9⟩
  · exact absurd hf (i3 f (by omega))
  · have a1 := (q7 f (by omega)).1 hf
    have a2 := (q7 _ (by omega)).1 hl
    have e : f' = f := by
      rcases Nat.lt_or_ge f' f with hlt | hge
      · have := (q7 f' (by omega)).2 ⟨Nat.le_refl _, by omega⟩
        have := (p5 f' (by omega)).1 this
        omega
      · omega
    subst e
    have : r' = r := by omega
    subst this
    rw [q6, p4, if_pos p3]
theorem ends_take (h : Valid l es need cores ts) (a : Nat) (ha : a ≤ ts.length) : endsL l es need cores (ts.take a) = (stAt need ts a).fin := by
  rw [ends_eq (valid_take h a ha), show (ts.take a).length = a by rw [List.length_take]; omega, stAt_take need ts a a (Nat.le_refl _)]
theorem greedy_take (h : Valid l es need cores ts) (a : Nat) (ha : a ≤ ts.length) (hg : greedyL l es need cores ts = true) : greedyL l es need cores (ts.take a) = true := by
  unfold greedyL at hg ⊢
  rw [Bool.and_eq_true, List.all_eq_true] at hg
  rw [Bool.and_eq_true, List.all_eq_true]
  refine ⟨by rw [decide_eq_true_eq]; exact valid_zero (valid_take h a ha), fun k hk => ?_⟩
  have hk2 : k < a := by simp [List.length_take] at hk; omega
  have := hg.2 k (by simp; omega)
  unfold greedyAt at this ⊢
  rw [stAt_take need ts a k (by omega), take_getD ts a k hk2]
  exact this
end
end Go.Proofs.Ytnnbgfjokbaepaa

set_option linter.unusedVariables false
set_option linter.unusedSimpArgs false
namespace Go.Proofs.Ytnnbgfjokbaepaa
open DagPlain SchPlain
theorem greedy_look {l : List Int} {es : List (Int × Int)} {need : List Int} {cores : Int} {ts : List (List Int)} (h : greedyL l es need cores ts = true) : lookR l es need cores ts = 0 := by
  unfold greedyL at h
  rw [Bool.and_eq_true, decide_eq_true_eq] at h
  exact h.1
def idleAt (ts : List (List Int)) (i : Nat) : Bool := (ts.getD i []).contains (-1)
/-- How many rows ahead of a tick have an idle core. -/
def idles (ts : List (List Int)) : Nat → Nat
  | 0 => 0
  | k + 1 => idles ts k + if idleAt ts k = true then 1 else 0
theorem idles_mono (ts : List (List Int)) (j : Nat) : ∀ d, idles ts j ≤ idles ts (j + d) ∧ idles ts (j + d) ≤ idles ts j + d
  | 0 => ⟨Nat.le_refl _, Nat.le_refl _⟩
  | d + 1 => by
    have := idles_mono ts j d
    have e : idles ts (j + (d + 1)) = idles ts (j + d) + if idleAt ts (j + d) = true then 1 else 0 := rfl
    rw [e]
    split <;> omega
theorem idles_last (ts : List (List Int)) : ∀ b, idles ts b = 0 ∨ ∃ i, i < b ∧ idleAt ts i = true ∧ idles ts b = idles ts (i + 1)
  | 0 => .inl rfl
  | b + 1 => by
    by_cases h : idleAt ts b = true
    · exact .inr ⟨b, by omega, h, rfl⟩
    · have e : idles ts (b + 1) = idles ts b := by show idles ts b + _ = _; rw [if_neg h]; rfl
      rw [e]
      rcases idles_last ts b with h0 | ⟨i, h1, h2, h3⟩
      · exact .inl h0
      · exact .inr ⟨i, by omega, h2, h3⟩
section
variable {l : List Int} {es : List (Int × Int)} {need : List Int} {cores : Int} {ts : List (List Int)}
/-- By when a node is done. -/
def E_ (need : List Int) (ts : List (List Int)) (n : Nat) : Int := (stAt need ts ts.length).fin.getD n 0
theorem node_of (h : Valid l es need cores ts) (hall : ∀ n : Nat, n < need.length → 0 ≤ E_ need ts n) {n : Nat} (hn : n < need.length) :
    ∃ f r : Nat, 0 < r ∧ f + r ≤ ts.length ∧ (r : Int) = need.getD n 0 ∧ E_ need ts n = (f : Int) + r ∧ (∀ i, i < ts.length → ((n : Int) ∈ ts.getD i [] ↔ f ≤ i ∧ i < f + r)) ∧ ∀ e ∈ es, e.2 = (n : Int) → E_ need ts e.1.toNat ≤ f := by
  have h0 := hall n hn
  unfold E_ at h0 ⊢
  rcases h.of _ (Nat.le_refl _) n hn with ⟨i1, i2, i3⟩ | ⟨f, r, c', q1, q2, q3, q4, q5, q6, q7, q8, q9⟩
  · have : (stAt need ts ts.length).fin.getD n 0 = -1 := by unfold SchPlain.At at i1; simpa using i1
    omega
  · rw [q6] at h0
    split at h0
    · rename_i e
      exact ⟨f, r, q1, q2, e, by rw [q6, if_pos e], q7, fun x hx e2 => (q9 x hx e2).2⟩
    · omega
theorem greedy_at (h : Valid l es need cores ts) (hg : greedyL l es need cores ts = true) {i n : Nat} (hi : i < ts.length) (hn : n < need.length) : lazyN es (stAt need ts i) (ts.getD i []) i n = false := by
  unfold greedyL at hg
  rw [Bool.and_eq_true, List.all_eq_true] at hg
  have := hg.2 i (by simpa using hi)
  unfold greedyAt at this
  simp only [Bool.not_eq_true', List.any_eq_false] at this
  simpa using this n (by simpa using hn)
/-- An idle core ahead of a node's beginning: the node waits for somebody who isn't done. -/
theorem waits (h : Valid l es need cores ts) (hg : greedyL l es need cores ts = true) (hall : ∀ n : Nat, n < need.length → 0 ≤ E_ need ts n) {n f r i : Nat} (hn : n < need.length) (hf : f + r ≤ ts.length) (hm : ∀ i, i < ts.length → ((n : Int) ∈ ts.getD i [] ↔ f ≤ i ∧ i < f + r)) (hi : i < f) (hid : idleAt ts i = true) :
    ∃ e ∈ es, e.2 = (n : Int) ∧ (i : Int) < E_ need ts e.1.toNat := by
  have hit : i < ts.length := by omega
  have hl := greedy_at h hg hit hn
  have hr0 : (stAt need ts i).ran.getD n 0 = 0 := by
    rcases h.of i (by omega) n hn with ⟨i1, i2, i3⟩ | ⟨f', r', c', q1, q2, q3, q4, q5, q6, q7, q8, q9⟩
    · exact i2
    · have := (q7 f' (by omega)).2 ⟨Nat.le_refl _, by omega⟩
      have := (hm f' (by omega)).1 this
      omega
  have hnr : (ts.getD i []).contains (n : Int) = false := by
    rw [Bool.eq_false_iff]
    intro hc
    rw [List.contains_iff_mem] at hc
    have := (hm i hit).1 hc
    omega
  unfold idleAt at hid
  unfold lazyN at hl
  rw [hr0, hid, hnr] at hl
  simp only [beq_self_eq_true, Bool.true_and, Bool.not_false] at hl
  unfold freeB at hl
  simp only [Bool.not_eq_false', List.any_eq_true] at hl
  obtain ⟨e, he, hw⟩ := hl
  unfold waitE at hw
  simp only [Bool.and_eq_true, beq_iff_eq, Bool.not_eq_true'] at hw
  refine ⟨e, he, hw.1, ?_⟩
  have hin := look_in h.zd h.rb e he
  rcases Int.lt_or_le (i : Int) (E_ need ts e.1.toNat) with h1 | h1
  · exact h1
  · exfalso
    have h2 := hall e.1.toNat (by omega)
    have h3 := fin_early h (j := i) (Nat.le_of_lt hit) (Nat.le_refl _) (by omega : e.1.toNat < need.length) h2 h1
    have h4 := hw.2
    unfold doneB at h4
    unfold E_ at h1 h2
    rw [h3, decide_eq_true h2, decide_eq_true h1] at h4
    cases h4
theorem idles_far (h : Valid l es need cores ts) (hg : greedyL l es need cores ts = true) (hall : ∀ n : Nat, n < need.length → 0 ≤ E_ need ts n) (hzn : checkL need es = 0) : ∀ (m n : Nat), E_ need ts n ≤ m → n < need.length → (idles ts (E_ need ts n).toNat : Int) ≤ (farL need es).getD n 0
  | 0, n, hm, hn => by
    obtain ⟨f, r, p1, p2, p3, p4, p5, p6⟩ := node_of h hall hn
    omega
  | m + 1, n, hm, hn => by
    obtain ⟨f, r, p1, p2, p3, p4, p5, p6⟩ := node_of h hall hn
    obtain ⟨⟨mm, f1, f2, f3, f4⟩, -⟩ := far_at hzn (n : Int) (by omega)
    simp only [Int.toNat_natCast] at f1
    have e : (E_ need ts n).toNat = f + r := by omega
    have hmo := idles_mono ts f r
    have hif : (idles ts f : Int) ≤ mm := by
      rcases idles_last ts f with h0 | ⟨i, h1, h2, h3⟩
      · rw [h0]; exact f2
      · obtain ⟨x, hx, hx2, hx3⟩ := waits h hg hall hn p2 p5 h1 h2
        have hin := look_in h.zd h.rb x hx
        have hE := p6 x hx hx2
        have ih := idles_far h hg hall hzn m x.1.toNat (by omega) (by omega)
        have hp : x.1 ∈ predL (n : Int) es := mem_predL.2 (by rw [← hx2]; exact hx)
        have := f3 _ hp
        have hmono := (idles_mono ts (i + 1) ((E_ need ts x.1.toNat).toNat - (i + 1))).1
        rw [show i + 1 + ((E_ need ts x.1.toNat).toNat - (i + 1)) = (E_ need ts x.1.toNat).toNat by omega] at hmono
        omega
    rw [e, f1]
    omega
theorem idle_busy (h : Valid l es need cores ts) (hg : greedyL l es need cores ts = true) (hall : ∀ n : Nat, n < need.length → 0 ≤ E_ need ts n) : ∀ (m n : Nat), E_ need ts n ≤ m → n < need.length → ∀ i : Nat, (i : Int) < E_ need ts n → idleAt ts i = true → 1 ≤ busyRow (ts.getD i [])
  | 0, n, hm, hn, i, hi, hid => by omega
  | m + 1, n, hm, hn, i, hi, hid => by
    obtain ⟨f, r, p1, p2, p3, p4, p5, p6⟩ := node_of h hall hn
    by_cases hif : i < f
    · obtain ⟨x, hx, hx2, hx3⟩ := waits h hg hall hn p2 p5 hif hid
      have hin := look_in h.zd h.rb x hx
      have hE := p6 x hx hx2
      exact idle_busy h hg hall m x.1.toNat (by omega) (by omega) i hx3 hid
    · have hmem := (p5 i (by omega)).2 ⟨by omega, by omega⟩
      unfold busyRow
      have : (n : Int) ∈ (ts.getD i []).filter (· != -1) := List.mem_filter.2 ⟨hmem, by simp⟩
      have := List.length_pos_of_mem this
      omega
theorem far_end (h : Valid l es need cores ts) (hall : ∀ n : Nat, n < need.length → 0 ≤ E_ need ts n) (hzn : checkL need es = 0) : ∀ (m n : Nat), E_ need ts n ≤ m → n < need.length → (farL need es).getD n 0 ≤ E_ need ts n
  | 0, n, hm, hn => by
    obtain ⟨f, r, p1, p2, p3, p4, p5, p6⟩ := node_of h hall hn
    omega
  | m + 1, n, hm, hn => by
    obtain ⟨f, r, p1, p2, p3, p4, p5, p6⟩ := node_of h hall hn
    obtain ⟨⟨mm, f1, f2, f3, f4⟩, -⟩ := far_at hzn (n : Int) (by omega)
    simp only [Int.toNat_natCast] at f1
    rw [f1]
    rcases f4 with f4 | ⟨q, hq, f4⟩
    · omega
    · have hx := mem_predL.1 hq
      have hin : 0 ≤ q ∧ q < need.length := look_in h.zd h.rb _ hx
      have hE : E_ need ts q.toNat ≤ f := p6 _ hx rfl
      have ih := far_end h hall hzn m q.toNat (by omega) (by omega)
      omega
theorem busy_full {row : List Int} (h : row.contains (-1) = false) : busyRow row = row.length := by
  unfold busyRow
  rw [List.filter_eq_self.2]
  intro x hx
  simp only [bne_iff_ne, ne_eq]
  rintro rfl
  rw [Bool.eq_false_iff] at h
  exact h (by rw [List.contains_iff_mem]; exact hx)
theorem ticks_le (hc : 1 ≤ cores) (hr : ∀ r ∈ ts, (r.length : Int) = cores) : ∀ b, b ≤ ts.length → (∀ i, i < b → idleAt ts i = true → 1 ≤ busyRow (ts.getD i [])) → cores * (b : Int) ≤ busyL (ts.take b) + (cores - 1) * (idles ts b : Int)
  | 0, _, _ => by simp [busyL, idles]
  | b + 1, hb, hi => by
    have ih := ticks_le hc hr b (by omega) (fun i h1 h2 => hi i (by omega) h2)
    rw [busyL_next ts b (by omega)]
    have hl := hr _ (mem_getDL (by omega : b < ts.length))
    have e1 : cores * ((b + 1 : Nat) : Int) = cores * (b : Int) + cores := by rw [Int.natCast_add, Int.mul_add]; simp
    have e2 : (idles ts (b + 1) : Int) = (idles ts b : Int) + if idleAt ts b = true then 1 else 0 := by
      show ((idles ts b + if idleAt ts b = true then 1 else 0 : Nat) : Int) = _
      split <;> simp
    rw [e1, e2]
    by_cases hid : idleAt ts b = true
    · rw [if_pos hid, Int.mul_add]
      have := hi b (by omega) hid
      omega
    · rw [if_neg hid, Int.add_zero]
      have hbf := busy_full (row := ts.getD b []) (by unfold idleAt at hid; simpa using hid)
      omega
/-- GRAHAM: so many ticks; and at least the longest way's. -/
theorem graham (h : Valid l es need cores ts) (hg : greedyL l es need cores ts = true) (hall : ∀ n : Nat, n < need.length → 0 ≤ E_ need ts n) {last : Int} (hmax : ∀ n : Nat, n < need.length → E_ need ts n ≤ last) (hsome : last = 0 ∨ ∃ n, n < need.length ∧ last = E_ need ts n) :
    cores * last ≤ totL need es + (cores - 1) * longL need es ∧ longL need es ≤ last := by
  have hzn := check_need h.zd h.rb
  obtain ⟨⟨hc1, hc8⟩, -, -⟩ := right_cores h.rb
  have ht : totL need es = need.sum := by unfold totL; rw [if_pos hzn]
  have hbi := bound_in hzn
  have h0 : 0 ≤ last := by
    rcases hsome with h1 | ⟨n, h1, h2⟩
    · omega
    · rw [h2]; exact hall n h1
  constructor
  · rcases hsome with h1 | ⟨n, h1, h2⟩
    · rw [h1, Int.mul_zero]
      have := Int.mul_nonneg (by omega : 0 ≤ cores - 1) hbi.2.1
      omega
    · obtain ⟨f, r, p1, p2, p3, p4, p5, p6⟩ := node_of h hall h1
      have hb := ticks_le hc1 h.rows (E_ need ts n).toNat (by omega) (fun i h3 h4 => idle_busy h hg hall (E_ need ts n).toNat n (by omega) h1 i (by omega) h4)
      have hfar := idles_far h hg hall hzn (E_ need ts n).toNat n (by omega) h1
      have hlong := (far_at hzn (n : Int) (by omega)).2
      simp only [Int.toNat_natCast] at hlong
      have hrs := ran_sum (es := es) (need := need) (ts := ts) (E_ need ts n).toNat (by omega) (fun j hj => h.ok j (by omega))
      have hle := (sum_le2 (stAt need ts (E_ need ts n).toNat).ran need (stAt_len need ts _).1 (fun i hi => (ran_fin h _ (by omega) i (by rw [(stAt_len need ts _).1] at hi; exact hi)).2.1)).1
      have hmul : (cores - 1) * (idles ts (E_ need ts n).toNat : Int) ≤ (cores - 1) * longL need es := Int.mul_le_mul_of_nonneg_left (by omega) (by omega)
      rw [show ((E_ need ts n).toNat : Int) = last by omega] at hb
      omega
  · obtain ⟨hl0, hl⟩ := long_some hzn
    rcases hl with hl | ⟨j, hj, hl⟩
    · omega
    · obtain ⟨g1, g2, g3, g4⟩ := ordL_good hzn
      have hm := g3 _ (getD_mem _ _ hj)
      have hfe := far_end h hall hzn (E_ need ts ((ordL need es).getD j 0).toNat).toNat ((ordL need es).getD j 0).toNat (by have := hall ((ordL need es).getD j 0).toNat (by omega); omega) (by omega)
      have := hmax ((ordL need es).getD j 0).toNat (by omega)
      omega
end
end Go.Proofs.Ytnnbgfjokbaepaa

set_option linter.unusedVariables false
set_option maxRecDepth 100000
set_option linter.unusedSimpArgs false
namespace Go.Proofs.Ytnnbgfjokbaepaa
open Go.RowKit Go.Sort Go.Joins Go.Deep Go.ChangeShapes Go.WideShapes
open Go.Proofs.YtnnbgfjokbaepaaW.PrintWords
def NeedIn (w : World) (A : Option Addr) (c : Nat) (l : List Int) : Prop := l.length ≤ c ∧ ReadsInt w .i64 A l.length l ∧ ∀ x ∈ l, I64 x
theorem open_need {H : Type} {enc : TypeId × Value → H} {w : World} {base b0 : Nat} {sp : Nat → Bool} {held : Bool} {v : Value} {d : DataW H} {p : List MemPlace} (hv : Value.okWide Try.prog w .any b0 22 v) (h : DataW.Trod enc Try.prog w base sp held 22 v d p) :
    ∃ A c l, v = .slice A l.length c ∧ NeedIn w A c l := by
  obtain ⟨a, len, cap, rfl⟩ := okWide_slice Try.underlying22 hv
  obtain ⟨m, hm⟩ := h
  obtain ⟨A, c, l, e, h1, h2, h3⟩ := trod_ints (v := .slice a len cap) hm
  exact ⟨A, c, l, e, h1, h2, h3⟩
def TrIn (w : World) (T : Option Addr) (c : Nat) (ts : List (List Int)) : Prop := ts.length ≤ c ∧ ts.length ≤ maxLen ∧ TrR w T ts ∧ (T = none → c = 0)
theorem cellsInts : Try.prog.cellsOf 22 = 1 := by kernel_rfl
theorem open_trace {H : Type} {enc : TypeId × Value → H} {w : World} {base b0 : Nat} {sp : Nat → Bool} {held : Bool} {v : Value} {d : DataW H} {p : List MemPlace} (hv : Value.okWide Try.prog w .any b0 27 v) (h : DataW.Trod enc Try.prog w base sp held 27 v d p) :
    ∃ T c ts, v = .slice T ts.length c ∧ TrIn w T c ts := by
  obtain ⟨a, len, cap, rfl⟩ := okWide_slice Try.underlying27 hv
  obtain ⟨m, hm⟩ := h
  rcases open_slice1 Try.underlying27 cellsInts (cs := [.slice a len cap]) hm with ⟨hcs, _⟩ | ⟨x, n, cap', k, q, V, Dd, Pl, hcs, _, hl, hm2, hmm, _, hx⟩
  · have e : Value.slice a len cap = .slice none 0 0 := by simpa using hcs
    exact ⟨none, 0, [], e, Nat.le_refl _, by simp, fun h => absurd h (by simp), fun _ => rfl⟩
  · have e : Value.slice a len cap = .slice (some x) n cap' := by simpa using hcs
    have hlm : n ≤ k := by rw [hmm]; split <;> omega
    have hval : ∀ i, i < n → ∃ r : List Int, ∃ A c, V i = .slice A r.length c ∧ r.length ≤ c ∧ ReadsInt w .i64 A r.length r := by
      intro i hi
      obtain ⟨_, h1⟩ := hx i (by omega)
      obtain ⟨A, c, r, e1, h2, h3, _⟩ := trod_ints h1
      exact ⟨r, A, c, e1, h2, h3⟩
    obtain ⟨f, hf⟩ := choose_lt hval
    refine ⟨some x, cap', (List.range n).map f, by rw [e]; simp, by simpa using hl, by simp; omega, fun _ => ⟨x, rfl, fun i hi => ?_⟩, fun h => by cases h⟩
    have hi' : i < n := by simpa using hi
    have hg : ((List.range n).map f).getD i [] = f i := by simp [List.getD_eq_getElem?_getD, hi']
    obtain ⟨A, c, h1, h2, h3⟩ := hf i hi'
    rw [hg]
    exact ⟨A, c, by rw [(hx i (by omega)).1, h1], h2, h3⟩
end Go.Proofs.Ytnnbgfjokbaepaa

set_option linter.unusedVariables false
set_option linter.unusedSimpArgs false
namespace Go.Proofs.Ytnnbgfjokbaepaa
open DagPlain SchPlain
/-- What the rows ahead of one tell of a node: when it first runs, how often, where. -/
def scanSt (o : Option (Nat × Nat × Nat)) (i : Nat) : Int × Int × Int :=
  match o with
  | none => (-1, 0, -1)
  | some (f, r, c) => if i ≤ f then (-1, 0, -1) else ((f : Int), ((min i (f + r) - f : Nat) : Int), (c : Int))
def rowSt (o : Option (Nat × Nat × Nat)) (i j : Nat) : Int × Int × Int :=
  match o with
  | none => (-1, 0, -1)
  | some (f, r, c) => if f ≤ i ∧ i < f + r ∧ c < j then scanSt o (i + 1) else scanSt o i
/-- What holds of a node, told by when it runs. -/
structure NodeAt (es : List (Int × Int)) (need fs : List Int) (ts : List (List Int)) (n : Nat) (o : Option (Nat × Nat × Nat)) : Prop where
  no : o = none → (∀ i, i < ts.length → (n : Int) ∉ ts.getD i []) ∧ fs.getD n 0 = -1
  yes : ∀ f r c, o = some (f, r, c) → (0 < r ∧ f + r ≤ ts.length ∧ (r : Int) ≤ need.getD n 0 ∧ fs.getD n 0 = if (r : Int) = need.getD n 0 then (f : Int) + r else -1) ∧
    (∀ i, i < ts.length → ((n : Int) ∈ ts.getD i [] ↔ f ≤ i ∧ i < f + r)) ∧ (∀ i, f ≤ i → i < f + r → c < (ts.getD i []).length ∧ (ts.getD i []).getD c 0 = (n : Int)) ∧
    ∀ e ∈ es, e.2 = (n : Int) → 0 ≤ fs.getD e.1.toNat 0 ∧ fs.getD e.1.toNat 0 ≤ f
  uni : ∀ i, i < ts.length → ∀ j j', j < (ts.getD i []).length → j' < (ts.getD i []).length → (ts.getD i []).getD j 0 = (n : Int) → (ts.getD i []).getD j' 0 = (n : Int) → j = j'
section
variable {l : List Int} {es : List (Int × Int)} {need fs : List Int} {cores : Int} {ts : List (List Int)} {n : Nat} {o : Option (Nat × Nat × Nat)}
theorem node_at (h : Valid l es need cores ts) (hn : n < need.length) : ∃ o, NodeAt es need (endsL l es need cores ts) ts n o := by
  have hu : ∀ i, i < ts.length → ∀ j j', j < (ts.getD i []).length → j' < (ts.getD i []).length → (ts.getD i []).getD j 0 = (n : Int) → (ts.getD i []).getD j' 0 = (n : Int) → j = j' := fun i hi j j' hj hj' e e' =>
    (row_ok (h.ok i hi)).one n j j' hj hj' e e'
  rw [ends_eq h]
  rcases h.of _ (Nat.le_refl _) n hn with ⟨i1, i2, i3⟩ | ⟨f, r, c, q1, q2, q3, q4, q5, q6, q7, q8, q9⟩
  · exact ⟨none, ⟨fun _ => ⟨i3, by unfold SchPlain.At at i1; simpa using i1⟩, (fun f r c e => by cases e), hu⟩⟩
  · exact ⟨some (f, r, c), ⟨(fun e => by cases e), (fun f' r' c' e => by cases e; exact ⟨⟨q1, q2, q4, q6⟩, q7, q8, q9⟩), hu⟩⟩
theorem rowSt_start (i : Nat) : rowSt o i 0 = scanSt o i := by
  unfold rowSt
  split
  · rfl
  · rw [if_neg (by omega)]
theorem rowSt_miss (h : NodeAt es need fs ts n o) {i j : Nat} (hi : i < ts.length) (hj : j < (ts.getD i []).length) (hx : (ts.getD i []).getD j 0 ≠ (n : Int)) : rowSt o i (j + 1) = rowSt o i j := by
  unfold rowSt
  split
  · rfl
  · rename_i f r c
    obtain ⟨-, y2, y3, -⟩ := h.yes f r c rfl
    by_cases hr : f ≤ i ∧ i < f + r
    · have hc : c ≠ j := by rintro rfl; exact hx (y3 i hr.1 hr.2).2
      by_cases hcj : c < j
      · rw [if_pos ⟨hr.1, hr.2, by omega⟩, if_pos ⟨hr.1, hr.2, hcj⟩]
      · rw [if_neg (by omega), if_neg (by omega)]
    · rw [if_neg (by omega), if_neg (by omega)]
/-- Where the node stands: it begins there, or goes on. -/
theorem rowSt_hit (h : NodeAt es need fs ts n o) {i j : Nat} (hi : i < ts.length) (hj : j < (ts.getD i []).length) (hx : (ts.getD i []).getD j 0 = (n : Int)) :
    (rowSt o i j = (-1, 0, -1) ∧ rowSt o i (j + 1) = ((i : Int), 1, (j : Int))) ∨ ∃ f : Nat, f < i ∧ rowSt o i j = ((f : Int), (i : Int) - f, (j : Int)) ∧ rowSt o i (j + 1) = ((f : Int), (i : Int) - f + 1, (j : Int)) := by
  cases o with
  | none => exact absurd (getD_row_mem hj hx) ((h.no rfl).1 i hi)
  | some q =>
    obtain ⟨f, r, c⟩ := q
    obtain ⟨⟨y0, y1, -, -⟩, y2, y3, -⟩ := h.yes f r c rfl
    have hr := (y2 i hi).1 (getD_row_mem hj hx)
    obtain ⟨c1, c2⟩ := y3 i hr.1 hr.2
    obtain rfl : c = j := h.uni i hi c j c1 hj c2 hx
    have e1 : rowSt (some (f, r, c)) i c = scanSt (some (f, r, c)) i := by unfold rowSt; simp
    have e2 : rowSt (some (f, r, c)) i (c + 1) = scanSt (some (f, r, c)) (i + 1) := by unfold rowSt; simp; intro h1; omega
    rw [e1, e2]
    unfold scanSt
    simp only
    by_cases hif : i = f
    · subst hif
      left
      rw [if_pos (Nat.le_refl _), if_neg (by omega)]
      refine ⟨rfl, ?_⟩
      rw [show min (i + 1) (i + r) - i = 1 by omega]
      rfl
    · right
      refine ⟨f, by omega, ?_, ?_⟩
      · rw [if_neg (by omega), show min i (f + r) - f = i - f by omega]
        simp only [Prod.mk.injEq, true_and, and_true]
        omega
      · rw [if_neg (by omega), show min (i + 1) (f + r) - f = i - f + 1 by omega]
        simp only [Prod.mk.injEq, true_and, and_true]
        omega
theorem rowSt_end (h : NodeAt es need fs ts n o) {i : Nat} (hi : i < ts.length) : rowSt o i (ts.getD i []).length = scanSt o (i + 1) := by
  unfold rowSt
  split
  · rfl
  · rename_i f r c
    obtain ⟨⟨y0, y1, -, -⟩, y2, y3, -⟩ := h.yes f r c rfl
    by_cases hr : f ≤ i ∧ i < f + r
    · rw [if_pos ⟨hr.1, hr.2, (y3 i hr.1 hr.2).1⟩]
    · rw [if_neg (by omega)]
      unfold scanSt
      simp only
      by_cases hif : i < f
      · rw [if_pos (by omega), if_pos (by omega)]
      · rw [if_neg (by omega), if_neg (by omega), show min i (f + r) = f + r by omega, show min (i + 1) (f + r) = f + r by omega]
/-- At the end: who is done ran for as long as it needs, from when it began. -/
theorem scan_end (h : NodeAt es need fs ts n o) (hp : 1 ≤ need.getD n 0) : ∃ first many at_ : Int, scanSt o ts.length = (first, many, at_) ∧ 0 ≤ many ∧ many ≤ need.getD n 0 ∧ (0 ≤ fs.getD n 0 ↔ many = need.getD n 0) ∧ (0 ≤ fs.getD n 0 → fs.getD n 0 = first + need.getD n 0) ∧ (-1 ≤ first ∧ first ≤ ts.length) ∧
    (0 ≤ first → ∀ e ∈ es, e.2 = (n : Int) → 0 ≤ fs.getD e.1.toNat 0 ∧ fs.getD e.1.toNat 0 ≤ first) := by
  cases o with
  | none =>
    have := (h.no rfl).2
    exact ⟨-1, 0, -1, rfl, by omega, by omega, by omega, by omega, by omega, by omega⟩
  | some q =>
    obtain ⟨f, r, c⟩ := q
    obtain ⟨⟨y0, y1, y4, y5⟩, y2, y3, y6⟩ := h.yes f r c rfl
    refine ⟨(f : Int), (r : Int), (c : Int), ?_, by omega, y4, ?_, ?_, by omega, fun _ => y6⟩
    · unfold scanSt
      simp only
      rw [if_neg (by omega), show min ts.length (f + r) - f = r by omega]
    · rw [y5]
      split <;> omega
    · rw [y5]
      split
      · rename_i e; intro _; rw [← e]
      · omega
end
end Go.Proofs.Ytnnbgfjokbaepaa
