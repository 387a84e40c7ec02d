/- Texts of this work, put into one. -/
import Derived.Test.YtmbhjhanafmidaaRMSchA
import Derived.Test.YtmbhjhanafmidaaRMSchB
import Derived.Test.YtmbhjhanafmidaaRMDagB
set_option linter.unusedVariables false
set_option linter.unusedSimpArgs false
namespace SchPlain
open DagPlain
theorem getD_put {α : Type} (F : List α) (i j : Nat) (x d : α) : (F.set i x).getD j d = if i = j ∧ i < F.length then x else F.getD j d := by
  rw [List.getD_eq_getElem?_getD, List.getD_eq_getElem?_getD, List.getElem?_set]
  by_cases h : i = j
  · subst h
    by_cases h2 : i < F.length
    · simp [h2]
    · simp [h2]
  · simp [h]
def LenS (s : Seen) (n : Nat) : Prop := s.ran.length = n ∧ s.last.length = n ∧ s.fin.length = n
theorem LenS.run {s : Seen} {n : Nat} (h : LenS s n) (need : List Int) (x tick core : Int) : LenS (runS need s x tick core) n := by
  obtain ⟨h1, h2, h3⟩ := h
  unfold runS LenS
  simp only [List.length_set]
  refine ⟨h1, h2, ?_⟩
  split <;> simp [h3]
theorem LenS.part {s : Seen} {n : Nat} (h : LenS s n) (need row : List Int) (tick : Int) : ∀ c : Nat, LenS (partRow need s row tick c) n
  | 0 => h
  | c + 1 => by
    rw [partRow_next]
    unfold runC
    split
    · exact LenS.part h need row tick c
    · exact (LenS.part h need row tick c).run need _ _ _
theorem stAt_len (need : List Int) (ts : List (List Int)) : ∀ k, LenS (stAt need ts k) need.length
  | 0 => by simp [stAt, begin_, LenS]
  | k + 1 => (stAt_len need ts k).part need _ _ _
/-- What was seen of one node. -/
def At (s : Seen) (n : Nat) : Int × (Int × Int) × Int := (s.ran.getD n 0, s.last.getD n (0, 0), s.fin.getD n 0)
theorem runS_far {s : Seen} {need : List Int} {x tick core : Int} {n : Nat} (h : x.toNat ≠ n) : At (runS need s x tick core) n = At s n := by
  unfold At runS
  simp only
  rw [getD_put, if_neg (fun e => h e.1), getD_put, if_neg (fun e => h e.1)]
  split
  · rw [getD_put, if_neg (fun e => h e.1)]
  · rfl
theorem runS_at {s : Seen} {need : List Int} {tick core : Int} {n N : Nat} (hl : LenS s N) (hn : n < N) : At (runS need s (n : Int) tick core) n = (s.ran.getD n 0 + 1, (tick, core), if s.ran.getD n 0 + 1 = need.getD n 0 then tick + 1 else s.fin.getD n 0) := by
  obtain ⟨h1, h2, h3⟩ := hl
  unfold At runS
  simp only [Int.toNat_natCast]
  rw [getD_put, if_pos ⟨rfl, by omega⟩, getD_put, if_pos ⟨rfl, by omega⟩]
  split
  · rw [getD_put, if_pos ⟨rfl, by omega⟩]
  · rfl
theorem take_mem_next {row : List Int} {c : Nat} (hc : c < row.length) (x : Int) : x ∈ row.take (c + 1) ↔ x ∈ row.take c ∨ row.getD c 0 = x := by
  rw [List.take_add_one, List.getD_eq_getElem?_getD, List.getElem?_eq_getElem hc]
  simp only [Option.toList_some, List.mem_append, List.mem_singleton, Option.getD_some]
  exact ⟨fun h => h.imp id Eq.symm, fun h => h.imp id Eq.symm⟩
theorem part_far {s : Seen} {need row : List Int} {tick : Int} {n : Nat} (hr : ∀ c, c < row.length → -1 ≤ row.getD c 0) : ∀ c, c ≤ row.length → (n : Int) ∉ row.take c → At (partRow need s row tick c) n = At s n
  | 0, _, _ => rfl
  | c + 1, hc, hn => by
    rw [take_mem_next (by omega)] at hn
    rw [partRow_next]
    unfold runC
    have h1 := hr c (by omega)
    split
    · exact part_far hr c (by omega) (fun h => hn (.inl h))
    · rename_i hne
      rw [runS_far (by intro e; exact hn (.inr (by omega)))]
      exact part_far hr c (by omega) (fun h => hn (.inl h))
theorem part_at {s : Seen} {need row : List Int} {tick : Int} {n N c0 : Nat} (hl : LenS s N) (hn : n < N) (hr : ∀ c, c < row.length → -1 ≤ row.getD c 0) (hc0 : c0 < row.length) (hx : row.getD c0 0 = (n : Int)) (hu : ∀ c, c < row.length → row.getD c 0 = (n : Int) → c = c0) :
    ∀ c, c0 < c → c ≤ row.length → At (partRow need s row tick c) n = (s.ran.getD n 0 + 1, (tick, (c0 : Int)), if s.ran.getD n 0 + 1 = need.getD n 0 then tick + 1 else s.fin.getD n 0)
  | 0, h, _ => absurd h (by omega)
  | c + 1, h, hc => by
    rw [partRow_next]
    unfold runC
    by_cases e : c = c0
    · subst e
      rw [if_neg (by rw [hx]; omega), hx, runS_at (hl.part need row tick c) hn]
      have hf := part_far (need := need) (s := s) (tick := tick) (n := n) hr c (by omega) (by
        intro hm
        obtain ⟨j, hj, e⟩ := List.mem_take_iff_getElem.1 hm
        have := hu j (by omega) (by rw [List.getD_eq_getElem?_getD, List.getElem?_eq_getElem (by omega)]; exact e)
        omega)
      unfold At at hf
      simp only [Prod.mk.injEq] at hf
      rw [hf.1, hf.2.2]
    · have ih := part_at (need := need) (tick := tick) hl hn hr hc0 hx hu c (by omega) (by omega)
      split
      · exact ih
      · rename_i hne
        have h1 := hr c (by omega)
        rw [runS_far (by intro e2; exact e (hu c (by omega) (by omega)))]
        exact ih
/-- Of a row that may be: each node is one, and stands there once; what each asked. -/
structure RowOk (es : List (Int × Int)) (need : List Int) (s : Seen) (row : List Int) (tick : Int) : Prop where
  inb : ∀ c, c < row.length → -1 ≤ row.getD c 0 ∧ row.getD c 0 < need.length
  one : ∀ (n : Nat) (c c' : Nat), c < row.length → c' < row.length → row.getD c 0 = (n : Int) → row.getD c' 0 = (n : Int) → c = c'
  more : ∀ (n c : Nat), c < row.length → row.getD c 0 = (n : Int) → s.ran.getD n 0 < need.getD n 0
  same : ∀ (n c : Nat), c < row.length → row.getD c 0 = (n : Int) → 0 < s.ran.getD n 0 → s.last.getD n (0, 0) = (tick - 1, (c : Int))
  free : ∀ (n c : Nat), c < row.length → row.getD c 0 = (n : Int) → s.ran.getD n 0 = 0 → freeB es s n tick = true
theorem one_zero {es : List (Int × Int)} {need : List Int} {s : Seen} {row : List Int} {tick : Int} {c : Nat} (h : oneE es need s row tick c = 0) : ¬ (row.getD c 0 < -1 ∨ need.length ≤ row.getD c 0) ∧ ¬ (row.take c).contains (row.getD c 0) = true ∧ ¬ need.getD (row.getD c 0).toNat 0 ≤ s.ran.getD (row.getD c 0).toNat 0 ∧ ¬ splitB s (row.getD c 0) tick c = true ∧ ¬ (s.ran.getD (row.getD c 0).toNat 0 = 0 ∧ freeB es s (row.getD c 0) tick = false) := by
  unfold oneE at h
  by_cases h1 : row.getD c 0 < -1 ∨ need.length ≤ row.getD c 0
  · rw [if_pos h1] at h; cases h
  rw [if_neg h1] at h
  by_cases h2 : (row.take c).contains (row.getD c 0) = true
  · rw [if_pos h2] at h; cases h
  rw [if_neg h2] at h
  by_cases h3 : need.getD (row.getD c 0).toNat 0 ≤ s.ran.getD (row.getD c 0).toNat 0
  · rw [if_pos h3] at h; cases h
  rw [if_neg h3] at h
  by_cases h4 : splitB s (row.getD c 0) tick c = true
  · rw [if_pos h4] at h; cases h
  rw [if_neg h4] at h
  by_cases h5 : s.ran.getD (row.getD c 0).toNat 0 = 0 ∧ freeB es s (row.getD c 0) tick = false
  · rw [if_pos h5] at h; cases h
  exact ⟨h1, h2, h3, h4, h5⟩
theorem row_ok {es : List (Int × Int)} {need : List Int} {s : Seen} {row : List Int} {tick : Int} (h : rowE es need s row tick = 0) : RowOk es need s row tick := by
  have hz := rowE_zero h
  have ho : ∀ (n c : Nat), c < row.length → row.getD c 0 = (n : Int) → oneE es need s row tick c = 0 := fun n c hc e => bad_not (hz c hc) (by rw [e]; omega)
  refine ⟨fun c hc => ?_, fun n c c' hc hc' e e' => ?_, fun n c hc e => ?_, fun n c hc e hr => ?_, fun n c hc e hr => ?_⟩
  · by_cases hx : row.getD c 0 = -1
    · rw [hx]; omega
    · exact one_in (bad_not (hz c hc) hx)
  · have key : ∀ a b : Nat, a < b → b < row.length → row.getD a 0 = (n : Int) → row.getD b 0 = (n : Int) → False := by
      intro a b hab hb ea eb
      obtain ⟨-, h2, -⟩ := one_zero (ho n b hb eb)
      apply h2
      rw [List.contains_iff_mem, eb, ← ea]
      refine List.mem_take_iff_getElem.2 ⟨a, by omega, ?_⟩
      rw [List.getD_eq_getElem?_getD, List.getElem?_eq_getElem (by omega)]; rfl
    rcases Nat.lt_trichotomy c c' with h | h | h
    · exact absurd (key c c' h hc' e e') (fun h => h)
    · exact h
    · exact absurd (key c' c h hc e' e) (fun h => h)
  · obtain ⟨-, -, h3, -⟩ := one_zero (ho n c hc e)
    rw [e, Int.toNat_natCast] at h3
    omega
  · obtain ⟨-, -, -, h4, -⟩ := one_zero (ho n c hc e)
    rw [e] at h4
    unfold splitB at h4
    rw [Int.toNat_natCast, decide_eq_true hr, Bool.true_and] at h4
    simpa using h4
  · obtain ⟨-, -, -, -, h5⟩ := one_zero (ho n c hc e)
    rw [e, Int.toNat_natCast] at h5
    cases hf : freeB es s n tick with
    | true => rfl
    | false => exact absurd ⟨hr, hf⟩ h5
theorem mem_getD_row {row : List Int} {n : Int} (h : n ∈ row) : ∃ c, c < row.length ∧ row.getD c 0 = n := by
  obtain ⟨c, hc, e⟩ := List.getElem_of_mem h
  exact ⟨c, hc, by rw [List.getD_eq_getElem?_getD, List.getElem?_eq_getElem hc]; exact e⟩
theorem getD_row_mem {row : List Int} {n : Int} {c : Nat} (hc : c < row.length) (h : row.getD c 0 = n) : n ∈ row := by
  rw [← h, List.getD_eq_getElem?_getD, List.getElem?_eq_getElem hc]
  exact List.getElem_mem hc
/-- A row's step, node by node. -/
theorem row_far {es : List (Int × Int)} {need : List Int} {s : Seen} {row : List Int} {tick : Int} (h : RowOk es need s row tick) {n : Nat} (hn : (n : Int) ∉ row) : At (runRow need s row tick) n = At s n := by
  rw [← partRow_all]
  exact part_far (fun c hc => (h.inb c hc).1) _ (Nat.le_refl _) (by rw [List.take_length]; exact hn)
theorem row_at {es : List (Int × Int)} {need : List Int} {s : Seen} {row : List Int} {tick : Int} (h : RowOk es need s row tick) (hl : LenS s need.length) {n c : Nat} (hn : n < need.length) (hc : c < row.length) (e : row.getD c 0 = (n : Int)) :
    At (runRow need s row tick) n = (s.ran.getD n 0 + 1, (tick, (c : Int)), if s.ran.getD n 0 + 1 = need.getD n 0 then tick + 1 else s.fin.getD n 0) := by
  rw [← partRow_all]
  exact part_at hl hn (fun c hc => (h.inb c hc).1) hc e (fun c' hc' e' => h.one n c' c hc' hc e' e) _ hc (Nat.le_refl _)
/-- What holds of a node at a tick. -/
inductive Of (es : List (Int × Int)) (need : List Int) (ts : List (List Int)) (k n : Nat) : Prop
  | idle (h1 : At (stAt need ts k) n = ((stAt need ts k).ran.getD n 0, (stAt need ts k).last.getD n (0, 0), -1)) (h2 : (stAt need ts k).ran.getD n 0 = 0) (h3 : ∀ i, i < k → (n : Int) ∉ ts.getD i [])
  | runs (f r c : Nat) (h0 : 0 < r) (hf : f + r ≤ k) (hr : (stAt need ts k).ran.getD n 0 = (r : Int)) (hn : (r : Int) ≤ need.getD n 0) (hl : (stAt need ts k).last.getD n (0, 0) = ((f : Int) + r - 1, (c : Int)))
      (he : (stAt need ts k).fin.getD n 0 = if (r : Int) = need.getD n 0 then (f : Int) + r else -1) (hm : ∀ i, i < k → ((n : Int) ∈ ts.getD i [] ↔ f ≤ i ∧ i < f + r)) (hc : ∀ i, f ≤ i → i < f + r → c < (ts.getD i []).length ∧ (ts.getD i []).getD c 0 = (n : Int))
      (hw : ∀ e ∈ es, e.2 = (n : Int) → 0 ≤ (stAt need ts k).fin.getD e.1.toNat 0 ∧ (stAt need ts k).fin.getD e.1.toNat 0 ≤ f)
theorem of_all {es : List (Int × Int)} {need : List Int} {ts : List (List Int)} (hin : ∀ e ∈ es, 0 ≤ e.1 ∧ e.1 < need.length) (hpos : ∀ n : Nat, n < need.length → 1 ≤ need.getD n 0) : ∀ k, k ≤ ts.length → (∀ j, j < k → rowErr es need ts j = 0) → ∀ n, n < need.length → Of es need ts k n
  | 0, _, _, n, hn => by
    have g0 : ∀ x : Int, ∀ i : Nat, i < need.length → (List.replicate need.length x).getD i 0 = x := fun x i hi => by simp [List.getD_eq_getElem?_getD, List.getElem?_replicate, hi]
    refine .idle ?_ ?_ (fun i hi => absurd hi (by omega))
    · show (_, _, (List.replicate need.length (-1 : Int)).getD n 0) = _
      rw [g0 _ n hn]
    · show (List.replicate need.length (0 : Int)).getD n 0 = 0
      rw [g0 _ n hn]
  | k + 1, hk, hv, n, hn => by
    have ih := of_all hin hpos k (by omega) (fun j hj => hv j (by omega))
    have hro : RowOk es need (stAt need ts k) (ts.getD k []) k := row_ok (hv k (by omega))
    have hlen := stAt_len need ts k
    -- fins stay
    have hfin : ∀ m, m < need.length → 0 ≤ (stAt need ts k).fin.getD m 0 → (stAt need ts (k + 1)).fin.getD m 0 = (stAt need ts k).fin.getD m 0 := by
      intro m hm h0
      by_cases hmem : (m : Int) ∈ ts.getD k []
      · exfalso
        obtain ⟨c, hc, e⟩ := mem_getD_row hmem
        have hmore := hro.more m c hc e
        rcases ih m hm with ⟨i1, i2, i3⟩ | ⟨f, r, c', q1, q2, q3, q4, q5, q6, q7, q8, q9⟩
        · have : (stAt need ts k).fin.getD m 0 = -1 := by unfold At at i1; simpa using i1
          omega
        · rw [q6] at h0
          split at h0
          · omega
          · omega
      · have := row_far hro hmem
        unfold At at this
        simp only [Prod.mk.injEq] at this
        exact this.2.2
    by_cases hmem : (n : Int) ∈ ts.getD k []
    · obtain ⟨c, hc, e⟩ := mem_getD_row hmem
      have ha : At (stAt need ts (k + 1)) n = _ := row_at hro hlen hn hc e
      have hmore := hro.more n c hc e
      unfold At at ha
      simp only [Prod.mk.injEq] at ha
      obtain ⟨a1, a2, a3⟩ := ha
      rcases ih n hn with ⟨i1, i2, i3⟩ | ⟨f, r, c', q1, q2, q3, q4, q5, q6, q7, q8, q9⟩
      · have hfr := hro.free n c hc e i2
        have hi1 : (stAt need ts k).fin.getD n 0 = -1 := by unfold At at i1; simpa using i1
        rw [i2] at a1 a3 hmore
        refine .runs k 1 c (by omega) (by omega) (by rw [a1]; rfl) (by have := hpos n hn; omega) (by rw [a2]; congr 1; omega) ?_ (fun i hi => ?_) (fun i h1 h2 => ?_) (fun x hx e2 => ?_)
        · rw [a3, hi1]
          by_cases hq : (0 : Int) + 1 = need.getD n 0
          · rw [if_pos hq, if_pos (by omega)]; omega
          · rw [if_neg hq, if_neg (by omega)]
        · by_cases hik : i = k
          · subst hik; exact ⟨fun _ => by omega, fun _ => hmem⟩
          · exact ⟨fun h => absurd h (i3 i (by omega)), fun h => by omega⟩
        · obtain rfl : i = k := by omega
          exact ⟨hc, e⟩
        · unfold freeB at hfr
          simp only [Bool.not_eq_true', List.any_eq_false] at hfr
          have := hfr x hx
          unfold waitE doneB at this
          rw [e2] at this
          simp at this
          have hx1 := hin x hx
          have hf := hfin x.1.toNat (by omega) this.1
          rw [hf]
          exact this
      · have hsame := hro.same n c hc e (by rw [q3]; omega)
        rw [q5] at hsame
        simp only [Prod.mk.injEq] at hsame
        have hk2 : f + r = k := by omega
        have hcc : c' = c := by omega
        subst hcc
        rw [q3] at a1 a3 hmore
        refine .runs f (r + 1) c' (by omega) (by omega) (by rw [a1]; rfl) (by omega) (by rw [a2]; congr 1; omega) ?_ (fun i hi => ?_) (fun i h1 h2 => ?_) (fun x hx e2 => ?_)
        · rw [a3, q6, if_neg (by omega : ¬ (r : Int) = need.getD n 0)]
          by_cases hq : (r : Int) + 1 = need.getD n 0
          · rw [if_pos hq, if_pos (by omega)]; omega
          · rw [if_neg hq, if_neg (by omega)]
        · by_cases hik : i = k
          · subst hik; exact ⟨fun _ => by omega, fun _ => hmem⟩
          · rw [q7 i (by omega)]; omega
        · by_cases hik : i = k
          · subst hik; exact ⟨hc, e⟩
          · exact q8 i h1 (by omega)
        · obtain ⟨w1, w2⟩ := q9 x hx e2
          have hx1 := hin x hx
          rw [hfin x.1.toNat (by omega) w1]
          exact ⟨w1, w2⟩
    · have ha : At (stAt need ts (k + 1)) n = At (stAt need ts k) n := row_far hro hmem
      have ha' := ha
      unfold At at ha'
      simp only [Prod.mk.injEq] at ha'
      obtain ⟨a1, a2, a3⟩ := ha'
      rcases ih n hn with ⟨i1, i2, i3⟩ | ⟨f, r, c', q1, q2, q3, q4, q5, q6, q7, q8, q9⟩
      · refine .idle ?_ (a1.trans i2) (fun i hi => ?_)
        · rw [ha, i1, a1, a2]
        · by_cases hik : i = k
          · subst hik; exact hmem
          · exact i3 i (by omega)
      · refine .runs f r c' q1 (by omega) (a1.trans q3) q4 (a2.trans q5) (a3.trans q6) (fun i hi => ?_) q8 (fun x hx e2 => ?_)
        · by_cases hik : i = k
          · subst hik; exact ⟨fun h => absurd h hmem, fun h => by omega⟩
          · exact q7 i (by omega)
        · obtain ⟨w1, w2⟩ := q9 x hx e2
          have hx1 := hin x hx
          rw [hfin x.1.toNat (by omega) w1]
          exact ⟨w1, w2⟩
end SchPlain

set_option linter.unusedVariables false
set_option linter.unusedSimpArgs false
namespace Go.Proofs.Ytmbhjhanafmidaa
open DagPlain SchPlain
theorem sum_set (F : List Int) (i : Nat) (x : Int) (h : i < F.length) : (F.set i x).sum = F.sum + (x - F.getD i 0) := by
  induction F generalizing i with
  | nil => simp at h
  | cons a F ih =>
    cases i with
    | zero => simp only [List.set_cons_zero, List.sum_cons, List.getD_cons_zero]; omega
    | succ i => simp only [List.set_cons_succ, List.sum_cons, List.getD_cons_succ]; have := ih i (by simpa using h); omega
theorem sum_le2 : ∀ (a b : List Int), a.length = b.length → (∀ i : Nat, i < a.length → a.getD i 0 ≤ b.getD i 0) → a.sum ≤ b.sum ∧ (a.sum = b.sum ↔ ∀ i : Nat, i < a.length → a.getD i 0 = b.getD i 0)
  | [], [], _, _ => by simp
  | x :: a, y :: b, h, hl => by
    obtain ⟨ih1, ih2⟩ := sum_le2 a b (by simpa using h) (fun i hi => by simpa using hl (i + 1) (by simpa using hi))
    have h0 : x ≤ y := by simpa using hl 0 (by simp)
    simp only [List.sum_cons]
    refine ⟨by omega, fun e i hi => ?_, fun hall => ?_⟩
    · cases i with
      | zero => simp only [List.getD_cons_zero]; omega
      | succ i => simp only [List.getD_cons_succ]; exact ih2.1 (by omega) i (by simpa using hi)
    · have e0 : x = y := by simpa using hall 0 (by simp)
      have := ih2.2 (fun i hi => by simpa using hall (i + 1) (by simpa using hi))
      omega
theorem part_sum {es : List (Int × Int)} {need : List Int} {s : Seen} {row : List Int} {tick : Int} (h : RowOk es need s row tick) (hl : LenS s need.length) : ∀ c, c ≤ row.length → (partRow need s row tick c).ran.sum = s.ran.sum + busyRow (row.take c)
  | 0, _ => by simp [partRow, busyRow]
  | c + 1, hc => by
    have ih := part_sum h hl c (by omega)
    have hin := h.inb c (by omega)
    rw [partRow_next, busyRow_next row c (by omega)]
    unfold runC
    split
    · rw [ih]; omega
    · rename_i hne
      obtain ⟨i, hi⟩ : ∃ i : Nat, row.getD c 0 = (i : Int) := ⟨(row.getD c 0).toNat, by omega⟩
      have hll := (hl.part need row tick c).1
      rw [hi]
      show ((partRow need s row tick c).ran.set (i : Int).toNat ((partRow need s row tick c).ran.getD (i : Int).toNat 0 + 1)).sum = _
      rw [Int.toNat_natCast, sum_set _ _ _ (by omega), ih]
      omega
theorem ran_sum {es : List (Int × Int)} {need : List Int} {ts : List (List Int)} : ∀ k, k ≤ ts.length → (∀ j, j < k → rowErr es need ts j = 0) → (stAt need ts k).ran.sum = busyL (ts.take k)
  | 0, _, _ => by
    have : ∀ n : Nat, (List.replicate n (0 : Int)).sum = 0 := fun n => by induction n with
      | zero => rfl
      | succ n ih => rw [List.replicate_succ, List.sum_cons, ih]; rfl
    show (List.replicate need.length (0 : Int)).sum = _
    rw [this]
    simp [busyL]
  | k + 1, hk, hv => by
    have ih := ran_sum k (by omega) (fun j hj => hv j (by omega))
    have hro : RowOk es need (stAt need ts k) (ts.getD k []) k := row_ok (hv k (by omega))
    have := part_sum hro (stAt_len need ts k) _ (Nat.le_refl _)
    rw [partRow_all, List.take_length, ih] at this
    rw [busyL_next ts k (by omega)]
    exact this
/-- What a schedule that may be brings with it. -/
structure Valid (l : List Int) (es : List (Int × Int)) (need : List Int) (cores : Int) (ts : List (List Int)) : Prop where
  zd : checkL l es = 0
  rb : rightB l need cores = true
  len : ts.length ≤ 4096
  rows : ∀ r ∈ ts, (r.length : Int) = cores
  ok : ∀ j, j < ts.length → rowErr es need ts j = 0
theorem valid_of {l : List Int} {es : List (Int × Int)} {need : List Int} {cores : Int} {ts : List (List Int)} (h : lookR l es need cores ts = 0) : Valid l es need cores ts := by
  unfold lookR at h
  by_cases hz : checkL l es = 0
  · rw [if_neg (by rw [hz]; simp)] at h
    by_cases hf : formB l need cores ts = false
    · rw [if_pos hf] at h; cases h
    · rw [if_neg hf] at h
      have hf2 : formB l need cores ts = true := by simpa using hf
      rw [form_longB] at hf2
      simp only [Bool.and_eq_true, decide_eq_true_eq, Bool.not_eq_true'] at hf2
      exact ⟨hz, hf2.1.1, hf2.1.2, rows_len hf2.2, lookE_zero h⟩
  · rw [if_pos hz] at h
    exact absurd h hz
section
variable {l : List Int} {es : List (Int × Int)} {need : List Int} {cores : Int} {ts : List (List Int)}
theorem Valid.pos (h : Valid l es need cores ts) : ∀ n : Nat, n < need.length → 1 ≤ need.getD n 0 ∧ need.getD n 0 ≤ 1000 := fun n hn => by
  obtain ⟨-, -, h2⟩ := right_cores h.rb
  rw [List.getD_eq_getElem?_getD, List.getElem?_eq_getElem hn]
  exact h2 _ (List.getElem_mem hn)
theorem Valid.of (h : Valid l es need cores ts) (k : Nat) (hk : k ≤ ts.length) (n : Nat) (hn : n < need.length) : Of es need ts k n :=
  of_all (look_in h.zd h.rb) (fun n hn => (h.pos n hn).1) k hk (fun j hj => h.ok j (by omega)) n hn
theorem ran_fin (h : Valid l es need cores ts) (k : Nat) (hk : k ≤ ts.length) (n : Nat) (hn : n < need.length) : 0 ≤ (stAt need ts k).ran.getD n 0 ∧ (stAt need ts k).ran.getD n 0 ≤ need.getD n 0 ∧ ((stAt need ts k).ran.getD n 0 = need.getD n 0 ↔ 0 ≤ (stAt need ts k).fin.getD n 0) ∧ (stAt need ts k).fin.getD n 0 ≤ k ∧ -1 ≤ (stAt need ts k).fin.getD n 0 := by
  have hp := (h.pos n hn).1
  rcases h.of k hk n hn with ⟨i1, i2, i3⟩ | ⟨f, r, c', q1, q2, q3, q4, q5, q6, q7, q8, q9⟩
  · have : (stAt need ts k).fin.getD n 0 = -1 := by unfold At at i1; simpa using i1
    rw [i2, this]
    omega
  · rw [q3, q6]
    split
    · omega
    · omega
end
end Go.Proofs.Ytmbhjhanafmidaa

set_option linter.unusedVariables false
set_option linter.unusedSimpArgs false
namespace Go.Proofs.Ytmbhjhanafmidaa
open Go.RowKit Go.Sort
open DagPlain SchPlain
open Go.Proofs.YtmbhjhanafmidaaW.PrintWords
section
variable {l : List Int} {es : List (Int × Int)} {need : List Int} {cores : Int} {ts : List (List Int)}
theorem fin_of {k n : Nat} (h : Of es need ts k n) (h0 : 0 ≤ (stAt need ts k).fin.getD n 0) : ∃ f r : Nat, 0 < r ∧ f + r ≤ k ∧ (r : Int) = need.getD n 0 ∧ (stAt need ts k).fin.getD n 0 = (f : Int) + r ∧ ∀ i, i < k → ((n : Int) ∈ ts.getD i [] ↔ f ≤ i ∧ i < f + r) := by
  rcases h with ⟨i1, i2, i3⟩ | ⟨f, r, c', q1, q2, q3, q4, q5, q6, q7, q8, q9⟩
  · have : (stAt need ts k).fin.getD n 0 = -1 := by unfold SchPlain.At at i1; simpa using i1
    omega
  · rw [q6] at h0
    split at h0
    · rename_i e
      exact ⟨f, r, q1, q2, e, by rw [q6, if_pos e], q7⟩
    · omega
theorem fin_later (h : Valid l es need cores ts) {j k n : Nat} (hjk : j ≤ k) (hk : k ≤ ts.length) (hn : n < need.length) (h0 : 0 ≤ (stAt need ts j).fin.getD n 0) : (stAt need ts k).fin.getD n 0 = (stAt need ts j).fin.getD n 0 := by
  obtain ⟨f, r, p1, p2, p3, p4, p5⟩ := fin_of (h.of j (by omega) n hn) h0
  have hf : (n : Int) ∈ ts.getD f [] := (p5 f (by omega)).2 ⟨Nat.le_refl _, by omega⟩
  have hl : (n : Int) ∈ ts.getD (f + r - 1) [] := (p5 _ (by omega)).2 ⟨by omega, by omega⟩
  rcases h.of k hk n hn with ⟨i1, i2, i3⟩ | ⟨f', r', c', q1, q2, q3, q4, q5, q6, q7, q8, q9⟩
  · exact absurd hf (i3 f (by omega))
  · have a1 := (q7 f (by omega)).1 hf
    have a2 := (q7 _ (by omega)).1 hl
    have e : f' = f := by
      rcases Nat.lt_or_ge f' f with hlt | hge
      · have := (q7 f' (by omega)).2 ⟨Nat.le_refl _, by omega⟩
        have := (p5 f' (by omega)).1 this
        omega
      · omega
    subst e
    have : r' = r := by omega
    subst this
    rw [q6, p4, if_pos p3]
theorem fin_early (h : Valid l es need cores ts) {j k n : Nat} (hjk : j ≤ k) (hk : k ≤ ts.length) (hn : n < need.length) (h0 : 0 ≤ (stAt need ts k).fin.getD n 0) (h1 : (stAt need ts k).fin.getD n 0 ≤ j) : (stAt need ts j).fin.getD n 0 = (stAt need ts k).fin.getD n 0 := by
  obtain ⟨f, r, p1, p2, p3, p4, p5⟩ := fin_of (h.of k hk n hn) h0
  rw [p4] at h1
  have hf : (n : Int) ∈ ts.getD f [] := (p5 f (by omega)).2 ⟨Nat.le_refl _, by omega⟩
  have hl : (n : Int) ∈ ts.getD (f + r - 1) [] := (p5 _ (by omega)).2 ⟨by omega, by omega⟩
  rcases h.of j (by omega) n hn with ⟨i1, i2, i3⟩ | ⟨f', r', c', q1, q2, q3, q4, q5, q6, q7, q8, q9⟩
  · exact absurd hf (i3 f (by omega))
  · have a1 := (q7 f (by omega)).1 hf
    have a2 := (q7 _ (by omega)).1 hl
    have e : f' = f := by
      rcases Nat.lt_or_ge f' f with hlt | hge
      · have := (q7 f' (by omega)).2 ⟨Nat.le_refl _, by omega⟩
        have := (p5 f' (by omega)).1 this
        omega
      · omega
    subst e
    have : r' = r := by omega
    subst this
    rw [q6, p4, if_pos p3]
end
end Go.Proofs.Ytmbhjhanafmidaa

set_option linter.unusedVariables false
set_option linter.unusedSimpArgs false
namespace Go.Proofs.Ytmbhjhanafmidaa
open DagPlain SchPlain
def idleAt (ts : List (List Int)) (i : Nat) : Bool := (ts.getD i []).contains (-1)
/-- How many rows ahead of a tick have an idle core. -/
def idles (ts : List (List Int)) : Nat → Nat
  | 0 => 0
  | k + 1 => idles ts k + if idleAt ts k = true then 1 else 0
theorem idles_mono (ts : List (List Int)) (j : Nat) : ∀ d, idles ts j ≤ idles ts (j + d) ∧ idles ts (j + d) ≤ idles ts j + d
  | 0 => ⟨Nat.le_refl _, Nat.le_refl _⟩
  | d + 1 => by
    have := idles_mono ts j d
    have e : idles ts (j + (d + 1)) = idles ts (j + d) + if idleAt ts (j + d) = true then 1 else 0 := rfl
    rw [e]
    split <;> omega
theorem idles_last (ts : List (List Int)) : ∀ b, idles ts b = 0 ∨ ∃ i, i < b ∧ idleAt ts i = true ∧ idles ts b = idles ts (i + 1)
  | 0 => .inl rfl
  | b + 1 => by
    by_cases h : idleAt ts b = true
    · exact .inr ⟨b, by omega, h, rfl⟩
    · have e : idles ts (b + 1) = idles ts b := by show idles ts b + _ = _; rw [if_neg h]; rfl
      rw [e]
      rcases idles_last ts b with h0 | ⟨i, h1, h2, h3⟩
      · exact .inl h0
      · exact .inr ⟨i, by omega, h2, h3⟩
section
variable {l : List Int} {es : List (Int × Int)} {need : List Int} {cores : Int} {ts : List (List Int)}
/-- By when a node is done. -/
def E_ (need : List Int) (ts : List (List Int)) (n : Nat) : Int := (stAt need ts ts.length).fin.getD n 0
theorem node_of (h : Valid l es need cores ts) (hall : ∀ n : Nat, n < need.length → 0 ≤ E_ need ts n) {n : Nat} (hn : n < need.length) :
    ∃ f r : Nat, 0 < r ∧ f + r ≤ ts.length ∧ (r : Int) = need.getD n 0 ∧ E_ need ts n = (f : Int) + r ∧ (∀ i, i < ts.length → ((n : Int) ∈ ts.getD i [] ↔ f ≤ i ∧ i < f + r)) ∧ ∀ e ∈ es, e.2 = (n : Int) → E_ need ts e.1.toNat ≤ f := by
  have h0 := hall n hn
  unfold E_ at h0 ⊢
  rcases h.of _ (Nat.le_refl _) n hn with ⟨i1, i2, i3⟩ | ⟨f, r, c', q1, q2, q3, q4, q5, q6, q7, q8, q9⟩
  · have : (stAt need ts ts.length).fin.getD n 0 = -1 := by unfold SchPlain.At at i1; simpa using i1
    omega
  · rw [q6] at h0
    split at h0
    · rename_i e
      exact ⟨f, r, q1, q2, e, by rw [q6, if_pos e], q7, fun x hx e2 => (q9 x hx e2).2⟩
    · omega
theorem greedy_at (h : Valid l es need cores ts) (hg : greedyL l es need cores ts = true) {i n : Nat} (hi : i < ts.length) (hn : n < need.length) : lazyN es (stAt need ts i) (ts.getD i []) i n = false := by
  unfold greedyL at hg
  rw [Bool.and_eq_true, List.all_eq_true] at hg
  have := hg.2 i (by simpa using hi)
  unfold greedyAt at this
  simp only [Bool.not_eq_true', List.any_eq_false] at this
  simpa using this n (by simpa using hn)
/-- An idle core ahead of a node's beginning: the node waits for somebody who isn't done. -/
theorem waits (h : Valid l es need cores ts) (hg : greedyL l es need cores ts = true) (hall : ∀ n : Nat, n < need.length → 0 ≤ E_ need ts n) {n f r i : Nat} (hn : n < need.length) (hf : f + r ≤ ts.length) (hm : ∀ i, i < ts.length → ((n : Int) ∈ ts.getD i [] ↔ f ≤ i ∧ i < f + r)) (hi : i < f) (hid : idleAt ts i = true) :
    ∃ e ∈ es, e.2 = (n : Int) ∧ (i : Int) < E_ need ts e.1.toNat := by
  have hit : i < ts.length := by omega
  have hl := greedy_at h hg hit hn
  have hr0 : (stAt need ts i).ran.getD n 0 = 0 := by
    rcases h.of i (by omega) n hn with ⟨i1, i2, i3⟩ | ⟨f', r', c', q1, q2, q3, q4, q5, q6, q7, q8, q9⟩
    · exact i2
    · have := (q7 f' (by omega)).2 ⟨Nat.le_refl _, by omega⟩
      have := (hm f' (by omega)).1 this
      omega
  have hnr : (ts.getD i []).contains (n : Int) = false := by
    rw [Bool.eq_false_iff]
    intro hc
    rw [List.contains_iff_mem] at hc
    have := (hm i hit).1 hc
    omega
  unfold idleAt at hid
  unfold lazyN at hl
  rw [hr0, hid, hnr] at hl
  simp only [beq_self_eq_true, Bool.true_and, Bool.not_false] at hl
  unfold freeB at hl
  simp only [Bool.not_eq_false', List.any_eq_true] at hl
  obtain ⟨e, he, hw⟩ := hl
  unfold waitE at hw
  simp only [Bool.and_eq_true, beq_iff_eq, Bool.not_eq_true'] at hw
  refine ⟨e, he, hw.1, ?_⟩
  have hin := look_in h.zd h.rb e he
  rcases Int.lt_or_le (i : Int) (E_ need ts e.1.toNat) with h1 | h1
  · exact h1
  · exfalso
    have h2 := hall e.1.toNat (by omega)
    have h3 := fin_early h (j := i) (Nat.le_of_lt hit) (Nat.le_refl _) (by omega : e.1.toNat < need.length) h2 h1
    have h4 := hw.2
    unfold doneB at h4
    unfold E_ at h1 h2
    rw [h3, decide_eq_true h2, decide_eq_true h1] at h4
    cases h4
theorem idles_far (h : Valid l es need cores ts) (hg : greedyL l es need cores ts = true) (hall : ∀ n : Nat, n < need.length → 0 ≤ E_ need ts n) (hzn : checkL need es = 0) : ∀ (m n : Nat), E_ need ts n ≤ m → n < need.length → (idles ts (E_ need ts n).toNat : Int) ≤ (farL need es).getD n 0
  | 0, n, hm, hn => by
    obtain ⟨f, r, p1, p2, p3, p4, p5, p6⟩ := node_of h hall hn
    omega
  | m + 1, n, hm, hn => by
    obtain ⟨f, r, p1, p2, p3, p4, p5, p6⟩ := node_of h hall hn
    obtain ⟨⟨mm, f1, f2, f3, f4⟩, -⟩ := far_at hzn (n : Int) (by omega)
    simp only [Int.toNat_natCast] at f1
    have e : (E_ need ts n).toNat = f + r := by omega
    have hmo := idles_mono ts f r
    have hif : (idles ts f : Int) ≤ mm := by
      rcases idles_last ts f with h0 | ⟨i, h1, h2, h3⟩
      · rw [h0]; exact f2
      · obtain ⟨x, hx, hx2, hx3⟩ := waits h hg hall hn p2 p5 h1 h2
        have hin := look_in h.zd h.rb x hx
        have hE := p6 x hx hx2
        have ih := idles_far h hg hall hzn m x.1.toNat (by omega) (by omega)
        have hp : x.1 ∈ predL (n : Int) es := mem_predL.2 (by rw [← hx2]; exact hx)
        have := f3 _ hp
        have hmono := (idles_mono ts (i + 1) ((E_ need ts x.1.toNat).toNat - (i + 1))).1
        rw [show i + 1 + ((E_ need ts x.1.toNat).toNat - (i + 1)) = (E_ need ts x.1.toNat).toNat by omega] at hmono
        omega
    rw [e, f1]
    omega
theorem idle_busy (h : Valid l es need cores ts) (hg : greedyL l es need cores ts = true) (hall : ∀ n : Nat, n < need.length → 0 ≤ E_ need ts n) : ∀ (m n : Nat), E_ need ts n ≤ m → n < need.length → ∀ i : Nat, (i : Int) < E_ need ts n → idleAt ts i = true → 1 ≤ busyRow (ts.getD i [])
  | 0, n, hm, hn, i, hi, hid => by omega
  | m + 1, n, hm, hn, i, hi, hid => by
    obtain ⟨f, r, p1, p2, p3, p4, p5, p6⟩ := node_of h hall hn
    by_cases hif : i < f
    · obtain ⟨x, hx, hx2, hx3⟩ := waits h hg hall hn p2 p5 hif hid
      have hin := look_in h.zd h.rb x hx
      have hE := p6 x hx hx2
      exact idle_busy h hg hall m x.1.toNat (by omega) (by omega) i hx3 hid
    · have hmem := (p5 i (by omega)).2 ⟨by omega, by omega⟩
      unfold busyRow
      have : (n : Int) ∈ (ts.getD i []).filter (· != -1) := List.mem_filter.2 ⟨hmem, by simp⟩
      have := List.length_pos_of_mem this
      omega
theorem far_end (h : Valid l es need cores ts) (hall : ∀ n : Nat, n < need.length → 0 ≤ E_ need ts n) (hzn : checkL need es = 0) : ∀ (m n : Nat), E_ need ts n ≤ m → n < need.length → (farL need es).getD n 0 ≤ E_ need ts n
  | 0, n, hm, hn => by
    obtain ⟨f, r, p1, p2, p3, p4, p5, p6⟩ := node_of h hall hn
    omega
  | m + 1, n, hm, hn => by
    obtain ⟨f, r, p1, p2, p3, p4, p5, p6⟩ := node_of h hall hn
    obtain ⟨⟨mm, f1, f2, f3, f4⟩, -⟩ := far_at hzn (n : Int) (by omega)
    simp only [Int.toNat_natCast] at f1
    rw [f1]
    rcases f4 with f4 | ⟨q, hq, f4⟩
    · omega
    · have hx := mem_predL.1 hq
      have hin : 0 ≤ q ∧ q < need.length := look_in h.zd h.rb _ hx
      have hE : E_ need ts q.toNat ≤ f := p6 _ hx rfl
      have ih := far_end h hall hzn m q.toNat (by omega) (by omega)
      omega
theorem busy_full {row : List Int} (h : row.contains (-1) = false) : busyRow row = row.length := by
  unfold busyRow
  rw [List.filter_eq_self.2]
  intro x hx
  simp only [bne_iff_ne, ne_eq]
  rintro rfl
  rw [Bool.eq_false_iff] at h
  exact h (by rw [List.contains_iff_mem]; exact hx)
theorem ticks_le (hc : 1 ≤ cores) (hr : ∀ r ∈ ts, (r.length : Int) = cores) : ∀ b, b ≤ ts.length → (∀ i, i < b → idleAt ts i = true → 1 ≤ busyRow (ts.getD i [])) → cores * (b : Int) ≤ busyL (ts.take b) + (cores - 1) * (idles ts b : Int)
  | 0, _, _ => by simp [busyL, idles]
  | b + 1, hb, hi => by
    have ih := ticks_le hc hr b (by omega) (fun i h1 h2 => hi i (by omega) h2)
    rw [busyL_next ts b (by omega)]
    have hl := hr _ (mem_getDL (by omega : b < ts.length))
    have e1 : cores * ((b + 1 : Nat) : Int) = cores * (b : Int) + cores := by rw [Int.natCast_add, Int.mul_add]; simp
    have e2 : (idles ts (b + 1) : Int) = (idles ts b : Int) + if idleAt ts b = true then 1 else 0 := by
      show ((idles ts b + if idleAt ts b = true then 1 else 0 : Nat) : Int) = _
      split <;> simp
    rw [e1, e2]
    by_cases hid : idleAt ts b = true
    · rw [if_pos hid, Int.mul_add]
      have := hi b (by omega) hid
      omega
    · rw [if_neg hid, Int.add_zero]
      have hbf := busy_full (row := ts.getD b []) (by unfold idleAt at hid; simpa using hid)
      omega
/-- GRAHAM: so many ticks; and at least the longest way's. -/
theorem graham (h : Valid l es need cores ts) (hg : greedyL l es need cores ts = true) (hall : ∀ n : Nat, n < need.length → 0 ≤ E_ need ts n) {last : Int} (hmax : ∀ n : Nat, n < need.length → E_ need ts n ≤ last) (hsome : last = 0 ∨ ∃ n, n < need.length ∧ last = E_ need ts n) :
    cores * last ≤ totL need es + (cores - 1) * longL need es ∧ longL need es ≤ last := by
  have hzn := check_need h.zd h.rb
  obtain ⟨⟨hc1, hc8⟩, -, -⟩ := right_cores h.rb
  have ht : totL need es = need.sum := by unfold totL; rw [if_pos hzn]
  have hbi := bound_in hzn
  have h0 : 0 ≤ last := by
    rcases hsome with h1 | ⟨n, h1, h2⟩
    · omega
    · rw [h2]; exact hall n h1
  constructor
  · rcases hsome with h1 | ⟨n, h1, h2⟩
    · rw [h1, Int.mul_zero]
      have := Int.mul_nonneg (by omega : 0 ≤ cores - 1) hbi.2.1
      omega
    · obtain ⟨f, r, p1, p2, p3, p4, p5, p6⟩ := node_of h hall h1
      have hb := ticks_le hc1 h.rows (E_ need ts n).toNat (by omega) (fun i h3 h4 => idle_busy h hg hall (E_ need ts n).toNat n (by omega) h1 i (by omega) h4)
      have hfar := idles_far h hg hall hzn (E_ need ts n).toNat n (by omega) h1
      have hlong := (far_at hzn (n : Int) (by omega)).2
      simp only [Int.toNat_natCast] at hlong
      have hrs := ran_sum (es := es) (need := need) (ts := ts) (E_ need ts n).toNat (by omega) (fun j hj => h.ok j (by omega))
      have hle := (sum_le2 (stAt need ts (E_ need ts n).toNat).ran need (stAt_len need ts _).1 (fun i hi => (ran_fin h _ (by omega) i (by rw [(stAt_len need ts _).1] at hi; exact hi)).2.1)).1
      have hmul : (cores - 1) * (idles ts (E_ need ts n).toNat : Int) ≤ (cores - 1) * longL need es := Int.mul_le_mul_of_nonneg_left (by omega) (by omega)
      rw [show ((E_ need ts n).toNat : Int) = last by omega] at hb
      omega
  · obtain ⟨hl0, hl⟩ := long_some hzn
    rcases hl with hl | ⟨j, hj, hl⟩
    · omega
    · obtain ⟨g1, g2, g3, g4⟩ := ordL_good hzn
      have hm := g3 _ (getD_mem _ _ hj)
      have hfe := far_end h hall hzn (E_ need ts ((ordL need es).getD j 0).toNat).toNat ((ordL need es).getD j 0).toNat (by have := hall ((ordL need es).getD j 0).toNat (by omega); omega) (by omega)
      have := hmax ((ordL need es).getD j 0).toNat (by omega)
      omega
end
end Go.Proofs.Ytmbhjhanafmidaa

set_option linter.unusedVariables false
set_option linter.unusedSimpArgs false
namespace Go.Proofs.Ytmbhjhanafmidaa
open Go.RowKit Go.Sort
open DagPlain SchPlain
theorem right1 {l need : List Int} {es : List (Int × Int)} (h : lookR l es need 1 [] = 0) : checkL l es = 0 ∧ rightB l need 1 = true := by
  have := valid_of h
  exact ⟨this.zd, this.rb⟩
theorem right_at {l need : List Int} (h : rightB l need 1 = true) (k : Int) (h1 : 1 ≤ k) (h2 : k ≤ 8) : rightB l need k = true := by
  unfold rightB at h ⊢
  simp only [Bool.and_eq_true, decide_eq_true_eq] at h ⊢
  exact ⟨⟨h.1.1, h1⟩, h2⟩
theorem bound_at {l need : List Int} {es : List (Int × Int)} (hz : checkL l es = 0) (h : rightB l need 1 = true) (k : Int) (h1 : 1 ≤ k) (h2 : k ≤ 8) : boundL l es need k = (totL need es + (k - 1) * longL need es) / k := by
  unfold boundL rightR
  rw [hz, right_at h k h1 h2]; rfl
end Go.Proofs.Ytmbhjhanafmidaa

set_option linter.unusedVariables false
set_option maxRecDepth 100000
set_option linter.unusedSimpArgs false
namespace Go.Proofs.Ytmbhjhanafmidaa
open Go.RowKit Go.Sort Go.Joins Go.Deep Go.ChangeShapes Go.WideShapes
open Go.Proofs.YtmbhjhanafmidaaW.PrintWords
def NeedIn (w : World) (A : Option Addr) (c : Nat) (l : List Int) : Prop := l.length ≤ c ∧ ReadsInt w .i64 A l.length l ∧ ∀ x ∈ l, I64 x
theorem open_need {H : Type} {enc : TypeId × Value → H} {w : World} {base b0 : Nat} {sp : Nat → Bool} {held : Bool} {v : Value} {d : DataW H} {p : List MemPlace} (hv : Value.okWide Try.prog w .any b0 22 v) (h : DataW.Trod enc Try.prog w base sp held 22 v d p) :
    ∃ A c l, v = .slice A l.length c ∧ NeedIn w A c l := by
  obtain ⟨a, len, cap, rfl⟩ := okWide_slice Try.underlying22 hv
  obtain ⟨m, hm⟩ := h
  obtain ⟨A, c, l, e, h1, h2, h3⟩ := trod_ints (v := .slice a len cap) hm
  exact ⟨A, c, l, e, h1, h2, h3⟩
end Go.Proofs.Ytmbhjhanafmidaa
