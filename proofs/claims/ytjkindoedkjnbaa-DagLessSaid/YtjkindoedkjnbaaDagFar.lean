/- The longest way: what dag.Long comes to. Plain Lean. -/
import Derived.Test.YtjkindoedkjnbaaDagCycle
set_option linter.unusedVariables false
set_option linter.unusedSimpArgs false
namespace Go.Proofs.Ytjkindoedkjnbaa
open DagPlain

theorem fold_len (x : Int) : ∀ (ps : List Int) (F : List Int), (ps.foldl (stepP x) F).length = F.length
  | [], F => rfl
  | p :: ps, F => by
    rw [List.foldl_cons, fold_len x ps]
    unfold stepP
    rw [List.length_set]
theorem fold_spec (x : Int) (n : Nat) (hx : x.toNat < n) : ∀ (ps : List Int) (F : List Int), F.length = n → (∀ p ∈ ps, p.toNat ≠ x.toNat) →
    (∀ v : Nat, v ≠ x.toNat → (ps.foldl (stepP x) F).getD v 0 = F.getD v 0) ∧ F.getD x.toNat 0 ≤ (ps.foldl (stepP x) F).getD x.toNat 0 ∧ (∀ p ∈ ps, F.getD p.toNat 0 ≤ (ps.foldl (stepP x) F).getD x.toNat 0) ∧
    ((ps.foldl (stepP x) F).getD x.toNat 0 = F.getD x.toNat 0 ∨ ∃ p ∈ ps, (ps.foldl (stepP x) F).getD x.toNat 0 = F.getD p.toNat 0)
  | [], F, hl, _ => ⟨fun _ _ => rfl, Int.le_refl _, fun p hp => by simp at hp, .inl rfl⟩
  | p :: ps, F, hl, hne => by
    have hl1 : (stepP x F p).length = n := by unfold stepP; rw [List.length_set]; exact hl
    obtain ⟨h1, h2, h3, h4⟩ := fold_spec x n hx ps (stepP x F p) hl1 (fun q hq => hne q (List.mem_cons_of_mem _ hq))
    have hx1 : (stepP x F p).getD x.toNat 0 = max (F.getD x.toNat 0) (F.getD p.toNat 0) := by unfold stepP; rw [getD_set, if_pos ⟨rfl, by omega⟩]
    have hv1 : ∀ v : Nat, v ≠ x.toNat → (stepP x F p).getD v 0 = F.getD v 0 := fun v hv => by unfold stepP; rw [getD_set, if_neg (fun h => hv h.1.symm)]
    rw [List.foldl_cons]
    rw [hx1] at h2 h4
    refine ⟨fun v hv => by rw [h1 v hv, hv1 v hv], by omega, fun q hq => ?_, ?_⟩
    · rcases List.mem_cons.1 hq with rfl | hq
      · omega
      · have := h3 q hq
        rw [hv1 _ (hne q (List.mem_cons_of_mem _ hq))] at this
        exact this
    · rcases h4 with h4 | ⟨q, hq, h4⟩
      · rcases Int.le_total (F.getD p.toNat 0) (F.getD x.toNat 0) with h | h
        · exact .inl (by omega)
        · exact .inr ⟨p, by simp, by omega⟩
      · rw [hv1 _ (hne q (List.mem_cons_of_mem _ hq))] at h4
        exact .inr ⟨q, List.mem_cons_of_mem _ hq, h4⟩

/-- What is told of a node that is done. -/
def FarAt (l : List Int) (es : List (Int × Int)) (F : List Int) (x : Int) : Prop :=
  ∃ m, F.getD x.toNat 0 = m + l.getD x.toNat 0 ∧ 0 ≤ m ∧ (∀ p ∈ predL x es, F.getD p.toNat 0 ≤ m) ∧ (m = 0 ∨ ∃ p ∈ predL x es, m = F.getD p.toNat 0)
def FarInv (l : List Int) (es : List (Int × Int)) (r : List Int) (k : Nat) (s : List Int × Int) : Prop :=
  s.1.length = l.length ∧ (∀ j, j < k → FarAt l es s.1 (r.getD j 0)) ∧ (∀ v : Nat, (∀ j, j < k → r.getD j 0 ≠ (v : Int)) → s.1.getD v 0 = 0) ∧ (∀ j, j < k → s.1.getD (r.getD j 0).toNat 0 ≤ s.2) ∧ (s.2 = 0 ∨ ∃ j, j < k ∧ s.2 = s.1.getD (r.getD j 0).toNat 0) ∧ 0 ≤ s.2
theorem far_run {l : List Int} {es : List (Int × Int)} (hz : checkL l es = 0) : ∀ k, k ≤ (ordL l es).length → FarInv l es (ordL l es) k (((ordL l es).take k).foldl (stepN l es) (List.replicate l.length 0, 0))
  | 0, _ => ⟨by simp, fun j hj => absurd hj (by omega), fun v _ => by simp [List.getD_eq_getElem?_getD, List.getElem?_replicate]; split <;> rfl, fun j hj => absurd hj (by omega), .inl rfl, Int.le_refl _⟩
  | k + 1, hk => by
    obtain ⟨g1, g2, g3, g4⟩ := ordL_good hz
    obtain ⟨i1, i2, i3, i4, i5, i6⟩ := far_run hz k (by omega)
    rw [foldl_snoc _ _ _ _ (by omega)]
    generalize ((ordL l es).take k).foldl (stepN l es) (List.replicate l.length 0, 0) = s at *
    obtain ⟨F, mo⟩ := s
    dsimp only at i1 i2 i3 i4 i5 i6
    generalize hr : ordL l es = r at *
    have hxr := g3 _ (getD_mem r k (by omega))
    have hne : ∀ j, j < k → r.getD j 0 ≠ r.getD k 0 := fun j hj e => by have := nodup_getD g1.1 (by omega) (by omega) e; omega
    have hpre : ∀ j, j ≤ k → ∀ p ∈ predL (r.getD j 0) es, ∃ i, i < j ∧ r.getD i 0 = p := fun j hj p hp => by
      obtain ⟨i, hi, e⟩ := g1.2 j (by omega) _ (mem_predL.1 hp) rfl
      exact ⟨i, hi, e⟩
    have hnn : ∀ j, j < r.length → 0 ≤ r.getD j 0 ∧ r.getD j 0 < l.length := fun j hj => g3 _ (getD_mem r j hj)
    have htn : ∀ j, j < k → (r.getD j 0).toNat ≠ (r.getD k 0).toNat := fun j hj e => by
      have h1 := hnn j (by omega)
      have h2 := hnn k (by omega)
      exact hne j hj (by omega)
    have hfs := fold_spec (r.getD k 0) l.length (by omega) (predL (r.getD k 0) es) F i1 (fun p hp => by
      obtain ⟨i, hi, e⟩ := hpre k (Nat.le_refl _) p hp
      rw [← e]; exact htn i hi)
    have hln := fold_len (r.getD k 0) (predL (r.getD k 0) es) F
    have hx0 : F.getD (r.getD k 0).toNat 0 = 0 := i3 _ (fun j hj e => hne j hj (by rw [e]; omega))
    obtain ⟨f1, f2, f3, f4⟩ := hfs
    rw [hx0] at f2 f4
    unfold stepN stepM
    have hSF : stepF l es F (r.getD k 0) = ((predL (r.getD k 0) es).foldl (stepP (r.getD k 0)) F).set (r.getD k 0).toNat (((predL (r.getD k 0) es).foldl (stepP (r.getD k 0)) F).getD (r.getD k 0).toNat 0 + l.getD (r.getD k 0).toNat 0) := rfl
    dsimp only
    generalize stepF l es F (r.getD k 0) = S at *
    generalize (predL (r.getD k 0) es).foldl (stepP (r.getD k 0)) F = G at *
    have hSx : S.getD (r.getD k 0).toNat 0 = G.getD (r.getD k 0).toNat 0 + l.getD (r.getD k 0).toNat 0 := by rw [hSF, getD_set, if_pos ⟨rfl, by omega⟩]
    have hSo : ∀ v : Nat, v ≠ (r.getD k 0).toNat → S.getD v 0 = F.getD v 0 := fun v hv => by rw [hSF, getD_set, if_neg (fun h => hv h.1.symm), f1 v hv]
    have hSl : S.length = l.length := by rw [hSF, List.length_set, hln, i1]
    have hold : ∀ j, j < k → S.getD (r.getD j 0).toNat 0 = F.getD (r.getD j 0).toNat 0 := fun j hj => hSo _ (htn j hj)
    have hw : 0 ≤ l.getD (r.getD k 0).toNat 0 := by
      have := (ordL_in (l := l) (es := es) (by rw [hr]; intro h; rw [h] at hk; simp at hk)).2.2.2 (r.getD k 0).toNat
      omega
    refine ⟨hSl, fun j hj => ?_, fun v hv => ?_, fun j hj => ?_, ?_, by omega⟩
    · by_cases e : j = k
      · subst e
        refine ⟨G.getD (r.getD j 0).toNat 0, hSx, f2, fun p hp => ?_, ?_⟩
        · obtain ⟨i, hi, e⟩ := hpre j (Nat.le_refl _) p hp
          have := f3 p hp
          rw [← e] at this ⊢
          rw [hold i hi]; exact this
        · rcases f4 with f4 | ⟨p, hp, f4⟩
          · exact .inl f4
          · obtain ⟨i, hi, e⟩ := hpre j (Nat.le_refl _) p hp
            exact .inr ⟨p, hp, by rw [f4, ← e, hold i hi]⟩
      · obtain ⟨m, m1, m2, m3, m4⟩ := i2 j (by omega)
        refine ⟨m, by rw [hold j (by omega)]; exact m1, m2, fun p hp => ?_, ?_⟩
        · obtain ⟨i, hi, e⟩ := hpre j (by omega) p hp
          have := m3 p hp
          rw [← e] at this ⊢
          rw [hold i (by omega)]; exact this
        · rcases m4 with m4 | ⟨p, hp, m4⟩
          · exact .inl m4
          · obtain ⟨i, hi, e⟩ := hpre j (by omega) p hp
            exact .inr ⟨p, hp, by rw [m4, ← e, hold i (by omega)]⟩
    · have hvk := hv k (by omega)
      rw [hSo v (by omega)]
      exact i3 v (fun j hj => hv j (by omega))
    · by_cases e : j = k
      · subst e; dsimp only; omega
      · rw [hold j (by omega)]
        have := i4 j (by omega)
        dsimp only
        omega
    · dsimp only
      rcases Int.le_total (S.getD (r.getD k 0).toNat 0) mo with h | h
      · rcases i5 with i5 | ⟨j, hj, i5⟩
        · exact .inl (by omega)
        · exact .inr ⟨j, by omega, by rw [hold j hj]; omega⟩
      · exact .inr ⟨k, by omega, by omega⟩

/-- The numbers at the end. -/
def farL (l : List Int) (es : List (Int × Int)) : List Int := ((ordL l es).foldl (stepN l es) (List.replicate l.length 0, 0)).1
theorem far_at {l : List Int} {es : List (Int × Int)} (hz : checkL l es = 0) (v : Int) (hv : 0 ≤ v ∧ v < l.length) : FarAt l es (farL l es) v ∧ (farL l es).getD v.toNat 0 ≤ longL l es := by
  obtain ⟨g1, g2, g3, g4⟩ := ordL_good hz
  have h := far_run hz (ordL l es).length (Nat.le_refl _)
  rw [List.take_length] at h
  obtain ⟨i1, i2, i3, i4, i5, i6⟩ := h
  obtain ⟨j, hj, e⟩ := mem_getD (g4 v hv)
  have h2 := i2 j hj
  have h4 := i4 j hj
  rw [e] at h2 h4
  exact ⟨h2, h4⟩
theorem long_some {l : List Int} {es : List (Int × Int)} (hz : checkL l es = 0) : 0 ≤ longL l es ∧ (longL l es = 0 ∨ ∃ j, j < (ordL l es).length ∧ longL l es = (farL l es).getD ((ordL l es).getD j 0).toNat 0) := by
  have h := far_run hz (ordL l es).length (Nat.le_refl _)
  rw [List.take_length] at h
  exact ⟨h.2.2.2.2.2, h.2.2.2.2.1⟩
theorem work_nn {l : List Int} {es : List (Int × Int)} (hz : checkL l es = 0) (i : Nat) : 0 ≤ l.getD i 0 ∧ l.getD i 0 ≤ 1000 := by
  obtain ⟨y1, y2, y3, y4, y5⟩ := ordL_yes hz
  by_cases hi : i < l.length
  · rw [List.getD_eq_getElem?_getD, List.getElem?_eq_getElem hi]
    have := List.any_eq_false.1 y4 l[i] (List.getElem_mem hi)
    unfold oddW at this
    simp at this
    simp
    omega
  · rw [List.getD_eq_getElem?_getD, List.getElem?_eq_none (by omega)]; simp
theorem long_work {l : List Int} {es : List (Int × Int)} (hz : checkL l es = 0) (i : Nat) (hi : i < l.length) : l.getD i 0 ≤ longL l es := by
  obtain ⟨⟨m, m1, m2, _⟩, h⟩ := far_at hz (i : Int) (by omega)
  simp only [Int.toNat_natCast] at m1 h
  omega
theorem long_edge {l : List Int} {es : List (Int × Int)} (hz : checkL l es = 0) (e : Int × Int) (he : e ∈ es) : l.getD e.1.toNat 0 + l.getD e.2.toNat 0 ≤ longL l es := by
  obtain ⟨y1, y2, y3, y4, y5⟩ := ordL_yes hz
  obtain ⟨h1, h2⟩ := oddEs_in y3 e he
  obtain ⟨⟨m, m1, m2, _⟩, _⟩ := far_at hz e.1 h1
  obtain ⟨⟨m', n1, n2, n3, _⟩, hl⟩ := far_at hz e.2 h2
  have := n3 e.1 (mem_predL.2 he)
  omega
theorem sum_perm {l l' : List Int} (h : List.Perm l l') : l.sum = l'.sum := by
  induction h with
  | nil => rfl
  | cons x _ ih => simp only [List.sum_cons, ih]
  | swap x y l => simp only [List.sum_cons]; omega
  | trans _ _ h1 h2 => rw [h1, h2]
theorem sum_range (l : List Int) : ((List.range l.length).map fun i => l.getD i 0).sum = l.sum := by
  congr 1
  apply List.ext_getElem (by simp)
  intro i h1 h2
  simp [List.getD_eq_getElem?_getD, h2]
theorem ord_sum {l : List Int} {es : List (Int × Int)} (hz : checkL l es = 0) : ((ordL l es).map fun v => l.getD v.toNat 0).sum = l.sum := by
  obtain ⟨g1, g2, g3, g4⟩ := ordL_good hz
  rw [← sum_range l]
  have hp : List.Perm ((ordL l es).map Int.toNat) (List.range l.length) := by
    refine (List.perm_ext_iff_of_nodup ?_ List.nodup_range).2 fun a => ?_
    · rw [List.nodup_iff_pairwise_ne, List.pairwise_map]
      refine List.Pairwise.imp_of_mem ?_ (List.nodup_iff_pairwise_ne.1 g1.1)
      intro x y hx hy hne e
      have := g3 x hx
      have := g3 y hy
      exact hne (by omega)
    · rw [List.mem_map, List.mem_range]
      constructor
      · rintro ⟨x, hx, rfl⟩
        have := g3 x hx
        omega
      · intro ha
        exact ⟨(a : Int), g4 a (by omega), by simp⟩
  have := sum_perm (hp.map fun i => l.getD i 0)
  rw [List.map_map] at this
  exact this
theorem sum_snoc' (f : Int → Int) (r : List Int) (k : Nat) (h : k < r.length) : ((r.take (k + 1)).map f).sum = ((r.take k).map f).sum + f (r.getD k 0) := by
  rw [List.getD_eq_getElem?_getD, List.getElem?_eq_getElem h, List.take_add_one, List.getElem?_eq_getElem h]
  simp only [Option.toList_some, List.map_append, List.map_cons, List.map_nil, List.sum_append, List.sum_cons, List.sum_nil, Option.getD_some]
  omega
theorem sum_mono (f : Int → Int) (hf : ∀ v, 0 ≤ f v) (r : List Int) : ∀ (d i : Nat), i + d ≤ r.length → ((r.take i).map f).sum ≤ ((r.take (i + d)).map f).sum
  | 0, i, _ => Int.le_refl _
  | d + 1, i, h => by
    have h1 := sum_mono f hf r d i (by omega)
    have h2 := sum_snoc' f r (i + d) (by omega)
    have h3 := hf (r.getD (i + d) 0)
    rw [show i + (d + 1) = i + d + 1 by omega]
    omega
theorem long_total {l : List Int} {es : List (Int × Int)} (hz : checkL l es = 0) : longL l es ≤ l.sum := by
  obtain ⟨g1, g2, g3, g4⟩ := ordL_good hz
  have hw : ∀ v : Int, 0 ≤ (fun v : Int => l.getD v.toNat 0) v := fun v => (work_nn hz v.toNat).1
  have hpre : ∀ (k j : Nat), j < k → j < (ordL l es).length → (farL l es).getD ((ordL l es).getD j 0).toNat 0 ≤ (((ordL l es).take (j + 1)).map fun v => l.getD v.toNat 0).sum := by
    intro k
    induction k with
    | zero => intro j hj; omega
    | succ k ih =>
      intro j hj hjl
      by_cases e : j < k
      · exact ih j e hjl
      · obtain ⟨⟨m, m1, m2, m3, m4⟩, _⟩ := far_at hz _ (g3 _ (getD_mem _ j hjl))
        rw [sum_snoc' _ _ _ hjl, m1]
        have hs0 := sum_mono _ hw (ordL l es) j 0 (by omega)
        simp only [List.take_zero, List.map_nil, List.sum_nil, Nat.zero_add] at hs0
        rcases m4 with m4 | ⟨p, hp, m4⟩
        · omega
        · obtain ⟨i, hi, e2⟩ := g1.2 j hjl _ (mem_predL.1 hp) rfl
          have h1 := ih i (by omega) (by omega)
          rw [e2] at h1
          have h2 := sum_mono _ hw (ordL l es) (j - (i + 1)) (i + 1) (by omega)
          rw [show i + 1 + (j - (i + 1)) = j by omega] at h2
          dsimp only at h1
          omega
  have htot : (((ordL l es).take (ordL l es).length).map fun v => l.getD v.toNat 0).sum = l.sum := by rw [List.take_length]; exact ord_sum hz
  obtain ⟨_, h | ⟨j, hj, h⟩⟩ := long_some hz
  · have hs0 := sum_mono _ hw (ordL l es) (ordL l es).length 0 (by omega)
    simp only [List.take_zero, List.map_nil, List.sum_nil, Nat.zero_add] at hs0
    rw [h]; omega
  · have h1 := hpre (j + 1) j (by omega) hj
    have h2 := sum_mono _ hw (ordL l es) ((ordL l es).length - (j + 1)) (j + 1) (by omega)
    rw [show j + 1 + ((ordL l es).length - (j + 1)) = (ordL l es).length by omega] at h2
    omega
theorem long_mono {l : List Int} {es es' : List (Int × Int)} (hz : checkL l es = 0) (hz' : checkL l es' = 0) (hs : ∀ e ∈ es, e ∈ es') : longL l es ≤ longL l es' := by
  obtain ⟨g1, g2, g3, g4⟩ := ordL_good hz
  have hle : ∀ (k j : Nat), j < k → j < (ordL l es).length → (farL l es).getD ((ordL l es).getD j 0).toNat 0 ≤ (farL l es').getD ((ordL l es).getD j 0).toNat 0 := by
    intro k
    induction k with
    | zero => intro j hj; omega
    | succ k ih =>
      intro j hj hjl
      by_cases e : j < k
      · exact ih j e hjl
      · have hb := g3 _ (getD_mem _ j hjl)
        obtain ⟨⟨m, m1, m2, m3, m4⟩, _⟩ := far_at hz _ hb
        obtain ⟨⟨m', n1, n2, n3, _⟩, _⟩ := far_at hz' _ hb
        rcases m4 with m4 | ⟨p, hp, m4⟩
        · omega
        · obtain ⟨i, hi, e2⟩ := g1.2 j hjl _ (mem_predL.1 hp) rfl
          have h1 := ih i (by omega) (by omega)
          rw [e2] at h1
          have h2 := n3 p (mem_predL.2 (hs _ (mem_predL.1 hp)))
          dsimp only at h1
          omega
  obtain ⟨_, h | ⟨j, hj, h⟩⟩ := long_some hz
  · have := (long_some hz').1
    omega
  · have h1 := hle (j + 1) j (by omega) hj
    have h2 := (far_at hz' _ (g3 _ (getD_mem _ j hj))).2
    omega
end Go.Proofs.Ytjkindoedkjnbaa
