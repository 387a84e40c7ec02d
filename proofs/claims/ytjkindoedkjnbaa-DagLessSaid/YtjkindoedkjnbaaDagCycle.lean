/- Where no order is found edges lead round; an edge more. Plain Lean. -/
import Derived.Test.YtjkindoedkjnbaaDagPaths
set_option linter.unusedVariables false
set_option linter.unusedSimpArgs false
namespace Go.Proofs.Ytjkindoedkjnbaa
open DagPlain

theorem stuck {n : Nat} {es : List (Int × Int)} : ∀ (g : Nat) (out : List Int), orderGo n es g out = none → out.Nodup → out.length + g = n → ∃ out', out'.Nodup ∧ out'.length < n ∧ next n es out' = none
  | 0, out, h, _, _ => by simp [orderGo] at h
  | g + 1, out, h, hn, hl => by
    simp only [orderGo] at h
    split at h
    · rename_i v hv
      have hf : free es out (v : Int) = true := by unfold next at hv; have := List.find?_some hv; exact this
      refine stuck g _ h ?_ (by simp; omega)
      rw [List.nodup_append]
      refine ⟨hn, by simp, fun a ha b hb => ?_⟩
      rw [List.mem_singleton] at hb
      subst hb
      intro e
      exact (free_out hf).1 (e ▸ ha)
    · rename_i hv
      exact ⟨out, hn, by omega, hv⟩
theorem many_le : ∀ (n : Nat) (out : List Int), out.Nodup → (∀ v : Nat, v < n → (v : Int) ∈ out) → n ≤ out.length
  | 0, out, _, _ => Nat.zero_le _
  | n + 1, out, hn, h => by
    have hm := h n (by omega)
    have := many_le n (out.erase (n : Int)) (hn.erase _) (fun v hv => (hn.mem_erase_iff).2 ⟨by omega, h v (by omega)⟩)
    rw [List.length_erase_of_mem hm] at this
    have := List.length_pos_of_mem hm
    omega
/-- Who has, again and again, one ahead of it: edges lead round. -/
theorem round_of {n : Nat} {es : List (Int × Int)} (U : Int → Prop) (hU : ∀ v, U v → 0 ≤ v ∧ v < n) (hp : ∀ v, U v → ∃ u, U u ∧ (u, v) ∈ es) (v0 : Int) (h0 : U v0) : ∃ v, Path es v v := by
  classical
  let f : Int → Int := fun v => if h : U v then (hp v h).choose else v
  have hf : ∀ v, U v → U (f v) ∧ (f v, v) ∈ es := by
    intro v h
    have e : f v = (hp v h).choose := by show (if h : U v then _ else v) = _; rw [dif_pos h]
    rw [e]
    exact (hp v h).choose_spec
  let s : Nat → Int := fun i => Nat.rec v0 (fun _ x => f x) i
  have hs : ∀ i, U (s i) := by
    intro i
    induction i with
    | zero => exact h0
    | succ i ih => exact (hf _ ih).1
  have he : ∀ i, (s (i + 1), s i) ∈ es := fun i => (hf _ (hs i)).2
  have hpath : ∀ d i, Path es (s (i + (d + 1))) (s i) := by
    intro d
    induction d with
    | zero => intro i; exact .edge (he i)
    | succ d ih =>
      intro i
      have h1 := ih (i + 1)
      rw [show i + 1 + (d + 1) = i + (d + 1 + 1) by omega] at h1
      exact .step h1 (he i)
  by_cases hd : ∃ i j, i < j ∧ j < n + 1 ∧ s i = s j
  · obtain ⟨i, j, h1, h2, h3⟩ := hd
    have := hpath (j - i - 1) i
    rw [show i + (j - i - 1 + 1) = j by omega, ← h3] at this
    exact ⟨s i, this⟩
  · have hnd : ((List.range (n + 1)).map s).Nodup := by
      rw [List.nodup_iff_pairwise_ne, List.pairwise_map]
      refine List.Pairwise.imp_of_mem ?_ (List.pairwise_lt_range (n := n + 1))
      intro i j hi hj hij e
      exact hd ⟨i, j, hij, by simpa using hj, e⟩
    have := nodup_len n _ hnd (fun x hx => by
      obtain ⟨i, _, rfl⟩ := List.mem_map.1 hx
      exact hU _ (hs i))
    simp at this
    omega
theorem order_none {n : Nat} {es : List (Int × Int)} (hin : ∀ e ∈ es, (0 ≤ e.1 ∧ e.1 < n) ∧ 0 ≤ e.2 ∧ e.2 < n) (h : orderL n es = none) : ∃ v, Path es v v := by
  obtain ⟨out, h1, h2, h3⟩ := stuck n [] h List.nodup_nil (by simp)
  have hfree : ∀ v : Nat, v < n → free es out (v : Int) = false := by
    intro v hv
    unfold next at h3
    rw [List.find?_eq_none] at h3
    simpa using h3 v (by simpa using hv)
  have hex : ∃ v : Nat, v < n ∧ (v : Int) ∉ out := by
    refine Classical.byContradiction fun hno => ?_
    have := many_le n out h1 (fun v hv => Classical.byContradiction fun hm => hno ⟨v, hv, hm⟩)
    omega
  obtain ⟨v0, hv0, hm0⟩ := hex
  refine round_of (n := n) (fun v => (0 ≤ v ∧ v < n) ∧ v ∉ out) (fun v h => h.1) (fun v hv => ?_) v0 ⟨by omega, hm0⟩
  have hfv := hfree v.toNat (by omega)
  rw [show ((v.toNat : Nat) : Int) = v by omega] at hfv
  unfold free at hfv
  rw [Bool.and_eq_false_iff] at hfv
  rcases hfv with hc | hc
  · have : v ∈ out := by simpa using hc
    exact absurd this hv.2
  · rw [List.all_eq_false] at hc
    obtain ⟨e, he, hc⟩ := hc
    have h4 : ¬ e.2 ≠ v ∧ e.1 ∉ out := by simpa using hc
    have h5 : e.2 = v := Classical.byContradiction fun h => h4.1 h
    exact ⟨e.1, ⟨(hin e he).1, h4.2⟩, by rw [← h5]; exact he⟩
theorem pair_single {x y a b : Int} (h : (x, y) ∈ [(a, b)]) : x = a ∧ y = b := by simpa using h
theorem path_more {es : List (Int × Int)} {a b x y : Int} (h : Path (es ++ [(a, b)]) x y) : Path es x y ∨ ((x = a ∨ Path es x a) ∧ (y = b ∨ Path es b y)) := by
  induction h with
  | edge he =>
    rcases List.mem_append.1 he with h1 | h1
    · exact .inl (.edge h1)
    · have h2 := pair_single h1
      exact .inr ⟨.inl h2.1, .inl h2.2⟩
  | step _ he ih =>
    rcases List.mem_append.1 he with h1 | h1
    · rcases ih with h | ⟨h3, h2⟩
      · exact .inl (.step h h1)
      · refine .inr ⟨h3, .inr ?_⟩
        rcases h2 with h2 | h2
        · rw [h2] at h1; exact .edge h1
        · exact .step h2 h1
    · have h2 := pair_single h1
      rcases ih with h | ⟨h3, _⟩
      · rw [h2.1] at h; exact .inr ⟨.inr h, .inl h2.2⟩
      · exact .inr ⟨h3, .inl h2.2⟩
theorem Path.mono {es es' : List (Int × Int)} (hs : ∀ e ∈ es, e ∈ es') {x y : Int} (h : Path es x y) : Path es' x y := by
  induction h with
  | edge he => exact .edge (hs _ he)
  | step _ he ih => exact .step ih (hs _ he)
theorem oddE_app {n : Nat} {es : List (Int × Int)} {p : Int × Int} {k : Nat} (hk : k < es.length) : oddE n (es ++ [p]) k = oddE n es k := by
  unfold oddE
  have h1 : (es ++ [p]).getD k (0, 0) = es.getD k (0, 0) := by rw [List.getD_eq_getElem?_getD, List.getD_eq_getElem?_getD, List.getElem?_append_left hk]
  have h2 : (es ++ [p]).take k = es.take k := by rw [List.take_append_of_le_length (by omega)]
  rw [h1, h2]
theorem oddE_last {n : Nat} {es : List (Int × Int)} {a b : Int} (ha : 0 ≤ a ∧ a < n) (hb : 0 ≤ b ∧ b < n) : oddE n (es ++ [(a, b)]) es.length = (decide (a = b) || es.contains (a, b)) := by
  unfold oddE
  have h1 : (es ++ [(a, b)]).getD es.length (0, 0) = (a, b) := by rw [List.getD_eq_getElem?_getD, List.getElem?_append_right (Nat.le_refl _)]; simp
  have h2 : (es ++ [(a, b)]).take es.length = es := by simp
  have h3 : thereB n a = true := by unfold thereB; simp [ha.1, ha.2]
  have h4 : thereB n b = true := by unfold thereB; simp [hb.1, hb.2]
  rw [h1, h2, h3, h4]
  rfl
theorem more_odd {l : List Int} {es : List (Int × Int)} {a b : Int} (hz : checkL l es = 0) (hm : es.length < 256) (ha : 0 ≤ a ∧ a < l.length) (hb : 0 ≤ b ∧ b < l.length) (h : a = b ∨ (a, b) ∈ es) : checkL l (es ++ [(a, b)]) = 42 := by
  obtain ⟨y1, y2, y3, y4, y5⟩ := ordL_yes hz
  unfold checkL
  rw [if_neg (by simp; omega), if_neg (by rw [y4]; simp), if_pos]
  refine oddEs_yes (k := es.length) (by simp) ?_
  rw [oddE_last ha hb]
  rcases h with h | h
  · simp [h]
  · have : es.contains (a, b) = true := by rw [List.contains_iff_mem]; exact h
    rw [this]; simp
theorem more_even {l : List Int} {es : List (Int × Int)} {a b : Int} (hz : checkL l es = 0) (hm : es.length < 256) (ha : 0 ≤ a ∧ a < l.length) (hb : 0 ≤ b ∧ b < l.length) (h1 : a ≠ b) (h2 : (a, b) ∉ es) :
    checkL l (es ++ [(a, b)]) = if beforeL l es b a = true then 43 else 0 := by
  obtain ⟨y1, y2, y3, y4, y5⟩ := ordL_yes hz
  have hodd : oddEs l.length (es ++ [(a, b)]) = false := by
    refine oddEs_no fun j hj => ?_
    rw [List.length_append] at hj
    by_cases hjl : j < es.length
    · rw [oddE_app hjl]
      unfold oddEs at y3
      rw [List.any_eq_false] at y3
      simpa using y3 j (by simpa using hjl)
    · obtain rfl : j = es.length := by simp at hj; omega
      rw [oddE_last ha hb]
      have : es.contains (a, b) = false := by rw [Bool.eq_false_iff]; intro h; exact h2 (List.contains_iff_mem.1 h)
      rw [this]; simp [h1]
  have hc : checkL l (es ++ [(a, b)]) = if (orderL l.length (es ++ [(a, b)])).isSome = true then 0 else 43 := by
    unfold checkL
    rw [if_neg (by simp; omega), if_neg (by rw [y4]; simp), if_neg (by rw [hodd]; simp)]
  by_cases hs : (orderL l.length (es ++ [(a, b)])).isSome = true
  · rw [hc, if_pos hs, if_neg]
    intro hp
    have hz2 : checkL l (es ++ [(a, b)]) = 0 := by rw [hc, if_pos hs]
    have hp2 := ((before_iff hz b a).1 hp).mono (es' := es ++ [(a, b)]) (fun e he => List.mem_append.2 (.inl he))
    exact no_round hz2 b (.step hp2 (by simp))
  · rw [hc, if_neg hs, if_pos]
    obtain ⟨v, hv⟩ := order_none (oddEs_in hodd) (by simpa using hs)
    refine (before_iff hz b a).2 ?_
    rcases path_more hv with h | ⟨h3, h4⟩
    · exact absurd h (no_round hz v)
    · rcases h3 with rfl | h3
      · rcases h4 with rfl | h4
        · exact absurd rfl h1
        · exact h4
      · rcases h4 with rfl | h4
        · exact h3
        · exact h4.trans h3
end Go.Proofs.Ytjkindoedkjnbaa
