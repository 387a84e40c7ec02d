/- Ways along edges; dag.Before says whether there is one. Plain Lean. -/
import Derived.Test.YtjkindoedkjnbaaDagFacts
import Derived.Test.YtjkindoedkjnbaaDagBefore
set_option linter.unusedVariables false
set_option linter.unusedSimpArgs false
namespace Go.Proofs.Ytjkindoedkjnbaa
open DagPlain

inductive Path (es : List (Int × Int)) : Int → Int → Prop
  | edge {a b : Int} : (a, b) ∈ es → Path es a b
  | step {a p b : Int} : Path es a p → (p, b) ∈ es → Path es a b
theorem Path.trans {es : List (Int × Int)} {a b c : Int} (h : Path es a b) (k : Path es b c) : Path es a c := by
  induction k with
  | edge he => exact .step h he
  | step _ he ih => exact .step ih he
theorem Path.last {es : List (Int × Int)} {a b : Int} (h : Path es a b) : ∃ p, (p, b) ∈ es ∧ (p = a ∨ Path es a p) := by
  cases h with
  | edge he => exact ⟨a, he, .inl rfl⟩
  | step hp he => exact ⟨_, he, .inr hp⟩
theorem mem_predL {es : List (Int × Int)} {n p : Int} : p ∈ predL n es ↔ (p, n) ∈ es := by
  unfold predL sortL
  rw [List.mem_mergeSort]
  unfold predRaw
  rw [List.mem_map]
  constructor
  · rintro ⟨e, he, rfl⟩
    obtain ⟨h1, h2⟩ := List.mem_filter.1 he
    have : e.2 = n := by simpa using h2
    rw [← this]
    exact h1
  · intro h
    exact ⟨(p, n), List.mem_filter.2 ⟨h, by simp⟩, rfl⟩
theorem before_sound (es : List (Int × Int)) (a b : Int) : ∀ (r fr : List Int), (∀ x ∈ fr, x = a ∨ Path es a x) → beforeGo es b r fr = true → Path es a b
  | [], fr, _, h => by simp [beforeGo] at h
  | n :: r, fr, hf, h => by
    unfold beforeGo at h
    have hn : (predL n es).any (fun p => fr.contains p) = true → Path es a n := by
      intro hany
      obtain ⟨p, hp, hc⟩ := List.any_eq_true.1 hany
      have hp2 := mem_predL.1 hp
      rcases hf p (by simpa using hc) with rfl | hpp
      · exact .edge hp2
      · exact .step hpp hp2
    split at h
    · rename_i hany
      split at h
      · rename_i e; rw [← e]; exact hn hany
      · exact before_sound es a b r (fr ++ [n]) (fun x hx => by
          rcases List.mem_append.1 hx with hx | hx
          · exact hf x hx
          · rw [List.mem_singleton] at hx; subst hx; exact .inr (hn hany)) h
    · exact before_sound es a b r fr hf h
theorem before_complete (es : List (Int × Int)) (a b : Int) (hp : Path es a b) : ∀ (r done fr : List Int), Good es (done ++ r) → (∀ x ∈ done ++ r, True) → a ∈ fr → (∀ x ∈ done, Path es a x → x ∈ fr) → b ∈ r → beforeGo es b r fr = true
  | [], done, fr, _, _, _, _, hb => by simp at hb
  | n :: r, done, fr, hg, ht, ha, hd, hb => by
    have hany : Path es a n → (predL n es).any (fun p => fr.contains p) = true := by
      intro hn
      obtain ⟨p, he, hpa⟩ := hn.last
      refine List.any_eq_true.2 ⟨p, mem_predL.2 he, ?_⟩
      rcases hpa with rfl | hpp
      · simpa using ha
      · have hj : done.length < (done ++ n :: r).length := by simp
        have hgn : (done ++ n :: r).getD done.length 0 = n := by rw [List.getD_eq_getElem?_getD, List.getElem?_append_right (Nat.le_refl _)]; simp
        obtain ⟨i, hi, e⟩ := hg.2 done.length hj (p, n) he hgn.symm
        rw [getD_app_left _ _ _ hi] at e
        have hpd : p ∈ done := by
          have := getD_mem done i hi
          rw [e] at this
          exact this
        simpa using hd p hpd hpp
    have hg2 : Good es ((done ++ [n]) ++ r) := by simpa using hg
    unfold beforeGo
    by_cases hnb : n = b
    · rw [if_pos (hany (hnb ▸ hp)), if_pos hnb]
    · have hb2 : b ∈ r := by
        rcases List.mem_cons.1 hb with e | h
        · exact absurd e.symm hnb
        · exact h
      split
      · refine before_complete es a b hp r (done ++ [n]) (fr ++ [n]) hg2 (fun _ _ => trivial) (by simp [ha]) (fun x hx hxp => ?_) hb2
        rcases List.mem_append.1 hx with hx | hx
        · exact List.mem_append.2 (.inl (hd x hx hxp))
        · exact List.mem_append.2 (.inr hx)
      · rename_i hno
        refine before_complete es a b hp r (done ++ [n]) fr hg2 (fun _ _ => trivial) ha (fun x hx hxp => ?_) hb2
        rcases List.mem_append.1 hx with hx | hx
        · exact hd x hx hxp
        · rw [List.mem_singleton] at hx
          subst hx
          exact absurd (hany hxp) hno
theorem path_in {l : List Int} {es : List (Int × Int)} (hz : checkL l es = 0) {a b : Int} (h : Path es a b) : ∃ i j, i < j ∧ j < (ordL l es).length ∧ (ordL l es).getD i 0 = a ∧ (ordL l es).getD j 0 = b := by
  obtain ⟨g1, g2, g3, g4⟩ := ordL_good hz
  obtain ⟨y1, y2, y3, y4, y5⟩ := ordL_yes hz
  have hedge : ∀ x y, (x, y) ∈ es → ∃ i j, i < j ∧ j < (ordL l es).length ∧ (ordL l es).getD i 0 = x ∧ (ordL l es).getD j 0 = y := by
    intro x y he
    obtain ⟨j, hj, e⟩ := mem_getD (g4 y (oddEs_in y3 _ he).2)
    obtain ⟨i, hi, e2⟩ := g1.2 j hj _ he e.symm
    exact ⟨i, j, hi, hj, e2, e⟩
  induction h with
  | edge he => exact hedge _ _ he
  | step _ he ih =>
    obtain ⟨i, j, h1, h2, h3, h4⟩ := ih
    obtain ⟨j', k, h5, h6, h7, h8⟩ := hedge _ _ he
    have : j = j' := nodup_getD g1.1 h2 (by omega) (by rw [h4, h7])
    exact ⟨i, k, by omega, h6, h3, h8⟩
theorem before_iff {l : List Int} {es : List (Int × Int)} (hz : checkL l es = 0) (a b : Int) : beforeL l es a b = true ↔ Path es a b := by
  constructor
  · intro h
    exact before_sound es a b _ _ (fun x hx => .inl (by simpa using hx)) h
  · intro h
    obtain ⟨i, j, h1, h2, h3, h4⟩ := path_in hz h
    obtain ⟨g1, g2, g3, g4⟩ := ordL_good hz
    exact before_complete es a b h (ordL l es) [] [a] (by simpa using g1) (fun _ _ => trivial) (by simp) (fun x hx => by simp at hx) (h4 ▸ getD_mem _ _ h2)
theorem no_round {l : List Int} {es : List (Int × Int)} (hz : checkL l es = 0) (a : Int) : ¬ Path es a a := by
  intro h
  obtain ⟨i, j, h1, h2, h3, h4⟩ := path_in hz h
  obtain ⟨g1, g2, g3, g4⟩ := ordL_good hz
  have := nodup_getD g1.1 (by omega) h2 (h3.trans h4.symm)
  omega
end Go.Proofs.Ytjkindoedkjnbaa
