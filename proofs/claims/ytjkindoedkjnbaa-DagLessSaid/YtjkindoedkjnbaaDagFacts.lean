/- What an order is: each node once, behind all that it waits for. Plain Lean. -/
import Derived.Test.YtjkindoedkjnbaaDagLongA
set_option linter.unusedVariables false
set_option linter.unusedSimpArgs false
namespace Go.Proofs.Ytjkindoedkjnbaa
open DagPlain

def Good (es : List (Int × Int)) (out : List Int) : Prop := out.Nodup ∧ ∀ j, j < out.length → ∀ e ∈ es, e.2 = out.getD j 0 → ∃ i, i < j ∧ out.getD i 0 = e.1
theorem free_out {es : List (Int × Int)} {out : List Int} {v : Int} (h : free es out v = true) : v ∉ out ∧ ∀ e ∈ es, e.2 = v → e.1 ∈ out := by
  unfold free at h
  rw [Bool.and_eq_true, List.all_eq_true] at h
  refine ⟨by simpa using h.1, fun e he hv => ?_⟩
  have := h.2 e he
  rw [hv] at this
  simpa using this
theorem getD_app_left (a b : List Int) (j : Nat) (h : j < a.length) : (a ++ b).getD j 0 = a.getD j 0 := by
  rw [List.getD_eq_getElem?_getD, List.getD_eq_getElem?_getD, List.getElem?_append_left h]
theorem getD_app_last (a : List Int) (v : Int) : (a ++ [v]).getD a.length 0 = v := by
  rw [List.getD_eq_getElem?_getD, List.getElem?_append_right (Nat.le_refl _)]; simp
theorem mem_getD {a : List Int} {x : Int} (h : x ∈ a) : ∃ i, i < a.length ∧ a.getD i 0 = x := by
  obtain ⟨i, hi, rfl⟩ := List.getElem_of_mem h
  exact ⟨i, hi, by rw [List.getD_eq_getElem?_getD, List.getElem?_eq_getElem hi]; rfl⟩
theorem getD_mem (a : List Int) (i : Nat) (h : i < a.length) : a.getD i 0 ∈ a := by
  rw [List.getD_eq_getElem?_getD, List.getElem?_eq_getElem h]; exact List.getElem_mem h
theorem Good.push {es : List (Int × Int)} {out : List Int} {v : Int} (h : Good es out) (hf : free es out v = true) : Good es (out ++ [v]) := by
  obtain ⟨h1, h2⟩ := free_out hf
  refine ⟨?_, fun j hj e he hv => ?_⟩
  · rw [List.nodup_append]
    refine ⟨h.1, by simp, fun a ha b hb => ?_⟩
    rw [List.mem_singleton] at hb
    subst hb
    intro e
    exact h1 (e ▸ ha)
  · rw [List.length_append] at hj
    by_cases hjl : j < out.length
    · rw [getD_app_left _ _ _ hjl] at hv
      obtain ⟨i, hi, e1⟩ := h.2 j hjl e he hv
      exact ⟨i, hi, by rw [getD_app_left _ _ _ (by omega)]; exact e1⟩
    · obtain rfl : j = out.length := by simp at hj; omega
      rw [getD_app_last] at hv
      obtain ⟨i, hi, e1⟩ := mem_getD (h2 e he hv)
      exact ⟨i, hi, by rw [getD_app_left _ _ _ hi]; exact e1⟩
theorem orderGo_good {n : Nat} {es : List (Int × Int)} : ∀ (g : Nat) (out r : List Int), orderGo n es g out = some r → Good es out → Good es r
  | 0, out, r, h, ho => by
    simp only [orderGo, Option.some.injEq] at h
    subst h
    exact ho
  | g + 1, out, r, h, ho => by
    simp only [orderGo] at h
    split at h
    · rename_i v hv
      unfold next at hv
      have hf := List.find?_some hv
      exact orderGo_good g _ r h (ho.push hf)
    · cases h
theorem nodup_len : ∀ (n : Nat) (r : List Int), r.Nodup → (∀ x ∈ r, 0 ≤ x ∧ x < n) → r.length ≤ n
  | 0, r, _, h => by
    cases r with
    | nil => simp
    | cons a r => have := h a (by simp); omega
  | n + 1, r, hn, h => by
    by_cases hm : (n : Int) ∈ r
    · have h1 := nodup_len n (r.erase (n : Int)) (hn.erase _) (fun x hx => by
        have h2 := (hn.mem_erase_iff).1 hx
        have := h x h2.2
        have := h2.1
        omega)
      rw [List.length_erase_of_mem hm] at h1
      omega
    · have := nodup_len n r hn (fun x hx => by
        have h2 := h x hx
        have : x ≠ (n : Int) := fun e => hm (e ▸ hx)
        omega)
      omega
theorem cover {n : Nat} {r : List Int} (hn : r.Nodup) (h : ∀ x ∈ r, 0 ≤ x ∧ x < n) (hl : r.length = n) (b : Int) (hb : 0 ≤ b ∧ b < n) : b ∈ r := by
  by_cases hm : b ∈ r
  · exact hm
  · have := nodup_len n (b :: r) (List.nodup_cons.2 ⟨hm, hn⟩) (fun x hx => by
      rcases List.mem_cons.1 hx with rfl | hx
      · exact hb
      · exact h x hx)
    rw [List.length_cons] at this
    omega
theorem ordL_good {l : List Int} {es : List (Int × Int)} (hz : checkL l es = 0) : Good es (ordL l es) ∧ (ordL l es).length = l.length ∧ (∀ x ∈ ordL l es, 0 ≤ x ∧ x < l.length) ∧ ∀ b : Int, 0 ≤ b ∧ b < l.length → b ∈ ordL l es := by
  obtain ⟨y1, y2, y3, y4, y5⟩ := ordL_yes hz
  obtain ⟨r, hr⟩ := Option.isSome_iff_exists.1 y5
  have ho : ordL l es = r := by unfold ordL; rw [if_pos hz, hr]; rfl
  rw [ho]
  obtain ⟨h1, h2⟩ := orderGo_in _ _ _ hr (by simp)
  have hg := orderGo_good _ _ _ hr ⟨List.nodup_nil, fun j hj => absurd hj (by simp)⟩
  have hl : r.length = l.length := by simpa using h1
  exact ⟨hg, hl, h2, fun b hb => cover hg.1 h2 hl b hb⟩
theorem nodup_getD {r : List Int} (h : r.Nodup) {i j : Nat} (hi : i < r.length) (hj : j < r.length) (e : r.getD i 0 = r.getD j 0) : i = j := by
  rw [List.getD_eq_getElem?_getD, List.getD_eq_getElem?_getD, List.getElem?_eq_getElem hi, List.getElem?_eq_getElem hj] at e
  simp only [Option.getD_some] at e
  have hp := List.pairwise_iff_getElem.1 h
  rcases Nat.lt_trichotomy i j with hlt | he | hgt
  · exact absurd e (hp i j hi hj hlt)
  · exact he
  · exact absurd e.symm (hp j i hj hi hgt)
end Go.Proofs.Ytjkindoedkjnbaa
