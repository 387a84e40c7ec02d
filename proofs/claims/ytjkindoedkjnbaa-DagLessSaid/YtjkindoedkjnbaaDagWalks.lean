/- Walks of the functions of layer 4 that are not printed: dag.order, dag.Check, dag.preds, dag.Succs. -/
import Derived.Test.YtjkindoedkjnbaaProg
import Derived.Test.YtjkindoedkjnbaaWWords
import Derived.WalkKit
import Derived.WalkSpells
import Derived.WalkLawsBesides
import Derived.Handy
import Derived.Lib.Hide
import Derived.Lib.QuietBelow
import Derived.OwnWalk
import Derived.WalkSmall
import Derived.Test.YtjkindoedkjnbaaDagPlain
set_option linter.unusedVariables false
set_option linter.unusedSimpArgs false
namespace Go.Proofs.Ytjkindoedkjnbaa
open Go.RowKit Go.Sort
open DagPlain
open Go.Proofs.YtjkindoedkjnbaaW.PrintWords


set_option maxHeartbeats 400000 in
theorem odd_yes (n : Int) (w : World) (h : oddW n = true) : Calls Try.prog 32 #[.int .i64 n] w fun e w' => e = .returned (.bool true) ∧ w = w' := by
  have hc : n < 0 ∨ (0 ≤ n ∧ 1000 < n) := by unfold oddW at h; simp at h; omega
  clear h
  rcases hc with h | ⟨h, h'⟩
  all_goals
    go_enter Try.func32, Try.ntmps32
    go_wp2
    go_ret
    exact ⟨by simp <;> omega, rfl⟩
set_option maxHeartbeats 400000 in
theorem odd_no (n : Int) (w : World) (h : oddW n = false) : Calls Try.prog 32 #[.int .i64 n] w fun e w' => e = .returned (.bool false) ∧ w = w' := by
  have hc : 0 ≤ n ∧ n ≤ 1000 := by unfold oddW at h; simp at h; omega
  clear h
  obtain ⟨h, h'⟩ := hc
  go_enter Try.func32, Try.ntmps32
  go_wp2
  go_ret
  exact ⟨by simp <;> omega, rfl⟩

/-- slices.IndexFunc with the odd-work test: -1 just if there is none. -/
def IdxPost (w : World) (l : List Int) (e : Ending) (w' : World) : Prop := ∃ i : Int, e = .returned (.int .i64 i) ∧ (0 ≤ i ↔ l.any oddW = true) ∧ -1 ≤ i ∧ w = w'
set_option maxHeartbeats 1000000 in
theorem idx_any (A : Option Addr) (c : Nat) (l : List Int) (w : World) (hl : ReadsInt w .i64 A l.length l) (hlen : l.length ≤ 1000) :
    Calls Try.prog 45 #[.slice A l.length c, .func (Fn.func 32) #[] #[]] w (IdxPost w l) := by
  have HL := Lib.hid hl
  clear hl
  go_enter Try.func45, Try.ntmps45
  go_wp2
  go_loop [8] (fun i => ∃ k : Nat, k ≤ l.length ∧ i = .int .i64 k ∧ Hid (∀ j, j < k → oddW (l.getD j 0) = false)) (fun i => l.length - (intOf i).toNat)
  case atStart => exact ⟨0, Nat.zero_le _, rfl, by show ∀ j, j < 0 → _; omega⟩
  case round =>
    obtain ⟨k, hk, rfl, HN⟩ := hrel
    by_cases hlt : k < l.length
    · obtain ⟨ad, hA, hcs⟩ := HL.out.2.2 (by omega)
      subst hA
      have hc := hcs k hlt
      have hmem : l.getD k 0 ∈ l := by rw [List.getD_eq_getElem?_getD, List.getElem?_eq_getElem hlt]; exact List.getElem_mem hlt
      have HM := Lib.hid hmem
      obtain ⟨n, hn⟩ : ∃ n, n = l.getD k 0 := ⟨_, rfl⟩
      rw [← hn] at hc HM
      have HNN := Lib.hid hn
      clear hcs hmem hn
      cases ho : oddW n with
      | true =>
        have C := Lib.hid (fun w1 => odd_yes n w1 ho)
        have HA : Hid (l.any oddW = true) := List.any_eq_true.2 ⟨n, HM.out, ho⟩
        clear ho
        go_wp2_with fail
        refine (C.out _).mono ?_
        rintro e w1 ⟨rfl, rfl⟩
        go_wp2
        go_ret
        exact ⟨_, rfl, ⟨fun _ => HA.out, fun _ => by omega⟩, by omega, rfl⟩
      | false =>
        have C := Lib.hid (fun w1 => odd_no n w1 ho)
        have HN2 : Hid (∀ j, j < k + 1 → oddW (l.getD j 0) = false) := by
          show ∀ j, j < k + 1 → _
          intro j hj
          by_cases e : j = k
          · rw [e, ← HNN.out]; exact ho
          · exact HN.out j (by omega)
        clear ho
        go_wp2_with fail
        refine (C.out _).mono ?_
        rintro e w1 ⟨rfl, rfl⟩
        go_wp2
        go_round
        case rel => exact ⟨k + 1, by omega, by go_num, HN2⟩
        case measure => simp [intOf]; omega
    · obtain rfl : k = l.length := by omega
      have HA : Hid (¬ l.any oddW = true) := by
        show ¬ _
        rw [List.any_eq_true]
        rintro ⟨x, hx, ho⟩
        obtain ⟨j, hj, rfl⟩ := List.getElem_of_mem hx
        have := HN.out j hj
        rw [List.getD_eq_getElem?_getD, List.getElem?_eq_getElem hj] at this
        simp only [Option.getD_some] at this
        rw [this] at ho; cases ho
      clear HN
      go_wp2
      go_ret
      exact ⟨_, rfl, ⟨fun h => by omega, fun h => absurd h HA.out⟩, by omega, rfl⟩

set_option maxHeartbeats 400000 in
theorem cont_any (A : Option Addr) (c : Nat) (l : List Int) (w : World) (hl : ReadsInt w .i64 A l.length l) (hlen : l.length ≤ 1000) :
    Calls Try.prog 31 #[.slice A l.length c, .func (Fn.func 32) #[] #[]] w fun e w' => e = .returned (.bool (l.any oddW)) ∧ w = w' := by
  have C := Lib.hid (idx_any A c l w hl hlen)
  clear hl
  cases ho : l.any oddW with
  | true =>
    have HO := Lib.hid ho
    clear ho
    go_enter Try.func31, Try.ntmps31
    go_wp2_with fail
    refine C.out.mono ?_
    rintro e w1 ⟨i, rfl, h1, h2, rfl⟩
    have h0 : 0 ≤ i := h1.2 HO.out
    clear h1
    go_wp2
    go_ret
    exact ⟨by simp [h0], rfl⟩
  | false =>
    have HO : Hid (¬ l.any oddW = true) := by rw [ho]; show ¬ _; simp
    clear ho
    go_enter Try.func31, Try.ntmps31
    go_wp2_with fail
    refine C.out.mono ?_
    rintro e w1 ⟨i, rfl, h1, h2, rfl⟩
    have h0 : ¬ 0 ≤ i := fun h => HO.out (h1.1 h)
    clear h1
    go_wp2
    go_ret
    exact ⟨by simp [h0], rfl⟩
end Go.Proofs.Ytjkindoedkjnbaa
