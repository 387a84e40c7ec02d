/- slices.Index and slices.Contains over edges; the test whether a node is there. -/
import Derived.Test.YtjkindoedkjnbaaDagOrderA
import Derived.Deep.QuietTactic
import Derived.BigQuiet
set_option linter.unusedVariables false
set_option linter.unusedSimpArgs false
namespace Go.Proofs.Ytjkindoedkjnbaa
open Go.RowKit Go.Sort
open Go.Proofs.YtjkindoedkjnbaaW.PrintWords
open DagPlain

theorem EdR.take {w : World} {B : Option Addr} {es : List (Int × Int)} (h : EdR w B es) (k : Nat) : EdR w B (es.take k) := fun h0 => by
  obtain ⟨ad, e, hc⟩ := h (by rw [List.length_take] at h0; omega)
  refine ⟨ad, e, fun i hi => ?_⟩
  rw [List.length_take] at hi
  have := hc i (by omega)
  rw [List.getD_eq_getElem?_getD, List.getElem?_take, if_pos (by omega), ← List.getD_eq_getElem?_getD]
  exact this
def IdxEPost (w : World) (es : List (Int × Int)) (x : Int × Int) (e : Ending) (w' : World) : Prop := ∃ i : Int, e = .returned (.int .i64 i) ∧ (0 ≤ i ↔ es.contains x = true) ∧ -1 ≤ i ∧ Below w.heap.size w w'
set_option maxHeartbeats 1000000 in
theorem idxE_any (B : Option Addr) (c : Nat) (es : List (Int × Int)) (x y : Int) (w : World) (hE : EdR w B es) (hlen : es.length ≤ 1000) :
    Calls Try.prog 46 #[.slice B es.length c, .agg #[.int .i64 x, .int .i64 y]] w (IdxEPost w es (x, y)) := by
  have HE := Lib.hid hE
  clear hE
  go_enter Try.func46, Try.ntmps46
  go_wp2
  obtain ⟨w0, hw0⟩ : ∃ w0, w0 = w.alloc (Obj.cells #[.int .i64 x, .int .i64 y] 40) := ⟨_, rfl⟩
  have hb0 : Below w.heap.size w w0 := by rw [hw0]; exact (Below.refl _ _).alloc (Nat.le_refl _) _
  have hx0 : w0.cell? ⟨w.heap.size, 0, none⟩ = some (.int .i64 x) := by rw [hw0]; simp
  have hy0 : w0.cell? ⟨w.heap.size, 1, none⟩ = some (.int .i64 y) := by rw [hw0]; simp
  rw [← hw0]
  clear hw0
  have HB0 := Lib.hid hb0
  have HX0 : Hid (w0.cell? ⟨w.heap.size, 0, none⟩ = some (.int .i64 x) ∧ w0.cell? ⟨w.heap.size, 1, none⟩ = some (.int .i64 y)) := ⟨hx0, hy0⟩
  clear hb0 hx0 hy0
  go_loopw [8] (fun i wr => ∃ k : Nat, k ≤ es.length ∧ i = .int .i64 k ∧ Hid (∀ j, j < k → es.getD j (0, 0) ≠ (x, y)) ∧ Hid (Below w0.heap.size w0 wr)) (fun i _ => es.length - (intOf i).toNat)
  case atStart => exact ⟨0, Nat.zero_le _, rfl, by show ∀ j, j < 0 → _; omega, Below.refl _ _⟩
  case round =>
    obtain ⟨k, hk, rfl, HN, HBW⟩ := hrel
    by_cases hlt : k < es.length
    · obtain ⟨ad, rfl, hcs⟩ := HE.out (by omega)
      obtain ⟨hr1, hr2⟩ := hcs k (by omega)
      have hmem : es.getD k (0, 0) ∈ es := by rw [List.getD_eq_getElem?_getD, List.getElem?_eq_getElem hlt]; exact List.getElem_mem hlt
      obtain ⟨⟨f, t⟩, hft⟩ : ∃ p, p = es.getD k (0, 0) := ⟨_, rfl⟩
      rw [← hft] at hr1 hr2 hmem
      dsimp only at hr1 hr2
      have hbw : Below w.heap.size w wr := HB0.out.trans (HBW.out.mono HB0.out.size)
      have hrr1 : wr.cell? (ad.add (k * 2)) = some (.int .i64 f) := by rw [hbw.cell (block_lt_of_cell hr1)]; exact hr1
      have hrr2 : wr.cell? ⟨(ad.add (k * 2)).block, (ad.add (k * 2)).off + 1, none⟩ = some (.int .i64 t) := by rw [hbw.cell (block_lt_of_cell hr2)]; exact hr2
      have hx1 : wr.cell? ⟨w.heap.size, 0, none⟩ = some (.int .i64 x) := by rw [HBW.out.cell (block_lt_of_cell HX0.out.1)]; exact HX0.out.1
      have hy1 : wr.cell? ⟨w.heap.size, 1, none⟩ = some (.int .i64 y) := by rw [HBW.out.cell (block_lt_of_cell HX0.out.2)]; exact HX0.out.2
      have HM := Lib.hid hmem
      have HFT := Lib.hid hft
      clear hcs hmem hft hr1 hr2 hbw
      by_cases he : x = f
      · by_cases he2 : y = t
        · subst he he2
          have HC : Hid (es.contains (x, y) = true) := by show es.contains (x, y) = true; rw [List.contains_iff_mem]; exact HM.out
          go_wp2
          go_quiet (fail)
          go_wp2
          go_ret
          exact ⟨_, rfl, ⟨fun _ => HC.out, fun _ => by omega⟩, by omega, HB0.out.trans ((below_drewN HBW.out nq).mono HB0.out.size)⟩
        · have HN2 : Hid (∀ j, j < k + 1 → es.getD j (0, 0) ≠ (x, y)) := by
            show ∀ j, j < k + 1 → _
            intro j hj
            by_cases e : j = k
            · rw [e, ← HFT.out]; intro h; exact he2 (congrArg Prod.snd h).symm
            · exact HN.out j (by omega)
          go_wp2
          go_quiet (fail)
          go_wp2
          go_roundw
          case rel => exact ⟨k + 1, by omega, by go_num, HN2, below_drewN HBW.out nq⟩
          case measure => simp [intOf]; omega
      · have HN2 : Hid (∀ j, j < k + 1 → es.getD j (0, 0) ≠ (x, y)) := by
          show ∀ j, j < k + 1 → _
          intro j hj
          by_cases e : j = k
          · rw [e, ← HFT.out]; intro h; exact he (congrArg Prod.fst h).symm
          · exact HN.out j (by omega)
        go_wp2
        go_quiet (fail)
        go_wp2
        go_roundw
        case rel => exact ⟨k + 1, by omega, by go_num, HN2, below_drewN HBW.out nq⟩
        case measure => simp [intOf]; omega
    · obtain rfl : k = es.length := by omega
      have HC : Hid (¬ es.contains (x, y) = true) := by
        show ¬ _
        rw [List.contains_iff_mem]
        intro hm
        obtain ⟨j, hj, e⟩ := List.getElem_of_mem hm
        have := HN.out j hj
        rw [List.getD_eq_getElem?_getD, List.getElem?_eq_getElem hj] at this
        exact this e
      clear HN
      go_wp2
      go_ret
      exact ⟨_, rfl, ⟨fun h => by omega, fun h => absurd h HC.out⟩, by omega, HB0.out.trans (HBW.out.mono HB0.out.size)⟩

set_option maxHeartbeats 400000 in
theorem contE_any (B : Option Addr) (c : Nat) (es : List (Int × Int)) (x y : Int) (w : World) (hE : EdR w B es) (hlen : es.length ≤ 1000) :
    Calls Try.prog 34 #[.slice B es.length c, .agg #[.int .i64 x, .int .i64 y]] w fun e w' => e = .returned (.bool (es.contains (x, y))) ∧ Below w.heap.size w w' := by
  have C := Lib.hid (fun w1 h => idxE_any B c es x y w1 h hlen)
  have HE := Lib.hid hE
  clear hE
  cases ho : es.contains (x, y) with
  | true =>
    have HO := Lib.hid ho
    clear ho
    go_enter Try.func34, Try.ntmps34
    go_wp2_with fail
    refine (C.out _ (HE.out.below ((Below.refl _ _).alloc (Nat.le_refl _) _))).mono ?_
    rintro e w1 ⟨i, rfl, h1, h2, hb⟩
    have h0 : 0 ≤ i := h1.2 HO.out
    have HB := Lib.hid (((Below.refl w.heap.size w).alloc (Nat.le_refl _) _).trans (hb.mono (by simp)))
    clear h1 hb
    go_wp2
    go_ret
    exact ⟨by simp [h0], HB.out⟩
  | false =>
    have HO : Hid (¬ es.contains (x, y) = true) := by rw [ho]; show ¬ _; simp
    clear ho
    go_enter Try.func34, Try.ntmps34
    go_wp2_with fail
    refine (C.out _ (HE.out.below ((Below.refl _ _).alloc (Nat.le_refl _) _))).mono ?_
    rintro e w1 ⟨i, rfl, h1, h2, hb⟩
    have h0 : ¬ 0 ≤ i := fun h => HO.out (h1.1 h)
    have HB := Lib.hid (((Below.refl w.heap.size w).alloc (Nat.le_refl _) _).trans (hb.mono (by simp)))
    clear h1 hb
    go_wp2
    go_ret
    exact ⟨by simp [h0], HB.out⟩

set_option maxHeartbeats 400000 in
theorem thereC_any (p : Addr) (A : Option Addr) (n c : Nat) (x : Int) (w : World) (hc : w.cell? p = some (.slice A n c)) (hn : n ≤ 1000) :
    Calls Try.prog 33 #[.int .i64 x, .pointer (some p)] w fun e w' => e = .returned (.bool (thereB n x)) ∧ w = w' := by
  unfold thereB
  go_enter Try.func33, Try.ntmps33
  go_wp2
  all_goals (go_ret; exact ⟨by simp <;> omega, rfl⟩)
end Go.Proofs.Ytjkindoedkjnbaa
