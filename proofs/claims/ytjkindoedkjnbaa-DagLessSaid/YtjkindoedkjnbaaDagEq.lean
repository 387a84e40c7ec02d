/- slices.Equal at []int and at edges; dag.Same. -/
import Derived.Test.YtjkindoedkjnbaaDagCheckA
import Derived.Deep.QuietTactic
import Derived.BigQuiet
set_option linter.unusedVariables false
set_option linter.unusedSimpArgs false
namespace Go.Proofs.Ytjkindoedkjnbaa
open Go.RowKit Go.Sort
open Go.Proofs.YtjkindoedkjnbaaW.PrintWords
open DagPlain

theorem list_eq_of {l m : List Int} (h : l.length = m.length) (hk : ∀ k, k < l.length → l.getD k 0 = m.getD k 0) : l = m := by
  apply List.ext_getElem h
  intro k h1 h2
  have := hk k h1
  rw [List.getD_eq_getElem?_getD, List.getD_eq_getElem?_getD, List.getElem?_eq_getElem h1, List.getElem?_eq_getElem h2] at this
  exact this
theorem edges_eq_of {l m : List (Int × Int)} (h : l.length = m.length) (hk : ∀ k, k < l.length → l.getD k (0, 0) = m.getD k (0, 0)) : l = m := by
  apply List.ext_getElem h
  intro k h1 h2
  have := hk k h1
  rw [List.getD_eq_getElem?_getD, List.getD_eq_getElem?_getD, List.getElem?_eq_getElem h1, List.getElem?_eq_getElem h2] at this
  exact this

set_option maxHeartbeats 1000000 in
theorem eqI_any (A B : Option Addr) (c d : Nat) (l m : List Int) (w : World) (hl : ReadsInt w .i64 A l.length l) (hm : ReadsInt w .i64 B m.length m) (hn1 : l.length ≤ 1000) (hm1 : m.length ≤ 1000) :
    Calls Try.prog 37 #[.slice A l.length c, .slice B m.length d] w fun e w' => e = .returned (.bool (decide (l = m))) ∧ Below w.heap.size w w' := by
  by_cases hle : l.length = m.length
  · have HL := Lib.hid hl
    have HM := Lib.hid hm
    have HLE := Lib.hid hle
    rw [← hle]
    clear hl hm hle
    go_enter Try.func37, Try.ntmps37
    go_wp2_with fail
    go_loopw [13] (fun i wr => ∃ k : Nat, k ≤ l.length ∧ i = .int .i64 k ∧ Hid (∀ j, j < k → l.getD j 0 = m.getD j 0) ∧ Hid (Below w.heap.size w wr)) (fun i _ => l.length - (intOf i).toNat)
    case atStart => exact ⟨0, Nat.zero_le _, rfl, by show ∀ j, j < 0 → _; omega, Below.refl _ _⟩
    case round =>
      obtain ⟨k, hk, rfl, HN, HBW⟩ := hrel
      by_cases hlt : k < l.length
      · obtain ⟨ad, rfl, hcs⟩ := (HL.out.below HBW.out).2.2 (by omega)
        obtain ⟨bd, rfl, hds⟩ := (HM.out.below HBW.out).2.2 (by have := HLE.out; omega)
        have hc := hcs k hlt
        have hd := hds k (by have := HLE.out; omega)
        obtain ⟨x, hx⟩ : ∃ x, x = l.getD k 0 := ⟨_, rfl⟩
        obtain ⟨y, hy⟩ : ∃ y, y = m.getD k 0 := ⟨_, rfl⟩
        rw [← hx] at hc
        rw [← hy] at hd
        have HX := Lib.hid hx
        have HY := Lib.hid hy
        clear hcs hds hx hy
        by_cases hxy : x = y
        · subst hxy
          have HN2 : Hid (∀ j, j < k + 1 → l.getD j 0 = m.getD j 0) := by
            show ∀ j, j < k + 1 → _
            intro j hj
            by_cases e : j = k
            · rw [e, ← HX.out, ← HY.out]
            · exact HN.out j (by omega)
          clear HX HY
          go_wp2_with fail
          go_quiet (fail)
          go_wp2_with fail
          go_roundw
          case rel => exact ⟨k + 1, by omega, by go_num, HN2, below_drewN HBW.out nq⟩
          case measure => simp [intOf]; omega
        · have HR : Hid (decide (l = m) = false) := by
            show decide (l = m) = false
            rw [decide_eq_false_iff_not]
            rintro rfl
            have := HX.out.trans HY.out.symm
            exact hxy this
          go_wp2_with fail
          go_quiet (fail)
          go_wp2_with fail
          go_ret
          exact ⟨by rw [HR.out]; rfl, below_drewN HBW.out nq⟩
      · obtain rfl : k = l.length := by omega
        have hr : l = m := list_eq_of HLE.out HN.out
        have HR : Hid (decide (l = m) = true) := by show decide (l = m) = true; simpa using hr
        clear HN hr
        go_wp2_with fail
        go_ret
        exact ⟨by rw [HR.out]; rfl, HBW.out⟩
  · have hr : decide (l = m) = false := by rw [decide_eq_false_iff_not]; intro h; exact hle (by rw [h])
    have hleI : ¬ (l.length : Int) = (m.length : Int) := by omega
    rw [hr]
    clear hr hl hm
    go_enter Try.func37, Try.ntmps37
    go_wp2_with fail
    go_ret
    exact ⟨rfl, Below.refl _ _⟩

set_option maxHeartbeats 1000000 in
theorem eqE_any (A B : Option Addr) (c d : Nat) (l m : List (Int × Int)) (w : World) (hl : EdR w A l) (hm : EdR w B m) (hn1 : l.length ≤ 1000) (hm1 : m.length ≤ 1000) :
    Calls Try.prog 38 #[.slice A l.length c, .slice B m.length d] w fun e w' => e = .returned (.bool (decide (l = m))) ∧ Below w.heap.size w w' := by
  by_cases hle : l.length = m.length
  · have HL := Lib.hid hl
    have HM := Lib.hid hm
    have HLE := Lib.hid hle
    rw [← hle]
    clear hl hm hle
    go_enter Try.func38, Try.ntmps38
    go_wp2_with fail
    go_loopw [13] (fun i wr => ∃ k : Nat, k ≤ l.length ∧ i = .int .i64 k ∧ Hid (∀ j, j < k → l.getD j (0, 0) = m.getD j (0, 0)) ∧ Hid (Below w.heap.size w wr)) (fun i _ => l.length - (intOf i).toNat)
    case atStart => exact ⟨0, Nat.zero_le _, rfl, by show ∀ j, j < 0 → _; omega, Below.refl _ _⟩
    case round =>
      obtain ⟨k, hk, rfl, HN, HBW⟩ := hrel
      by_cases hlt : k < l.length
      · obtain ⟨ad, rfl, hcs⟩ := (HL.out.below HBW.out) (by omega)
        obtain ⟨bd, rfl, hds⟩ := (HM.out.below HBW.out) (by have := HLE.out; omega)
        have hc := hcs k hlt
        have hd := hds k (by have := HLE.out; omega)
        obtain ⟨x, hx⟩ : ∃ x, x = l.getD k (0, 0) := ⟨_, rfl⟩
        obtain ⟨y, hy⟩ : ∃ y, y = m.getD k (0, 0) := ⟨_, rfl⟩
        rw [← hx] at hc
        rw [← hy] at hd
        have HX := Lib.hid hx
        have HY := Lib.hid hy
        clear hcs hds hx hy
        obtain ⟨x1, x2⟩ := x
        obtain ⟨y1, y2⟩ := y
        obtain ⟨hc1, hc2⟩ := hc
        obtain ⟨hd1, hd2⟩ := hd
        dsimp only at hc1 hc2 hd1 hd2
        by_cases hxy : x1 = y1
        · by_cases hxy2 : x2 = y2
          · subst hxy hxy2
            have HN2 : Hid (∀ j, j < k + 1 → l.getD j (0, 0) = m.getD j (0, 0)) := by
              show ∀ j, j < k + 1 → _
              intro j hj
              by_cases e : j = k
              · rw [e, ← HX.out, ← HY.out]
              · exact HN.out j (by omega)
            clear HX HY
            go_wp2_with fail
            go_quiet (fail)
            go_wp2_with fail
            go_roundw
            case rel => exact ⟨k + 1, by omega, by go_num, HN2, below_drewN HBW.out nq⟩
            case measure => simp [intOf]; omega
          · have HR : Hid (decide (l = m) = false) := by
              show decide (l = m) = false
              rw [decide_eq_false_iff_not]
              rintro rfl
              have := HX.out.trans HY.out.symm
              exact hxy2 (congrArg Prod.snd this)
            go_wp2_with fail
            go_quiet (fail)
            go_wp2_with fail
            go_ret
            exact ⟨by rw [HR.out]; rfl, below_drewN HBW.out nq⟩
        · have HR : Hid (decide (l = m) = false) := by
            show decide (l = m) = false
            rw [decide_eq_false_iff_not]
            rintro rfl
            have := HX.out.trans HY.out.symm
            exact hxy (congrArg Prod.fst this)
          go_wp2_with fail
          go_quiet (fail)
          go_wp2_with fail
          go_ret
          exact ⟨by rw [HR.out]; rfl, below_drewN HBW.out nq⟩
      · obtain rfl : k = l.length := by omega
        have hr : l = m := edges_eq_of HLE.out HN.out
        have HR : Hid (decide (l = m) = true) := by show decide (l = m) = true; simpa using hr
        clear HN hr
        go_wp2_with fail
        go_ret
        exact ⟨by rw [HR.out]; rfl, HBW.out⟩
  · have hr : decide (l = m) = false := by rw [decide_eq_false_iff_not]; intro h; exact hle (by rw [h])
    have hleI : ¬ (l.length : Int) = (m.length : Int) := by omega
    rw [hr]
    clear hr hl hm
    go_enter Try.func38, Try.ntmps38
    go_wp2_with fail
    go_ret
    exact ⟨rfl, Below.refl _ _⟩

set_option maxHeartbeats 1000000 in
theorem Same_any (A B A' B' : Option Addr) (c d c' d' : Nat) (l l' : List Int) (es es' : List (Int × Int)) (w : World) (hl : ReadsInt w .i64 A l.length l) (hl' : ReadsInt w .i64 A' l'.length l') (hE : EdR w B es) (hE' : EdR w B' es') (hn : l.length ≤ 1000) (hn' : l'.length ≤ 1000) (hm : es.length ≤ 1000) (hm' : es'.length ≤ 1000) :
    Calls Try.prog 15 #[.agg #[.slice A l.length c, .slice B es.length d], .agg #[.slice A' l'.length c', .slice B' es'.length d']] w fun e w' => e = .returned (.bool (decide (l = l' ∧ es = es'))) ∧ Below w.heap.size w w' := by
  have C1 := Lib.hid (fun w1 h1 h2 => eqI_any A A' c c' l l' w1 h1 h2 hn hn')
  have C2 := Lib.hid (fun w1 h1 h2 => eqE_any B B' d d' es es' w1 h1 h2 hm hm')
  have HL := Lib.hid hl
  have HL' := Lib.hid hl'
  have HE := Lib.hid hE
  have HE' := Lib.hid hE'
  clear hl hl' hE hE'
  have hb0 : ∀ o o', Below w.heap.size w ((w.alloc o).alloc o') := fun o o' => ((Below.refl _ _).alloc (Nat.le_refl _) _).alloc (by simp) _
  have HB0 := Lib.hid hb0
  clear hb0
  cases h1 : decide (l = l') with
  | true =>
    have e1 : l = l' := by simpa using h1
    have HR : Hid (decide (l = l' ∧ es = es') = decide (es = es')) := by show decide _ = _; congr 1; simp [e1]
    rw [h1] at C1
    clear h1 e1
    go_enter Try.func15, Try.ntmps15
    go_wp2_with fail
    refine (C1.out _ (HL.out.below (HB0.out _ _)) (HL'.out.below (HB0.out _ _))).mono ?_
    rintro e w1 ⟨rfl, hb⟩
    have HB1 : Hid (Below w.heap.size w w1) := (HB0.out _ _).trans (hb.mono (HB0.out _ _).size)
    have hc0 : w1.cell? ⟨w.heap.size, 1, none⟩ = some (.slice B es.length d) := by rw [hb.cell (by simp; omega)]; simp
    have hc1 : w1.cell? ⟨w.heap.size + 1, 1, none⟩ = some (.slice B' es'.length d') := by rw [hb.cell (by simp)]; simp
    clear hb
    go_wp2_with fail
    refine (C2.out _ (HE.out.below HB1.out) (HE'.out.below HB1.out)).mono ?_
    rintro e w2 ⟨rfl, hb⟩
    have HB2 : Hid (Below w.heap.size w w2) := HB1.out.trans (hb.mono HB1.out.size)
    clear hb
    go_wp2_with fail
    go_ret
    exact ⟨by rw [HR.out]; rfl, HB2.out⟩
  | false =>
    have e1 : ¬ l = l' := by simpa using h1
    have HR : Hid (decide (l = l' ∧ es = es') = false) := by show decide _ = _; simp [e1]
    rw [h1] at C1
    clear h1 e1
    go_enter Try.func15, Try.ntmps15
    go_wp2_with fail
    refine (C1.out _ (HL.out.below (HB0.out _ _)) (HL'.out.below (HB0.out _ _))).mono ?_
    rintro e w1 ⟨rfl, hb⟩
    have HB1 : Hid (Below w.heap.size w w1) := (HB0.out _ _).trans (hb.mono (HB0.out _ _).size)
    clear hb
    go_wp2_with fail
    go_ret
    exact ⟨by rw [HR.out]; rfl, HB1.out⟩
end Go.Proofs.Ytjkindoedkjnbaa
