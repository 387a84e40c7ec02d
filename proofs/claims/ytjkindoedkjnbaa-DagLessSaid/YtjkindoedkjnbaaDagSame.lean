/- dag.Order, dag.Total. -/
import Derived.Test.YtjkindoedkjnbaaDagCheckB
set_option linter.unusedVariables false
set_option linter.unusedSimpArgs false
namespace Go.Proofs.Ytjkindoedkjnbaa
open Go.RowKit Go.Sort
open Go.Proofs.YtjkindoedkjnbaaW.PrintWords
open DagPlain

def SlicePost (w : World) (r : List Int) (e : Ending) (w' : World) : Prop :=
  ∃ v, e = .returned v ∧ w'.ownsRow w.heap.size 3 1 v r.length (encs (Value.int .i64) r) ∧ Below w.heap.size w w'
def ordL (l : List Int) (es : List (Int × Int)) : List Int := if checkL l es = 0 then (orderL l.length es).getD [] else []
set_option maxHeartbeats 1000000 in
theorem ordL_yes {l : List Int} {es : List (Int × Int)} (h : checkL l es = 0) : l.length ≤ 64 ∧ es.length ≤ 256 ∧ oddEs l.length es = false ∧ l.any oddW = false ∧ (orderL l.length es).isSome = true := by
  unfold checkL at h
  split at h
  · cases h
  · split at h
    · cases h
    · split at h
      · cases h
      · split at h
        · rename_i h1 h2 h3 h4
          exact ⟨by omega, by omega, by simpa using h3, by simpa using h2, h4⟩
        · cases h
set_option maxHeartbeats 1000000 in
theorem Order_any (A : Option Addr) (c : Nat) (l : List Int) (B : Option Addr) (d : Nat) (es : List (Int × Int)) (w : World) (hl : ReadsInt w .i64 A l.length l) (hn1 : l.length ≤ 1000) (hm1 : es.length ≤ 1000) (hE : EdR w B es) (hcd : es.length ≤ d) :
    Calls Try.prog 17 #[.agg #[.slice A l.length c, .slice B es.length d]] w (SlicePost w (ordL l es)) := by
  have C1 := Lib.hid (fun w1 h1 h2 => check_any A c l B d es w1 h1 hn1 hm1 h2 hcd)
  have HE := Lib.hid hE
  have HL := Lib.hid hl
  clear hE hl
  by_cases hz : checkL l es = 0
  · obtain ⟨y1, y2, y3, y4, y5⟩ := ordL_yes hz
    have C2 := Lib.hid (fun w1 h => order_any A c l.length B d es w1 y1 y2 h (oddEs_in y3))
    have HR : Hid (ordL l es = (orderL l.length es).getD []) := by show ordL l es = _; unfold ordL; rw [if_pos hz]
    clear y3 y4 y5
    have HZ := Lib.hid hz
    clear hz
    have hb0 : ∀ o, Below w.heap.size w (w.alloc o) := fun o => (Below.refl _ _).alloc (Nat.le_refl _) _
    have HB0 := Lib.hid hb0
    clear hb0
    go_enter Try.func17, Try.ntmps17
    go_wp2_with fail
    refine (C1.out _ (HL.out.below (HB0.out _)) (HE.out.below (HB0.out _))).mono ?_
    rw [HZ.out]
    rintro e w1 ⟨rfl, hb⟩
    have HB1 : Hid (Below w.heap.size w w1) := (HB0.out _).trans (hb.mono (HB0.out _).size)
    have hc0 : w1.cell? ⟨w.heap.size, 0, none⟩ = some (.slice A l.length c) := by rw [hb.cell (by simp)]; simp
    have hc1 : w1.cell? ⟨w.heap.size, 1, none⟩ = some (.slice B es.length d) := by rw [hb.cell (by simp)]; simp
    clear hb
    go_wp2_with fail
    refine (C2.out _ (HE.out.below HB1.out)).mono ?_
    rintro e w2 ⟨v, rfl, hown, hb⟩
    have HB2 : Hid (Below w.heap.size w w2) := HB1.out.trans (hb.mono HB1.out.size)
    have HO2 : Hid (w2.ownsRow w.heap.size 3 1 v (ordL l es).length (encs (Value.int .i64) (ordL l es))) := by rw [HR.out]; exact own_weaken hown HB1.out.size
    clear hown hb
    go_wp2_with fail
    go_ret
    exact ⟨_, rfl, HO2.out, HB2.out⟩
  · have HR : Hid (ordL l es = []) := by show ordL l es = _; unfold ordL; rw [if_neg hz]
    obtain ⟨z, hzz⟩ : ∃ z, z = checkL l es := ⟨_, rfl⟩
    rw [← hzz] at C1 hz
    clear hzz
    have hb0 : ∀ o, Below w.heap.size w (w.alloc o) := fun o => (Below.refl _ _).alloc (Nat.le_refl _) _
    have HB0 := Lib.hid hb0
    clear hb0
    go_enter Try.func17, Try.ntmps17
    go_wp2_with fail
    refine (C1.out _ (HL.out.below (HB0.out _)) (HE.out.below (HB0.out _))).mono ?_
    rintro e w1 ⟨rfl, hb⟩
    have HB1 : Hid (Below w.heap.size w w1) := (HB0.out _).trans (hb.mono (HB0.out _).size)
    clear hb
    go_wp2_with fail
    go_ret
    unfold SlicePost
    rw [HR.out]
    exact ⟨_, rfl, own_nil _ _ _ _, HB1.out⟩

def totL (l : List Int) (es : List (Int × Int)) : Int := if checkL l es = 0 then l.sum else 0
theorem sum_snoc (l : List Int) (k : Nat) (h : k < l.length) : (l.take (k + 1)).sum = (l.take k).sum + l.getD k 0 := by
  rw [List.getD_eq_getElem?_getD, List.getElem?_eq_getElem h, List.take_add_one, List.getElem?_eq_getElem h]
  simp only [Option.toList_some, List.sum_append, List.sum_cons, List.sum_nil, Option.getD_some]
  omega
theorem sum_take_le {l : List Int} (h : l.any oddW = false) (k : Nat) : 0 ≤ (l.take k).sum ∧ (l.take k).sum ≤ 1000 * k := by
  induction k with
  | zero => simp
  | succ k ih =>
    by_cases hk : k < l.length
    · rw [List.take_add_one, List.getElem?_eq_getElem hk]
      simp only [Option.toList_some, List.sum_append, List.sum_cons, List.sum_nil]
      have := List.any_eq_false.1 h l[k] (List.getElem_mem hk)
      unfold oddW at this
      simp at this
      omega
    · rw [List.take_of_length_le (by omega)] at ih ⊢
      omega
set_option maxHeartbeats 1000000 in
theorem Total_any (A : Option Addr) (c : Nat) (l : List Int) (B : Option Addr) (d : Nat) (es : List (Int × Int)) (w : World) (hl : ReadsInt w .i64 A l.length l) (hn1 : l.length ≤ 1000) (hm1 : es.length ≤ 1000) (hE : EdR w B es) (hcd : es.length ≤ d) :
    Calls Try.prog 18 #[.agg #[.slice A l.length c, .slice B es.length d]] w fun e w' => e = .returned (.int .i64 (totL l es)) ∧ Below w.heap.size w w' := by
  have C1 := Lib.hid (fun w1 h1 h2 => check_any A c l B d es w1 h1 hn1 hm1 h2 hcd)
  have HE := Lib.hid hE
  have HL := Lib.hid hl
  clear hE hl
  have hb0 : ∀ o, Below w.heap.size w (w.alloc o) := fun o => (Below.refl _ _).alloc (Nat.le_refl _) _
  have HB0 := Lib.hid hb0
  clear hb0
  by_cases hz : checkL l es = 0
  · obtain ⟨y1, y2, y3, y4, y5⟩ := ordL_yes hz
    have HR : Hid (totL l es = l.sum) := by show totL l es = _; unfold totL; rw [if_pos hz]
    have HS := Lib.hid (fun k => sum_take_le y4 k)
    clear y3 y4 y5
    have HZ := Lib.hid hz
    clear hz
    go_enter Try.func18, Try.ntmps18
    go_wp2_with fail
    refine (C1.out _ (HL.out.below (HB0.out _)) (HE.out.below (HB0.out _))).mono ?_
    rw [HZ.out]
    rintro e w1 ⟨rfl, hb⟩
    have HB1 : Hid (Below w.heap.size w w1) := (HB0.out _).trans (hb.mono (HB0.out _).size)
    have hc0 : w1.cell? ⟨w.heap.size, 0, none⟩ = some (.slice A l.length c) := by rw [hb.cell (by simp)]; simp
    clear hb
    go_wp2_with fail
    go_loop [3, 12] (fun s i => ∃ (k : Nat) (sm : Int), k ≤ l.length ∧ i = .int .i64 k ∧ s = .int .i64 sm ∧ 0 ≤ sm ∧ sm ≤ 1000 * k ∧ Hid (sm = (l.take k).sum)) (fun _ i => l.length - (intOf i).toNat)
    case atStart => exact ⟨0, 0, Nat.zero_le _, rfl, rfl, by omega, by omega, by show 0 = (l.take 0).sum; simp⟩
    case round =>
      obtain ⟨k, sm, hk, rfl, rfl, hs0, hs1, HSM⟩ := hrel
      by_cases hlt : k < l.length
      · obtain ⟨ad, rfl, hcs⟩ := (HL.out.below HB1.out).2.2 (by omega)
        have hc := hcs k hlt
        have HSM2 : Hid (sm + l.getD k 0 = (l.take (k + 1)).sum) := by
          show sm + l.getD k 0 = (l.take (k + 1)).sum
          rw [sum_snoc l k hlt, HSM.out]
        have hb1 := (HS.out (k + 1)).1
        have hb2 := (HS.out (k + 1)).2
        rw [← HSM2.out] at hb1 hb2
        generalize l.getD k 0 = x at *
        clear hcs
        go_wp2_with fail
        go_round
        case rel => exact ⟨k + 1, sm + x, by omega, by go_num, by go_num, by omega, by omega, HSM2⟩
        case measure => simp [intOf]; omega
      · obtain rfl : k = l.length := by omega
        have HSM2 : Hid (sm = totL l es) := by show sm = _; rw [HR.out, HSM.out, List.take_length]
        clear HSM
        go_wp2_with fail
        go_ret
        exact ⟨by rw [← HSM2.out]; rfl, HB1.out⟩
  · have HR : Hid (totL l es = 0) := by show totL l es = _; unfold totL; rw [if_neg hz]
    obtain ⟨z, hzz⟩ : ∃ z, z = checkL l es := ⟨_, rfl⟩
    rw [← hzz] at C1 hz
    clear hzz
    go_enter Try.func18, Try.ntmps18
    go_wp2_with fail
    refine (C1.out _ (HL.out.below (HB0.out _)) (HE.out.below (HB0.out _))).mono ?_
    rintro e w1 ⟨rfl, hb⟩
    have HB1 : Hid (Below w.heap.size w w1) := (HB0.out _).trans (hb.mono (HB0.out _).size)
    clear hb
    go_wp2_with fail
    go_ret
    exact ⟨by rw [HR.out]; rfl, HB1.out⟩
end Go.Proofs.Ytjkindoedkjnbaa
