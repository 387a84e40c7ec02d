/- dag.preds, dag.Preds, dag.Succs. -/
import Derived.Test.YtjkindoedkjnbaaDagWay
set_option linter.unusedVariables false
set_option linter.unusedSimpArgs false
namespace Go.Proofs.Ytjkindoedkjnbaa
open Go.RowKit Go.Sort
open Go.Proofs.YtjkindoedkjnbaaW.PrintWords
open DagPlain

set_option maxHeartbeats 1000000 in
theorem preds_any (A : Option Addr) (n c : Nat) (B : Option Addr) (d : Nat) (es : List (Int × Int)) (x : Int) (w : World) (hm1 : es.length ≤ 1000) (hE : EdR w B es) :
    Calls Try.prog 39 #[.agg #[.slice A n c, .slice B es.length d], .int .i64 x] w (SlicePost w (predL x es)) := by
  have C1 := Lib.hid (fun p w1 h1 h2 => predW_any A n c B d es p x w1 hm1 h1 h2)
  have HE := Lib.hid hE
  clear hE
  have hb0 : ∀ o o', Below w.heap.size w ((w.alloc o).alloc o') := fun o o' => ((Below.refl _ _).alloc (Nat.le_refl _) _).alloc (by simp) _
  have HB0 := Lib.hid hb0
  clear hb0
  go_enter Try.func39, Try.ntmps39
  go_wp2_with fail
  refine (C1.out _ _ (HE.out.below (HB0.out _ _)) (by simp)).mono ?_
  rintro e w1 ⟨v, rfl, hown, hb⟩
  have HB1 : Hid (Below w.heap.size w w1) := (HB0.out _ _).trans (hb.mono (HB0.out _ _).size)
  have HO1 := Lib.hid (own_weaken hown (HB0.out _ _).size)
  clear hown hb
  go_wp2_with fail
  go_ret
  exact ⟨_, rfl, HO1.out, HB1.out⟩
def predsR (x : Int) (l : List Int) (es : List (Int × Int)) : List Int := if checkL l es = 0 then predL x es else []
def succsR (x : Int) (l : List Int) (es : List (Int × Int)) : List Int := if checkL l es = 0 then succL x es else []
set_option maxHeartbeats 1000000 in
theorem Preds_any (A : Option Addr) (c : Nat) (l : List Int) (B : Option Addr) (d : Nat) (es : List (Int × Int)) (x : Int) (w : World) (hl : ReadsInt w .i64 A l.length l) (hn1 : l.length ≤ 1000) (hm1 : es.length ≤ 1000) (hE : EdR w B es) (hcd : es.length ≤ d) :
    Calls Try.prog 20 #[.agg #[.slice A l.length c, .slice B es.length d], .int .i64 x] w (SlicePost w (predsR x l es)) := by
  have C1 := Lib.hid (fun w1 h1 h2 => check_any A c l B d es w1 h1 hn1 hm1 h2 hcd)
  have C2 := Lib.hid (fun w1 h => preds_any A l.length c B d es x w1 hm1 h)
  have HE := Lib.hid hE
  have HL := Lib.hid hl
  clear hE hl
  have hb0 : ∀ o, Below w.heap.size w (w.alloc o) := fun o => (Below.refl _ _).alloc (Nat.le_refl _) _
  have HB0 := Lib.hid hb0
  clear hb0
  by_cases hz : checkL l es = 0
  · have HR : Hid (predsR x l es = predL x es) := by show _ = _; unfold predsR; rw [if_pos hz]
    have HZ := Lib.hid hz
    clear hz
    go_enter Try.func20, Try.ntmps20
    go_wp2_with fail
    refine (C1.out _ (HL.out.below (HB0.out _)) (HE.out.below (HB0.out _))).mono ?_
    rw [HZ.out]
    rintro e w1 ⟨rfl, hb⟩
    have HB1 : Hid (Below w.heap.size w w1) := (HB0.out _).trans (hb.mono (HB0.out _).size)
    have hc0 : w1.cell? ⟨w.heap.size, 0, none⟩ = some (.slice A l.length c) := by rw [hb.cell (by simp)]; simp
    have hc1 : w1.cell? ⟨w.heap.size, 1, none⟩ = some (.slice B es.length d) := by rw [hb.cell (by simp)]; simp
    clear hb
    go_wp2_with fail
    refine (C2.out _ (HE.out.below HB1.out)).mono ?_
    rintro e w2 ⟨v, rfl, hown, hb⟩
    have HB2 : Hid (Below w.heap.size w w2) := HB1.out.trans (hb.mono HB1.out.size)
    have HO2 := Lib.hid (own_weaken hown HB1.out.size)
    clear hown hb
    go_wp2_with fail
    go_ret
    unfold SlicePost
    rw [HR.out]
    exact ⟨_, rfl, HO2.out, HB2.out⟩
  · have HR : Hid (predsR x l es = []) := by show _ = _; unfold predsR; rw [if_neg hz]
    obtain ⟨z, hzz⟩ : ∃ z, z = checkL l es := ⟨_, rfl⟩
    rw [← hzz] at C1 hz
    clear hzz
    go_enter Try.func20, Try.ntmps20
    go_wp2_with fail
    refine (C1.out _ (HL.out.below (HB0.out _)) (HE.out.below (HB0.out _))).mono ?_
    rintro e w1 ⟨rfl, hb⟩
    have HB1 : Hid (Below w.heap.size w w1) := (HB0.out _).trans (hb.mono (HB0.out _).size)
    clear hb
    go_wp2_with fail
    go_ret
    unfold SlicePost
    rw [HR.out]
    exact ⟨_, rfl, own_nil _ _ _ _, HB1.out⟩

set_option maxHeartbeats 1000000 in
theorem Succs_any (A : Option Addr) (c : Nat) (l : List Int) (B : Option Addr) (d : Nat) (es : List (Int × Int)) (x : Int) (w : World) (hl : ReadsInt w .i64 A l.length l) (hn1 : l.length ≤ 1000) (hm1 : es.length ≤ 1000) (hE : EdR w B es) (hcd : es.length ≤ d) :
    Calls Try.prog 21 #[.agg #[.slice A l.length c, .slice B es.length d], .int .i64 x] w (SlicePost w (succsR x l es)) := by
  have C1 := Lib.hid (fun w1 h1 h2 => check_any A c l B d es w1 h1 hn1 hm1 h2 hcd)
  have C2 := Lib.hid (fun p w1 h1 h2 => succW_any A l.length c B d es p x w1 hm1 h1 h2)
  have HE := Lib.hid hE
  have HL := Lib.hid hl
  clear hE hl
  have hb0 : ∀ o o', Below w.heap.size w ((w.alloc o).alloc o') := fun o o' => ((Below.refl _ _).alloc (Nat.le_refl _) _).alloc (by simp) _
  have HB0 := Lib.hid hb0
  clear hb0
  by_cases hz : checkL l es = 0
  · have HR : Hid (succsR x l es = succL x es) := by show _ = _; unfold succsR; rw [if_pos hz]
    have HZ := Lib.hid hz
    clear hz
    go_enter Try.func21, Try.ntmps21
    go_wp2_with fail
    refine (C1.out _ (HL.out.below (HB0.out _ _)) (HE.out.below (HB0.out _ _))).mono ?_
    rw [HZ.out]
    rintro e w1 ⟨rfl, hb⟩
    have HB1 : Hid (Below w.heap.size w w1) := (HB0.out _ _).trans (hb.mono (HB0.out _ _).size)
    have hc0 : w1.cell? ⟨w.heap.size, 0, none⟩ = some (.slice A l.length c) := by rw [hb.cell (by simp; omega)]; simp
    have hc1 : w1.cell? ⟨w.heap.size, 1, none⟩ = some (.slice B es.length d) := by rw [hb.cell (by simp; omega)]; simp
    have HX : Hid (w1.cell? ⟨w.heap.size + 1, 0, none⟩ = some (.int .i64 x)) := by show w1.cell? _ = _; rw [hb.cell (by simp)]; simp
    clear hb
    go_wp2_with fail
    refine (C2.out _ _ (HE.out.below HB1.out) HX.out).mono ?_
    rintro e w2 ⟨v, rfl, hown, hb⟩
    have HB2 : Hid (Below w.heap.size w w2) := HB1.out.trans (hb.mono HB1.out.size)
    have HO2 := Lib.hid (own_weaken hown HB1.out.size)
    clear hown hb
    go_wp2_with fail
    go_ret
    unfold SlicePost
    rw [HR.out]
    exact ⟨_, rfl, HO2.out, HB2.out⟩
  · have HR : Hid (succsR x l es = []) := by show _ = _; unfold succsR; rw [if_neg hz]
    obtain ⟨z, hzz⟩ : ∃ z, z = checkL l es := ⟨_, rfl⟩
    rw [← hzz] at C1 hz
    clear hzz
    go_enter Try.func21, Try.ntmps21
    go_wp2_with fail
    refine (C1.out _ (HL.out.below (HB0.out _ _)) (HE.out.below (HB0.out _ _))).mono ?_
    rintro e w1 ⟨rfl, hb⟩
    have HB1 : Hid (Below w.heap.size w w1) := (HB0.out _ _).trans (hb.mono (HB0.out _ _).size)
    clear hb
    go_wp2_with fail
    go_ret
    unfold SlicePost
    rw [HR.out]
    exact ⟨_, rfl, own_nil _ _ _ _, HB1.out⟩
end Go.Proofs.Ytjkindoedkjnbaa
