/- DagLess, walked: the ways on which it answers as awake does. -/
import Derived.Test.YtjkindoedkjnbaaDagOwn
set_option linter.unusedVariables false
set_option linter.unusedSimpArgs false
namespace Go.Proofs.Ytjkindoedkjnbaa
open Go.RowKit Go.Sort
open Go.Proofs.YtjkindoedkjnbaaW.PrintWords
open DagPlain

/-- A graph's box at block g, and what was there before stands. -/
def DS (w : World) (g : Nat) (A : Option Addr) (n c : Nat) (B : Option Addr) (m d : Nat) (W : World) : Prop :=
  Below w.heap.size w W ∧ W.cell? ⟨g, 0, none⟩ = some (.slice A n c) ∧ W.cell? ⟨g, 1, none⟩ = some (.slice B m d)
theorem DS.below {w : World} {g : Nat} {A : Option Addr} {n c : Nat} {B : Option Addr} {m d : Nat} {W W' : World} (h : DS w g A n c B m d W) (hb : Below W.heap.size W W') : DS w g A n c B m d W' :=
  ⟨h.1.trans (hb.mono h.1.size), by rw [hb.cell (block_lt_of_cell h.2.1)]; exact h.2.1, by rw [hb.cell (block_lt_of_cell h.2.2)]; exact h.2.2⟩
theorem DS.start (w : World) (A : Option Addr) (n c : Nat) (B : Option Addr) (m d : Nat) (ty : TypeId) : DS w w.heap.size A n c B m d (w.alloc (.cells #[.slice A n c, .slice B m d] ty)) :=
  ⟨below_alloc _ _, by rw [World.cell?_alloc_mark]; rfl, by rw [World.cell?_alloc_mark]; rfl⟩
theorem gr_in {w : World} {A : Option Addr} {c : Nat} {l : List Int} {B : Option Addr} {d : Nat} {es : List (Int × Int)} (h : DagIn w A c l B d es) : GR w A c l B d es := by
  obtain ⟨h1, h2, h3, h4, h5, h6, h7⟩ := h
  refine ⟨⟨h1, h2⟩, h4, fun h0 => ?_⟩
  obtain ⟨ad, e, hc⟩ := h6 h0
  refine ⟨ad, e, fun i hi => ?_⟩
  obtain ⟨k1, k2⟩ := hc i hi
  exact ⟨k1, by rw [add_next]; exact k2⟩

set_option maxHeartbeats 2000000 in
theorem lessw_few (A : Option Addr) (c : Nat) (l : List Int) (B : Option Addr) (d : Nat) (es : List (Int × Int)) (x : Int) (w : World) (hf : ¬ (l.length ≤ 70 ∧ es.length ≤ 300)) :
    Calls Try.prog 9 #[.agg #[.slice A l.length c, .slice B es.length d], .int .i64 x] w fun e w' => e = .returned (.bool true) ∧ Below w.heap.size w w' := by
  have CF := Lib.hid (few_call A c l B d es)
  rw [decide_eq_false hf] at CF
  clear hf
  go_enter Try.func9, Try.ntmps9
  go_wp2_with fail
  have HS0 := Lib.hid (DS.start w A l.length c B es.length d 25)
  refine (awake_any _).mono ?_
  rintro e w1 ⟨rfl, hb⟩
  have HS1 := Lib.hid (HS0.out.below hb)
  obtain ⟨-, hx0, hx1⟩ := HS1.out
  clear hb HS0
  go_wp2_with fail
  refine (CF.out _).mono ?_
  rintro e w2 ⟨rfl, hb⟩
  have HS2 := Lib.hid (HS1.out.below hb)
  clear hb HS1 hx0 hx1
  go_wp2_with fail
  refine (awake_any _).mono ?_
  rintro e w3 ⟨rfl, hb⟩
  have HS3 := Lib.hid (HS2.out.below hb)
  clear hb HS2
  go_wp2_with fail
  go_ret
  exact ⟨rfl, HS3.out.1⟩
set_option maxHeartbeats 2000000 in
theorem lessw_check (A : Option Addr) (c : Nat) (l : List Int) (B : Option Addr) (d : Nat) (es : List (Int × Int)) (x : Int) (w : World) (hg : GR w A c l B d es) (hf : l.length ≤ 70 ∧ es.length ≤ 300) (hz : (checkL l es != 0) = true ∨ (checkL l es = 0 ∧ x < 0) ∨ (checkL l es = 0 ∧ 0 ≤ x ∧ es.length ≤ x)) :
    Calls Try.prog 9 #[.agg #[.slice A l.length c, .slice B es.length d], .int .i64 x] w fun e w' => e = .returned (.bool true) ∧ Below w.heap.size w w' := by
  have CF := Lib.hid (few_call A c l B d es)
  have CO := Lib.hid (fun w1 h => own_call A c l B d es w1 h (by omega) (by omega))
  have CC := Lib.hid (fun A' c' B' d' w1 (h : GR w1 A' c' l B' d' es) => check_any A' c' l B' d' es w1 h.1.2 (by omega) (by omega) h.2.2 h.2.1)
  have HG := Lib.hid hg
  rw [decide_eq_true hf] at CF
  clear hf hg
  rcases hz with hz | ⟨hz, hx⟩ | ⟨hz, hx, hy⟩
  all_goals
    (try rw [hz] at CC)
    go_enter Try.func9, Try.ntmps9
    go_wp2_with fail
    have HS0 := Lib.hid (DS.start w A l.length c B es.length d 25)
    refine (awake_any _).mono ?_
    rintro e w1 ⟨rfl, hb⟩
    have HS1 := Lib.hid (HS0.out.below hb)
    obtain ⟨-, hx0, hx1⟩ := HS1.out
    clear hb HS0
    go_wp2_with fail
    refine (CF.out _).mono ?_
    rintro e w2 ⟨rfl, hb⟩
    have HS2 := Lib.hid (HS1.out.below hb)
    clear hb HS1 hx0 hx1
    obtain ⟨-, hx0, hx1⟩ := HS2.out
    go_wp2_with fail
    refine (CO.out _ (HG.out.below HS2.out.1)).mono ?_
    rintro e w3 ⟨A1, c1, B1, d1, rfl, hg1, -, -, hb⟩
    have HG1 := Lib.hid hg1
    have HS3 := Lib.hid (HS2.out.below hb)
    clear hb HS2 hx0 hx1 hg1
    obtain ⟨-, hx0, hx1⟩ := HS3.out
    go_wp2_with fail
    refine (CC.out _ _ _ _ _ HG1.out).mono ?_
    rintro e w4 ⟨rfl, hb⟩
    have HS4 := Lib.hid (HS3.out.below hb)
    clear hb HS3 hx0 hx1
    obtain ⟨-, hx0, hx1⟩ := HS4.out
    go_wp2_with fail
    refine (awake_any _).mono ?_
    rintro e w5 ⟨rfl, hb⟩
    have HS5 := Lib.hid (HS4.out.below hb)
    clear hb HS4 hx0 hx1
    go_wp2_with fail
    go_ret
    exact ⟨rfl, HS5.out.1⟩
end Go.Proofs.Ytjkindoedkjnbaa
