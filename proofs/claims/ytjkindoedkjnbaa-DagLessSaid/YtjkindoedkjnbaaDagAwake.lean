/- trefoilref02.Ints; the law package's awake. -/
import Derived.Test.YtjkindoedkjnbaaDagEq
import Derived.Test.YtjkindoedkjnbaaDagLong
import Derived.Test.YtjkindoedkjnbaaDagBefore
import Derived.Deep.QuietTactic
import Derived.BigQuiet
set_option linter.unusedVariables false
set_option linter.unusedSimpArgs false
namespace Go.Proofs.Ytjkindoedkjnbaa
open Go.RowKit Go.Sort
open Go.Proofs.YtjkindoedkjnbaaW.PrintWords
open DagPlain

set_option maxHeartbeats 1000000 in
theorem ints_any (A B : Option Addr) (c d : Nat) (l m : List Int) (w : World) (hl : ReadsInt w .i64 A l.length l) (hm : ReadsInt w .i64 B m.length m) (hn1 : l.length ≤ 1000) (hm1 : m.length ≤ 1000) :
    Calls Try.prog 24 #[.slice A l.length c, .slice B m.length d] w fun e w' => e = .returned (.bool (decide (l = m))) ∧ Below w.heap.size w w' := by
  by_cases hle : l.length = m.length
  · have HL := Lib.hid hl
    have HM := Lib.hid hm
    have HLE := Lib.hid hle
    rw [← hle]
    clear hl hm hle
    go_enter Try.func24, Try.ntmps24
    go_wp2_with fail
    go_loopw [5] (fun i wr => ∃ k : Nat, k ≤ l.length ∧ i = .int .i64 k ∧ Hid (∀ j, j < k → l.getD j 0 = m.getD j 0) ∧ Hid (Below w.heap.size w wr)) (fun i _ => l.length - (intOf i).toNat)
    case atStart => exact ⟨0, Nat.zero_le _, rfl, by show ∀ j, j < 0 → _; omega, Below.refl _ _⟩
    case round =>
      obtain ⟨k, hk, rfl, HN, HBW⟩ := hrel
      by_cases hlt : k < l.length
      · obtain ⟨ad, rfl, hcs⟩ := (HL.out.below HBW.out).2.2 (by omega)
        obtain ⟨bd, rfl, hds⟩ := (HM.out.below HBW.out).2.2 (by have := HLE.out; omega)
        have hc := hcs k hlt
        have hd := hds k (by have := HLE.out; omega)
        obtain ⟨x, hx⟩ : ∃ x, x = l.getD k 0 := ⟨_, rfl⟩
        obtain ⟨y, hy⟩ : ∃ y, y = m.getD k 0 := ⟨_, rfl⟩
        rw [← hx] at hc
        rw [← hy] at hd
        have HX := Lib.hid hx
        have HY := Lib.hid hy
        clear hcs hds hx hy
        by_cases hxy : x = y
        · subst hxy
          have HN2 : Hid (∀ j, j < k + 1 → l.getD j 0 = m.getD j 0) := by
            show ∀ j, j < k + 1 → _
            intro j hj
            by_cases e : j = k
            · rw [e, ← HX.out, ← HY.out]
            · exact HN.out j (by omega)
          clear HX HY
          go_wp2_with fail
          go_quiet (fail)
          go_wp2_with fail
          go_roundw
          case rel => exact ⟨k + 1, by omega, by go_num, HN2, below_drewN HBW.out nq⟩
          case measure => simp [intOf]; omega
        · have HR : Hid (decide (l = m) = false) := by
            show decide (l = m) = false
            rw [decide_eq_false_iff_not]
            rintro rfl
            have := HX.out.trans HY.out.symm
            exact hxy this
          go_wp2_with fail
          go_quiet (fail)
          go_wp2_with fail
          go_ret
          exact ⟨by rw [HR.out]; rfl, below_drewN HBW.out nq⟩
      · obtain rfl : k = l.length := by omega
        have hr : l = m := list_eq_of HLE.out HN.out
        have HR : Hid (decide (l = m) = true) := by show decide (l = m) = true; simpa using hr
        clear HN hr
        go_wp2_with fail
        go_ret
        exact ⟨by rw [HR.out]; rfl, HBW.out⟩
  · have hr : decide (l = m) = false := by rw [decide_eq_false_iff_not]; intro h; exact hle (by rw [h])
    have hleI : ¬ (l.length : Int) = (m.length : Int) := by omega
    rw [hr]
    clear hr hl hm
    go_enter Try.func24, Try.ntmps24
    go_wp2_with fail
    go_ret
    exact ⟨rfl, Below.refl _ _⟩


theorem sortL_id {zs : List Int} (h : zs.Pairwise (fun x y => decide (x ≤ y) = true)) : sortL zs = zs := by unfold sortL; exact List.mergeSort_of_pairwise h
def es0 : List (Int × Int) := [(0, 2), (1, 2)]
theorem p0 : predL 0 es0 = [] := by unfold predL; exact sortL_id (by decide)
theorem p1 : predL 1 es0 = [] := by unfold predL; exact sortL_id (by decide)
theorem p2 : predL 2 es0 = [0, 1] := by unfold predL; exact sortL_id (by decide)
theorem s0 : succL 0 es0 = [2] := by unfold succL; exact sortL_id (by decide)
theorem o0 : ordL [2, 3, 4] es0 = [0, 1, 2] := by decide +kernel
theorem c0 : checkL [2, 3, 4] es0 = 0 := by decide +kernel
theorem k4 : longL [2, 3, 4] es0 = 7 := by
  unfold longL
  rw [o0]
  simp only [List.foldl_cons, List.foldl_nil, stepN, stepM, stepF, p0, p1, p2]
  decide
theorem k5 : beforeL [2, 3, 4] es0 1 2 = true := by
  unfold beforeL
  rw [o0]
  simp only [beforeGo, p0, p1, p2]
  decide
theorem k6 : beforeL [2, 3, 4] es0 0 1 = false := by
  unfold beforeL
  rw [o0]
  simp only [beforeGo, p0, p1, p2]
  decide
theorem k7 : predsR 2 [2, 3, 4] es0 = [0, 1] := by unfold predsR; rw [c0, if_pos rfl, p2]
theorem k8 : succsR 0 [2, 3, 4] es0 = [2] := by unfold succsR; rw [c0, if_pos rfl, s0]

def es1 : List (Int × Int) := [(0, 1), (1, 0)]
theorem q1 : checkL [1, 1] es1 = 43 := by decide +kernel
theorem t0 : totL [2, 3, 4] es0 = 9 := by decide +kernel
theorem lit_ints (w : World) (l : List Int) (cs : Array Value) (hc : cs = (l.map (Value.int .i64)).toArray) (hl : l.length ≤ 100) :
    ReadsInt (w.alloc (.cells cs 3)) .i64 (some ⟨w.heap.size, 0, none⟩) l.length l := by
  refine ⟨rfl, by omega, fun _ => ⟨_, rfl, fun j hj => ?_⟩⟩
  rw [show (⟨w.heap.size, 0, none⟩ : Addr).add j = ⟨w.heap.size, j, none⟩ by simp [Addr.add, eq_comm], World.cell?_alloc_mark, hc]
  simp [hj, List.getD_eq_getElem?_getD]

/-- What lies there behind the two graphs. -/
def AW (w W : World) : Prop :=
  Below w.heap.size w W ∧ ReadsInt W .i64 (some ⟨w.heap.size, 0, none⟩) 3 [2, 3, 4] ∧ EdR W (some ⟨w.heap.size + 1, 0, none⟩) es0 ∧ ReadsInt W .i64 (some ⟨w.heap.size + 1 + 1 + 1, 0, none⟩) 2 [1, 1] ∧ EdR W (some ⟨w.heap.size + 1 + 1 + 1 + 1, 0, none⟩) es1
theorem AW.below {w W W' : World} (h : AW w W) (hb : Below W.heap.size W W') : AW w W' := ⟨h.1.trans (hb.mono h.1.size), h.2.1.below hb, h.2.2.1.below hb, h.2.2.2.1.below hb, h.2.2.2.2.below hb⟩
theorem lit_edges (w : World) (a b c d : Int) : EdR (w.alloc (.cells #[.int .i64 a, .int .i64 b, .int .i64 c, .int .i64 d] 40)) (some ⟨w.heap.size, 0, none⟩) [(a, b), (c, d)] := fun _ => by
  refine ⟨_, rfl, fun i hi => ?_⟩
  have h2 : i = 0 ∨ i = 1 := by simp at hi; omega
  rcases h2 with rfl | rfl
  · exact ⟨by rw [show (⟨w.heap.size, 0, none⟩ : Addr).add (0 * 2) = ⟨w.heap.size, 0, none⟩ by simp [Addr.add], World.cell?_alloc_mark]; rfl, by rw [show (⟨w.heap.size, 0, none⟩ : Addr).add (0 * 2) = ⟨w.heap.size, 0, none⟩ by simp [Addr.add], World.cell?_alloc_mark]; rfl⟩
  · exact ⟨by rw [show (⟨w.heap.size, 0, none⟩ : Addr).add (1 * 2) = ⟨w.heap.size, 2, none⟩ by simp [Addr.add], World.cell?_alloc_mark]; rfl, by rw [show (⟨w.heap.size, 0, none⟩ : Addr).add (1 * 2) = ⟨w.heap.size, 2, none⟩ by simp [Addr.add], World.cell?_alloc_mark]; rfl⟩
def BX (w W : World) : Prop :=
  (W.cell? ⟨w.heap.size + 1 + 1, 0, none⟩ = some (.slice (some ⟨w.heap.size, 0, none⟩) 3 3) ∧ W.cell? ⟨w.heap.size + 1 + 1, 1, none⟩ = some (.slice (some ⟨w.heap.size + 1, 0, none⟩) 2 2)) ∧
  W.cell? ⟨w.heap.size + 1 + 1 + 1 + 1 + 1, 0, none⟩ = some (.slice (some ⟨w.heap.size + 1 + 1 + 1, 0, none⟩) 2 2) ∧ W.cell? ⟨w.heap.size + 1 + 1 + 1 + 1 + 1, 1, none⟩ = some (.slice (some ⟨w.heap.size + 1 + 1 + 1 + 1, 0, none⟩) 2 2)
theorem BX.below {w W W' : World} (h : BX w W) (hb : Below W.heap.size W W') : BX w W' := by
  obtain ⟨⟨h1, h2⟩, h3, h4⟩ := h
  exact ⟨⟨by rw [hb.cell (block_lt_of_cell h1)]; exact h1, by rw [hb.cell (block_lt_of_cell h2)]; exact h2⟩, by rw [hb.cell (block_lt_of_cell h3)]; exact h3, by rw [hb.cell (block_lt_of_cell h4)]; exact h4⟩
/-- A row of numbers that is read, whatever comes. -/
def RI (W : World) (A : Option Addr) (r : List Int) : Prop := ReadsInt W .i64 A r.length r
theorem RI.below {W W' : World} {A : Option Addr} {r : List Int} (h : RI W A r) (hb : Below W.heap.size W W') : RI W' A r := ReadsInt.below h hb
theorem below_alloc (W : World) (o : Obj) : Below W.heap.size W (W.alloc o) := (Below.refl _ _).alloc (Nat.le_refl _) _
def SP (W0 : World) (r : List Int) (e : Ending) (w' : World) : Prop := ∃ A c, e = .returned (.slice A r.length c) ∧ RI w' A r ∧ Below W0.heap.size W0 w'
theorem SP.of {W0 : World} {r : List Int} {e : Ending} {w' : World} (h : SlicePost W0 r e w') : SP W0 r e w' := by
  obtain ⟨v, rfl, hown, hb⟩ := h
  obtain ⟨A, c, rfl, hr⟩ := own_reads (k := .i64) hown
  exact ⟨A, c, rfl, hr, hb⟩

theorem btr {w w1 w2 : World} (h : Below w.heap.size w w1) (k : Below w1.heap.size w1 w2) : Below w.heap.size w w2 := h.trans (k.mono h.size)
set_option maxHeartbeats 1000000 in
theorem aw_start (w : World) : AW w ((((((w.alloc (.cells #[.int .i64 2, .int .i64 3, .int .i64 4] 3)).alloc (.cells #[.int .i64 0, .int .i64 2, .int .i64 1, .int .i64 2] 40)).alloc (.cells #[.slice (some ⟨w.heap.size, 0, none⟩) 3 3, .slice (some ⟨w.heap.size + 1, 0, none⟩) 2 2] 25)).alloc (.cells #[.int .i64 1, .int .i64 1] 3)).alloc (.cells #[.int .i64 0, .int .i64 1, .int .i64 1, .int .i64 0] 40)).alloc (.cells #[.slice (some ⟨w.heap.size + 1 + 1 + 1, 0, none⟩) 2 2, .slice (some ⟨w.heap.size + 1 + 1 + 1 + 1, 0, none⟩) 2 2] 25)) ∧ BX w ((((((w.alloc (.cells #[.int .i64 2, .int .i64 3, .int .i64 4] 3)).alloc (.cells #[.int .i64 0, .int .i64 2, .int .i64 1, .int .i64 2] 40)).alloc (.cells #[.slice (some ⟨w.heap.size, 0, none⟩) 3 3, .slice (some ⟨w.heap.size + 1, 0, none⟩) 2 2] 25)).alloc (.cells #[.int .i64 1, .int .i64 1] 3)).alloc (.cells #[.int .i64 0, .int .i64 1, .int .i64 1, .int .i64 0] 40)).alloc (.cells #[.slice (some ⟨w.heap.size + 1 + 1 + 1, 0, none⟩) 2 2, .slice (some ⟨w.heap.size + 1 + 1 + 1 + 1, 0, none⟩) 2 2] 25)) := by
  have h1 := lit_ints w [2, 3, 4] #[.int .i64 2, .int .i64 3, .int .i64 4] rfl (by decide)
  have h2 := lit_edges (w.alloc (.cells #[.int .i64 2, .int .i64 3, .int .i64 4] 3)) 0 2 1 2
  have h4 := lit_ints (((w.alloc (.cells #[.int .i64 2, .int .i64 3, .int .i64 4] 3)).alloc (.cells #[.int .i64 0, .int .i64 2, .int .i64 1, .int .i64 2] 40)).alloc (.cells #[.slice (some ⟨w.heap.size, 0, none⟩) 3 3, .slice (some ⟨w.heap.size + 1, 0, none⟩) 2 2] 25)) [1, 1] #[.int .i64 1, .int .i64 1] rfl (by decide)
  have h5 := lit_edges ((((w.alloc (.cells #[.int .i64 2, .int .i64 3, .int .i64 4] 3)).alloc (.cells #[.int .i64 0, .int .i64 2, .int .i64 1, .int .i64 2] 40)).alloc (.cells #[.slice (some ⟨w.heap.size, 0, none⟩) 3 3, .slice (some ⟨w.heap.size + 1, 0, none⟩) 2 2] 25)).alloc (.cells #[.int .i64 1, .int .i64 1] 3)) 0 1 1 0
  simp only [World.size_alloc] at h2 h4 h5
  have b1 := below_alloc w (.cells #[.int .i64 2, .int .i64 3, .int .i64 4] 3)
  have b2 := below_alloc (w.alloc (.cells #[.int .i64 2, .int .i64 3, .int .i64 4] 3)) (.cells #[.int .i64 0, .int .i64 2, .int .i64 1, .int .i64 2] 40)
  have b3 := below_alloc ((w.alloc (.cells #[.int .i64 2, .int .i64 3, .int .i64 4] 3)).alloc (.cells #[.int .i64 0, .int .i64 2, .int .i64 1, .int .i64 2] 40)) (.cells #[.slice (some ⟨w.heap.size, 0, none⟩) 3 3, .slice (some ⟨w.heap.size + 1, 0, none⟩) 2 2] 25)
  have b4 := below_alloc (((w.alloc (.cells #[.int .i64 2, .int .i64 3, .int .i64 4] 3)).alloc (.cells #[.int .i64 0, .int .i64 2, .int .i64 1, .int .i64 2] 40)).alloc (.cells #[.slice (some ⟨w.heap.size, 0, none⟩) 3 3, .slice (some ⟨w.heap.size + 1, 0, none⟩) 2 2] 25)) (.cells #[.int .i64 1, .int .i64 1] 3)
  have b5 := below_alloc ((((w.alloc (.cells #[.int .i64 2, .int .i64 3, .int .i64 4] 3)).alloc (.cells #[.int .i64 0, .int .i64 2, .int .i64 1, .int .i64 2] 40)).alloc (.cells #[.slice (some ⟨w.heap.size, 0, none⟩) 3 3, .slice (some ⟨w.heap.size + 1, 0, none⟩) 2 2] 25)).alloc (.cells #[.int .i64 1, .int .i64 1] 3)) (.cells #[.int .i64 0, .int .i64 1, .int .i64 1, .int .i64 0] 40)
  have b6 := below_alloc (((((w.alloc (.cells #[.int .i64 2, .int .i64 3, .int .i64 4] 3)).alloc (.cells #[.int .i64 0, .int .i64 2, .int .i64 1, .int .i64 2] 40)).alloc (.cells #[.slice (some ⟨w.heap.size, 0, none⟩) 3 3, .slice (some ⟨w.heap.size + 1, 0, none⟩) 2 2] 25)).alloc (.cells #[.int .i64 1, .int .i64 1] 3)).alloc (.cells #[.int .i64 0, .int .i64 1, .int .i64 1, .int .i64 0] 40)) (.cells #[.slice (some ⟨w.heap.size + 1 + 1 + 1, 0, none⟩) 2 2, .slice (some ⟨w.heap.size + 1 + 1 + 1 + 1, 0, none⟩) 2 2] 25)
  have d5 := btr b5 b6
  have d4 := btr b4 d5
  have d3 := btr b3 d4
  have d2 := btr b2 d3
  have m0 : (((w.alloc (.cells #[.int .i64 2, .int .i64 3, .int .i64 4] 3)).alloc (.cells #[.int .i64 0, .int .i64 2, .int .i64 1, .int .i64 2] 40)).alloc (.cells #[.slice (some ⟨w.heap.size, 0, none⟩) 3 3, .slice (some ⟨w.heap.size + 1, 0, none⟩) 2 2] 25)).cell? ⟨((w.alloc (.cells #[.int .i64 2, .int .i64 3, .int .i64 4] 3)).alloc (.cells #[.int .i64 0, .int .i64 2, .int .i64 1, .int .i64 2] 40)).heap.size, 0, none⟩ = some (.slice (some ⟨w.heap.size, 0, none⟩) 3 3) := by rw [World.cell?_alloc_mark]; rfl
  have m1 : (((w.alloc (.cells #[.int .i64 2, .int .i64 3, .int .i64 4] 3)).alloc (.cells #[.int .i64 0, .int .i64 2, .int .i64 1, .int .i64 2] 40)).alloc (.cells #[.slice (some ⟨w.heap.size, 0, none⟩) 3 3, .slice (some ⟨w.heap.size + 1, 0, none⟩) 2 2] 25)).cell? ⟨((w.alloc (.cells #[.int .i64 2, .int .i64 3, .int .i64 4] 3)).alloc (.cells #[.int .i64 0, .int .i64 2, .int .i64 1, .int .i64 2] 40)).heap.size, 1, none⟩ = some (.slice (some ⟨w.heap.size + 1, 0, none⟩) 2 2) := by rw [World.cell?_alloc_mark]; rfl
  have m2 : ((((((w.alloc (.cells #[.int .i64 2, .int .i64 3, .int .i64 4] 3)).alloc (.cells #[.int .i64 0, .int .i64 2, .int .i64 1, .int .i64 2] 40)).alloc (.cells #[.slice (some ⟨w.heap.size, 0, none⟩) 3 3, .slice (some ⟨w.heap.size + 1, 0, none⟩) 2 2] 25)).alloc (.cells #[.int .i64 1, .int .i64 1] 3)).alloc (.cells #[.int .i64 0, .int .i64 1, .int .i64 1, .int .i64 0] 40)).alloc (.cells #[.slice (some ⟨w.heap.size + 1 + 1 + 1, 0, none⟩) 2 2, .slice (some ⟨w.heap.size + 1 + 1 + 1 + 1, 0, none⟩) 2 2] 25)).cell? ⟨(((((w.alloc (.cells #[.int .i64 2, .int .i64 3, .int .i64 4] 3)).alloc (.cells #[.int .i64 0, .int .i64 2, .int .i64 1, .int .i64 2] 40)).alloc (.cells #[.slice (some ⟨w.heap.size, 0, none⟩) 3 3, .slice (some ⟨w.heap.size + 1, 0, none⟩) 2 2] 25)).alloc (.cells #[.int .i64 1, .int .i64 1] 3)).alloc (.cells #[.int .i64 0, .int .i64 1, .int .i64 1, .int .i64 0] 40)).heap.size, 0, none⟩ = some (.slice (some ⟨w.heap.size + 1 + 1 + 1, 0, none⟩) 2 2) := by rw [World.cell?_alloc_mark]; rfl
  have m3 : ((((((w.alloc (.cells #[.int .i64 2, .int .i64 3, .int .i64 4] 3)).alloc (.cells #[.int .i64 0, .int .i64 2, .int .i64 1, .int .i64 2] 40)).alloc (.cells #[.slice (some ⟨w.heap.size, 0, none⟩) 3 3, .slice (some ⟨w.heap.size + 1, 0, none⟩) 2 2] 25)).alloc (.cells #[.int .i64 1, .int .i64 1] 3)).alloc (.cells #[.int .i64 0, .int .i64 1, .int .i64 1, .int .i64 0] 40)).alloc (.cells #[.slice (some ⟨w.heap.size + 1 + 1 + 1, 0, none⟩) 2 2, .slice (some ⟨w.heap.size + 1 + 1 + 1 + 1, 0, none⟩) 2 2] 25)).cell? ⟨(((((w.alloc (.cells #[.int .i64 2, .int .i64 3, .int .i64 4] 3)).alloc (.cells #[.int .i64 0, .int .i64 2, .int .i64 1, .int .i64 2] 40)).alloc (.cells #[.slice (some ⟨w.heap.size, 0, none⟩) 3 3, .slice (some ⟨w.heap.size + 1, 0, none⟩) 2 2] 25)).alloc (.cells #[.int .i64 1, .int .i64 1] 3)).alloc (.cells #[.int .i64 0, .int .i64 1, .int .i64 1, .int .i64 0] 40)).heap.size, 1, none⟩ = some (.slice (some ⟨w.heap.size + 1 + 1 + 1 + 1, 0, none⟩) 2 2) := by rw [World.cell?_alloc_mark]; rfl
  simp only [World.size_alloc] at m0 m1 m2 m3
  refine ⟨⟨btr b1 d2, h1.below d2, h2.below d3, h4.below d5, h5.below b6⟩, ⟨?_, ?_⟩, ?_, ?_⟩
  · rw [d4.cell (by show w.heap.size + 1 + 1 < _; simp only [World.size_alloc]; omega)]; exact m0
  · rw [d4.cell (by show w.heap.size + 1 + 1 < _; simp only [World.size_alloc]; omega)]; exact m1
  · exact m2
  · exact m3
set_option maxHeartbeats 4000000 in
set_option maxRecDepth 100000 in
theorem awake_any (w : World) : Calls Try.prog 10 #[] w fun e w' => e = .returned (.bool true) ∧ Below w.heap.size w w' := by
  obtain ⟨ha, hx⟩ := aw_start w
  go_enter Try.func10, Try.ntmps10
  go_wp2_with fail
  generalize ((((((w.alloc (.cells #[.int .i64 2, .int .i64 3, .int .i64 4] 3)).alloc (.cells #[.int .i64 0, .int .i64 2, .int .i64 1, .int .i64 2] 40)).alloc (.cells #[.slice (some ⟨w.heap.size, 0, none⟩) 3 3, .slice (some ⟨w.heap.size + 1, 0, none⟩) 2 2] 25)).alloc (.cells #[.int .i64 1, .int .i64 1] 3)).alloc (.cells #[.int .i64 0, .int .i64 1, .int .i64 1, .int .i64 0] 40)).alloc (.cells #[.slice (some ⟨w.heap.size + 1 + 1 + 1, 0, none⟩) 2 2, .slice (some ⟨w.heap.size + 1 + 1 + 1 + 1, 0, none⟩) 2 2] 25)) = w0 at *
  have HA0 := Lib.hid ha
  have HX0 := Lib.hid hx
  clear ha hx
  have hx0 := HX0.out
  obtain ⟨⟨hx0a, hx0b⟩, hx0c, hx0d⟩ := hx0
  go_wp2_with fail
  refine (check_any (some ⟨w.heap.size, 0, none⟩) 3 [2, 3, 4] (some ⟨w.heap.size + 1, 0, none⟩) 2 es0 _ HA0.out.2.1 (by decide) (by decide) HA0.out.2.2.1 (by decide)).mono ?_
  rw [c0]
  rintro e w1 ⟨rfl, hb⟩
  have HA1 := Lib.hid (HA0.out.below hb)
  have HX1 := Lib.hid (HX0.out.below hb)
  clear hb hx0a hx0b hx0c hx0d HA0 HX0
  have hx1 := HX1.out
  obtain ⟨⟨hx1a, hx1b⟩, hx1c, hx1d⟩ := hx1
  go_wp2_with fail
  refine (Total_any (some ⟨w.heap.size, 0, none⟩) 3 [2, 3, 4] (some ⟨w.heap.size + 1, 0, none⟩) 2 es0 _ HA1.out.2.1 (by decide) (by decide) HA1.out.2.2.1 (by decide)).mono ?_
  rw [t0]
  rintro e w2 ⟨rfl, hb⟩
  have HA2 := Lib.hid (HA1.out.below hb)
  have HX2 := Lib.hid (HX1.out.below hb)
  clear hb hx1a hx1b hx1c hx1d HA1 HX1
  have hx2 := HX2.out
  obtain ⟨⟨hx2a, hx2b⟩, hx2c, hx2d⟩ := hx2
  go_wp2_with fail
  refine (Long_any (some ⟨w.heap.size, 0, none⟩) 3 [2, 3, 4] (some ⟨w.heap.size + 1, 0, none⟩) 2 es0 _ HA2.out.2.1 (by decide) (by decide) HA2.out.2.2.1 (by decide)).mono ?_
  rw [k4]
  rintro e w3 ⟨rfl, hb⟩
  have HA3 := Lib.hid (HA2.out.below hb)
  have HX3 := Lib.hid (HX2.out.below hb)
  clear hb hx2a hx2b hx2c hx2d HA2 HX2
  have hx3 := HX3.out
  obtain ⟨⟨hx3a, hx3b⟩, hx3c, hx3d⟩ := hx3
  go_wp2_with fail
  refine (Order_any (some ⟨w.heap.size, 0, none⟩) 3 [2, 3, 4] (some ⟨w.heap.size + 1, 0, none⟩) 2 es0 _ HA3.out.2.1 (by decide) (by decide) HA3.out.2.2.1 (by decide)).mono ?_
  rw [o0]
  rintro e w4 hsp
  obtain ⟨A1, c1, rfl, hri, hb⟩ := SP.of hsp
  have HL1 := Lib.hid hri
  clear hsp hri
  have HA4 := Lib.hid (HA3.out.below hb)
  have HX4 := Lib.hid (HX3.out.below hb)
  clear hb hx3a hx3b hx3c hx3d HA3 HX3
  have hx4 := HX4.out
  obtain ⟨⟨hx4a, hx4b⟩, hx4c, hx4d⟩ := hx4
  go_wp2_with fail
  have hal := below_alloc w4 (.cells #[.int .i64 0, .int .i64 1, .int .i64 2] 3)
  refine (ints_any A1 (some ⟨w4.heap.size, 0, none⟩) c1 3 [0, 1, 2] [0, 1, 2] _ (HL1.out.below hal) (lit_ints w4 [0, 1, 2] #[.int .i64 0, .int .i64 1, .int .i64 2] rfl (by decide)) (by decide) (by decide)).mono ?_
  rintro e w5 ⟨rfl, hb'⟩
  have hb : Below w4.heap.size w4 w5 := hal.trans (hb'.mono hal.size)
  clear hal hb' HL1
  have HA5 := Lib.hid (HA4.out.below hb)
  have HX5 := Lib.hid (HX4.out.below hb)
  clear hb hx4a hx4b hx4c hx4d HA4 HX4
  have hx5 := HX5.out
  obtain ⟨⟨hx5a, hx5b⟩, hx5c, hx5d⟩ := hx5
  go_wp2_with fail
  refine (Before_any (some ⟨w.heap.size, 0, none⟩) 3 [2, 3, 4] (some ⟨w.heap.size + 1, 0, none⟩) 2 es0 1 2 _ HA5.out.2.1 (by decide) (by decide) HA5.out.2.2.1 (by decide)).mono ?_
  rw [k5]
  rintro e w6 ⟨rfl, hb⟩
  have HA6 := Lib.hid (HA5.out.below hb)
  have HX6 := Lib.hid (HX5.out.below hb)
  clear hb hx5a hx5b hx5c hx5d HA5 HX5
  have hx6 := HX6.out
  obtain ⟨⟨hx6a, hx6b⟩, hx6c, hx6d⟩ := hx6
  go_wp2_with fail
  refine (Before_any (some ⟨w.heap.size, 0, none⟩) 3 [2, 3, 4] (some ⟨w.heap.size + 1, 0, none⟩) 2 es0 0 1 _ HA6.out.2.1 (by decide) (by decide) HA6.out.2.2.1 (by decide)).mono ?_
  rw [k6]
  rintro e w7 ⟨rfl, hb⟩
  have HA7 := Lib.hid (HA6.out.below hb)
  have HX7 := Lib.hid (HX6.out.below hb)
  clear hb hx6a hx6b hx6c hx6d HA6 HX6
  have hx7 := HX7.out
  obtain ⟨⟨hx7a, hx7b⟩, hx7c, hx7d⟩ := hx7
  go_wp2_with fail
  refine (Preds_any (some ⟨w.heap.size, 0, none⟩) 3 [2, 3, 4] (some ⟨w.heap.size + 1, 0, none⟩) 2 es0 2 _ HA7.out.2.1 (by decide) (by decide) HA7.out.2.2.1 (by decide)).mono ?_
  rw [k7]
  rintro e w8 hsp
  obtain ⟨A1, c1, rfl, hri, hb⟩ := SP.of hsp
  have HL1 := Lib.hid hri
  clear hsp hri
  have HA8 := Lib.hid (HA7.out.below hb)
  have HX8 := Lib.hid (HX7.out.below hb)
  clear hb hx7a hx7b hx7c hx7d HA7 HX7
  have hx8 := HX8.out
  obtain ⟨⟨hx8a, hx8b⟩, hx8c, hx8d⟩ := hx8
  go_wp2_with fail
  have hal := below_alloc w8 (.cells #[.int .i64 0, .int .i64 1] 3)
  refine (ints_any A1 (some ⟨w8.heap.size, 0, none⟩) c1 2 [0, 1] [0, 1] _ (HL1.out.below hal) (lit_ints w8 [0, 1] #[.int .i64 0, .int .i64 1] rfl (by decide)) (by decide) (by decide)).mono ?_
  rintro e w9 ⟨rfl, hb'⟩
  have hb : Below w8.heap.size w8 w9 := hal.trans (hb'.mono hal.size)
  clear hal hb' HL1
  have HA9 := Lib.hid (HA8.out.below hb)
  have HX9 := Lib.hid (HX8.out.below hb)
  clear hb hx8a hx8b hx8c hx8d HA8 HX8
  have hx9 := HX9.out
  obtain ⟨⟨hx9a, hx9b⟩, hx9c, hx9d⟩ := hx9
  go_wp2_with fail
  refine (Succs_any (some ⟨w.heap.size, 0, none⟩) 3 [2, 3, 4] (some ⟨w.heap.size + 1, 0, none⟩) 2 es0 0 _ HA9.out.2.1 (by decide) (by decide) HA9.out.2.2.1 (by decide)).mono ?_
  rw [k8]
  rintro e w10 hsp
  obtain ⟨A1, c1, rfl, hri, hb⟩ := SP.of hsp
  have HL1 := Lib.hid hri
  clear hsp hri
  have HA10 := Lib.hid (HA9.out.below hb)
  have HX10 := Lib.hid (HX9.out.below hb)
  clear hb hx9a hx9b hx9c hx9d HA9 HX9
  have hx10 := HX10.out
  obtain ⟨⟨hx10a, hx10b⟩, hx10c, hx10d⟩ := hx10
  go_wp2_with fail
  have hal := below_alloc w10 (.cells #[.int .i64 2] 3)
  refine (ints_any A1 (some ⟨w10.heap.size, 0, none⟩) c1 1 [2] [2] _ (HL1.out.below hal) (lit_ints w10 [2] #[.int .i64 2] rfl (by decide)) (by decide) (by decide)).mono ?_
  rintro e w11 ⟨rfl, hb'⟩
  have hb : Below w10.heap.size w10 w11 := hal.trans (hb'.mono hal.size)
  clear hal hb' HL1
  have HA11 := Lib.hid (HA10.out.below hb)
  have HX11 := Lib.hid (HX10.out.below hb)
  clear hb hx10a hx10b hx10c hx10d HA10 HX10
  have hx11 := HX11.out
  obtain ⟨⟨hx11a, hx11b⟩, hx11c, hx11d⟩ := hx11
  go_wp2_with fail
  refine (check_any (some ⟨w.heap.size + 1 + 1 + 1, 0, none⟩) 2 [1, 1] (some ⟨w.heap.size + 1 + 1 + 1 + 1, 0, none⟩) 2 es1 _ HA11.out.2.2.2.1 (by decide) (by decide) HA11.out.2.2.2.2 (by decide)).mono ?_
  rw [q1]
  rintro e w12 ⟨rfl, hb⟩
  have HA12 := Lib.hid (HA11.out.below hb)
  have HX12 := Lib.hid (HX11.out.below hb)
  clear hb hx11a hx11b hx11c hx11d HA11 HX11
  have hx12 := HX12.out
  obtain ⟨⟨hx12a, hx12b⟩, hx12c, hx12d⟩ := hx12
  go_wp2_with fail
  refine (Same_any (some ⟨w.heap.size, 0, none⟩) (some ⟨w.heap.size + 1, 0, none⟩) (some ⟨w.heap.size, 0, none⟩) (some ⟨w.heap.size + 1, 0, none⟩) 3 2 3 2 [2, 3, 4] [2, 3, 4] es0 es0 _ HA12.out.2.1 HA12.out.2.1 HA12.out.2.2.1 HA12.out.2.2.1 (by decide) (by decide) (by decide) (by decide)).mono ?_
  rw [show decide ([2, 3, 4] = ([2, 3, 4] : List Int) ∧ es0 = es0) = true by decide]
  rintro e w13 ⟨rfl, hb⟩
  have HA13 := Lib.hid (HA12.out.below hb)
  have HX13 := Lib.hid (HX12.out.below hb)
  clear hb hx12a hx12b hx12c hx12d HA12 HX12
  have hx13 := HX13.out
  obtain ⟨⟨hx13a, hx13b⟩, hx13c, hx13d⟩ := hx13
  go_wp2_with fail
  refine (Same_any (some ⟨w.heap.size, 0, none⟩) (some ⟨w.heap.size + 1, 0, none⟩) (some ⟨w.heap.size + 1 + 1 + 1, 0, none⟩) (some ⟨w.heap.size + 1 + 1 + 1 + 1, 0, none⟩) 3 2 2 2 [2, 3, 4] [1, 1] es0 es1 _ HA13.out.2.1 HA13.out.2.2.2.1 HA13.out.2.2.1 HA13.out.2.2.2.2 (by decide) (by decide) (by decide) (by decide)).mono ?_
  rw [show decide ([2, 3, 4] = ([1, 1] : List Int) ∧ es0 = es1) = false by decide]
  rintro e w14 ⟨rfl, hb⟩
  have HA14 := Lib.hid (HA13.out.below hb)
  have HX14 := Lib.hid (HX13.out.below hb)
  clear hb hx13a hx13b hx13c hx13d HA13 HX13
  go_wp2_with fail
  go_ret
  exact ⟨rfl, HA14.out.1⟩
end Go.Proofs.Ytjkindoedkjnbaa
