/- Texts of this work, put into one: SchAwake, SchFacts, SchSums. -/
import Derived.Test.YtnnbgfjokbaepaaZCMSchB
import Derived.Test.YtnnbgfjokbaepaaZCMDagB
import Derived.Test.YtnnbgfjokbaepaaZCMSchA
set_option linter.unusedVariables false
set_option linter.unusedSimpArgs false
namespace Go.Proofs.Ytnnbgfjokbaepaa
open Go.RowKit Go.Sort
open DagPlain SchPlain
open Go.Proofs.YtnnbgfjokbaepaaW.PrintWords

def ea : List (Int × Int) := [(0, 1)]
def ta : List (List Int) := [[0], [0], [1]]
def na : List Int := [2, 1]
theorem av1 : lookR [1, 1] ea na 1 ta = 0 := by decide +kernel
theorem av2 : endsL [1, 1] ea na 1 ta = [2, 3] := by decide +kernel
theorem av3 : greedyL [1, 1] ea na 1 ta = true := by decide +kernel
theorem av4 : busyL ta = 3 := by decide +kernel
theorem av6 : lookR [1, 1] ea na 1 [[1]] = 103 := by decide +kernel
theorem av7 : greedyL [1, 1] ea na 1 [[-1]] = false := by decide +kernel
theorem na0 : checkL na ea = 0 := by decide +kernel
theorem na1 : ordL na ea = [0, 1] := by decide +kernel
theorem na2 : predL 0 ea = [] := by unfold predL; exact sortL_id (by decide)
theorem na3 : predL 1 ea = [0] := by unfold predL; exact sortL_id (by decide)
theorem na4 : longL na ea = 3 := by
  unfold longL
  rw [na1]
  simp only [List.foldl_cons, List.foldl_nil, stepN, stepM, stepF, na2, na3]
  decide
theorem av5 : boundL [1, 1] ea na 1 = 3 := by
  have h : rightR [1, 1] ea na 1 = true := by decide +kernel
  unfold boundL
  rw [if_pos h, na4]
  unfold totL
  rw [if_pos na0]
  decide
theorem lit_edge1 (w : World) (a b : Int) : EdR (w.alloc (.cells #[.int .i64 a, .int .i64 b] 45)) (some ⟨w.heap.size, 0, none⟩) [(a, b)] := fun _ => by
  refine ⟨_, rfl, fun i hi => ?_⟩
  obtain rfl : i = 0 := by simp at hi; omega
  exact ⟨by rw [show (⟨w.heap.size, 0, none⟩ : Addr).add (0 * 2) = ⟨w.heap.size, 0, none⟩ by simp [Addr.add], World.cell?_alloc_mark]; rfl, by rw [show (⟨w.heap.size, 0, none⟩ : Addr).add (0 * 2) = ⟨w.heap.size, 0, none⟩ by simp [Addr.add], World.cell?_alloc_mark]; rfl⟩
/-- A row of rows, laid just now. -/
theorem lit_rows (w : World) (As : List (Nat × Nat)) (ts : List (List Int)) (cs : Array Value) (hl : As.length = ts.length) (hc : ∀ i, i < ts.length → cs[i]? = some (.slice (some ⟨(As.getD i (0, 0)).1, 0, none⟩) (ts.getD i []).length (As.getD i (0, 0)).2))
    (h : ∀ i, i < ts.length → (ts.getD i []).length ≤ (As.getD i (0, 0)).2 ∧ ReadsInt w .i64 (some ⟨(As.getD i (0, 0)).1, 0, none⟩) (ts.getD i []).length (ts.getD i [])) : TrR (w.alloc (.cells cs 22)) (some ⟨w.heap.size, 0, none⟩) ts := fun h0 => by
  refine ⟨_, rfl, fun i hi => ⟨_, _, ?_, (h i hi).1, (h i hi).2.below (below_alloc _ _)⟩⟩
  rw [show (⟨w.heap.size, 0, none⟩ : Addr).add i = ⟨w.heap.size, i, none⟩ by simp [Addr.add, eq_comm], World.cell?_alloc_mark]
  exact hc i hi
structure AX (w W : World) : Prop where
  fr : Below w.heap.size w W
  r0 : ReadsInt W .i64 (some ⟨w.heap.size, 0, none⟩) 2 [1, 1]
  e0 : EdR W (some ⟨w.heap.size + 1, 0, none⟩) ea
  b0 : W.cell? ⟨w.heap.size + 1 + 1, 0, none⟩ = some (.slice (some ⟨w.heap.size, 0, none⟩) 2 2)
  b1 : W.cell? ⟨w.heap.size + 1 + 1, 1, none⟩ = some (.slice (some ⟨w.heap.size + 1, 0, none⟩) 1 1)
  t0 : TrR W (some ⟨w.heap.size + 1 + 1 + 1 + 1 + 1 + 1, 0, none⟩) ta
theorem AX.below {w W W' : World} (h : AX w W) (hb : Below W.heap.size W W') : AX w W' :=
  ⟨h.fr.trans (hb.mono h.fr.size), h.r0.below hb, h.e0.below hb, by rw [hb.cell (block_lt_of_cell h.b0)]; exact h.b0, by rw [hb.cell (block_lt_of_cell h.b1)]; exact h.b1, h.t0.below hb⟩
theorem AX.si {w W : World} (h : AX w W) {D : Option Addr} {dc : Nat} (hD : ReadsInt W .i64 D na.length na) : SI W (some ⟨w.heap.size, 0, none⟩) 2 [1, 1] (some ⟨w.heap.size + 1, 0, none⟩) 1 ea D dc na (some ⟨w.heap.size + 1 + 1 + 1 + 1 + 1 + 1, 0, none⟩) 3 ta :=
  ⟨⟨⟨by decide, h.r0⟩, by decide, h.e0⟩, ⟨by decide, by decide⟩, hD, by decide, h.t0, by decide⟩
theorem AX.si1 {w W : World} (h : AX w W) {D T : Option Addr} {dc tc : Nat} {x : Int} (hD : ReadsInt W .i64 D na.length na) (hT : TrR W T [[x]]) : SI W (some ⟨w.heap.size, 0, none⟩) 2 [1, 1] (some ⟨w.heap.size + 1, 0, none⟩) 1 ea D dc na T tc [[x]] :=
  ⟨⟨⟨by decide, h.r0⟩, by decide, h.e0⟩, ⟨by decide, by decide⟩, hD, by decide, hT, by simp⟩
theorem one_row (w : World) (x : Int) : TrR ((w.alloc (.cells #[.int .i64 x] 3)).alloc (.cells #[.slice (some ⟨w.heap.size, 0, none⟩) 1 1] 22)) (some ⟨w.heap.size + 1, 0, none⟩) [[x]] := by
  have h1 := lit_ints w [x] #[.int .i64 x] rfl (by simp)
  have s1 : (w.alloc (.cells #[.int .i64 x] 3)).heap.size = w.heap.size + 1 := World.size_alloc _ _
  have h := lit_rows (w.alloc (.cells #[.int .i64 x] 3)) [(w.heap.size, 1)] [[x]] #[.slice (some ⟨w.heap.size, 0, none⟩) 1 1] rfl
    (fun i hi => by
      obtain rfl : i = 0 := by simp at hi; omega
      rfl)
    (fun i hi => by
      obtain rfl : i = 0 := by simp at hi; omega
      exact ⟨Nat.le_refl _, h1⟩)
  rw [s1] at h
  exact h
set_option maxHeartbeats 1000000 in
theorem ax_start (w : World) : AX w (((((((w.alloc (.cells #[.int .i64 1, .int .i64 1] 3)).alloc (.cells #[.int .i64 0, .int .i64 1] 45)).alloc (.cells #[.slice (some ⟨w.heap.size, 0, none⟩) 2 2, .slice (some ⟨w.heap.size + 1, 0, none⟩) 1 1] 25)).alloc (.cells #[.int .i64 0] 3)).alloc (.cells #[.int .i64 0] 3)).alloc (.cells #[.int .i64 1] 3)).alloc (.cells #[.slice (some ⟨w.heap.size + 1 + 1 + 1, 0, none⟩) 1 1, .slice (some ⟨w.heap.size + 1 + 1 + 1 + 1, 0, none⟩) 1 1, .slice (some ⟨w.heap.size + 1 + 1 + 1 + 1 + 1, 0, none⟩) 1 1] 22)) := by
  have h1 := lit_ints w [1, 1] #[.int .i64 1, .int .i64 1] rfl (by decide)
  have s1 : (w.alloc (.cells #[.int .i64 1, .int .i64 1] 3)).heap.size = w.heap.size + 1 := World.size_alloc _ _
  have b1 := below_alloc w (.cells #[.int .i64 1, .int .i64 1] 3)
  generalize w.alloc (.cells #[.int .i64 1, .int .i64 1] 3) = w1 at *
  have h2 := lit_edge1 w1 0 1
  have s2 : (w1.alloc (.cells #[.int .i64 0, .int .i64 1] 45)).heap.size = w.heap.size + 1 + 1 := by rw [World.size_alloc, s1]
  have b2 := below_alloc w1 (.cells #[.int .i64 0, .int .i64 1] 45)
  rw [s1] at h2
  generalize w1.alloc (.cells #[.int .i64 0, .int .i64 1] 45) = w2 at *
  obtain ⟨-, h3, h4⟩ := DS.start w2 (some ⟨w.heap.size, 0, none⟩) 2 2 (some ⟨w.heap.size + 1, 0, none⟩) 1 1 25
  have s3 : (w2.alloc (.cells #[.slice (some ⟨w.heap.size, 0, none⟩) 2 2, .slice (some ⟨w.heap.size + 1, 0, none⟩) 1 1] 25)).heap.size = w.heap.size + 1 + 1 + 1 := by rw [World.size_alloc, s2]
  have b3 := below_alloc w2 (.cells #[.slice (some ⟨w.heap.size, 0, none⟩) 2 2, .slice (some ⟨w.heap.size + 1, 0, none⟩) 1 1] 25)
  rw [s2] at h3 h4
  generalize w2.alloc (.cells #[.slice (some ⟨w.heap.size, 0, none⟩) 2 2, .slice (some ⟨w.heap.size + 1, 0, none⟩) 1 1] 25) = w3 at *
  have h5 := lit_ints w3 [0] #[.int .i64 0] rfl (by decide)
  have s4 : (w3.alloc (.cells #[.int .i64 0] 3)).heap.size = w.heap.size + 1 + 1 + 1 + 1 := by rw [World.size_alloc, s3]
  have b4 := below_alloc w3 (.cells #[.int .i64 0] 3)
  rw [s3] at h5
  generalize w3.alloc (.cells #[.int .i64 0] 3) = w4 at *
  have h6 := lit_ints w4 [0] #[.int .i64 0] rfl (by decide)
  have s5 : (w4.alloc (.cells #[.int .i64 0] 3)).heap.size = w.heap.size + 1 + 1 + 1 + 1 + 1 := by rw [World.size_alloc, s4]
  have b5 := below_alloc w4 (.cells #[.int .i64 0] 3)
  rw [s4] at h6
  generalize w4.alloc (.cells #[.int .i64 0] 3) = w5 at *
  have h7 := lit_ints w5 [1] #[.int .i64 1] rfl (by decide)
  have s6 : (w5.alloc (.cells #[.int .i64 1] 3)).heap.size = w.heap.size + 1 + 1 + 1 + 1 + 1 + 1 := by rw [World.size_alloc, s5]
  have b6 := below_alloc w5 (.cells #[.int .i64 1] 3)
  rw [s5] at h7
  generalize w5.alloc (.cells #[.int .i64 1] 3) = w6 at *
  have d5 := btr b5 b6
  have b7 := below_alloc w6 (.cells #[.slice (some ⟨w.heap.size + 1 + 1 + 1, 0, none⟩) 1 1, .slice (some ⟨w.heap.size + 1 + 1 + 1 + 1, 0, none⟩) 1 1, .slice (some ⟨w.heap.size + 1 + 1 + 1 + 1 + 1, 0, none⟩) 1 1] 22)
  have h8 := lit_rows w6 [(w.heap.size + 1 + 1 + 1, 1), (w.heap.size + 1 + 1 + 1 + 1, 1), (w.heap.size + 1 + 1 + 1 + 1 + 1, 1)] ta #[.slice (some ⟨w.heap.size + 1 + 1 + 1, 0, none⟩) 1 1, .slice (some ⟨w.heap.size + 1 + 1 + 1 + 1, 0, none⟩) 1 1, .slice (some ⟨w.heap.size + 1 + 1 + 1 + 1 + 1, 0, none⟩) 1 1] rfl
    (fun i hi => by
      have h3 : i = 0 ∨ i = 1 ∨ i = 2 := by simp [ta] at hi; omega
      rcases h3 with rfl | rfl | rfl <;> rfl)
    (fun i hi => by
      have h3 : i = 0 ∨ i = 1 ∨ i = 2 := by simp [ta] at hi; omega
      rcases h3 with rfl | rfl | rfl
      · exact ⟨Nat.le_refl _, h5.below d5⟩
      · exact ⟨Nat.le_refl _, h6.below b6⟩
      · exact ⟨Nat.le_refl _, h7⟩)
  rw [s6] at h8
  have d6 := btr b6 b7
  have d4 := btr b4 (btr b5 d6)
  have d3 := btr b3 d4
  have d2 := btr b2 d3
  exact ⟨btr b1 d2, h1.below d2, h2.below d3, (d4.cell (block_lt_of_cell h3)).trans h3, (d4.cell (block_lt_of_cell h4)).trans h4, h8⟩
theorem lit_na (w : World) : ReadsInt (w.alloc (.cells #[.int .i64 2, .int .i64 1] 3)) .i64 (some ⟨w.heap.size, 0, none⟩) na.length na := lit_ints w na #[.int .i64 2, .int .i64 1] rfl (by decide)
set_option maxRecDepth 100000 in
set_option maxHeartbeats 8000000 in
theorem awake10_any (w : World) : Calls Try.prog 10 #[] w fun e w' => e = .returned (.bool true) ∧ Below w.heap.size w w' := by
  have HA0 := Lib.hid (ax_start w)
  have hs0 : (((((((w.alloc (.cells #[.int .i64 1, .int .i64 1] 3)).alloc (.cells #[.int .i64 0, .int .i64 1] 45)).alloc (.cells #[.slice (some ⟨w.heap.size, 0, none⟩) 2 2, .slice (some ⟨w.heap.size + 1, 0, none⟩) 1 1] 25)).alloc (.cells #[.int .i64 0] 3)).alloc (.cells #[.int .i64 0] 3)).alloc (.cells #[.int .i64 1] 3)).alloc (.cells #[.slice (some ⟨w.heap.size + 1 + 1 + 1, 0, none⟩) 1 1, .slice (some ⟨w.heap.size + 1 + 1 + 1 + 1, 0, none⟩) 1 1, .slice (some ⟨w.heap.size + 1 + 1 + 1 + 1 + 1, 0, none⟩) 1 1] 22)).heap.size = w.heap.size + 1 + 1 + 1 + 1 + 1 + 1 + 1 := by simp
  go_enter Try.func10, Try.ntmps10
  go_wp2_with fail
  generalize (((((((w.alloc (.cells #[.int .i64 1, .int .i64 1] 3)).alloc (.cells #[.int .i64 0, .int .i64 1] 45)).alloc (.cells #[.slice (some ⟨w.heap.size, 0, none⟩) 2 2, .slice (some ⟨w.heap.size + 1, 0, none⟩) 1 1] 25)).alloc (.cells #[.int .i64 0] 3)).alloc (.cells #[.int .i64 0] 3)).alloc (.cells #[.int .i64 1] 3)).alloc (.cells #[.slice (some ⟨w.heap.size + 1 + 1 + 1, 0, none⟩) 1 1, .slice (some ⟨w.heap.size + 1 + 1 + 1 + 1, 0, none⟩) 1 1, .slice (some ⟨w.heap.size + 1 + 1 + 1 + 1 + 1, 0, none⟩) 1 1] 22)) = w0 at *
  have HS0 := Lib.hid hs0
  clear hs0
  have hal := below_alloc w0 (.cells #[.int .i64 2, .int .i64 1] 3)
  refine (sCheck_any _ _ [1, 1] _ _ ea _ _ na 1 _ _ ta _ ((HA0.out.below hal).si (by rw [← HS0.out]; exact lit_na w0))).mono ?_
  rw [av1]
  rintro e w1 ⟨rfl, hb'⟩
  have hb := btr hal hb'
  clear hal hb' HS0
  have HA1 := Lib.hid (HA0.out.below hb)
  clear hb HA0
  have hx0 := HA1.out.b0
  have hx1 := HA1.out.b1
  go_wp2_with fail
  clear hx0 hx1
  have hal := below_alloc w1 (.cells #[.int .i64 2, .int .i64 1] 3)
  refine (sEnds_any _ _ [1, 1] _ _ ea _ _ na 1 _ _ ta _ ((HA1.out.below hal).si (lit_na w1))).mono ?_
  rw [av2]
  rintro e w2 ⟨A1, c1, rfl, -, hr, hb'⟩
  have hb := btr hal hb'
  have HR := Lib.hid hr
  clear hal hb' hr
  have HA2 := Lib.hid (HA1.out.below hb)
  clear hb HA1
  have hx0 := HA2.out.b0
  have hx1 := HA2.out.b1
  go_wp2_with fail
  clear hx0 hx1
  have hal := below_alloc w2 (.cells #[.int .i64 2, .int .i64 3] 3)
  refine (ints_any A1 (some ⟨w2.heap.size, 0, none⟩) c1 2 [2, 3] [2, 3] _ (HR.out.below hal) (lit_ints w2 [2, 3] #[.int .i64 2, .int .i64 3] rfl (by decide)) (by decide) (by decide)).mono ?_
  rintro e w3 ⟨rfl, hb'⟩
  have hb := btr hal hb'
  clear hal hb' HR
  have HA3 := Lib.hid (HA2.out.below hb)
  clear hb HA2
  have hx0 := HA3.out.b0
  have hx1 := HA3.out.b1
  go_wp2_with fail
  clear hx0 hx1
  have hal := below_alloc w3 (.cells #[.int .i64 2, .int .i64 1] 3)
  refine (sGreedy_any _ _ [1, 1] _ _ ea _ _ na 1 _ _ ta _ ((HA3.out.below hal).si (lit_na w3))).mono ?_
  rw [av3]
  rintro e w4 ⟨rfl, hb'⟩
  have hb := btr hal hb'
  clear hal hb'
  have HA4 := Lib.hid (HA3.out.below hb)
  clear hb HA3
  have hx0 := HA4.out.b0
  have hx1 := HA4.out.b1
  go_wp2_with fail
  refine (sBusy_any _ _ ta _ HA4.out.t0 (by decide) (by decide)).mono ?_
  rw [av4]
  rintro e w5 ⟨rfl, rfl⟩
  go_wp2_with fail
  clear hx0 hx1
  have hal := below_alloc w4 (.cells #[.int .i64 2, .int .i64 1] 3)
  refine (sBound_any _ _ [1, 1] _ _ ea _ _ na 1 _ (AX.si (dc := 2) (HA4.out.below hal) (lit_na w4)).1 (by decide) (by decide) (lit_na w4) (by decide)).mono ?_
  rw [av5]
  rintro e w6 ⟨rfl, hb'⟩
  have hb := btr hal hb'
  clear hal hb'
  have HA6 := Lib.hid (HA4.out.below hb)
  clear hb HA4
  have hx0 := HA6.out.b0
  have hx1 := HA6.out.b1
  go_wp2_with fail
  clear hx0 hx1
  have hal := below_alloc w6 (.cells #[.int .i64 2, .int .i64 1] 3)
  have hal2 := btr (below_alloc (w6.alloc (.cells #[.int .i64 2, .int .i64 1] 3)) (.cells #[.int .i64 1] 3)) (below_alloc ((w6.alloc (.cells #[.int .i64 2, .int .i64 1] 3)).alloc (.cells #[.int .i64 1] 3)) (.cells #[.slice (some ⟨w6.heap.size + 1, 0, none⟩) 1 1] 22))
  have hor := one_row (w6.alloc (.cells #[.int .i64 2, .int .i64 1] 3)) 1
  rw [show (w6.alloc (.cells #[.int .i64 2, .int .i64 1] 3)).heap.size = w6.heap.size + 1 from World.size_alloc _ _] at hor
  refine (sCheck_any _ _ [1, 1] _ _ ea _ _ na 1 _ _ [[1]] _ ((HA6.out.below (btr hal hal2)).si1 ((lit_na w6).below hal2) hor)).mono ?_
  rw [av6]
  rintro e w7 ⟨rfl, hb'⟩
  have hb := btr (btr hal hal2) hb'
  clear hal hal2 hor hb'
  have HA7 := Lib.hid (HA6.out.below hb)
  clear hb HA6
  have hx0 := HA7.out.b0
  have hx1 := HA7.out.b1
  go_wp2_with fail
  clear hx0 hx1
  have hal := below_alloc w7 (.cells #[.int .i64 2, .int .i64 1] 3)
  have hal2 := btr (below_alloc (w7.alloc (.cells #[.int .i64 2, .int .i64 1] 3)) (.cells #[.int .i64 (-1)] 3)) (below_alloc ((w7.alloc (.cells #[.int .i64 2, .int .i64 1] 3)).alloc (.cells #[.int .i64 (-1)] 3)) (.cells #[.slice (some ⟨w7.heap.size + 1, 0, none⟩) 1 1] 22))
  have hor := one_row (w7.alloc (.cells #[.int .i64 2, .int .i64 1] 3)) (-1)
  rw [show (w7.alloc (.cells #[.int .i64 2, .int .i64 1] 3)).heap.size = w7.heap.size + 1 from World.size_alloc _ _] at hor
  refine (sGreedy_any _ _ [1, 1] _ _ ea _ _ na 1 _ _ [[-1]] _ ((HA7.out.below (btr hal hal2)).si1 ((lit_na w7).below hal2) hor)).mono ?_
  rw [av7]
  rintro e w8 ⟨rfl, hb'⟩
  have hb := btr (btr hal hal2) hb'
  clear hal hal2 hor hb'
  have HA8 := Lib.hid (HA7.out.below hb)
  clear hb HA7
  go_wp2_with fail
  go_ret
  exact ⟨rfl, HA8.out.fr⟩
end Go.Proofs.Ytnnbgfjokbaepaa

set_option linter.unusedVariables false
set_option linter.unusedSimpArgs false
namespace SchPlain
open DagPlain
theorem getD_put {α : Type} (F : List α) (i j : Nat) (x d : α) : (F.set i x).getD j d = if i = j ∧ i < F.length then x else F.getD j d := by
  rw [List.getD_eq_getElem?_getD, List.getD_eq_getElem?_getD, List.getElem?_set]
  by_cases h : i = j
  · subst h
    by_cases h2 : i < F.length
    · simp [h2]
    · simp [h2]
  · simp [h]
def LenS (s : Seen) (n : Nat) : Prop := s.ran.length = n ∧ s.last.length = n ∧ s.fin.length = n
theorem LenS.run {s : Seen} {n : Nat} (h : LenS s n) (need : List Int) (x tick core : Int) : LenS (runS need s x tick core) n := by
  obtain ⟨h1, h2, h3⟩ := h
  unfold runS LenS
  simp only [List.length_set]
  refine ⟨h1, h2, ?_⟩
  split <;> simp [h3]
theorem LenS.part {s : Seen} {n : Nat} (h : LenS s n) (need row : List Int) (tick : Int) : ∀ c : Nat, LenS (partRow need s row tick c) n
  | 0 => h
  | c + 1 => by
    rw [partRow_next]
    unfold runC
    split
    · exact LenS.part h need row tick c
    · exact (LenS.part h need row tick c).run need _ _ _
theorem stAt_len (need : List Int) (ts : List (List Int)) : ∀ k, LenS (stAt need ts k) need.length
  | 0 => by simp [stAt, begin_, LenS]
  | k + 1 => (stAt_len need ts k).part need _ _ _
/-- What was seen of one node. -/
def At (s : Seen) (n : Nat) : Int × (Int × Int) × Int := (s.ran.getD n 0, s.last.getD n (0, 0), s.fin.getD n 0)
theorem runS_far {s : Seen} {need : List Int} {x tick core : Int} {n : Nat} (h : x.toNat ≠ n) : At (runS need s x tick core) n = At s n := by
  unfold At runS
  simp only
  rw [getD_put, if_neg (fun e => h e.1), getD_put, if_neg (fun e => h e.1)]
  split
  · rw [getD_put, if_neg (fun e => h e.1)]
  · rfl
theorem runS_at {s : Seen} {need : List Int} {tick core : Int} {n N : Nat} (hl : LenS s N) (hn : n < N) : At (runS need s (n : Int) tick core) n = (s.ran.getD n 0 + 1, (tick, core), if s.ran.getD n 0 + 1 = need.getD n 0 then tick + 1 else s.fin.getD n 0) := by
  obtain ⟨h1, h2, h3⟩ := hl
  unfold At runS
  simp only [Int.toNat_natCast]
  rw [getD_put, if_pos ⟨rfl, by omega⟩, getD_put, if_pos ⟨rfl, by omega⟩]
  split
  · rw [getD_put, if_pos ⟨rfl, by omega⟩]
  · rfl
theorem take_mem_next {row : List Int} {c : Nat} (hc : c < row.length) (x : Int) : x ∈ row.take (c + 1) ↔ x ∈ row.take c ∨ row.getD c 0 = x := by
  rw [List.take_add_one, List.getD_eq_getElem?_getD, List.getElem?_eq_getElem hc]
  simp only [Option.toList_some, List.mem_append, List.mem_singleton, Option.getD_some]
  exact ⟨fun h => h.imp id Eq.symm, fun h => h.imp id Eq.symm⟩
theorem part_far {s : Seen} {need row : List Int} {tick : Int} {n : Nat} (hr : ∀ c, c < row.length → -1 ≤ row.getD c 0) : ∀ c, c ≤ row.length → (n : Int) ∉ row.take c → At (partRow need s row tick c) n = At s n
  | 0, _, _ => rfl
  | c + 1, hc, hn => by
    rw [take_mem_next (by omega)] at hn
    rw [partRow_next]
    unfold runC
    have h1 := hr c (by omega)
    split
    · exact part_far hr c (by omega) (fun h => hn (.inl h))
    · rename_i hne
      rw [runS_far (by intro e; exact hn (.inr (by omega)))]
      exact part_far hr c (by omega) (fun h => hn (.inl h))
theorem part_at {s : Seen} {need row : List Int} {tick : Int} {n N c0 : Nat} (hl : LenS s N) (hn : n < N) (hr : ∀ c, c < row.length → -1 ≤ row.getD c 0) (hc0 : c0 < row.length) (hx : row.getD c0 0 = (n : Int)) (hu : ∀ c, c < row.length → row.getD c 0 = (n : Int) → c = c0) :
    ∀ c, c0 < c → c ≤ row.length → At (partRow need s row tick c) n = (s.ran.getD n 0 + 1, (tick, (c0 : Int)), if s.ran.getD n 0 + 1 = need.getD n 0 then tick + 1 else s.fin.getD n 0)
  | 0, h, _ => absurd h (by omega)
  | c + 1, h, hc => by
    rw [partRow_next]
    unfold runC
    by_cases e : c = c0
    · subst e
      rw [if_neg (by rw [hx]; omega), hx, runS_at (hl.part need row tick c) hn]
      have hf := part_far (need := need) (s := s) (tick := tick) (n := n) hr c (by omega) (by
        intro hm
        obtain ⟨j, hj, e⟩ := List.mem_take_iff_getElem.1 hm
        have := hu j (by omega) (by rw [List.getD_eq_getElem?_getD, List.getElem?_eq_getElem (by omega)]; exact e)
        omega)
      unfold At at hf
      simp only [Prod.mk.injEq] at hf
      rw [hf.1, hf.2.2]
    · have ih := part_at (need := need) (tick := tick) hl hn hr hc0 hx hu c (by omega) (by omega)
      split
      · exact ih
      · rename_i hne
        have h1 := hr c (by omega)
        rw [runS_far (by intro e2; exact e (hu c (by omega) (by omega)))]
        exact ih
/-- Of a row that may be: each node is one, and stands there once; what each asked. -/
structure RowOk (es : List (Int × Int)) (need : List Int) (s : Seen) (row : List Int) (tick : Int) : Prop where
  inb : ∀ c, c < row.length → -1 ≤ row.getD c 0 ∧ row.getD c 0 < need.length
  one : ∀ (n : Nat) (c c' : Nat), c < row.length → c' < row.length → row.getD c 0 = (n : Int) → row.getD c' 0 = (n : Int) → c = c'
  more : ∀ (n c : Nat), c < row.length → row.getD c 0 = (n : Int) → s.ran.getD n 0 < need.getD n 0
  same : ∀ (n c : Nat), c < row.length → row.getD c 0 = (n : Int) → 0 < s.ran.getD n 0 → s.last.getD n (0, 0) = (tick - 1, (c : Int))
  free : ∀ (n c : Nat), c < row.length → row.getD c 0 = (n : Int) → s.ran.getD n 0 = 0 → freeB es s n tick = true
theorem one_zero {es : List (Int × Int)} {need : List Int} {s : Seen} {row : List Int} {tick : Int} {c : Nat} (h : oneE es need s row tick c = 0) : ¬ (row.getD c 0 < -1 ∨ need.length ≤ row.getD c 0) ∧ ¬ (row.take c).contains (row.getD c 0) = true ∧ ¬ need.getD (row.getD c 0).toNat 0 ≤ s.ran.getD (row.getD c 0).toNat 0 ∧ ¬ splitB s (row.getD c 0) tick c = true ∧ ¬ (s.ran.getD (row.getD c 0).toNat 0 = 0 ∧ freeB es s (row.getD c 0) tick = false) := by
  unfold oneE at h
  by_cases h1 : row.getD c 0 < -1 ∨ need.length ≤ row.getD c 0
  · rw [if_pos h1] at h; cases h
  rw [if_neg h1] at h
  by_cases h2 : (row.take c).contains (row.getD c 0) = true
  · rw [if_pos h2] at h; cases h
  rw [if_neg h2] at h
  by_cases h3 : need.getD (row.getD c 0).toNat 0 ≤ s.ran.getD (row.getD c 0).toNat 0
  · rw [if_pos h3] at h; cases h
  rw [if_neg h3] at h
  by_cases h4 : splitB s (row.getD c 0) tick c = true
  · rw [if_pos h4] at h; cases h
  rw [if_neg h4] at h
  by_cases h5 : s.ran.getD (row.getD c 0).toNat 0 = 0 ∧ freeB es s (row.getD c 0) tick = false
  · rw [if_pos h5] at h; cases h
  exact ⟨h1, h2, h3, h4, h5⟩
theorem row_ok {es : List (Int × Int)} {need : List Int} {s : Seen} {row : List Int} {tick : Int} (h : rowE es need s row tick = 0) : RowOk es need s row tick := by
  have hz := rowE_zero h
  have ho : ∀ (n c : Nat), c < row.length → row.getD c 0 = (n : Int) → oneE es need s row tick c = 0 := fun n c hc e => bad_not (hz c hc) (by rw [e]; omega)
  refine ⟨fun c hc => ?_, fun n c c' hc hc' e e' => ?_, fun n c hc e => ?_, fun n c hc e hr => ?_, fun n c hc e hr => ?_⟩
  · by_cases hx : row.getD c 0 = -1
    · rw [hx]; omega
    · exact one_in (bad_not (hz c hc) hx)
  · have key : ∀ a b : Nat, a < b → b < row.length → row.getD a 0 = (n : Int) → row.getD b 0 = (n : Int) → False := by
      intro a b hab hb ea eb
      obtain ⟨-, h2, -⟩ := one_zero (ho n b hb eb)
      apply h2
      rw [List.contains_iff_mem, eb, ← ea]
      refine List.mem_take_iff_getElem.2 ⟨a, by omega, ?_⟩
      rw [List.getD_eq_getElem?_getD, List.getElem?_eq_getElem (by omega)]; rfl
    rcases Nat.lt_trichotomy c c' with h | h | h
    · exact absurd (key c c' h hc' e e') (fun h => h)
    · exact h
    · exact absurd (key c' c h hc e' e) (fun h => h)
  · obtain ⟨-, -, h3, -⟩ := one_zero (ho n c hc e)
    rw [e, Int.toNat_natCast] at h3
    omega
  · obtain ⟨-, -, -, h4, -⟩ := one_zero (ho n c hc e)
    rw [e] at h4
    unfold splitB at h4
    rw [Int.toNat_natCast, decide_eq_true hr, Bool.true_and] at h4
    simpa using h4
  · obtain ⟨-, -, -, -, h5⟩ := one_zero (ho n c hc e)
    rw [e, Int.toNat_natCast] at h5
    cases hf : freeB es s n tick with
    | true => rfl
    | false => exact absurd ⟨hr, hf⟩ h5
theorem mem_getD_row {row : List Int} {n : Int} (h : n ∈ row) : ∃ c, c < row.length ∧ row.getD c 0 = n := by
  obtain ⟨c, hc, e⟩ := List.getElem_of_mem h
  exact ⟨c, hc, by rw [List.getD_eq_getElem?_getD, List.getElem?_eq_getElem hc]; exact e⟩
theorem getD_row_mem {row : List Int} {n : Int} {c : Nat} (hc : c < row.length) (h : row.getD c 0 = n) : n ∈ row := by
  rw [← h, List.getD_eq_getElem?_getD, List.getElem?_eq_getElem hc]
  exact List.getElem_mem hc
/-- A row's step, node by node. -/
theorem row_far {es : List (Int × Int)} {need : List Int} {s : Seen} {row : List Int} {tick : Int} (h : RowOk es need s row tick) {n : Nat} (hn : (n : Int) ∉ row) : At (runRow need s row tick) n = At s n := by
  rw [← partRow_all]
  exact part_far (fun c hc => (h.inb c hc).1) _ (Nat.le_refl _) (by rw [List.take_length]; exact hn)
theorem row_at {es : List (Int × Int)} {need : List Int} {s : Seen} {row : List Int} {tick : Int} (h : RowOk es need s row tick) (hl : LenS s need.length) {n c : Nat} (hn : n < need.length) (hc : c < row.length) (e : row.getD c 0 = (n : Int)) :
    At (runRow need s row tick) n = (s.ran.getD n 0 + 1, (tick, (c : Int)), if s.ran.getD n 0 + 1 = need.getD n 0 then tick + 1 else s.fin.getD n 0) := by
  rw [← partRow_all]
  exact part_at hl hn (fun c hc => (h.inb c hc).1) hc e (fun c' hc' e' => h.one n c' c hc' hc e' e) _ hc (Nat.le_refl _)
/-- What holds of a node at a tick. -/
inductive Of (es : List (Int × Int)) (need : List Int) (ts : List (List Int)) (k n : Nat) : Prop
  | idle (h1 : At (stAt need ts k) n = ((stAt need ts k).ran.getD n 0, (stAt need ts k).last.getD n (0, 0), -1)) (h2 : (stAt need ts k).ran.getD n 0 = 0) (h3 : ∀ i, i < k → (n : Int) ∉ ts.getD i [])
  | runs (f r c : Nat) (h0 : 0 < r) (hf : f + r ≤ k) (hr : (stAt need ts k).ran.getD n 0 = (r : Int)) (hn : (r : Int) ≤ need.getD n 0) (hl : (stAt need ts k).last.getD n (0, 0) = ((f : Int) + r - 1, (c : Int)))
      (he : (stAt need ts k).fin.getD n 0 = if (r : Int) = need.getD n 0 then (f : Int) + r else -1) (hm : ∀ i, i < k → ((n : Int) ∈ ts.getD i [] ↔ f ≤ i ∧ i < f + r)) (hc : ∀ i, f ≤ i → i < f + r → c < (ts.getD i []).length ∧ (ts.getD i []).getD c 0 = (n : Int))
      (hw : ∀ e ∈ es, e.2 = (n : Int) → 0 ≤ (stAt need ts k).fin.getD e.1.toNat 0 ∧ (stAt need ts k).fin.getD e.1.toNat 0 ≤ f)
theorem of_all {es : List (Int × Int)} {need : List Int} {ts : List (List Int)} (hin : ∀ e ∈ es, 0 ≤ e.1 ∧ e.1 < need.length) (hpos : ∀ n : Nat, n < need.length → 1 ≤ need.getD n 0) : ∀ k, k ≤ ts.length → (∀ j, j < k → rowErr es need ts j = 0) → ∀ n, n < need.length → Of es need ts k n
  | 0, _, _, n, hn => by
    have g0 : ∀ x : Int, ∀ i : Nat, i < need.length → (List.replicate need.length x).getD i 0 = x := fun x i hi => by simp [List.getD_eq_getElem?_getD, List.getElem?_replicate, hi]
    refine .idle ?_ ?_ (fun i hi => absurd hi (by omega))
    · show (_, _, (List.replicate need.length (-1 : Int)).getD n 0) = _
      rw [g0 _ n hn]
    · show (List.replicate need.length (0 : Int)).getD n 0 = 0
      rw [g0 _ n hn]
  | k + 1, hk, hv, n, hn => by
    have ih := of_all hin hpos k (by omega) (fun j hj => hv j (by omega))
    have hro : RowOk es need (stAt need ts k) (ts.getD k []) k := row_ok (hv k (by omega))
    have hlen := stAt_len need ts k
    -- fins stay
    have hfin : ∀ m, m < need.length → 0 ≤ (stAt need ts k).fin.getD m 0 → (stAt need ts (k + 1)).fin.getD m 0 = (stAt need ts k).fin.getD m 0 := by
      intro m hm h0
      by_cases hmem : (m : Int) ∈ ts.getD k []
      · exfalso
        obtain ⟨c, hc, e⟩ := mem_getD_row hmem
        have hmore := hro.more m c hc e
        rcases ih m hm with ⟨i1, i2, i3⟩ | ⟨f, r, c', q1, q2, q3, q4, q5, q6, q7, q8, q9⟩
        · have : (stAt need ts k).fin.getD m 0 = -1 := by unfold At at i1; simpa using i1
          omega
        · rw [q6] at h0
          split at h0
          · omega
          · omega
      · have := row_far hro hmem
        unfold At at this
        simp only [Prod.mk.injEq] at this
        exact this.2.2
    by_cases hmem : (n : Int) ∈ ts.getD k []
    · obtain ⟨c, hc, e⟩ := mem_getD_row hmem
      have ha : At (stAt need ts (k + 1)) n = _ := row_at hro hlen hn hc e
      have hmore := hro.more n c hc e
      unfold At at ha
      simp only [Prod.mk.injEq] at ha
      obtain ⟨a1, a2, a3⟩ := ha
      rcases ih n hn with ⟨i1, i2, i3⟩ | ⟨f, r, c', q1, q2, q3, q4, q5, q6, q7, q8, q9⟩
      · have hfr := hro.free n c hc e i2
        have hi1 : (stAt need ts k).fin.getD n 0 = -1 := by unfold At at i1; simpa using i1
        rw [i2] at a1 a3 hmore
        refine .runs k 1 c (by omega) (by omega) (by rw [a1]; rfl) (by have := hpos n hn; omega) (by rw [a2]; congr 1; omega) ?_ (fun i hi => ?_) (fun i h1 h2 => ?_) (fun x hx e2 => ?_)
        · rw [a3, hi1]
          by_cases hq : (0 : Int) + 1 = need.getD n 0
          · rw [if_pos hq, if_pos (by omega)]; omega
          · rw [if_neg hq, if_neg (by omega)]
        · by_cases hik : i = k
          · subst hik; exact ⟨fun _ => by omega, fun _ => hmem⟩
          · exact ⟨fun h => absurd h (i3 i (by omega)), fun h => by omega⟩
        · obtain rfl : i = k := by omega
          exact ⟨hc, e⟩
        · unfold freeB at hfr
          simp only [Bool.not_eq_true', List.any_eq_false] at hfr
          have := hfr x hx
          unfold waitE doneB at this
          rw [e2] at this
          simp at this
          have hx1 := hin x hx
          have hf := hfin x.1.toNat (by omega) this.1
          rw [hf]
          exact this
      · have hsame := hro.same n c hc e (by rw [q3]; omega)
        rw [q5] at hsame
        simp only [Prod.mk.injEq] at hsame
        have hk2 : f + r = k := by omega
        have hcc : c' = c := by omega
        subst hcc
        rw [q3] at a1 a3 hmore
        refine .runs f (r + 1) c' (by omega) (by omega) (by rw [a1]; rfl) (by omega) (by rw [a2]; congr 1; omega) ?_ (fun i hi => ?_) (fun i h1 h2 => ?_) (fun x hx e2 => ?_)
        · rw [a3, q6, if_neg (by omega : ¬ (r : Int) = need.getD n 0)]
          by_cases hq : (r : Int) + 1 = need.getD n 0
          · rw [if_pos hq, if_pos (by omega)]; omega
          · rw [if_neg hq, if_neg (by omega)]
        · by_cases hik : i = k
          · subst hik; exact ⟨fun _ => by omega, fun _ => hmem⟩
          · rw [q7 i (by omega)]; omega
        · by_cases hik : i = k
          · subst hik; exact ⟨hc, e⟩
          · exact q8 i h1 (by omega)
        · obtain ⟨w1, w2⟩ := q9 x hx e2
          have hx1 := hin x hx
          rw [hfin x.1.toNat (by omega) w1]
          exact ⟨w1, w2⟩
    · have ha : At (stAt need ts (k + 1)) n = At (stAt need ts k) n := row_far hro hmem
      have ha' := ha
      unfold At at ha'
      simp only [Prod.mk.injEq] at ha'
      obtain ⟨a1, a2, a3⟩ := ha'
      rcases ih n hn with ⟨i1, i2, i3⟩ | ⟨f, r, c', q1, q2, q3, q4, q5, q6, q7, q8, q9⟩
      · refine .idle ?_ (a1.trans i2) (fun i hi => ?_)
        · rw [ha, i1, a1, a2]
        · by_cases hik : i = k
          · subst hik; exact hmem
          · exact i3 i (by omega)
      · refine .runs f r c' q1 (by omega) (a1.trans q3) q4 (a2.trans q5) (a3.trans q6) (fun i hi => ?_) q8 (fun x hx e2 => ?_)
        · by_cases hik : i = k
          · subst hik; exact ⟨fun h => absurd h hmem, fun h => by omega⟩
          · exact q7 i (by omega)
        · obtain ⟨w1, w2⟩ := q9 x hx e2
          have hx1 := hin x hx
          rw [hfin x.1.toNat (by omega) w1]
          exact ⟨w1, w2⟩
end SchPlain

set_option linter.unusedVariables false
set_option linter.unusedSimpArgs false
namespace Go.Proofs.Ytnnbgfjokbaepaa
open DagPlain SchPlain
/-- What a schedule that may be brings with it. -/
structure Valid (l : List Int) (es : List (Int × Int)) (need : List Int) (cores : Int) (ts : List (List Int)) : Prop where
  zd : checkL l es = 0
  rb : rightB l need cores = true
  len : ts.length ≤ 4096
  rows : ∀ r ∈ ts, (r.length : Int) = cores
  ok : ∀ j, j < ts.length → rowErr es need ts j = 0
theorem valid_of {l : List Int} {es : List (Int × Int)} {need : List Int} {cores : Int} {ts : List (List Int)} (h : lookR l es need cores ts = 0) : Valid l es need cores ts := by
  unfold lookR at h
  by_cases hz : checkL l es = 0
  · rw [if_neg (by rw [hz]; simp)] at h
    by_cases hf : formB l need cores ts = false
    · rw [if_pos hf] at h; cases h
    · rw [if_neg hf] at h
      have hf2 : formB l need cores ts = true := by simpa using hf
      rw [form_longB] at hf2
      simp only [Bool.and_eq_true, decide_eq_true_eq, Bool.not_eq_true'] at hf2
      exact ⟨hz, hf2.1.1, hf2.1.2, rows_len hf2.2, lookE_zero h⟩
  · rw [if_pos hz] at h
    exact absurd h hz
theorem valid_zero {l : List Int} {es : List (Int × Int)} {need : List Int} {cores : Int} {ts : List (List Int)} (h : Valid l es need cores ts) : lookR l es need cores ts = 0 := by
  have hf : formB l need cores ts = true := by
    rw [form_longB, h.rb]
    simp only [Bool.true_and, Bool.and_eq_true, decide_eq_true_eq, Bool.not_eq_true', List.any_eq_false]
    refine ⟨h.len, fun r hr => ?_⟩
    unfold longB
    simpa using h.rows r hr
  unfold lookR
  rw [if_neg (by rw [h.zd]; simp), if_neg (by rw [hf]; simp)]
  exact lookE_none h.ok
section
variable {l : List Int} {es : List (Int × Int)} {need : List Int} {cores : Int} {ts : List (List Int)}
theorem Valid.pos (h : Valid l es need cores ts) : ∀ n : Nat, n < need.length → 1 ≤ need.getD n 0 ∧ need.getD n 0 ≤ 1000 := fun n hn => by
  obtain ⟨-, -, h2⟩ := right_cores h.rb
  rw [List.getD_eq_getElem?_getD, List.getElem?_eq_getElem hn]
  exact h2 _ (List.getElem_mem hn)
theorem ends_eq (h : Valid l es need cores ts) : endsL l es need cores ts = (stAt need ts ts.length).fin := by unfold endsL; rw [if_pos (valid_zero h)]
end
end Go.Proofs.Ytnnbgfjokbaepaa
