/- Texts of this work, put into one. -/
import Derived.Test.YtokhibhmlninnaaGreatDoorGMNum
set_option linter.unusedVariables false
set_option linter.unusedSimpArgs false
namespace Go.Proofs.YtokhibhmlninnaaGreatDoor
open Go.RowKit Go.Proofs.YtokhibhmlninnaaGreatDoorW.PrintWords
theorem ErrAt.far {R : Nat} {s : ByteArray} {st : CodPlain.St} {ev : Value} {w : World} (h : ErrAt R s st ev w) {g : Nat} {t : TypeId} {cs : Array Value} (hg : w.heap[g]? = some (.cells cs t (0, 0))) (ht : t ≠ 85) (i : Nat) (u : Value) : ErrAt R s st ev (w.setCell ⟨g, i, none⟩ u) := by
 unfold ErrAt at h ⊢
 split
 ·rename_i h2
  rw [if_pos h2] at h
  obtain ⟨b, h1, h3, h4⟩ := h
  exact ⟨b, h1, h3, blk_far h4 (blk_ne h4 hg (fun e => ht e.symm)) _⟩
 ·rename_i h2
  rw [if_neg h2] at h
  exact h
theorem RdAt.far {R : Nat} {s : ByteArray} {st : CodPlain.St} {w : World} (h : RdAt R s st w) {g : Nat} {t : TypeId} {cs : Array Value} (hg : w.heap[g]? = some (.cells cs t (0, 0))) (ht : t ≠ 116) (ht2 : t ≠ 85) (i : Nat) (u : Value) : RdAt R s st (w.setCell ⟨g, i, none⟩ u) := by
 obtain ⟨ev, h1, h2⟩ := h
 exact ⟨ev, blk_far h1 (blk_ne h1 hg (fun e => ht e.symm)) _, h2.far hg ht2 i u⟩
theorem KeepR.new {R g : Nat} {w W : World} (h : KeepR R w W) (hg : w.heap.size ≤ g) (i : Nat) (u : Value) : KeepR R w (W.setCell ⟨g, i, none⟩ u) :=
 ⟨h.os, h.tape, h.output, by have := h.size; simpa [World.setCell] using this, fun k hk hr => (Below.heap_setCell W ⟨g, i, none⟩ u k (by show k ≠ g; omega)).trans (h.block k hk hr)⟩
theorem below_alloc' (w : World) (o : Obj) : Below w.heap.size w (w.alloc o) := (Below.refl _ _).alloc (Nat.le_refl _) o
set_option maxRecDepth 100000 in
set_option maxHeartbeats 4000000 in
theorem rdP_any (R : Nat) (s : ByteArray) (st : CodPlain.St) (w : World) (hs : s.size ≤ 1000) (hr : RdAt R s st w) :
  Calls Tryz.prog 90 #[.func (Fn.func 88) #[.pointer (some ⟨R, 0, none⟩)] #[]] w fun e w' => e = .returned (.agg #[.int .i64 (CodPlain.partS s st).1.1, .int .i64 (CodPlain.partS s st).1.2.1, .int .i64 (CodPlain.partS s st).1.2.2]) ∧ RdAt R s (CodPlain.partS s st).2 w' ∧ KeepR R w w' := by
 have C := Lib.hid (fun st k w1 hk h => number_any R s st k w1 hs hk h)
 obtain ⟨a, ha⟩ : ∃ x, x = CodPlain.numS s 1 st := ⟨_, rfl⟩
 obtain ⟨b, hb⟩ : ∃ x, x = CodPlain.numS s 4 a.2 := ⟨_, rfl⟩
 obtain ⟨c, hc⟩ : ∃ x, x = CodPlain.numS s 2 b.2 := ⟨_, rfl⟩
 have HS : Hid (CodPlain.partS s st = ((a.1, b.1, c.1), c.2)) := by rw [hc, hb, ha]; rfl
 have HA := Lib.hid ha
 have HB := Lib.hid hb
 have HC := Lib.hid hc
 have HR := Lib.hid hr
 have hRlt := hr.lt
 clear hr ha hb hc
 go_enter Tryz.func90, Tryz.ntmps90
 go_wp2_with fail
 refine (C.out st 1 _ (by decide) (HR.out.below (below_alloc' _ _))).mono ?_
 rintro e w1 ⟨rfl, g1, g2⟩
 rw [← HA.out] at g1 ⊢
 have HZ1 := Lib.hid (g2.blk (blk_new w _) (by omega))
 have HR1 := Lib.hid g1
 have HK1 := Lib.hid ((KeepR.of (R := R) (below_alloc' _ _)).trans g2)
 have hsz1 : w.heap.size < w1.heap.size := blk_lt HZ1.out
 clear g1 g2 HR
 go_wp2_with fail
 refine (C.out a.2 4 _ (by decide) (HR1.out.below (below_alloc' _ _))).mono ?_
 rintro e w2 ⟨rfl, g1, g2⟩
 rw [← HB.out] at g1 ⊢
 have HZ2 := Lib.hid (g2.blk (blk_alloc HZ1.out _) (by omega))
 have HP2 := Lib.hid (g2.blk (blk_new w1 _) (by omega))
 have HR2 := Lib.hid g1
 have HK2 := Lib.hid (HK1.out.trans ((KeepR.of (R := R) (below_alloc' _ _)).trans g2))
 clear g1 g2 HR1 HK1 HZ1
 have f2 : ∀ i, w2.frozen? ⟨w1.heap.size, i, none⟩ = false := fun i => blk_frozen HP2.out i
 have p0 : w2.cell? ⟨w1.heap.size, 0, none⟩ = some _ := (blk_cell HP2.out 0).trans rfl
 have p1 : w2.cell? ⟨w1.heap.size, 1, none⟩ = some _ := (blk_cell HP2.out 1).trans rfl
 have p2 : w2.cell? ⟨w1.heap.size, 2, none⟩ = some _ := (blk_cell HP2.out 2).trans rfl
 go_wp2_with fail
 refine (C.out b.2 2 _ (by decide) (HR2.out.far HP2.out (by decide) (by decide) 1 _)).mono ?_
 rintro e w3 ⟨rfl, g1, g2⟩
 rw [← HC.out] at g1 ⊢
 have HZ3 := Lib.hid (g2.blk (blk_far (p := ⟨w1.heap.size, 1, none⟩) HZ2.out (by show w.heap.size ≠ w1.heap.size; omega) _) (by omega))
 have HP3 := Lib.hid (g2.blk (blk_set HP2.out 1 _) (by omega))
 have HR3 := Lib.hid g1
 have HK3 := Lib.hid ((HK2.out.new (by omega) 1 (.int .i64 b.1)).trans g2)
 clear g1 g2 HR2 HK2 HZ2 HP2 f2 p0 p1 p2
 have f3 : ∀ i, w3.frozen? ⟨w1.heap.size, i, none⟩ = false := fun i => blk_frozen HP3.out i
 have p0 : w3.cell? ⟨w1.heap.size, 0, none⟩ = some _ := (blk_cell HP3.out 0).trans rfl
 have p1 : w3.cell? ⟨w1.heap.size, 1, none⟩ = some _ := (blk_cell HP3.out 1).trans rfl
 have p2 : w3.cell? ⟨w1.heap.size, 2, none⟩ = some _ := (blk_cell HP3.out 2).trans rfl
 have fz : ∀ i, w3.frozen? ⟨w.heap.size, i, none⟩ = false := fun i => blk_frozen HZ3.out i
 have z0 : w3.cell? ⟨w.heap.size, 0, none⟩ = some _ := (blk_cell HZ3.out 0).trans rfl
 have z1 : w3.cell? ⟨w.heap.size, 1, none⟩ = some _ := (blk_cell HZ3.out 1).trans rfl
 have z2 : w3.cell? ⟨w.heap.size, 2, none⟩ = some _ := (blk_cell HZ3.out 2).trans rfl
 go_wp2_with fail
 have q0 := HR3.out.far HP3.out (by decide) (by decide) 2 (.int .i64 c.1)
 have z0' := blk_far (p := ⟨w1.heap.size, 2, none⟩) HZ3.out (by show w.heap.size ≠ w1.heap.size; omega) (.int .i64 c.1)
 have q1 := q0.far z0' (by decide) (by decide) 0 (.int .i64 a.1)
 have z1' := blk_set z0' 0 (.int .i64 a.1)
 have q2 := q1.far z1' (by decide) (by decide) 1 (.int .i64 b.1)
 have z2' := blk_set z1' 1 (.int .i64 b.1)
 have q3 := q2.far z2' (by decide) (by decide) 2 (.int .i64 c.1)
 have z3' := blk_set z2' 2 (.int .i64 c.1)
 refine bodyPost_ret (results_cell_row rfl _ _ w.heap.size 47 #[.int .i64 a.1, .int .i64 b.1, .int .i64 c.1] (0, 0) _ rfl z3' Tryz.underlying47 rfl (by kernel_rfl)) rfl ?_
 rw [HS.out]
 exact ⟨rfl, q3, ((((HK3.out.new (by omega) 2 _).new (Nat.le_refl _) 0 _).new (Nat.le_refl _) 1 _).new (Nat.le_refl _) 2 _)⟩
set_option maxRecDepth 100000 in
set_option maxHeartbeats 4000000 in
theorem rdE_any (R : Nat) (s : ByteArray) (st : CodPlain.St) (w : World) (hs : s.size ≤ 1000) (hr : RdAt R s st w) :
  Calls Tryz.prog 92 #[.func (Fn.func 88) #[.pointer (some ⟨R, 0, none⟩)] #[]] w fun e w' => e = .returned (.agg #[.int .i64 (CodPlain.edgeS s st).1.1, .int .i64 (CodPlain.edgeS s st).1.2]) ∧ RdAt R s (CodPlain.edgeS s st).2 w' ∧ KeepR R w w' := by
 have C := Lib.hid (fun st k w1 hk h => number_any R s st k w1 hs hk h)
 obtain ⟨a, ha⟩ : ∃ x, x = CodPlain.numS s 1 st := ⟨_, rfl⟩
 obtain ⟨b, hb⟩ : ∃ x, x = CodPlain.numS s 1 a.2 := ⟨_, rfl⟩
 have HS : Hid (CodPlain.edgeS s st = ((a.1, b.1), b.2)) := by rw [hb, ha]; rfl
 have HA := Lib.hid ha
 have HB := Lib.hid hb
 have HR := Lib.hid hr
 have hRlt := hr.lt
 clear hr ha hb
 go_enter Tryz.func92, Tryz.ntmps92
 go_wp2_with fail
 refine (C.out st 1 _ (by decide) (HR.out.below (below_alloc' _ _))).mono ?_
 rintro e w1 ⟨rfl, g1, g2⟩
 rw [← HA.out] at g1 ⊢
 have HZ1 := Lib.hid (g2.blk (blk_new w _) (by omega))
 have HR1 := Lib.hid g1
 have HK1 := Lib.hid ((KeepR.of (R := R) (below_alloc' _ _)).trans g2)
 have hsz1 : w.heap.size < w1.heap.size := blk_lt HZ1.out
 clear g1 g2 HR
 go_wp2_with fail
 refine (C.out a.2 1 _ (by decide) (HR1.out.below (below_alloc' _ _))).mono ?_
 rintro e w2 ⟨rfl, g1, g2⟩
 rw [← HB.out] at g1 ⊢
 have HZ2 := Lib.hid (g2.blk (blk_alloc HZ1.out _) (by omega))
 have HP2 := Lib.hid (g2.blk (blk_new w1 _) (by omega))
 have HR2 := Lib.hid g1
 have HK2 := Lib.hid (HK1.out.trans ((KeepR.of (R := R) (below_alloc' _ _)).trans g2))
 clear g1 g2 HR1 HK1 HZ1
 have f2 : ∀ i, w2.frozen? ⟨w1.heap.size, i, none⟩ = false := fun i => blk_frozen HP2.out i
 have p0 : w2.cell? ⟨w1.heap.size, 0, none⟩ = some _ := (blk_cell HP2.out 0).trans rfl
 have p1 : w2.cell? ⟨w1.heap.size, 1, none⟩ = some _ := (blk_cell HP2.out 1).trans rfl
 have fz : ∀ i, w2.frozen? ⟨w.heap.size, i, none⟩ = false := fun i => blk_frozen HZ2.out i
 have z0 : w2.cell? ⟨w.heap.size, 0, none⟩ = some _ := (blk_cell HZ2.out 0).trans rfl
 have z1 : w2.cell? ⟨w.heap.size, 1, none⟩ = some _ := (blk_cell HZ2.out 1).trans rfl
 go_wp2_with fail
 have q0 := HR2.out.far HP2.out (by decide) (by decide) 1 (.int .i64 b.1)
 have z0' := blk_far (p := ⟨w1.heap.size, 1, none⟩) HZ2.out (by show w.heap.size ≠ w1.heap.size; omega) (.int .i64 b.1)
 have q1 := q0.far z0' (by decide) (by decide) 0 (.int .i64 a.1)
 have z1' := blk_set z0' 0 (.int .i64 a.1)
 have q2 := q1.far z1' (by decide) (by decide) 1 (.int .i64 b.1)
 have z2' := blk_set z1' 1 (.int .i64 b.1)
 refine bodyPost_ret (results_cell_row rfl _ _ w.heap.size 63 #[.int .i64 a.1, .int .i64 b.1] (0, 0) _ rfl z2' Tryz.underlying63 rfl (by kernel_rfl)) rfl ?_
 rw [HS.out]
 exact ⟨rfl, q2, (((HK2.out.new (by omega) 1 _).new (Nat.le_refl _) 0 _).new (Nat.le_refl _) 1 _)⟩
set_option maxRecDepth 100000 in
set_option maxHeartbeats 4000000 in
theorem rdF_any (R : Nat) (s : ByteArray) (st : CodPlain.St) (w : World) (hs : s.size ≤ 1000) (hr : RdAt R s st w) :
  Calls Tryz.prog 94 #[.func (Fn.func 88) #[.pointer (some ⟨R, 0, none⟩)] #[]] w fun e w' => e = .returned (.agg #[.int .i64 (CodPlain.futS s st).1.1, .int .i64 (CodPlain.futS s st).1.2.1, .int .i64 (CodPlain.futS s st).1.2.2]) ∧ RdAt R s (CodPlain.futS s st).2 w' ∧ KeepR R w w' := by
 have C := Lib.hid (fun st k w1 hk h => number_any R s st k w1 hs hk h)
 obtain ⟨a, ha⟩ : ∃ x, x = CodPlain.numS s 1 st := ⟨_, rfl⟩
 obtain ⟨b, hb⟩ : ∃ x, x = CodPlain.numS s 1 a.2 := ⟨_, rfl⟩
 obtain ⟨c, hc⟩ : ∃ x, x = CodPlain.numS s 2 b.2 := ⟨_, rfl⟩
 have HS : Hid (CodPlain.futS s st = ((a.1, b.1, c.1), c.2)) := by rw [hc, hb, ha]; rfl
 have HA := Lib.hid ha
 have HB := Lib.hid hb
 have HC := Lib.hid hc
 have HR := Lib.hid hr
 have hRlt := hr.lt
 clear hr ha hb hc
 go_enter Tryz.func94, Tryz.ntmps94
 go_wp2_with fail
 refine (C.out st 1 _ (by decide) (HR.out.below (below_alloc' _ _))).mono ?_
 rintro e w1 ⟨rfl, g1, g2⟩
 rw [← HA.out] at g1 ⊢
 have HZ1 := Lib.hid (g2.blk (blk_new w _) (by omega))
 have HR1 := Lib.hid g1
 have HK1 := Lib.hid ((KeepR.of (R := R) (below_alloc' _ _)).trans g2)
 have hsz1 : w.heap.size < w1.heap.size := blk_lt HZ1.out
 clear g1 g2 HR
 go_wp2_with fail
 refine (C.out a.2 1 _ (by decide) (HR1.out.below (below_alloc' _ _))).mono ?_
 rintro e w2 ⟨rfl, g1, g2⟩
 rw [← HB.out] at g1 ⊢
 have HZ2 := Lib.hid (g2.blk (blk_alloc HZ1.out _) (by omega))
 have HP2 := Lib.hid (g2.blk (blk_new w1 _) (by omega))
 have HR2 := Lib.hid g1
 have HK2 := Lib.hid (HK1.out.trans ((KeepR.of (R := R) (below_alloc' _ _)).trans g2))
 clear g1 g2 HR1 HK1 HZ1
 have f2 : ∀ i, w2.frozen? ⟨w1.heap.size, i, none⟩ = false := fun i => blk_frozen HP2.out i
 have p0 : w2.cell? ⟨w1.heap.size, 0, none⟩ = some _ := (blk_cell HP2.out 0).trans rfl
 have p1 : w2.cell? ⟨w1.heap.size, 1, none⟩ = some _ := (blk_cell HP2.out 1).trans rfl
 have p2 : w2.cell? ⟨w1.heap.size, 2, none⟩ = some _ := (blk_cell HP2.out 2).trans rfl
 go_wp2_with fail
 refine (C.out b.2 2 _ (by decide) (HR2.out.far HP2.out (by decide) (by decide) 1 _)).mono ?_
 rintro e w3 ⟨rfl, g1, g2⟩
 rw [← HC.out] at g1 ⊢
 have HZ3 := Lib.hid (g2.blk (blk_far (p := ⟨w1.heap.size, 1, none⟩) HZ2.out (by show w.heap.size ≠ w1.heap.size; omega) _) (by omega))
 have HP3 := Lib.hid (g2.blk (blk_set HP2.out 1 _) (by omega))
 have HR3 := Lib.hid g1
 have HK3 := Lib.hid ((HK2.out.new (by omega) 1 (.int .i64 b.1)).trans g2)
 clear g1 g2 HR2 HK2 HZ2 HP2 f2 p0 p1 p2
 have f3 : ∀ i, w3.frozen? ⟨w1.heap.size, i, none⟩ = false := fun i => blk_frozen HP3.out i
 have p0 : w3.cell? ⟨w1.heap.size, 0, none⟩ = some _ := (blk_cell HP3.out 0).trans rfl
 have p1 : w3.cell? ⟨w1.heap.size, 1, none⟩ = some _ := (blk_cell HP3.out 1).trans rfl
 have p2 : w3.cell? ⟨w1.heap.size, 2, none⟩ = some _ := (blk_cell HP3.out 2).trans rfl
 have fz : ∀ i, w3.frozen? ⟨w.heap.size, i, none⟩ = false := fun i => blk_frozen HZ3.out i
 have z0 : w3.cell? ⟨w.heap.size, 0, none⟩ = some _ := (blk_cell HZ3.out 0).trans rfl
 have z1 : w3.cell? ⟨w.heap.size, 1, none⟩ = some _ := (blk_cell HZ3.out 1).trans rfl
 have z2 : w3.cell? ⟨w.heap.size, 2, none⟩ = some _ := (blk_cell HZ3.out 2).trans rfl
 go_wp2_with fail
 have q0 := HR3.out.far HP3.out (by decide) (by decide) 2 (.int .i64 c.1)
 have z0' := blk_far (p := ⟨w1.heap.size, 2, none⟩) HZ3.out (by show w.heap.size ≠ w1.heap.size; omega) (.int .i64 c.1)
 have q1 := q0.far z0' (by decide) (by decide) 0 (.int .i64 a.1)
 have z1' := blk_set z0' 0 (.int .i64 a.1)
 have q2 := q1.far z1' (by decide) (by decide) 1 (.int .i64 b.1)
 have z2' := blk_set z1' 1 (.int .i64 b.1)
 have q3 := q2.far z2' (by decide) (by decide) 2 (.int .i64 c.1)
 have z3' := blk_set z2' 2 (.int .i64 c.1)
 refine bodyPost_ret (results_cell_row rfl _ _ w.heap.size 65 #[.int .i64 a.1, .int .i64 b.1, .int .i64 c.1] (0, 0) _ rfl z3' Tryz.underlying65 rfl (by kernel_rfl)) rfl ?_
 rw [HS.out]
 exact ⟨rfl, q3, ((((HK3.out.new (by omega) 2 _).new (Nat.le_refl _) 0 _).new (Nat.le_refl _) 1 _).new (Nat.le_refl _) 2 _)⟩
theorem some_stop {α : Type} (f : CodPlain.St → α × CodPlain.St) : ∀ (m : Nat) {st : CodPlain.St}, st.2 = true → CodPlain.someS f m st = ([], st)
 | 0, _, _ => rfl
 | m + 1, st, h => by rw [CodPlain.someS, if_pos h]
theorem some_go {α : Type} (f : CodPlain.St → α × CodPlain.St) (m : Nat) {st : CodPlain.St} (h : st.2 = false) : CodPlain.someS f (m + 1) st = ((f st).1 :: (CodPlain.someS f m (f st).2).1, (CodPlain.someS f m (f st).2).2) := by rw [CodPlain.someS, if_neg (by rw [h]; simp)]
theorem ErrAt.grown {R : Nat} {s : ByteArray} {st : CodPlain.St} {ev : Value} {w w' : World} (h : ErrAt R s st ev w) {row : Option Nat} (hg : w.grownBy w' row) {T : TypeId} (hr : ∀ k, row = some k → ∃ cells, w.heap[k]? = some (.cells cells T (0, 0))) (hT : T ≠ 85) : ErrAt R s st ev w' := by
 unfold ErrAt at h ⊢
 split
 ·rename_i h2
  rw [if_pos h2] at h
  obtain ⟨b, h1, h3, h4⟩ := h
  exact ⟨b, h1, h3, blk_grown h4 hg (fun e => by obtain ⟨cs, hc⟩ := hr b e.symm; exact blk_ne hc h4 hT rfl)⟩
 ·rename_i h2
  rw [if_neg h2] at h
  exact h
theorem RdAt.grown {R : Nat} {s : ByteArray} {st : CodPlain.St} {w w' : World} (h : RdAt R s st w) {row : Option Nat} (hg : w.grownBy w' row) {T : TypeId} (hr : ∀ k, row = some k → ∃ cells, w.heap[k]? = some (.cells cells T (0, 0))) (hT : T ≠ 85) (hR : T ≠ 116) : RdAt R s st w' := by
 obtain ⟨ev, h1, h2⟩ := h
 exact ⟨ev, blk_grown h1 hg (fun e => by obtain ⟨cs, hc⟩ := hr R e.symm; exact blk_ne hc h1 hR rfl), h2.grown hg hr hT⟩
set_option maxHeartbeats 1000000 in
theorem rdI_any (R : Nat) (s : ByteArray) (st : CodPlain.St) (w : World) (hs : s.size ≤ 1000) (hr : RdAt R s st w) :
  Calls Tryz.prog 108 #[.func (Fn.func 88) #[.pointer (some ⟨R, 0, none⟩)] #[]] w fun e w' => e = .returned (.int .i64 (CodPlain.numS s 1 st).1) ∧ RdAt R s (CodPlain.numS s 1 st).2 w' ∧ KeepR R w w' := by
 have C := Lib.hid (number_any R s st 1 w hs (by decide) hr)
 clear hr
 go_enter Tryz.func108, Tryz.ntmps108
 go_wp2_with fail
 refine C.out.mono ?_
 rintro e w1 ⟨rfl, g1, g2⟩
 have HR1 := Lib.hid g1
 have HK1 := Lib.hid g2
 clear g1 g2
 go_wp2_with fail
 go_ret
 exact ⟨rfl, HR1.out, HK1.out⟩
theorem infoSP : (Tryz.prog.info? 47).map (fun i => (i.zero, i.size, i.bytes)) = some (some (.agg #[.int .i64 0, .int .i64 0, .int .i64 0]), 3, 24) := by kernel_rfl
set_option maxRecDepth 100000 in
set_option maxHeartbeats 4000000 in
theorem someP_any (R : Nat) (s : ByteArray) (st : CodPlain.St) (n : Nat) (w : World) (hs : s.size ≤ 1000) (hn : n ≤ 1000) (hr : RdAt R s st w) :
  Calls Tryz.prog 89 #[.pointer (some ⟨R, 0, none⟩), .int .i64 n, .func (Fn.func 90) #[] #[]] w fun e w' => ∃ (v : Value) (xs : List PCod.S47), e = .returned v ∧ xs.map tP = (CodPlain.someS (CodPlain.partS s) n st).1 ∧ Kd.R PCod.k47 47 w' w.heap.size (fun k => k ≠ R) v xs ∧ RdAt R s (CodPlain.someS (CodPlain.partS s) n st).2 w' ∧ KeepR R w w' := by
 have C := Lib.hid (fun st w1 h => rdP_any R s st w1 hs h)
 have HR0 := Lib.hid hr
 have hRw := hr.lt
 have hmf : ∀ (fn : Fn) (first cap : Array Value) (w : World), (Instr.makeFunc fn first cap).run Tryz.prog w = .ok (.func fn first cap) w := fun _ _ _ _ => rfl
 clear hr
 go_enter Tryz.func89, Tryz.ntmps89
 go_wp2_with fail
 go_loopw [8, 7] (fun i v wr => ∃ (j : Nat) (v0 : Value) (xs : List PCod.S47) (st' : CodPlain.St), j ≤ n ∧ i = .int .i64 j ∧ v0 = v ∧ xs.length = j ∧ Hid (CodPlain.someS (CodPlain.partS s) n st = (xs.map tP ++ (CodPlain.someS (CodPlain.partS s) (n - j) st').1, (CodPlain.someS (CodPlain.partS s) (n - j) st').2)) ∧ Hid (Kd.R PCod.k47 47 wr w.heap.size (fun k => k ≠ R) v0 xs) ∧ Hid (RdAt R s st' wr) ∧ Hid (KeepR R w wr)) (fun i _ _ => n - (intOf i).toNat)
 case atStart => exact ⟨0, _, [], st, Nat.zero_le _, rfl, rfl, rfl, rfl, Kd.R_nil _ _ _ _ _, HR0, KeepR.refl _ _⟩
 case round =>
  obtain ⟨j, v0, xs, st', hj, rfl, rfl, hxl, HS, HX, HR, HK⟩ := hrel
  have hRlt := HR.out.lt
  by_cases hlt : j < n
  ·cases hst : st'.2 with
   | true =>
    obtain ⟨ev, hev, herr⟩ := HR.out
    unfold ErrAt at herr
    rw [if_pos hst] at herr
    obtain ⟨b, rfl, -, -⟩ := herr
    have c2 : wr.cell? ⟨R, 2, none⟩ = some _ := (blk_cell hev 2).trans rfl
    have HS2 : Hid (CodPlain.someS (CodPlain.partS s) n st = (xs.map tP, st')) := by show _ = _; rw [HS.out, some_stop _ _ hst, List.append_nil]
    clear hev HS hst
    go_wp2_with fail
    go_ret
    rw [HS2.out]
    exact ⟨_, xs, rfl, rfl, HX.out, HR.out, HK.out⟩
   | false =>
    obtain ⟨ev, hev, herr⟩ := HR.out
    unfold ErrAt at herr
    rw [if_neg (by rw [hst]; simp)] at herr
    subst herr
    have c2 : wr.cell? ⟨R, 2, none⟩ = some _ := (blk_cell hev 2).trans rfl
    have HST := Lib.hid hst
    clear hev hst
    go_wp2_with fail
    refine (C.out st' wr HR.out).mono ?_
    rintro e w1 ⟨rfl, g1, g2⟩
    obtain ⟨q, hq⟩ : ∃ q, q = (CodPlain.partS s) st' := ⟨_, rfl⟩
    have HS3 : Hid (CodPlain.someS (CodPlain.partS s) n st = ((xs ++ [(⟨q.1.1, q.1.2.1, q.1.2.2⟩ : PCod.S47)]).map tP ++ (CodPlain.someS (CodPlain.partS s) (n - (j + 1)) q.2).1, (CodPlain.someS (CodPlain.partS s) (n - (j + 1)) q.2).2)) := by
     show _ = _
     have hm : n - j = n - (j + 1) + 1 := by omega
     rw [HS.out, hm, some_go _ _ HST.out, ← hq, List.map_append, List.append_assoc]; rfl
    rw [← hq] at g1 ⊢
    have HX1 := Lib.hid (Kd.R_step HX.out (fun k hk hlt => g2.block k hlt hk))
    have HR1 := Lib.hid g1
    have HK1 := Lib.hid (HK.out.trans g2)
    have hR1 := g1.lt
    have hw1 : w.heap.size ≤ w1.heap.size := HK1.out.size
    have hxl2 := hxl
    clear g1 g2 hq HS HX HR HK HST c2
    go_wp2_with (at_builtin; refine Kd.R_append PCod.k47 (w0 := w1) w.heap.size rfl (.tmp 21) (.tmp 26) 22 47 (.agg #[.int .i64 0, .int .i64 0, .int .i64 0]) 24 rfl Tryz.underlying22 infoSP rfl (by decide) (by decide) v0 xs ⟨q.1.1, q.1.2.1, q.1.2.2⟩ _ (fun k => k ≠ R) (fun k => k ≠ R ∧ some k ≠ v0.ownBlock) rfl rfl (PCod.k47_mkM w1 w.heap.size _ ⟨q.1.1, q.1.2.1, q.1.2.2⟩) (fun k h => h) (fun k h => by omega) HX1.out ?aB ?aS ?aL ?_)
    case aB => exact Below.refl _ _
    case aS => exact hw1
    case aL => omega
    intro v1 w2 hX2 hb2 hg2 hat
    have HX2 := Lib.hid hX2
    have HR2 := Lib.hid (HR1.out.grown hg2 (T := 47) (fun k hk => by obtain ⟨inner, ho⟩ := Kd.R_own HX1.out; exact own_typed ho k hk) (by decide) (by decide))
    have HK2 : Hid (KeepR R w w2) := ⟨hb2.os.trans HK1.out.os, hb2.tape.trans HK1.out.tape, hb2.output.trans HK1.out.output, Nat.le_trans HK1.out.size hb2.size, fun k hk hr => (hb2.block k hk).trans (HK1.out.block k hk hr)⟩
    clear hX2 hb2 hg2 hat HX1 HR1 HK1
    go_wp2_with fail
    go_roundw
    case rel => exact ⟨j + 1, v1, xs ++ [⟨q.1.1, q.1.2.1, q.1.2.2⟩], q.2, by omega, by go_num, rfl, by rw [List.length_append, hxl2]; rfl, HS3, HX2, HR2, HK2⟩
    case measure => simp [intOf]; omega
  ·obtain rfl : j = n := by omega
   have HS2 : Hid (CodPlain.someS (CodPlain.partS s) j st = (xs.map tP, st')) := by show _ = _; rw [HS.out, Nat.sub_self]; show (_ ++ [], _) = _; rw [List.append_nil]; rfl
   clear HS
   go_wp2_with fail
   go_ret
   rw [HS2.out]
   exact ⟨_, xs, rfl, rfl, HX.out, HR.out, HK.out⟩
theorem infoSE : (Tryz.prog.info? 63).map (fun i => (i.zero, i.size, i.bytes)) = some (some (.agg #[.int .i64 0, .int .i64 0]), 2, 16) := by kernel_rfl
set_option maxRecDepth 100000 in
set_option maxHeartbeats 4000000 in
theorem someE_any (R : Nat) (s : ByteArray) (st : CodPlain.St) (n : Nat) (w : World) (hs : s.size ≤ 1000) (hn : n ≤ 1000) (hr : RdAt R s st w) :
  Calls Tryz.prog 91 #[.pointer (some ⟨R, 0, none⟩), .int .i64 n, .func (Fn.func 92) #[] #[]] w fun e w' => ∃ (v : Value) (xs : List PCod.S63), e = .returned v ∧ xs.map tE = (CodPlain.someS (CodPlain.edgeS s) n st).1 ∧ Kd.R PCod.k63 63 w' w.heap.size (fun k => k ≠ R) v xs ∧ RdAt R s (CodPlain.someS (CodPlain.edgeS s) n st).2 w' ∧ KeepR R w w' := by
 have C := Lib.hid (fun st w1 h => rdE_any R s st w1 hs h)
 have HR0 := Lib.hid hr
 have hRw := hr.lt
 have hmf : ∀ (fn : Fn) (first cap : Array Value) (w : World), (Instr.makeFunc fn first cap).run Tryz.prog w = .ok (.func fn first cap) w := fun _ _ _ _ => rfl
 clear hr
 go_enter Tryz.func91, Tryz.ntmps91
 go_wp2_with fail
 go_loopw [8, 7] (fun i v wr => ∃ (j : Nat) (v0 : Value) (xs : List PCod.S63) (st' : CodPlain.St), j ≤ n ∧ i = .int .i64 j ∧ v0 = v ∧ xs.length = j ∧ Hid (CodPlain.someS (CodPlain.edgeS s) n st = (xs.map tE ++ (CodPlain.someS (CodPlain.edgeS s) (n - j) st').1, (CodPlain.someS (CodPlain.edgeS s) (n - j) st').2)) ∧ Hid (Kd.R PCod.k63 63 wr w.heap.size (fun k => k ≠ R) v0 xs) ∧ Hid (RdAt R s st' wr) ∧ Hid (KeepR R w wr)) (fun i _ _ => n - (intOf i).toNat)
 case atStart => exact ⟨0, _, [], st, Nat.zero_le _, rfl, rfl, rfl, rfl, Kd.R_nil _ _ _ _ _, HR0, KeepR.refl _ _⟩
 case round =>
  obtain ⟨j, v0, xs, st', hj, rfl, rfl, hxl, HS, HX, HR, HK⟩ := hrel
  have hRlt := HR.out.lt
  by_cases hlt : j < n
  ·cases hst : st'.2 with
   | true =>
    obtain ⟨ev, hev, herr⟩ := HR.out
    unfold ErrAt at herr
    rw [if_pos hst] at herr
    obtain ⟨b, rfl, -, -⟩ := herr
    have c2 : wr.cell? ⟨R, 2, none⟩ = some _ := (blk_cell hev 2).trans rfl
    have HS2 : Hid (CodPlain.someS (CodPlain.edgeS s) n st = (xs.map tE, st')) := by show _ = _; rw [HS.out, some_stop _ _ hst, List.append_nil]
    clear hev HS hst
    go_wp2_with fail
    go_ret
    rw [HS2.out]
    exact ⟨_, xs, rfl, rfl, HX.out, HR.out, HK.out⟩
   | false =>
    obtain ⟨ev, hev, herr⟩ := HR.out
    unfold ErrAt at herr
    rw [if_neg (by rw [hst]; simp)] at herr
    subst herr
    have c2 : wr.cell? ⟨R, 2, none⟩ = some _ := (blk_cell hev 2).trans rfl
    have HST := Lib.hid hst
    clear hev hst
    go_wp2_with fail
    refine (C.out st' wr HR.out).mono ?_
    rintro e w1 ⟨rfl, g1, g2⟩
    obtain ⟨q, hq⟩ : ∃ q, q = (CodPlain.edgeS s) st' := ⟨_, rfl⟩
    have HS3 : Hid (CodPlain.someS (CodPlain.edgeS s) n st = ((xs ++ [(⟨q.1.1, q.1.2⟩ : PCod.S63)]).map tE ++ (CodPlain.someS (CodPlain.edgeS s) (n - (j + 1)) q.2).1, (CodPlain.someS (CodPlain.edgeS s) (n - (j + 1)) q.2).2)) := by
     show _ = _
     have hm : n - j = n - (j + 1) + 1 := by omega
     rw [HS.out, hm, some_go _ _ HST.out, ← hq, List.map_append, List.append_assoc]; rfl
    rw [← hq] at g1 ⊢
    have HX1 := Lib.hid (Kd.R_step HX.out (fun k hk hlt => g2.block k hlt hk))
    have HR1 := Lib.hid g1
    have HK1 := Lib.hid (HK.out.trans g2)
    have hR1 := g1.lt
    have hw1 : w.heap.size ≤ w1.heap.size := HK1.out.size
    have hxl2 := hxl
    clear g1 g2 hq HS HX HR HK HST c2
    go_wp2_with (at_builtin; refine Kd.R_append PCod.k63 (w0 := w1) w.heap.size rfl (.tmp 21) (.tmp 26) 23 63 (.agg #[.int .i64 0, .int .i64 0]) 16 rfl Tryz.underlying23 infoSE rfl (by decide) (by decide) v0 xs ⟨q.1.1, q.1.2⟩ _ (fun k => k ≠ R) (fun k => k ≠ R ∧ some k ≠ v0.ownBlock) rfl rfl (PCod.k63_mkM w1 w.heap.size _ ⟨q.1.1, q.1.2⟩) (fun k h => h) (fun k h => by omega) HX1.out ?aB ?aS ?aL ?_)
    case aB => exact Below.refl _ _
    case aS => exact hw1
    case aL => omega
    intro v1 w2 hX2 hb2 hg2 hat
    have HX2 := Lib.hid hX2
    have HR2 := Lib.hid (HR1.out.grown hg2 (T := 63) (fun k hk => by obtain ⟨inner, ho⟩ := Kd.R_own HX1.out; exact own_typed ho k hk) (by decide) (by decide))
    have HK2 : Hid (KeepR R w w2) := ⟨hb2.os.trans HK1.out.os, hb2.tape.trans HK1.out.tape, hb2.output.trans HK1.out.output, Nat.le_trans HK1.out.size hb2.size, fun k hk hr => (hb2.block k hk).trans (HK1.out.block k hk hr)⟩
    clear hX2 hb2 hg2 hat HX1 HR1 HK1
    go_wp2_with fail
    go_roundw
    case rel => exact ⟨j + 1, v1, xs ++ [⟨q.1.1, q.1.2⟩], q.2, by omega, by go_num, rfl, by rw [List.length_append, hxl2]; rfl, HS3, HX2, HR2, HK2⟩
    case measure => simp [intOf]; omega
  ·obtain rfl : j = n := by omega
   have HS2 : Hid (CodPlain.someS (CodPlain.edgeS s) j st = (xs.map tE, st')) := by show _ = _; rw [HS.out, Nat.sub_self]; show (_ ++ [], _) = _; rw [List.append_nil]; rfl
   clear HS
   go_wp2_with fail
   go_ret
   rw [HS2.out]
   exact ⟨_, xs, rfl, rfl, HX.out, HR.out, HK.out⟩
theorem infoSF : (Tryz.prog.info? 65).map (fun i => (i.zero, i.size, i.bytes)) = some (some (.agg #[.int .i64 0, .int .i64 0, .int .i64 0]), 3, 24) := by kernel_rfl
set_option maxRecDepth 100000 in
set_option maxHeartbeats 4000000 in
theorem someF_any (R : Nat) (s : ByteArray) (st : CodPlain.St) (n : Nat) (w : World) (hs : s.size ≤ 1000) (hn : n ≤ 1000) (hr : RdAt R s st w) :
  Calls Tryz.prog 93 #[.pointer (some ⟨R, 0, none⟩), .int .i64 n, .func (Fn.func 94) #[] #[]] w fun e w' => ∃ (v : Value) (xs : List PCod.S65), e = .returned v ∧ xs.map tF = (CodPlain.someS (CodPlain.futS s) n st).1 ∧ Kd.R PCod.k65 65 w' w.heap.size (fun k => k ≠ R) v xs ∧ RdAt R s (CodPlain.someS (CodPlain.futS s) n st).2 w' ∧ KeepR R w w' := by
 have C := Lib.hid (fun st w1 h => rdF_any R s st w1 hs h)
 have HR0 := Lib.hid hr
 have hRw := hr.lt
 have hmf : ∀ (fn : Fn) (first cap : Array Value) (w : World), (Instr.makeFunc fn first cap).run Tryz.prog w = .ok (.func fn first cap) w := fun _ _ _ _ => rfl
 clear hr
 go_enter Tryz.func93, Tryz.ntmps93
 go_wp2_with fail
 go_loopw [8, 7] (fun i v wr => ∃ (j : Nat) (v0 : Value) (xs : List PCod.S65) (st' : CodPlain.St), j ≤ n ∧ i = .int .i64 j ∧ v0 = v ∧ xs.length = j ∧ Hid (CodPlain.someS (CodPlain.futS s) n st = (xs.map tF ++ (CodPlain.someS (CodPlain.futS s) (n - j) st').1, (CodPlain.someS (CodPlain.futS s) (n - j) st').2)) ∧ Hid (Kd.R PCod.k65 65 wr w.heap.size (fun k => k ≠ R) v0 xs) ∧ Hid (RdAt R s st' wr) ∧ Hid (KeepR R w wr)) (fun i _ _ => n - (intOf i).toNat)
 case atStart => exact ⟨0, _, [], st, Nat.zero_le _, rfl, rfl, rfl, rfl, Kd.R_nil _ _ _ _ _, HR0, KeepR.refl _ _⟩
 case round =>
  obtain ⟨j, v0, xs, st', hj, rfl, rfl, hxl, HS, HX, HR, HK⟩ := hrel
  have hRlt := HR.out.lt
  by_cases hlt : j < n
  ·cases hst : st'.2 with
   | true =>
    obtain ⟨ev, hev, herr⟩ := HR.out
    unfold ErrAt at herr
    rw [if_pos hst] at herr
    obtain ⟨b, rfl, -, -⟩ := herr
    have c2 : wr.cell? ⟨R, 2, none⟩ = some _ := (blk_cell hev 2).trans rfl
    have HS2 : Hid (CodPlain.someS (CodPlain.futS s) n st = (xs.map tF, st')) := by show _ = _; rw [HS.out, some_stop _ _ hst, List.append_nil]
    clear hev HS hst
    go_wp2_with fail
    go_ret
    rw [HS2.out]
    exact ⟨_, xs, rfl, rfl, HX.out, HR.out, HK.out⟩
   | false =>
    obtain ⟨ev, hev, herr⟩ := HR.out
    unfold ErrAt at herr
    rw [if_neg (by rw [hst]; simp)] at herr
    subst herr
    have c2 : wr.cell? ⟨R, 2, none⟩ = some _ := (blk_cell hev 2).trans rfl
    have HST := Lib.hid hst
    clear hev hst
    go_wp2_with fail
    refine (C.out st' wr HR.out).mono ?_
    rintro e w1 ⟨rfl, g1, g2⟩
    obtain ⟨q, hq⟩ : ∃ q, q = (CodPlain.futS s) st' := ⟨_, rfl⟩
    have HS3 : Hid (CodPlain.someS (CodPlain.futS s) n st = ((xs ++ [(⟨q.1.1, q.1.2.1, q.1.2.2⟩ : PCod.S65)]).map tF ++ (CodPlain.someS (CodPlain.futS s) (n - (j + 1)) q.2).1, (CodPlain.someS (CodPlain.futS s) (n - (j + 1)) q.2).2)) := by
     show _ = _
     have hm : n - j = n - (j + 1) + 1 := by omega
     rw [HS.out, hm, some_go _ _ HST.out, ← hq, List.map_append, List.append_assoc]; rfl
    rw [← hq] at g1 ⊢
    have HX1 := Lib.hid (Kd.R_step HX.out (fun k hk hlt => g2.block k hlt hk))
    have HR1 := Lib.hid g1
    have HK1 := Lib.hid (HK.out.trans g2)
    have hR1 := g1.lt
    have hw1 : w.heap.size ≤ w1.heap.size := HK1.out.size
    have hxl2 := hxl
    clear g1 g2 hq HS HX HR HK HST c2
    go_wp2_with (at_builtin; refine Kd.R_append PCod.k65 (w0 := w1) w.heap.size rfl (.tmp 21) (.tmp 26) 24 65 (.agg #[.int .i64 0, .int .i64 0, .int .i64 0]) 24 rfl Tryz.underlying24 infoSF rfl (by decide) (by decide) v0 xs ⟨q.1.1, q.1.2.1, q.1.2.2⟩ _ (fun k => k ≠ R) (fun k => k ≠ R ∧ some k ≠ v0.ownBlock) rfl rfl (PCod.k65_mkM w1 w.heap.size _ ⟨q.1.1, q.1.2.1, q.1.2.2⟩) (fun k h => h) (fun k h => by omega) HX1.out ?aB ?aS ?aL ?_)
    case aB => exact Below.refl _ _
    case aS => exact hw1
    case aL => omega
    intro v1 w2 hX2 hb2 hg2 hat
    have HX2 := Lib.hid hX2
    have HR2 := Lib.hid (HR1.out.grown hg2 (T := 65) (fun k hk => by obtain ⟨inner, ho⟩ := Kd.R_own HX1.out; exact own_typed ho k hk) (by decide) (by decide))
    have HK2 : Hid (KeepR R w w2) := ⟨hb2.os.trans HK1.out.os, hb2.tape.trans HK1.out.tape, hb2.output.trans HK1.out.output, Nat.le_trans HK1.out.size hb2.size, fun k hk hr => (hb2.block k hk).trans (HK1.out.block k hk hr)⟩
    clear hX2 hb2 hg2 hat HX1 HR1 HK1
    go_wp2_with fail
    go_roundw
    case rel => exact ⟨j + 1, v1, xs ++ [⟨q.1.1, q.1.2.1, q.1.2.2⟩], q.2, by omega, by go_num, rfl, by rw [List.length_append, hxl2]; rfl, HS3, HX2, HR2, HK2⟩
    case measure => simp [intOf]; omega
  ·obtain rfl : j = n := by omega
   have HS2 : Hid (CodPlain.someS (CodPlain.futS s) j st = (xs.map tF, st')) := by show _ = _; rw [HS.out, Nat.sub_self]; show (_ ++ [], _) = _; rw [List.append_nil]; rfl
   clear HS
   go_wp2_with fail
   go_ret
   rw [HS2.out]
   exact ⟨_, xs, rfl, rfl, HX.out, HR.out, HK.out⟩
theorem infoSI : (Tryz.prog.info? 3).map (fun i => (i.zero, i.size, i.bytes)) = some (some (.int .i64 0), 1, 8) := by kernel_rfl
set_option maxRecDepth 100000 in
set_option maxHeartbeats 4000000 in
theorem someI_any (R : Nat) (s : ByteArray) (st : CodPlain.St) (n : Nat) (w : World) (hs : s.size ≤ 1000) (hn : n ≤ 1000) (hr : RdAt R s st w) :
  Calls Tryz.prog 107 #[.pointer (some ⟨R, 0, none⟩), .int .i64 n, .func (Fn.func 108) #[] #[]] w fun e w' => ∃ (v : Value) (xs : List Int), e = .returned v ∧ xs.map (fun x : Int => x) = (CodPlain.someS (CodPlain.numS s 1) n st).1 ∧ Kd.R (Kd.int .i64) 3 w' w.heap.size (fun k => k ≠ R) v xs ∧ RdAt R s (CodPlain.someS (CodPlain.numS s 1) n st).2 w' ∧ KeepR R w w' := by
 have C := Lib.hid (fun st w1 h => rdI_any R s st w1 hs h)
 have HR0 := Lib.hid hr
 have hRw := hr.lt
 have hmf : ∀ (fn : Fn) (first cap : Array Value) (w : World), (Instr.makeFunc fn first cap).run Tryz.prog w = .ok (.func fn first cap) w := fun _ _ _ _ => rfl
 clear hr
 go_enter Tryz.func107, Tryz.ntmps107
 go_wp2_with fail
 go_loopw [8, 7] (fun i v wr => ∃ (j : Nat) (v0 : Value) (xs : List Int) (st' : CodPlain.St), j ≤ n ∧ i = .int .i64 j ∧ v0 = v ∧ xs.length = j ∧ Hid (CodPlain.someS (CodPlain.numS s 1) n st = (xs.map (fun x : Int => x) ++ (CodPlain.someS (CodPlain.numS s 1) (n - j) st').1, (CodPlain.someS (CodPlain.numS s 1) (n - j) st').2)) ∧ Hid (Kd.R (Kd.int .i64) 3 wr w.heap.size (fun k => k ≠ R) v0 xs) ∧ Hid (RdAt R s st' wr) ∧ Hid (KeepR R w wr)) (fun i _ _ => n - (intOf i).toNat)
 case atStart => exact ⟨0, _, [], st, Nat.zero_le _, rfl, rfl, rfl, rfl, Kd.R_nil _ _ _ _ _, HR0, KeepR.refl _ _⟩
 case round =>
  obtain ⟨j, v0, xs, st', hj, rfl, rfl, hxl, HS, HX, HR, HK⟩ := hrel
  have hRlt := HR.out.lt
  by_cases hlt : j < n
  ·cases hst : st'.2 with
   | true =>
    obtain ⟨ev, hev, herr⟩ := HR.out
    unfold ErrAt at herr
    rw [if_pos hst] at herr
    obtain ⟨b, rfl, -, -⟩ := herr
    have c2 : wr.cell? ⟨R, 2, none⟩ = some _ := (blk_cell hev 2).trans rfl
    have HS2 : Hid (CodPlain.someS (CodPlain.numS s 1) n st = (xs.map (fun x : Int => x), st')) := by show _ = _; rw [HS.out, some_stop _ _ hst, List.append_nil]
    clear hev HS hst
    go_wp2_with fail
    go_ret
    rw [HS2.out]
    exact ⟨_, xs, rfl, rfl, HX.out, HR.out, HK.out⟩
   | false =>
    obtain ⟨ev, hev, herr⟩ := HR.out
    unfold ErrAt at herr
    rw [if_neg (by rw [hst]; simp)] at herr
    subst herr
    have c2 : wr.cell? ⟨R, 2, none⟩ = some _ := (blk_cell hev 2).trans rfl
    have HST := Lib.hid hst
    clear hev hst
    go_wp2_with fail
    refine (C.out st' wr HR.out).mono ?_
    rintro e w1 ⟨rfl, g1, g2⟩
    obtain ⟨q, hq⟩ : ∃ q, q = (CodPlain.numS s 1) st' := ⟨_, rfl⟩
    have HS3 : Hid (CodPlain.someS (CodPlain.numS s 1) n st = ((xs ++ [(q.1 : Int)]).map (fun x : Int => x) ++ (CodPlain.someS (CodPlain.numS s 1) (n - (j + 1)) q.2).1, (CodPlain.someS (CodPlain.numS s 1) (n - (j + 1)) q.2).2)) := by
     show _ = _
     have hm : n - j = n - (j + 1) + 1 := by omega
     rw [HS.out, hm, some_go _ _ HST.out, ← hq, List.map_append, List.append_assoc]; rfl
    rw [← hq] at g1 ⊢
    have HX1 := Lib.hid (Kd.R_step HX.out (fun k hk hlt => g2.block k hlt hk))
    have HR1 := Lib.hid g1
    have HK1 := Lib.hid (HK.out.trans g2)
    have hR1 := g1.lt
    have hw1 : w.heap.size ≤ w1.heap.size := HK1.out.size
    have hxl2 := hxl
    clear g1 g2 hq HS HX HR HK HST c2
    go_wp2_with (at_builtin; refine Kd.R_append (Kd.int .i64) (w0 := w1) w.heap.size rfl (.tmp 21) (.tmp 26) 48 3 (.int .i64 0) 8 rfl Tryz.underlying48 infoSI rfl (by decide) (by decide) v0 xs q.1 _ (fun k => k ≠ R) (fun k => k ≠ R ∧ some k ≠ v0.ownBlock) rfl rfl (rfl) (fun k h => h) (fun k h => by omega) HX1.out ?aB ?aS ?aL ?_)
    case aB => exact Below.refl _ _
    case aS => exact hw1
    case aL => omega
    intro v1 w2 hX2 hb2 hg2 hat
    have HX2 := Lib.hid hX2
    have HR2 := Lib.hid (HR1.out.grown hg2 (T := 3) (fun k hk => by obtain ⟨inner, ho⟩ := Kd.R_own HX1.out; exact own_typed ho k hk) (by decide) (by decide))
    have HK2 : Hid (KeepR R w w2) := ⟨hb2.os.trans HK1.out.os, hb2.tape.trans HK1.out.tape, hb2.output.trans HK1.out.output, Nat.le_trans HK1.out.size hb2.size, fun k hk hr => (hb2.block k hk).trans (HK1.out.block k hk hr)⟩
    clear hX2 hb2 hg2 hat HX1 HR1 HK1
    go_wp2_with fail
    go_roundw
    case rel => exact ⟨j + 1, v1, xs ++ [q.1], q.2, by omega, by go_num, rfl, by rw [List.length_append, hxl2]; rfl, HS3, HX2, HR2, HK2⟩
    case measure => simp [intOf]; omega
  ·obtain rfl : j = n := by omega
   have HS2 : Hid (CodPlain.someS (CodPlain.numS s 1) j st = (xs.map (fun x : Int => x), st')) := by show _ = _; rw [HS.out, Nat.sub_self]; show (_ ++ [], _) = _; rw [List.append_nil]; rfl
   clear HS
   go_wp2_with fail
   go_ret
   rw [HS2.out]
   exact ⟨_, xs, rfl, rfl, HX.out, HR.out, HK.out⟩
end Go.Proofs.YtokhibhmlninnaaGreatDoor
