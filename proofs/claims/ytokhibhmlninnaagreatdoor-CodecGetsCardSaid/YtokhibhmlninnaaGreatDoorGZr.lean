/- Short names for words of the print. -/
import Derived.Test.YtokhibhmlninnaaGreatDoorGWWords
import Derived.Test.YtokhibhmlninnaaGreatDoorGWLast
import Derived.Test.YtokhibhmlninnaaGreatDoorGWMore
import Derived.Test.YtokhibhmlninnaaGreatDoorGWTab
import Derived.Test.YtokhibhmlninnaaGreatDoorGWN
import Derived.Test.YtokhibhmlninnaaGreatDoorGWRepsOne
namespace Go.Proofs.YtokhibhmlninnaaGreatDoor.Zr
open Go Go.RowKit Go.Proofs.YtokhibhmlninnaaGreatDoorW.PrintWords Go.Proofs.YtokhibhmlninnaaGreatDoorW.PrintLast Go.Proofs.YtokhibhmlninnaaGreatDoorW.PrintMore
def bzl : Nat → Nat → List Bool
 | 0, _ => []
 | n + 1, m => (m % 2 == 1) :: bzl n (m / 2)
def bz (n m : Nat) : Array Bool := ⟨bzl n m⟩
theorem y0 : type_of% @List.setIfInBounds_toArray := @List.setIfInBounds_toArray
theorem y1 : type_of% @List.set_cons_zero := @List.set_cons_zero
theorem y2 : type_of% @List.set_cons_succ := @List.set_cons_succ
theorem ra : type_of% @Kd.R_alloc := @Kd.R_alloc
theorem rn : type_of% @Kd.R_drewN := @Kd.R_drewN
theorem rd_ : type_of% @Kd.R_drew := @Kd.R_drew
theorem kn : type_of% @blk_drewN := @blk_drewN
theorem kd_ : type_of% @blk_drew := @blk_drew
theorem ka : type_of% @blk_alloc := @blk_alloc
theorem wn : type_of% @pw_below_drewN := @pw_below_drewN
theorem wd : type_of% @below_drew1 := @below_drew1
theorem wa : type_of% @below_alloc := @below_alloc
theorem ws : type_of% @below_set := @below_set
theorem Z0 : type_of% @Aside0.mk := @Aside0.mk
theorem bl : type_of% @World.block_lt_of_cell? := @World.block_lt_of_cell?
theorem rr : type_of% @Kd.R_reads' := @Kd.R_reads'
theorem rm : type_of% @Kd.R_mono := @Kd.R_mono
theorem rt : type_of% @Kd.R_told := @Kd.R_told
theorem rb : type_of% @Kd.R_base := @Kd.R_base
theorem rw_ : type_of% @Kd.R_new' := @Kd.R_new'
theorem rl : type_of% @Kd.R_lower := @Kd.R_lower
theorem rbe : type_of% @Kd.R_below := @Kd.R_below
theorem rlt : type_of% @Kd.R_lt := @Kd.R_lt
theorem ro : type_of% @Kd.R_old := @Kd.R_old
theorem kb : type_of% @blk_below := @blk_below
theorem kc : type_of% @blk_cell := @blk_cell
section
variable {P : Program} {ops : Array Oper} {Q : Exit → Act → World → Prop} {md : Region.Mode} {S : World → Prop} {ds : List Nat} {T : Bool × List (List Nat × List Nat)}
theorem pu (i : Nat) (N : Option Tmp) (l' : Array Bool) {oi : Oper} {v : Value} {fuel : Nat} {l : Array Bool} {a : Act} {w : World} (HT : Aside0 (rtab md ops = T)) {a' : Act} (h : wpAnyLast P md ops Q S ds fuel l' a' w)
  (hi : ops[i]? = some oi := by rfl) (hN : oi.dst = N := by rfl) (hc : anyT T l.toList l'.toList i = true := by kernel_rfl) (hQ : ∀ c a w, Q (.panic c) (a.put oi.dst v) w → Q (.panic c) a w := by exact fun _ _ _ h => h)
  (hw : Region.wanted oi (yielded ops a.tmps) = true := by rfl) (hy : ∀ w, (execOp a.eval oi).run P w = .ok (.value v) w := by intro w'; go_simp; with_reducible rfl) (ha : a.put N v = a' := by (simp only [Act.put, y0, y1, y2, i64_w, i32_w]; rfl)) : wpAnyLast P md ops Q S ds (fuel + 1) l a w :=
 pure_ l' hi hN (any_of HT.out hc) hQ (Or.inl ⟨hw, hy⟩) ha h
theorem pv (i : Nat) (N : Option Tmp) (l' : Array Bool) {oi : Oper} {fuel : Nat} {l : Array Bool} {a : Act} {w : World} (HT : Aside0 (rtab md ops = T)) {a' : Act} (h : wpAnyLast P md ops Q S ds fuel l' a' w)
  (hi : ops[i]? = some oi := by rfl) (hN : oi.dst = N := by rfl) (hc : anyT T l.toList l'.toList i = true := by kernel_rfl) (hQ : ∀ c a w, Q (.panic c) (a.put oi.dst undef) w → Q (.panic c) a w := by exact fun _ _ _ h => h)
  (hw : Region.wanted oi (yielded ops a.tmps) = false := by rfl) (ha : a.put N undef = a' := by (simp only [Act.put, y0, y1, y2, i64_w, i32_w]; rfl)) : wpAnyLast P md ops Q S ds (fuel + 1) l a w :=
 pure_ l' hi hN (any_of HT.out hc) hQ (Or.inr ⟨hw, rfl⟩) ha h
theorem tk1 (i : Nat) (N : Option Tmp) (l' : Array Bool) {oi : Oper} {v : Value} {fuel : Nat} {l : Array Bool} {a : Act} {w : World} {B : List Nat} (HT : Aside0 (rtab md ops = T)) (HW : Aside0 (waitsOk T.2 B = true)) (hS : S w) {a' : Act} (h : wpAnyLast P md ops Q S ds fuel l' a' w)
  (hi : ops[i]? = some oi := by rfl) (hN : oi.dst = N := by rfl) (hc : takeW T B ds l.toList l'.toList i = true := by kernel_rfl) (hQ : ∀ c a w, Q (.panic c) (a.put oi.dst v) w → Q (.panic c) a w := by exact fun _ _ _ h => h)
  (hw : Region.wanted oi (yielded ops a.tmps) = true := by rfl) (hy : ∀ w, S w → (execOp a.eval oi).run P w = .ok (.value v) w := by rintro w' s0; go_simp; with_reducible rfl) (ha : a.put N v = a' := by (simp only [Act.put, y0, y1, y2, i64_w, i32_w]; rfl)) : wpAnyLast P md ops Q S ds (fuel + 1) l a w :=
 take_ l' hi hN (take_ofW HT.out HW.out hc) hQ (Or.inl ⟨hw, hy⟩) hS ha h
theorem tk2 (i : Nat) (N : Option Tmp) (l' : Array Bool) {oi : Oper} {v : Value} {fuel : Nat} {l : Array Bool} {a : Act} {w : World} {B : List Nat} (HT : Aside0 (rtab md ops = T)) (HW : Aside0 (waitsOk T.2 B = true)) (hS : S w) {a' : Act} (h : wpAnyLast P md ops Q S ds fuel l' a' w)
  (hi : ops[i]? = some oi := by rfl) (hN : oi.dst = N := by rfl) (hc : takeW T B ds l.toList l'.toList i = true := by kernel_rfl) (hQ : ∀ c a w, Q (.panic c) (a.put oi.dst v) w → Q (.panic c) a w := by exact fun _ _ _ h => h)
  (hw : Region.wanted oi (yielded ops a.tmps) = true := by rfl) (hy : ∀ w, S w → (execOp a.eval oi).run P w = .ok (.value v) w := by rintro w' ⟨s0, s1⟩; go_simp; with_reducible rfl) (ha : a.put N v = a' := by (simp only [Act.put, y0, y1, y2, i64_w, i32_w]; rfl)) : wpAnyLast P md ops Q S ds (fuel + 1) l a w :=
 take_ l' hi hN (take_ofW HT.out HW.out hc) hQ (Or.inl ⟨hw, hy⟩) hS ha h
theorem tk3 (i : Nat) (N : Option Tmp) (l' : Array Bool) {oi : Oper} {v : Value} {fuel : Nat} {l : Array Bool} {a : Act} {w : World} {B : List Nat} (HT : Aside0 (rtab md ops = T)) (HW : Aside0 (waitsOk T.2 B = true)) (hS : S w) {a' : Act} (h : wpAnyLast P md ops Q S ds fuel l' a' w)
  (hi : ops[i]? = some oi := by rfl) (hN : oi.dst = N := by rfl) (hc : takeW T B ds l.toList l'.toList i = true := by kernel_rfl) (hQ : ∀ c a w, Q (.panic c) (a.put oi.dst v) w → Q (.panic c) a w := by exact fun _ _ _ h => h)
  (hw : Region.wanted oi (yielded ops a.tmps) = true := by rfl) (hy : ∀ w, S w → (execOp a.eval oi).run P w = .ok (.value v) w := by rintro w' ⟨s0, s1, s2⟩; go_simp; with_reducible rfl) (ha : a.put N v = a' := by (simp only [Act.put, y0, y1, y2, i64_w, i32_w]; rfl)) : wpAnyLast P md ops Q S ds (fuel + 1) l a w :=
 take_ l' hi hN (take_ofW HT.out HW.out hc) hQ (Or.inl ⟨hw, hy⟩) hS ha h
theorem tk4 (i : Nat) (N : Option Tmp) (l' : Array Bool) {oi : Oper} {v : Value} {fuel : Nat} {l : Array Bool} {a : Act} {w : World} {B : List Nat} (HT : Aside0 (rtab md ops = T)) (HW : Aside0 (waitsOk T.2 B = true)) (hS : S w) {a' : Act} (h : wpAnyLast P md ops Q S ds fuel l' a' w)
  (hi : ops[i]? = some oi := by rfl) (hN : oi.dst = N := by rfl) (hc : takeW T B ds l.toList l'.toList i = true := by kernel_rfl) (hQ : ∀ c a w, Q (.panic c) (a.put oi.dst v) w → Q (.panic c) a w := by exact fun _ _ _ h => h)
  (hw : Region.wanted oi (yielded ops a.tmps) = true := by rfl) (hy : ∀ w, S w → (execOp a.eval oi).run P w = .ok (.value v) w := by rintro w' ⟨s0, s1, s2, s3⟩; go_simp; with_reducible rfl) (ha : a.put N v = a' := by (simp only [Act.put, y0, y1, y2, i64_w, i32_w]; rfl)) : wpAnyLast P md ops Q S ds (fuel + 1) l a w :=
 take_ l' hi hN (take_ofW HT.out HW.out hc) hQ (Or.inl ⟨hw, hy⟩) hS ha h
theorem tk5 (i : Nat) (N : Option Tmp) (l' : Array Bool) {oi : Oper} {v : Value} {fuel : Nat} {l : Array Bool} {a : Act} {w : World} {B : List Nat} (HT : Aside0 (rtab md ops = T)) (HW : Aside0 (waitsOk T.2 B = true)) (hS : S w) {a' : Act} (h : wpAnyLast P md ops Q S ds fuel l' a' w)
  (hi : ops[i]? = some oi := by rfl) (hN : oi.dst = N := by rfl) (hc : takeW T B ds l.toList l'.toList i = true := by kernel_rfl) (hQ : ∀ c a w, Q (.panic c) (a.put oi.dst v) w → Q (.panic c) a w := by exact fun _ _ _ h => h)
  (hw : Region.wanted oi (yielded ops a.tmps) = true := by rfl) (hy : ∀ w, S w → (execOp a.eval oi).run P w = .ok (.value v) w := by rintro w' ⟨s0, s1, s2, s3, s4⟩; go_simp; with_reducible rfl) (ha : a.put N v = a' := by (simp only [Act.put, y0, y1, y2, i64_w, i32_w]; rfl)) : wpAnyLast P md ops Q S ds (fuel + 1) l a w :=
 take_ l' hi hN (take_ofW HT.out HW.out hc) hQ (Or.inl ⟨hw, hy⟩) hS ha h
theorem tk6 (i : Nat) (N : Option Tmp) (l' : Array Bool) {oi : Oper} {v : Value} {fuel : Nat} {l : Array Bool} {a : Act} {w : World} {B : List Nat} (HT : Aside0 (rtab md ops = T)) (HW : Aside0 (waitsOk T.2 B = true)) (hS : S w) {a' : Act} (h : wpAnyLast P md ops Q S ds fuel l' a' w)
  (hi : ops[i]? = some oi := by rfl) (hN : oi.dst = N := by rfl) (hc : takeW T B ds l.toList l'.toList i = true := by kernel_rfl) (hQ : ∀ c a w, Q (.panic c) (a.put oi.dst v) w → Q (.panic c) a w := by exact fun _ _ _ h => h)
  (hw : Region.wanted oi (yielded ops a.tmps) = true := by rfl) (hy : ∀ w, S w → (execOp a.eval oi).run P w = .ok (.value v) w := by rintro w' ⟨s0, s1, s2, s3, s4, s5⟩; go_simp; with_reducible rfl) (ha : a.put N v = a' := by (simp only [Act.put, y0, y1, y2, i64_w, i32_w]; rfl)) : wpAnyLast P md ops Q S ds (fuel + 1) l a w :=
 take_ l' hi hN (take_ofW HT.out HW.out hc) hQ (Or.inl ⟨hw, hy⟩) hS ha h
theorem tk7 (i : Nat) (N : Option Tmp) (l' : Array Bool) {oi : Oper} {v : Value} {fuel : Nat} {l : Array Bool} {a : Act} {w : World} {B : List Nat} (HT : Aside0 (rtab md ops = T)) (HW : Aside0 (waitsOk T.2 B = true)) (hS : S w) {a' : Act} (h : wpAnyLast P md ops Q S ds fuel l' a' w)
  (hi : ops[i]? = some oi := by rfl) (hN : oi.dst = N := by rfl) (hc : takeW T B ds l.toList l'.toList i = true := by kernel_rfl) (hQ : ∀ c a w, Q (.panic c) (a.put oi.dst v) w → Q (.panic c) a w := by exact fun _ _ _ h => h)
  (hw : Region.wanted oi (yielded ops a.tmps) = true := by rfl) (hy : ∀ w, S w → (execOp a.eval oi).run P w = .ok (.value v) w := by rintro w' ⟨s0, s1, s2, s3, s4, s5, s6⟩; go_simp; with_reducible rfl) (ha : a.put N v = a' := by (simp only [Act.put, y0, y1, y2, i64_w, i32_w]; rfl)) : wpAnyLast P md ops Q S ds (fuel + 1) l a w :=
 take_ l' hi hN (take_ofW HT.out HW.out hc) hQ (Or.inl ⟨hw, hy⟩) hS ha h
theorem tk8 (i : Nat) (N : Option Tmp) (l' : Array Bool) {oi : Oper} {v : Value} {fuel : Nat} {l : Array Bool} {a : Act} {w : World} {B : List Nat} (HT : Aside0 (rtab md ops = T)) (HW : Aside0 (waitsOk T.2 B = true)) (hS : S w) {a' : Act} (h : wpAnyLast P md ops Q S ds fuel l' a' w)
  (hi : ops[i]? = some oi := by rfl) (hN : oi.dst = N := by rfl) (hc : takeW T B ds l.toList l'.toList i = true := by kernel_rfl) (hQ : ∀ c a w, Q (.panic c) (a.put oi.dst v) w → Q (.panic c) a w := by exact fun _ _ _ h => h)
  (hw : Region.wanted oi (yielded ops a.tmps) = true := by rfl) (hy : ∀ w, S w → (execOp a.eval oi).run P w = .ok (.value v) w := by rintro w' ⟨s0, s1, s2, s3, s4, s5, s6, s7⟩; go_simp; with_reducible rfl) (ha : a.put N v = a' := by (simp only [Act.put, y0, y1, y2, i64_w, i32_w]; rfl)) : wpAnyLast P md ops Q S ds (fuel + 1) l a w :=
 take_ l' hi hN (take_ofW HT.out HW.out hc) hQ (Or.inl ⟨hw, hy⟩) hS ha h
theorem tk9 (i : Nat) (N : Option Tmp) (l' : Array Bool) {oi : Oper} {v : Value} {fuel : Nat} {l : Array Bool} {a : Act} {w : World} {B : List Nat} (HT : Aside0 (rtab md ops = T)) (HW : Aside0 (waitsOk T.2 B = true)) (hS : S w) {a' : Act} (h : wpAnyLast P md ops Q S ds fuel l' a' w)
  (hi : ops[i]? = some oi := by rfl) (hN : oi.dst = N := by rfl) (hc : takeW T B ds l.toList l'.toList i = true := by kernel_rfl) (hQ : ∀ c a w, Q (.panic c) (a.put oi.dst v) w → Q (.panic c) a w := by exact fun _ _ _ h => h)
  (hw : Region.wanted oi (yielded ops a.tmps) = true := by rfl) (hy : ∀ w, S w → (execOp a.eval oi).run P w = .ok (.value v) w := by rintro w' ⟨s0, s1, s2, s3, s4, s5, s6, s7, s8⟩; go_simp; with_reducible rfl) (ha : a.put N v = a' := by (simp only [Act.put, y0, y1, y2, i64_w, i32_w]; rfl)) : wpAnyLast P md ops Q S ds (fuel + 1) l a w :=
 take_ l' hi hN (take_ofW HT.out HW.out hc) hQ (Or.inl ⟨hw, hy⟩) hS ha h
theorem tk10 (i : Nat) (N : Option Tmp) (l' : Array Bool) {oi : Oper} {v : Value} {fuel : Nat} {l : Array Bool} {a : Act} {w : World} {B : List Nat} (HT : Aside0 (rtab md ops = T)) (HW : Aside0 (waitsOk T.2 B = true)) (hS : S w) {a' : Act} (h : wpAnyLast P md ops Q S ds fuel l' a' w)
  (hi : ops[i]? = some oi := by rfl) (hN : oi.dst = N := by rfl) (hc : takeW T B ds l.toList l'.toList i = true := by kernel_rfl) (hQ : ∀ c a w, Q (.panic c) (a.put oi.dst v) w → Q (.panic c) a w := by exact fun _ _ _ h => h)
  (hw : Region.wanted oi (yielded ops a.tmps) = true := by rfl) (hy : ∀ w, S w → (execOp a.eval oi).run P w = .ok (.value v) w := by rintro w' ⟨s0, s1, s2, s3, s4, s5, s6, s7, s8, s9⟩; go_simp; with_reducible rfl) (ha : a.put N v = a' := by (simp only [Act.put, y0, y1, y2, i64_w, i32_w]; rfl)) : wpAnyLast P md ops Q S ds (fuel + 1) l a w :=
 take_ l' hi hN (take_ofW HT.out HW.out hc) hQ (Or.inl ⟨hw, hy⟩) hS ha h
theorem tk11 (i : Nat) (N : Option Tmp) (l' : Array Bool) {oi : Oper} {v : Value} {fuel : Nat} {l : Array Bool} {a : Act} {w : World} {B : List Nat} (HT : Aside0 (rtab md ops = T)) (HW : Aside0 (waitsOk T.2 B = true)) (hS : S w) {a' : Act} (h : wpAnyLast P md ops Q S ds fuel l' a' w)
  (hi : ops[i]? = some oi := by rfl) (hN : oi.dst = N := by rfl) (hc : takeW T B ds l.toList l'.toList i = true := by kernel_rfl) (hQ : ∀ c a w, Q (.panic c) (a.put oi.dst v) w → Q (.panic c) a w := by exact fun _ _ _ h => h)
  (hw : Region.wanted oi (yielded ops a.tmps) = true := by rfl) (hy : ∀ w, S w → (execOp a.eval oi).run P w = .ok (.value v) w := by rintro w' ⟨s0, s1, s2, s3, s4, s5, s6, s7, s8, s9, s10⟩; go_simp; with_reducible rfl) (ha : a.put N v = a' := by (simp only [Act.put, y0, y1, y2, i64_w, i32_w]; rfl)) : wpAnyLast P md ops Q S ds (fuel + 1) l a w :=
 take_ l' hi hN (take_ofW HT.out HW.out hc) hQ (Or.inl ⟨hw, hy⟩) hS ha h
theorem tk12 (i : Nat) (N : Option Tmp) (l' : Array Bool) {oi : Oper} {v : Value} {fuel : Nat} {l : Array Bool} {a : Act} {w : World} {B : List Nat} (HT : Aside0 (rtab md ops = T)) (HW : Aside0 (waitsOk T.2 B = true)) (hS : S w) {a' : Act} (h : wpAnyLast P md ops Q S ds fuel l' a' w)
  (hi : ops[i]? = some oi := by rfl) (hN : oi.dst = N := by rfl) (hc : takeW T B ds l.toList l'.toList i = true := by kernel_rfl) (hQ : ∀ c a w, Q (.panic c) (a.put oi.dst v) w → Q (.panic c) a w := by exact fun _ _ _ h => h)
  (hw : Region.wanted oi (yielded ops a.tmps) = true := by rfl) (hy : ∀ w, S w → (execOp a.eval oi).run P w = .ok (.value v) w := by rintro w' ⟨s0, s1, s2, s3, s4, s5, s6, s7, s8, s9, s10, s11⟩; go_simp; with_reducible rfl) (ha : a.put N v = a' := by (simp only [Act.put, y0, y1, y2, i64_w, i32_w]; rfl)) : wpAnyLast P md ops Q S ds (fuel + 1) l a w :=
 take_ l' hi hN (take_ofW HT.out HW.out hc) hQ (Or.inl ⟨hw, hy⟩) hS ha h
theorem tk13 (i : Nat) (N : Option Tmp) (l' : Array Bool) {oi : Oper} {v : Value} {fuel : Nat} {l : Array Bool} {a : Act} {w : World} {B : List Nat} (HT : Aside0 (rtab md ops = T)) (HW : Aside0 (waitsOk T.2 B = true)) (hS : S w) {a' : Act} (h : wpAnyLast P md ops Q S ds fuel l' a' w)
  (hi : ops[i]? = some oi := by rfl) (hN : oi.dst = N := by rfl) (hc : takeW T B ds l.toList l'.toList i = true := by kernel_rfl) (hQ : ∀ c a w, Q (.panic c) (a.put oi.dst v) w → Q (.panic c) a w := by exact fun _ _ _ h => h)
  (hw : Region.wanted oi (yielded ops a.tmps) = true := by rfl) (hy : ∀ w, S w → (execOp a.eval oi).run P w = .ok (.value v) w := by rintro w' ⟨s0, s1, s2, s3, s4, s5, s6, s7, s8, s9, s10, s11, s12⟩; go_simp; with_reducible rfl) (ha : a.put N v = a' := by (simp only [Act.put, y0, y1, y2, i64_w, i32_w]; rfl)) : wpAnyLast P md ops Q S ds (fuel + 1) l a w :=
 take_ l' hi hN (take_ofW HT.out HW.out hc) hQ (Or.inl ⟨hw, hy⟩) hS ha h
theorem tk14 (i : Nat) (N : Option Tmp) (l' : Array Bool) {oi : Oper} {v : Value} {fuel : Nat} {l : Array Bool} {a : Act} {w : World} {B : List Nat} (HT : Aside0 (rtab md ops = T)) (HW : Aside0 (waitsOk T.2 B = true)) (hS : S w) {a' : Act} (h : wpAnyLast P md ops Q S ds fuel l' a' w)
  (hi : ops[i]? = some oi := by rfl) (hN : oi.dst = N := by rfl) (hc : takeW T B ds l.toList l'.toList i = true := by kernel_rfl) (hQ : ∀ c a w, Q (.panic c) (a.put oi.dst v) w → Q (.panic c) a w := by exact fun _ _ _ h => h)
  (hw : Region.wanted oi (yielded ops a.tmps) = true := by rfl) (hy : ∀ w, S w → (execOp a.eval oi).run P w = .ok (.value v) w := by rintro w' ⟨s0, s1, s2, s3, s4, s5, s6, s7, s8, s9, s10, s11, s12, s13⟩; go_simp; with_reducible rfl) (ha : a.put N v = a' := by (simp only [Act.put, y0, y1, y2, i64_w, i32_w]; rfl)) : wpAnyLast P md ops Q S ds (fuel + 1) l a w :=
 take_ l' hi hN (take_ofW HT.out HW.out hc) hQ (Or.inl ⟨hw, hy⟩) hS ha h
theorem tk15 (i : Nat) (N : Option Tmp) (l' : Array Bool) {oi : Oper} {v : Value} {fuel : Nat} {l : Array Bool} {a : Act} {w : World} {B : List Nat} (HT : Aside0 (rtab md ops = T)) (HW : Aside0 (waitsOk T.2 B = true)) (hS : S w) {a' : Act} (h : wpAnyLast P md ops Q S ds fuel l' a' w)
  (hi : ops[i]? = some oi := by rfl) (hN : oi.dst = N := by rfl) (hc : takeW T B ds l.toList l'.toList i = true := by kernel_rfl) (hQ : ∀ c a w, Q (.panic c) (a.put oi.dst v) w → Q (.panic c) a w := by exact fun _ _ _ h => h)
  (hw : Region.wanted oi (yielded ops a.tmps) = true := by rfl) (hy : ∀ w, S w → (execOp a.eval oi).run P w = .ok (.value v) w := by rintro w' ⟨s0, s1, s2, s3, s4, s5, s6, s7, s8, s9, s10, s11, s12, s13, s14⟩; go_simp; with_reducible rfl) (ha : a.put N v = a' := by (simp only [Act.put, y0, y1, y2, i64_w, i32_w]; rfl)) : wpAnyLast P md ops Q S ds (fuel + 1) l a w :=
 take_ l' hi hN (take_ofW HT.out HW.out hc) hQ (Or.inl ⟨hw, hy⟩) hS ha h
theorem tk16 (i : Nat) (N : Option Tmp) (l' : Array Bool) {oi : Oper} {v : Value} {fuel : Nat} {l : Array Bool} {a : Act} {w : World} {B : List Nat} (HT : Aside0 (rtab md ops = T)) (HW : Aside0 (waitsOk T.2 B = true)) (hS : S w) {a' : Act} (h : wpAnyLast P md ops Q S ds fuel l' a' w)
  (hi : ops[i]? = some oi := by rfl) (hN : oi.dst = N := by rfl) (hc : takeW T B ds l.toList l'.toList i = true := by kernel_rfl) (hQ : ∀ c a w, Q (.panic c) (a.put oi.dst v) w → Q (.panic c) a w := by exact fun _ _ _ h => h)
  (hw : Region.wanted oi (yielded ops a.tmps) = true := by rfl) (hy : ∀ w, S w → (execOp a.eval oi).run P w = .ok (.value v) w := by rintro w' ⟨s0, s1, s2, s3, s4, s5, s6, s7, s8, s9, s10, s11, s12, s13, s14, s15⟩; go_simp; with_reducible rfl) (ha : a.put N v = a' := by (simp only [Act.put, y0, y1, y2, i64_w, i32_w]; rfl)) : wpAnyLast P md ops Q S ds (fuel + 1) l a w :=
 take_ l' hi hN (take_ofW HT.out HW.out hc) hQ (Or.inl ⟨hw, hy⟩) hS ha h
theorem zr {p q : Prop} (h : Aside0 p) (hq : p → q := by intro h_; ((with_reducible repeat (first | apply ra | apply rn | apply rd_)); exact h_)) : q := hq h.out
theorem zc {p q : Prop} (h : p) (hq : p → q := by intro h_; repeat (first | exact h_ | (with_reducible refine Kd.C_alloc ?_ _) | (with_reducible refine Kd.C_drewN ?_ _) | (with_reducible refine Kd.C_drew ?_))) : q := hq h
theorem zb {p q : Prop} (h : Aside0 p) (hq : p → q := by intro h_; repeat (first | (with_reducible first | exact h_ | apply wa | apply wn | apply wd | refine ws ?_ (Aside0.out (by assumption))) | exact h_)) : q := hq h.out
theorem zg {oi : Oper} {N : Option Tmp} {a : Act} {w : World} {K : Act → World → Prop} {f : FuncId} {fn : Func} {as : Array Operand} {ts : Array TypeId} (hf : P.funcs[f]? = some fn) (args : Array Value)
  (h : Calls P f args w fun e w' => ∃ v, e = .returned v ∧ K (a.put N v) w') (hname : (fn.name == "runtime.NumGoroutine") = false := by kernel_rfl) (hb : fn.body.isSome = true := by rfl)
  (hw : Region.wanted oi (yielded ops a.tmps) = true := by rfl) (hN : oi.dst = N := by rfl) (hop : oi.op = .call { callee := .value (.func f), args := as, argTypes := ts } := by rfl) (hargs : as.map a.eval = args := by (try simp only [List.map_toArray, List.map_cons, List.map_nil]); first | done | rfl | (simp only [List.length_drop, List.length_take]; rfl)) : if Region.wanted oi (yielded ops a.tmps) = true then Oper.wp P oi a w K Q else K (a.put N undef) w :=
 goes_ hf hname hb args hw hN hop hargs h
theorem nn {p q : Prop} (a : p) (b : q) : Aside0 p ∧ q := ⟨⟨a⟩, b⟩
theorem nft : ¬ (false = true) := by decide
theorem ab {r : Bool} (H : some false = some r) (hrt : Aside0 (r = true)) : false = true := (Option.some.inj H).trans hrt.out
theorem zo {k : IntKind} {w : World} {b : Nat} {ok : Nat → Prop} (x : Int) {ps : List Int} {cs : List Value} (h : Reps ((Kd.int k).M w b ok) 1 ps cs) : Reps ((Kd.int k).M w b ok) 1 (x :: ps) (.int k x :: cs) := Reps.one rfl h
theorem zy {α : Type} {d : Kd α} {e : Nat} {w : World} {base : Nat} {ok : Nat → Prop} {v : Value} {xs : List α} {g t : Nat} {cs : Array Value} {q : Prop} (h : Aside0 (d.R e w base ok v xs)) (hb : Aside0 (w.heap[g]? = some (.cells cs t (0, 0)))) (ht : ∀ q, q ∈ e :: d.E → q ≠ t := by decide)
  (hq : (∀ i j u u', d.R e ((w.setCell ⟨g, i, none⟩ u).setCell ⟨g, j, none⟩ u') base ok v xs) → q := by intro h_; ((with_reducible repeat (first | apply ra | apply rn | apply rd_)); exact h_ _ _ _ _)) : q :=
 hq fun i j u u' => rm (Kd.R_far (p := ⟨g, j, none⟩) (Kd.R_far (p := ⟨g, i, none⟩) (Kd.R_types h.out hb.out ht) (fun _ hk => hk.2) u) (fun _ hk => hk.2) u') (fun _ hk => hk.1)
theorem zh (w : World) {W : World} {g : Nat} {p : Prop} (hg : g = W.heap.size) (h : Aside0 p) (hq : p → Below w.heap.size w W := by intro h_; repeat (first | (with_reducible first | exact h_ | apply wa | apply wn | apply wd | refine ws ?_ (Aside0.out (by assumption))) | exact h_)) : w.heap.size ≤ g := hg ▸ below_size (hq h.out)
theorem zl {w0 W : World} {g g' : Nat} {o : Obj} (hg : g' = W.heap.size) (h : Aside0 (w0.heap[g]? = some o)) (hq : w0.heap[g]? = some o → W.heap[g]? = some o := by intro h_; ((with_reducible repeat (first | refine kn ?_ _ | refine kd_ ?_ | refine ka ?_ _)); exact h_)) : g ≠ g' := hg ▸ Nat.ne_of_lt (blk_lt (hq h.out))
theorem zu {w0 W : World} {g g' : Nat} {o : Obj} (hg : g' = W.heap.size) (h : Aside0 (w0.heap[g]? = some o)) (hq : w0.heap[g]? = some o → W.heap[g]? = some o := by intro h_; ((with_reducible repeat (first | refine kn ?_ _ | refine kd_ ?_ | refine ka ?_ _)); exact h_)) : g' ≠ g := hg ▸ Nat.ne_of_gt (blk_lt (hq h.out))
theorem zkb {w0 W w1 : World} {g : Nat} {o : Obj} (h : Aside0 (w0.heap[g]? = some o)) (hb : Below W.heap.size W w1) (hq : w0.heap[g]? = some o → W.heap[g]? = some o := by intro h_; ((with_reducible repeat (first | refine kn ?_ _ | refine kd_ ?_ | refine ka ?_ _)); exact h_)) : w1.heap[g]? = some o := kb (hq h.out) hb
theorem zn {p q : Prop} (h : Aside0 p) (hq : p → q := by intro h_; ((with_reducible repeat (first | apply Kd.N_alloc | apply Kd.N_drewN | apply Kd.N_drew)); exact h_)) : q := hq h.out
theorem zz {Q : Exit → Act → World → Prop} {rest : List Oper} {o : Oper} {a : Act} {W : World} {N : Tmp} (e : Nat) (xs : List Int) {y : List Int} (hy : Aside0 (y = xs)) {inner : List Value} (hp : Reps ((Kd.int .i64).M W W.heap.size (fun _ => True)) 1 xs inner)
  (h : ∀ v1 w1, (Kd.int .i64).R e w1 W.heap.size (fun _ => True) v1 y → Below W.heap.size W w1 → wpList P ops Q rest (a.put o.dst v1) w1) (hgd : o.guard = none := by rfl) (hd : o.dst = some N := by rfl)
  (hrun : (execOp a.eval o).run P W = .ok (.value (.slice (some ⟨W.heap.size, 0, none⟩) xs.length xs.length)) (W.alloc (.cells inner.toArray e)) := by first | (go_simp; done) | (go_simp; rfl)) (hm : xs.length ≤ 9223372036854775807 := by simp) : wpList P ops Q (o :: rest) a W :=
 Kd.R_lit (Kd.int .i64) _ e hgd hd hrun hp (fun _ hk => hk) trivial (Below.refl _ _) (Nat.le_refl _) hm fun v1 w1 h1 h2 _ _ => h v1 w1 (hy.out ▸ h1) h2
theorem od {p : Prop} [Decidable p] (h : decide p = true := by first | (with_reducible assumption) | assumption) : p := of_decide_eq_true h
theorem ze {p : Prop} (h : p := by first | rfl | (simp [errW_none, errW_some] <;> rfl) | (simp [*, errW_none, errW_some] <;> rfl)) : p := h
theorem zs {p : Prop} (h : p := by first | rfl | (simp; done) | (simp [*]; done)) : p := h
theorem kz0 {w : World} {g t : Nat} {x0 : Value} {l : List Value} (h : Aside0 (w.heap[g]? = some (.cells (x0 :: l).toArray t (0, 0)))) : w.cell? ⟨g, 0, none⟩ = some x0 := (kc h.out 0).trans rfl
theorem kz1 {w : World} {g t : Nat} {x0 x1 : Value} {l : List Value} (h : Aside0 (w.heap[g]? = some (.cells (x0 :: x1 :: l).toArray t (0, 0)))) : w.cell? ⟨g, 1, none⟩ = some x1 := (kc h.out 1).trans rfl
theorem kz2 {w : World} {g t : Nat} {x0 x1 x2 : Value} {l : List Value} (h : Aside0 (w.heap[g]? = some (.cells (x0 :: x1 :: x2 :: l).toArray t (0, 0)))) : w.cell? ⟨g, 2, none⟩ = some x2 := (kc h.out 2).trans rfl
theorem zx {Q : Exit → Act → World → Prop} {rest : List Oper} {o : Oper} {a : Act} {W : World} {N : Tmp} (cs : Array Value) (t : TypeId)
  (h : ∀ g, g = W.heap.size → ∀ w1, w1.heap[g]? = some (.cells cs t (0, 0)) → Below W.heap.size W w1 → wpList P ops Q rest (a.put o.dst (.pointer (some ⟨g, 0, none⟩))) w1) (hgd : o.guard = none := by rfl) (hd : o.dst = some N := by rfl)
  (hrun : (execOp a.eval o).run P W = .ok (.value (.pointer (some ⟨W.heap.size, 0, none⟩))) (W.alloc (.cells cs t (0, 0))) := by first | (go_simp; done) | (go_simp; rfl)) : wpList P ops Q (o :: rest) a W := box_event hgd hd hrun h
theorem zk {p q : Prop} (h : Aside0 p) (hq : p → q := by intro h_; ((with_reducible repeat (first | refine kn ?_ _ | refine kd_ ?_ | refine ka ?_ _)); exact h_)) : q := hq h.out
end
end Go.Proofs.YtokhibhmlninnaaGreatDoor.Zr
