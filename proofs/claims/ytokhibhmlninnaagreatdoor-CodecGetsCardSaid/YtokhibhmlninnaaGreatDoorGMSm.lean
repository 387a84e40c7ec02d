/- Texts of this work, put into one. -/
import Derived.Test.YtokhibhmlninnaaGreatDoorGMCkB
import Derived.Deep.QuietTactic
import Derived.BigQuiet
set_option linter.unusedVariables false
set_option linter.unusedSimpArgs false
namespace CodPlain
def sameB (a b : D) : Bool := a.per == b.per && (a.dl == b.dl && (a.parts == b.parts && (a.edges == b.edges && (a.futs == b.futs && a.bars == b.bars))))
theorem sameB_eq {a b : D} : sameB a b = true ↔ a = b := by
 unfold sameB
 cases a; cases b
 simp only [Bool.and_eq_true, beq_iff_eq, D.mk.injEq]
end CodPlain
namespace Go.Proofs.YtokhibhmlninnaaGreatDoor
open Go.RowKit Go.Sort Go.Proofs.YtokhibhmlninnaaGreatDoorW.PrintWords
theorem partE_c (x y : PCod.S47) : (!(x.f0 == y.f0) || (!(x.f1 == y.f1) || (!(x.f2 == y.f2)))) = !(tP x == tP y) := by
 show _ = !(x.f0 == y.f0 && (x.f1 == y.f1 && x.f2 == y.f2))
 simp only [Bool.not_and]
theorem partE_ev (l m : List PCod.S47) (h : l.length ≤ 1000) : ∃ k, PCod.api_Part_34.f k l m = some (l.map tP == m.map tP) := by
 by_cases hle : l.length = m.length
 ·have key : ∀ (n x : Nat), x + n = l.length → Ev (fun k => PCod.api_Part_34.l0 k l m (l.length : Int) (x : Int)) ((l.map tP).drop x == (m.map tP).drop x) := by
   intro n
   induction n with
   | zero =>
    intro x hx
    rw [List.drop_of_length_le (by rw [List.length_map]; omega), List.drop_of_length_le (by rw [List.length_map]; omega)]
    exact Ev.step (f := fun _ => some true) (fun k => by rw [PCod.api_Part_34.l0, if_neg (by omega)]) (Ev.now _)
   | succ n ih =>
    intro x hx
    have h2 := ih (x + 1) (by omega)
    have hr1 : PCod.rd_T47 l (x : Int) = l[x] := by unfold PCod.rd_T47; rw [Int.toNat_natCast, List.getD_eq_getElem?_getD, List.getElem?_eq_getElem (by omega)]; rfl
    have hr2 : PCod.rd_T47 m (x : Int) = m[x] := by unfold PCod.rd_T47; rw [Int.toNat_natCast, List.getD_eq_getElem?_getD, List.getElem?_eq_getElem (by omega)]; rfl
    have hd : (l.map tP).drop x = tP l[x] :: (l.map tP).drop (x + 1) := by rw [List.drop_eq_getElem_cons (by rw [List.length_map]; omega), List.getElem_map]
    have hd2 : (m.map tP).drop x = tP m[x] :: (m.map tP).drop (x + 1) := by rw [List.drop_eq_getElem_cons (by rw [List.length_map]; omega), List.getElem_map]
    rw [hd, hd2, List.cons_beq_cons]
    cases hb : (tP l[x] == tP m[x]) with
    | true =>
     rw [Bool.true_and]
     refine Ev.step (fun k => ?_) h2
     rw [PCod.api_Part_34.l0, if_pos (by omega), if_pos (by omega), if_pos (by omega), if_pos (by omega), hr1, hr2, partE_c, hb, if_neg (by simp), wrap_in (by omega)]; rfl
    | false =>
     rw [Bool.false_and]
     refine Ev.step (f := fun _ => some false) (fun k => ?_) (Ev.now _)
     rw [PCod.api_Part_34.l0, if_pos (by omega), if_pos (by omega), if_pos (by omega), if_pos (by omega), hr1, hr2, partE_c, hb, if_pos (by simp)]
  have h2 := key l.length 0 (by omega)
  rw [List.drop_zero, List.drop_zero] at h2
  obtain ⟨k, hk⟩ := Ev.rounds h2
  refine ⟨k, ?_⟩
  unfold PCod.api_Part_34.f
  rw [if_pos (by omega)]
  exact hk
 ·refine ⟨0, ?_⟩
  unfold PCod.api_Part_34.f
  rw [if_neg (by omega)]
  have : (l.map tP == m.map tP) = false := by
   rw [beq_eq_false_iff_ne]
   intro e
   have := congrArg List.length e
   rw [List.length_map, List.length_map] at this
   exact hle this
  rw [this]
theorem edgeE_c (x y : PCod.S63) : (!(x.f0 == y.f0) || (!(x.f1 == y.f1))) = !(tE x == tE y) := by
 show _ = !(x.f0 == y.f0 && x.f1 == y.f1)
 simp only [Bool.not_and]
theorem edgeE_ev (l m : List PCod.S63) (h : l.length ≤ 1000) : ∃ k, PCod.api_Edge_35.f k l m = some (l.map tE == m.map tE) := by
 by_cases hle : l.length = m.length
 ·have key : ∀ (n x : Nat), x + n = l.length → Ev (fun k => PCod.api_Edge_35.l0 k l m (l.length : Int) (x : Int)) ((l.map tE).drop x == (m.map tE).drop x) := by
   intro n
   induction n with
   | zero =>
    intro x hx
    rw [List.drop_of_length_le (by rw [List.length_map]; omega), List.drop_of_length_le (by rw [List.length_map]; omega)]
    exact Ev.step (f := fun _ => some true) (fun k => by rw [PCod.api_Edge_35.l0, if_neg (by omega)]) (Ev.now _)
   | succ n ih =>
    intro x hx
    have h2 := ih (x + 1) (by omega)
    have hr1 : PCod.rd_T63 l (x : Int) = l[x] := by unfold PCod.rd_T63; rw [Int.toNat_natCast, List.getD_eq_getElem?_getD, List.getElem?_eq_getElem (by omega)]; rfl
    have hr2 : PCod.rd_T63 m (x : Int) = m[x] := by unfold PCod.rd_T63; rw [Int.toNat_natCast, List.getD_eq_getElem?_getD, List.getElem?_eq_getElem (by omega)]; rfl
    have hd : (l.map tE).drop x = tE l[x] :: (l.map tE).drop (x + 1) := by rw [List.drop_eq_getElem_cons (by rw [List.length_map]; omega), List.getElem_map]
    have hd2 : (m.map tE).drop x = tE m[x] :: (m.map tE).drop (x + 1) := by rw [List.drop_eq_getElem_cons (by rw [List.length_map]; omega), List.getElem_map]
    rw [hd, hd2, List.cons_beq_cons]
    cases hb : (tE l[x] == tE m[x]) with
    | true =>
     rw [Bool.true_and]
     refine Ev.step (fun k => ?_) h2
     rw [PCod.api_Edge_35.l0, if_pos (by omega), if_pos (by omega), if_pos (by omega), if_pos (by omega), hr1, hr2, edgeE_c, hb, if_neg (by simp), wrap_in (by omega)]; rfl
    | false =>
     rw [Bool.false_and]
     refine Ev.step (f := fun _ => some false) (fun k => ?_) (Ev.now _)
     rw [PCod.api_Edge_35.l0, if_pos (by omega), if_pos (by omega), if_pos (by omega), if_pos (by omega), hr1, hr2, edgeE_c, hb, if_pos (by simp)]
  have h2 := key l.length 0 (by omega)
  rw [List.drop_zero, List.drop_zero] at h2
  obtain ⟨k, hk⟩ := Ev.rounds h2
  refine ⟨k, ?_⟩
  unfold PCod.api_Edge_35.f
  rw [if_pos (by omega)]
  exact hk
 ·refine ⟨0, ?_⟩
  unfold PCod.api_Edge_35.f
  rw [if_neg (by omega)]
  have : (l.map tE == m.map tE) = false := by
   rw [beq_eq_false_iff_ne]
   intro e
   have := congrArg List.length e
   rw [List.length_map, List.length_map] at this
   exact hle this
  rw [this]
theorem futE_c (x y : PCod.S65) : (!(x.f0 == y.f0) || (!(x.f1 == y.f1) || (!(x.f2 == y.f2)))) = !(tF x == tF y) := by
 show _ = !(x.f0 == y.f0 && (x.f1 == y.f1 && x.f2 == y.f2))
 simp only [Bool.not_and]
theorem futE_ev (l m : List PCod.S65) (h : l.length ≤ 1000) : ∃ k, PCod.api_Future_36.f k l m = some (l.map tF == m.map tF) := by
 by_cases hle : l.length = m.length
 ·have key : ∀ (n x : Nat), x + n = l.length → Ev (fun k => PCod.api_Future_36.l0 k l m (l.length : Int) (x : Int)) ((l.map tF).drop x == (m.map tF).drop x) := by
   intro n
   induction n with
   | zero =>
    intro x hx
    rw [List.drop_of_length_le (by rw [List.length_map]; omega), List.drop_of_length_le (by rw [List.length_map]; omega)]
    exact Ev.step (f := fun _ => some true) (fun k => by rw [PCod.api_Future_36.l0, if_neg (by omega)]) (Ev.now _)
   | succ n ih =>
    intro x hx
    have h2 := ih (x + 1) (by omega)
    have hr1 : PCod.rd_T65 l (x : Int) = l[x] := by unfold PCod.rd_T65; rw [Int.toNat_natCast, List.getD_eq_getElem?_getD, List.getElem?_eq_getElem (by omega)]; rfl
    have hr2 : PCod.rd_T65 m (x : Int) = m[x] := by unfold PCod.rd_T65; rw [Int.toNat_natCast, List.getD_eq_getElem?_getD, List.getElem?_eq_getElem (by omega)]; rfl
    have hd : (l.map tF).drop x = tF l[x] :: (l.map tF).drop (x + 1) := by rw [List.drop_eq_getElem_cons (by rw [List.length_map]; omega), List.getElem_map]
    have hd2 : (m.map tF).drop x = tF m[x] :: (m.map tF).drop (x + 1) := by rw [List.drop_eq_getElem_cons (by rw [List.length_map]; omega), List.getElem_map]
    rw [hd, hd2, List.cons_beq_cons]
    cases hb : (tF l[x] == tF m[x]) with
    | true =>
     rw [Bool.true_and]
     refine Ev.step (fun k => ?_) h2
     rw [PCod.api_Future_36.l0, if_pos (by omega), if_pos (by omega), if_pos (by omega), if_pos (by omega), hr1, hr2, futE_c, hb, if_neg (by simp), wrap_in (by omega)]; rfl
    | false =>
     rw [Bool.false_and]
     refine Ev.step (f := fun _ => some false) (fun k => ?_) (Ev.now _)
     rw [PCod.api_Future_36.l0, if_pos (by omega), if_pos (by omega), if_pos (by omega), if_pos (by omega), hr1, hr2, futE_c, hb, if_pos (by simp)]
  have h2 := key l.length 0 (by omega)
  rw [List.drop_zero, List.drop_zero] at h2
  obtain ⟨k, hk⟩ := Ev.rounds h2
  refine ⟨k, ?_⟩
  unfold PCod.api_Future_36.f
  rw [if_pos (by omega)]
  exact hk
 ·refine ⟨0, ?_⟩
  unfold PCod.api_Future_36.f
  rw [if_neg (by omega)]
  have : (l.map tF == m.map tF) = false := by
   rw [beq_eq_false_iff_ne]
   intro e
   have := congrArg List.length e
   rw [List.length_map, List.length_map] at this
   exact hle this
  rw [this]
theorem list_eq_of {l m : List Int} (h : l.length = m.length) (hk : ∀ k, k < l.length → l.getD k 0 = m.getD k 0) : l = m := by
 apply List.ext_getElem h
 intro k h1 h2
 have := hk k h1
 rw [List.getD_eq_getElem?_getD, List.getD_eq_getElem?_getD, List.getElem?_eq_getElem h1, List.getElem?_eq_getElem h2] at this
 exact this
set_option maxHeartbeats 1000000 in
theorem eqI_any (A B : Option Addr) (c d : Nat) (l m : List Int) (w : World) (hl : ReadsInt w .i64 A l.length l) (hm : ReadsInt w .i64 B m.length m) (hn1 : l.length ≤ 1000) (hm1 : m.length ≤ 1000) :
  Calls Tryz.prog 33 #[.slice A l.length c, .slice B m.length d] w fun e w' => e = .returned (.bool (decide (l = m))) ∧ Below w.heap.size w w' := by
 by_cases hle : l.length = m.length
 ·have HL := Lib.hid hl
  have HM := Lib.hid hm
  have HLE := Lib.hid hle
  rw [← hle]
  clear hl hm hle
  go_enter Tryz.func33, Tryz.ntmps33
  go_wp2_with fail
  go_loopw [13] (fun i wr => ∃ k : Nat, k ≤ l.length ∧ i = .int .i64 k ∧ Hid (∀ j, j < k → l.getD j 0 = m.getD j 0) ∧ Hid (Below w.heap.size w wr)) (fun i _ => l.length - (intOf i).toNat)
  case atStart => exact ⟨0, Nat.zero_le _, rfl, by show ∀ j, j < 0 → _; omega, Below.refl _ _⟩
  case round =>
   obtain ⟨k, hk, rfl, HN, HBW⟩ := hrel
   by_cases hlt : k < l.length
   ·obtain ⟨ad, rfl, hcs⟩ := (HL.out.below HBW.out).2.2 (by omega)
    obtain ⟨bd, rfl, hds⟩ := (HM.out.below HBW.out).2.2 (by have := HLE.out; omega)
    have hc := hcs k hlt
    have hd := hds k (by have := HLE.out; omega)
    obtain ⟨x, hx⟩ : ∃ x, x = l.getD k 0 := ⟨_, rfl⟩
    obtain ⟨y, hy⟩ : ∃ y, y = m.getD k 0 := ⟨_, rfl⟩
    rw [← hx] at hc
    rw [← hy] at hd
    have HX := Lib.hid hx
    have HY := Lib.hid hy
    clear hcs hds hx hy
    by_cases hxy : x = y
    ·subst hxy
     have HN2 : Hid (∀ j, j < k + 1 → l.getD j 0 = m.getD j 0) := by
      show ∀ j, j < k + 1 → _
      intro j hj
      by_cases e : j = k
      ·rw [e, ← HX.out, ← HY.out]
      ·exact HN.out j (by omega)
     clear HX HY
     go_wp2_with fail
     go_quiet (fail)
     go_wp2_with fail
     go_roundw
     case rel => exact ⟨k + 1, by omega, by go_num, HN2, pw_below_drewN HBW.out nq⟩
     case measure => simp [intOf]; omega
    ·have HR : Hid (decide (l = m) = false) := by
      show decide (l = m) = false
      rw [decide_eq_false_iff_not]
      rintro rfl
      have := HX.out.trans HY.out.symm
      exact hxy this
     go_wp2_with fail
     go_quiet (fail)
     go_wp2_with fail
     go_ret
     exact ⟨by rw [HR.out]; rfl, pw_below_drewN HBW.out nq⟩
   ·obtain rfl : k = l.length := by omega
    have hr : l = m := list_eq_of HLE.out HN.out
    have HR : Hid (decide (l = m) = true) := by show decide (l = m) = true; simpa using hr
    clear HN hr
    go_wp2_with fail
    go_ret
    exact ⟨by rw [HR.out]; rfl, HBW.out⟩
 ·have hr : decide (l = m) = false := by rw [decide_eq_false_iff_not]; intro h; exact hle (by rw [h])
  have hleI : ¬ (l.length : Int) = (m.length : Int) := by omega
  rw [hr]
  clear hr hl hm
  go_enter Tryz.func33, Tryz.ntmps33
  go_wp2_with fail
  go_ret
  exact ⟨rfl, Below.refl _ _⟩
theorem eqB_any (A B : Option Addr) (c d : Nat) (l m : List Int) (w : World) (hl : Kd.C (Kd.int .i64) w A l.length l) (hm : Kd.C (Kd.int .i64) w B m.length m) (hn1 : l.length ≤ 1000) (hm1 : m.length ≤ 1000) :
  Calls Tryz.prog 33 #[.slice A l.length c, .slice B m.length d] w fun e w' => e = .returned (.bool (l == m)) ∧ Below w.heap.size w w' := by
 have := eqI_any A B c d l m w (Kd.reads_of_C (d := (0 : Int)) (h1 := fun _ => rfl) hl) (Kd.reads_of_C (d := (0 : Int)) (h1 := fun _ => rfl) hm) hn1 hm1
 rw [show decide (l = m) = (l == m) by rw [Bool.eq_iff_iff, decide_eq_true_iff, beq_iff_eq]] at this
 exact this
set_option maxRecDepth 100000 in
set_option maxHeartbeats 4000000 in
theorem bar1_any (A0 A1 B0 B1 : Option Addr) (c0 c1 d0 d1 : Nat) (l0 l1 m0 m1 : List Int) (w : World) (hA0 : Kd.C (Kd.int .i64) w A0 l0.length l0) (hA1 : Kd.C (Kd.int .i64) w A1 l1.length l1) (hB0 : Kd.C (Kd.int .i64) w B0 m0.length m0) (hB1 : Kd.C (Kd.int .i64) w B1 m1.length m1)
  (hs : l0.length ≤ 1000 ∧ l1.length ≤ 1000 ∧ m0.length ≤ 1000 ∧ m1.length ≤ 1000) :
  Calls Tryz.prog 32 #[.agg #[.slice A0 l0.length c0, .slice A1 l1.length c1], .agg #[.slice B0 m0.length d0, .slice B1 m1.length d1]] w fun e w' => e = .returned (.bool (l0 == m0 && l1 == m1)) ∧ Below w.heap.size w w' := by
 obtain ⟨s0, s1, s2, s3⟩ := hs
 have C1 := Lib.hid (fun w1 h1 h2 => eqB_any A0 B0 c0 d0 l0 m0 w1 h1 h2 s0 s2)
 have C2 := Lib.hid (fun w1 h1 h2 => eqB_any A1 B1 c1 d1 l1 m1 w1 h1 h2 s1 s3)
 have H0 := Lib.hid hA0
 have H1 := Lib.hid hA1
 have H2 := Lib.hid hB0
 have H3 := Lib.hid hB1
 have hb0 : Below w.heap.size w ((w.alloc (Obj.cells #[.slice A0 l0.length c0, .slice A1 l1.length c1] 50)).alloc (Obj.cells #[.slice B0 m0.length d0, .slice B1 m1.length d1] 50)) := ((Below.refl _ _).alloc (Nat.le_refl _) _).alloc (by simp) _
 have HB0 := Lib.hid hb0
 clear hA0 hA1 hB0 hB1 hb0
 obtain ⟨r, hr⟩ : ∃ r, r = (l0 == m0) := ⟨_, rfl⟩
 have HR := Lib.hid hr
 rw [← hr]
 clear hr
 go_enter Tryz.func32, Tryz.ntmps32
 go_wp2_with fail
 refine (C1.out _ (Kd.C_below H0.out HB0.out) (Kd.C_below H2.out HB0.out)).mono ?_
 rintro e w1 ⟨rfl, hb⟩
 rw [← HR.out]
 have HB1 := Lib.hid (HB0.out.trans (hb.mono HB0.out.size))
 cases r with
 | false =>
  clear hb HR
  go_wp2_with fail
  go_ret
  exact ⟨rfl, HB1.out⟩
 | true =>
  have x0 : w1.cell? ⟨w.heap.size, 1, none⟩ = some (.slice A1 l1.length c1) := by rw [hb.cell (by simp; try omega)]; simp
  have x1 : w1.cell? ⟨w.heap.size + 1, 1, none⟩ = some (.slice B1 m1.length d1) := by rw [hb.cell (by simp; try omega)]; simp
  clear hb HR
  go_wp2_with fail
  refine (C2.out _ (Kd.C_below H1.out HB1.out) (Kd.C_below H3.out HB1.out)).mono ?_
  rintro e w2 ⟨rfl, hb⟩
  have HB2 := Lib.hid (HB1.out.trans (hb.mono HB1.out.size))
  clear hb x0 x1
  go_wp2_with fail
  go_ret
  exact ⟨rfl, HB2.out⟩
set_option maxRecDepth 100000 in
set_option maxHeartbeats 4000000 in
theorem barsE_any (A B : Option Addr) (c d : Nat) (l m : List PCod.S50) (w : World) (hl : Kd.C PCod.k50 w A l.length l) (hm : Kd.C PCod.k50 w B m.length m) (hs : l.length ≤ 1000 ∧ m.length ≤ 1000) (hbl : ∀ b ∈ l, b.f0.length ≤ 1000 ∧ b.f1.length ≤ 1000) (hbm : ∀ b ∈ m, b.f0.length ≤ 1000 ∧ b.f1.length ≤ 1000) :
  Calls Tryz.prog 37 #[.slice A l.length c, .slice B m.length d, .func (Fn.func 32) #[] #[]] w fun e w' => e = .returned (.bool (l.map tB == m.map tB)) ∧ Below w.heap.size w w' := by
 obtain ⟨s0, s1⟩ := hs
 by_cases hle : l.length = m.length
 ·have HL := Lib.hid hl
  have HM := Lib.hid hm
  have HLE := Lib.hid hle
  have HBL := Lib.hid hbl
  have HBM := Lib.hid hbm
  rw [← hle]
  clear hl hm hle hbl hbm
  go_enter Tryz.func37, Tryz.ntmps37
  go_wp2_with fail
  go_loopw [17] (fun i wr => ∃ k : Nat, k ≤ l.length ∧ i = .int .i64 k ∧ Hid ((l.map tB == m.map tB) = ((l.map tB).drop k == (m.map tB).drop k)) ∧ Hid (Below w.heap.size w wr)) (fun i _ => l.length - (intOf i).toNat)
  case atStart => exact ⟨0, Nat.zero_le _, rfl, by show _ = _; rw [List.drop_zero, List.drop_zero], Below.refl _ _⟩
  case round =>
   obtain ⟨k, hk, rfl, HN, HBW⟩ := hrel
   by_cases hlt : k < l.length
   ·obtain ⟨ad, A0, c0, A1, c1, hF, hr0, hr1, hl0, hc0, hl1, hc1⟩ := PCod.at_T50 (Kd.C_below HL.out HBW.out) (k : Int) (by omega) (by omega)
    subst hF
    have hltm : k < m.length := by rw [← HLE.out]; exact hlt
    obtain ⟨bd, B0, d0, B1, d1, hG, ht0, ht1, hm0, hd0, hm1, hd1⟩ := PCod.at_T50 (Kd.C_below HM.out HBW.out) (k : Int) (by omega) (by omega)
    subst hG
    have hrd : PCod.rd_T50 l (k : Int) = l[k] := by unfold PCod.rd_T50; rw [Int.toNat_natCast, List.getD_eq_getElem?_getD, List.getElem?_eq_getElem hlt]; rfl
    have hrd2 : PCod.rd_T50 m (k : Int) = m[k] := by unfold PCod.rd_T50; rw [Int.toNat_natCast, List.getD_eq_getElem?_getD, List.getElem?_eq_getElem hltm]; rfl
    rw [Int.toNat_natCast, hrd] at hr0 hr1
    rw [hrd] at hl0 hc0 hl1 hc1
    rw [Int.toNat_natCast, hrd2] at ht0 ht1
    rw [hrd2] at hm0 hd0 hm1 hd1
    have hbl := HBL.out _ (List.getElem_mem hlt)
    have hbm := HBM.out _ (List.getElem_mem hltm)
    have hN := HN.out
    rw [List.drop_eq_getElem_cons (l := l.map tB) (by rw [List.length_map]; exact hlt), List.drop_eq_getElem_cons (l := m.map tB) (by rw [List.length_map]; exact hltm), List.getElem_map, List.getElem_map, List.cons_beq_cons] at hN
    obtain ⟨x, hx⟩ : ∃ x, x = l[k] := ⟨_, rfl⟩
    obtain ⟨y, hy⟩ : ∃ y, y = m[k] := ⟨_, rfl⟩
    rw [← hx] at hr0 hr1 hl0 hc0 hl1 hc1 hbl hN
    rw [← hy] at ht0 ht1 hm0 hd0 hm1 hd1 hbm hN
    obtain ⟨x0, x1⟩ := x
    obtain ⟨y0, y1⟩ := y
    dsimp only at hr0 hr1 hl0 hc0 hl1 hc1 hbl ht0 ht1 hm0 hd0 hm1 hd1 hbm
    obtain ⟨r, hr⟩ : ∃ r, r = (x0 == y0 && x1 == y1) := ⟨_, rfl⟩
    have C := Lib.hid (fun w1 h0 h1 h2 h3 => bar1_any A0 A1 B0 B1 c0 c1 d0 d1 x0 x1 y0 y1 w1 h0 h1 h2 h3 ⟨hbl.1, hbl.2, hbm.1, hbm.2⟩)
    rw [← hr] at C
    have HN3 : Hid ((l.map tB == m.map tB) = (r && ((l.map tB).drop (k + 1) == (m.map tB).drop (k + 1)))) := by rw [hr]; exact hN
    have HC0 := Lib.hid hc0
    have HC1 := Lib.hid hc1
    have HD0 := Lib.hid hd0
    have HD1 := Lib.hid hd1
    have hb0 : Below wr.heap.size wr ((wr.alloc (Obj.cells #[.slice A0 x0.length c0, .slice A1 x1.length c1] 50)).alloc (Obj.cells #[.slice B0 y0.length d0, .slice B1 y1.length d1] 50)) := ((Below.refl _ _).alloc (Nat.le_refl _) _).alloc (by simp) _
    have HB0 := Lib.hid hb0
    clear hN HN hx hy hr hrd hrd2 hc0 hc1 hd0 hd1 hbl hbm hb0
    have hq0 : (wr.alloc (Obj.cells #[.slice A0 x0.length c0, .slice A1 x1.length c1] 50)).cell? (bd.add (k * 2)) = some (.slice B0 y0.length d0) := by rw [((Below.refl _ _).alloc (Nat.le_refl _) _ : Below wr.heap.size wr _).cell (block_lt_of_cell ht0)]; exact ht0
    have hq1 : (wr.alloc (Obj.cells #[.slice A0 x0.length c0, .slice A1 x1.length c1] 50)).cell? ⟨(bd.add (k * 2)).block, (bd.add (k * 2)).off + 1, none⟩ = some (.slice B1 y1.length d1) := by rw [((Below.refl _ _).alloc (Nat.le_refl _) _ : Below wr.heap.size wr _).cell (p := ⟨(bd.add (k * 2)).block, (bd.add (k * 2)).off + 1, none⟩) (block_lt_of_cell ht1)]; exact ht1
    go_wp2_with fail
    refine (C.out _ (Kd.C_below HC0.out HB0.out) (Kd.C_below HC1.out HB0.out) (Kd.C_below HD0.out HB0.out) (Kd.C_below HD1.out HB0.out)).mono ?_
    rintro e w2 ⟨rfl, hb⟩
    have HB1 := Lib.hid (HBW.out.trans ((HB0.out.trans (hb.mono HB0.out.size)).mono HBW.out.size))
    clear hb HB0 HC0 HC1 HD0 HD1 hr0 hr1 ht0 ht1 hq0 hq1
    cases r with
    | false =>
     go_wp2_with fail
     go_ret
     exact ⟨by rw [HN3.out]; rfl, HB1.out⟩
    | true =>
     have HN4 : Hid ((l.map tB == m.map tB) = ((l.map tB).drop (k + 1) == (m.map tB).drop (k + 1))) := by show _ = _; rw [HN3.out, Bool.true_and]
     go_wp2_with fail
     go_roundw
     case rel => exact ⟨k + 1, by omega, by go_num, HN4, HB1⟩
     case measure => simp [intOf]; omega
   ·obtain rfl : k = l.length := by omega
    have hN := HN.out
    rw [List.drop_of_length_le (l := l.map tB) (by rw [List.length_map]; omega), List.drop_of_length_le (l := m.map tB) (by rw [List.length_map, ← HLE.out]; omega)] at hN
    have HN3 := Lib.hid hN
    clear hN HN
    go_wp2_with fail
    go_ret
    exact ⟨by rw [HN3.out]; rfl, HBW.out⟩
 ·have hr : (l.map tB == m.map tB) = false := by
   rw [beq_eq_false_iff_ne]
   intro e
   have := congrArg List.length e
   rw [List.length_map, List.length_map] at this
   exact hle this
  have hleI : ¬ (l.length : Int) = (m.length : Int) := by omega
  rw [hr]
  clear hr hl hm hbl hbm
  go_enter Tryz.func37, Tryz.ntmps37
  go_wp2_with fail
  go_ret
  exact ⟨rfl, Below.refl _ _⟩
theorem below_of {P : Program} {f : FuncId} {args : Array Value} {w : World} {v : Value} (h : Calls P f args w fun e w' => e = .returned v ∧ Drawn0 w w') : Calls P f args w fun e w' => e = .returned v ∧ Below w.heap.size w w' :=
 h.mono (fun e w' h => ⟨h.1, by obtain ⟨k, hk⟩ := h.2; rw [hk]; exact pw_below_drewN (Below.refl _ _) k⟩)
def ShortD (ps : List PCod.S47) (es : List PCod.S63) (fs : List PCod.S65) (bs : List PCod.S50) : Prop := (ps.length ≤ 1000 ∧ es.length ≤ 1000 ∧ fs.length ≤ 1000 ∧ bs.length ≤ 1000) ∧ ∀ b ∈ bs, b.f0.length ≤ 1000 ∧ b.f1.length ≤ 1000
set_option maxRecDepth 100000 in
set_option maxHeartbeats 8000000 in
theorem same_any (per dl : Int) (P : Option Addr) (cp : Nat) (ps : List PCod.S47) (E : Option Addr) (ce : Nat) (es : List PCod.S63) (F : Option Addr) (cf : Nat) (fs : List PCod.S65) (B : Option Addr) (cb : Nat) (bs : List PCod.S50) (per' dl' : Int) (P' : Option Addr) (cp' : Nat) (ps' : List PCod.S47) (E' : Option Addr) (ce' : Nat) (es' : List PCod.S63) (F' : Option Addr) (cf' : Nat) (fs' : List PCod.S65) (B' : Option Addr) (cb' : Nat) (bs' : List PCod.S50) (w : World) (hs : ShortD ps es fs bs) (hs' : ShortD ps' es' fs' bs') (hr : DR w P cp ps E ce es F cf fs B cb bs) (hr' : DR w P' cp' ps' E' ce' es' F' cf' fs' B' cb' bs') :
  Calls Tryz.prog 15 #[.agg #[.int .i64 per, .int .i64 dl, .slice P ps.length cp, .slice E es.length ce, .slice F fs.length cf, .slice B bs.length cb], .agg #[.int .i64 per', .int .i64 dl', .slice P' ps'.length cp', .slice E' es'.length ce', .slice F' fs'.length cf', .slice B' bs'.length cb']] w fun e w' => e = .returned (.bool (CodPlain.sameB (dOf per dl ps es fs bs) (dOf per' dl' ps' es' fs' bs'))) ∧ Below w.heap.size w w' := by
 obtain ⟨⟨s1, s2, s3, s4⟩, sb⟩ := hs
 obtain ⟨⟨u1, u2, u3, u4⟩, ub⟩ := hs'
 obtain ⟨kp, hkp⟩ := partE_ev ps ps' s1
 obtain ⟨ke, hke⟩ := edgeE_ev es es' s2
 obtain ⟨kf, hkf⟩ := futE_ev fs fs' s3
 have HU : Hid (CodPlain.sameB (dOf per dl ps es fs bs) (dOf per' dl' ps' es' fs' bs') = (per == per' && (dl == dl' && (ps.map tP == ps'.map tP && (es.map tE == es'.map tE && (fs.map tF == fs'.map tF && bs.map tB == bs'.map tB)))))) := rfl
 have CP := Lib.hid (fun w1 (h : DR w1 P cp ps E ce es F cf fs B cb bs) (h' : DR w1 P' cp' ps' E' ce' es' F' cf' fs' B' cb' bs') => PCod.api_Part_34.calls kp P cp ps P' cp' ps' _ w1 h.p h.pc h'.p h'.pc hkp |> below_of)
 have CE := Lib.hid (fun w1 (h : DR w1 P cp ps E ce es F cf fs B cb bs) (h' : DR w1 P' cp' ps' E' ce' es' F' cf' fs' B' cb' bs') => PCod.api_Edge_35.calls ke E ce es E' ce' es' _ w1 h.e h.ec h'.e h'.ec hke |> below_of)
 have CF := Lib.hid (fun w1 (h : DR w1 P cp ps E ce es F cf fs B cb bs) (h' : DR w1 P' cp' ps' E' ce' es' F' cf' fs' B' cb' bs') => PCod.api_Future_36.calls kf F cf fs F' cf' fs' _ w1 h.f h.fc h'.f h'.fc hkf |> below_of)
 have CB := Lib.hid (fun w1 (h : DR w1 P cp ps E ce es F cf fs B cb bs) (h' : DR w1 P' cp' ps' E' ce' es' F' cf' fs' B' cb' bs') => barsE_any B B' cb cb' bs bs' w1 h.b h'.b ⟨s4, u4⟩ sb ub)
 have H := Lib.hid hr
 have H' := Lib.hid hr'
 have HB0 : Hid (Below w.heap.size w ((w.alloc (Obj.cells #[.int .i64 per, .int .i64 dl, .slice P ps.length cp, .slice E es.length ce, .slice F fs.length cf, .slice B bs.length cb] 27)).alloc (Obj.cells #[.int .i64 per', .int .i64 dl', .slice P' ps'.length cp', .slice E' es'.length ce', .slice F' fs'.length cf', .slice B' bs'.length cb'] 27))) := ((Below.refl _ _).alloc (Nat.le_refl _) _).alloc (by simp) _
 rw [HU.out]
 clear HU hkp hke hkf hr hr' sb ub
 generalize (ps.map tP == ps'.map tP) = rp at *
 generalize (es.map tE == es'.map tE) = re at *
 generalize (fs.map tF == fs'.map tF) = rf at *
 generalize (bs.map tB == bs'.map tB) = rb at *
 by_cases hper : per = per'
 ·by_cases hdl : dl = dl'
  ·have hper' : (per == per') = true := by simp [hper]
   have hdl' : (dl == dl') = true := by simp [hdl]
   rw [hper', hdl', Bool.true_and, Bool.true_and]
   clear hper hdl
   go_enter Tryz.func15, Tryz.ntmps15
   go_wp2_with fail
   refine (CP.out _ (H.out.below HB0.out) (H'.out.below HB0.out)).mono ?_
   rintro e w1 ⟨rfl, hb⟩
   have HB1 := Lib.hid (HB0.out.trans (hb.mono HB0.out.size))
   cases rp with
   | false =>
    go_wp2_with fail
    go_ret
    exact ⟨rfl, HB1.out⟩
   | true =>
    have x2 : w1.cell? ⟨w.heap.size, 2, none⟩ = some (.slice P ps.length cp) := by rw [hb.cell (by simp; try omega)]; simp
    have x3 : w1.cell? ⟨w.heap.size, 3, none⟩ = some (.slice E es.length ce) := by rw [hb.cell (by simp; try omega)]; simp
    have x4 : w1.cell? ⟨w.heap.size, 4, none⟩ = some (.slice F fs.length cf) := by rw [hb.cell (by simp; try omega)]; simp
    have x5 : w1.cell? ⟨w.heap.size, 5, none⟩ = some (.slice B bs.length cb) := by rw [hb.cell (by simp; try omega)]; simp
    have x2' : w1.cell? ⟨w.heap.size + 1, 2, none⟩ = some (.slice P' ps'.length cp') := by rw [hb.cell (by simp; try omega)]; simp
    have x3' : w1.cell? ⟨w.heap.size + 1, 3, none⟩ = some (.slice E' es'.length ce') := by rw [hb.cell (by simp; try omega)]; simp
    have x4' : w1.cell? ⟨w.heap.size + 1, 4, none⟩ = some (.slice F' fs'.length cf') := by rw [hb.cell (by simp; try omega)]; simp
    have x5' : w1.cell? ⟨w.heap.size + 1, 5, none⟩ = some (.slice B' bs'.length cb') := by rw [hb.cell (by simp; try omega)]; simp
    clear hb
    go_wp2_with fail
    refine (CE.out _ (H.out.below HB1.out) (H'.out.below HB1.out)).mono ?_
    rintro e w2 ⟨rfl, hb⟩
    have HB2 := Lib.hid (HB1.out.trans (hb.mono HB1.out.size))
    cases re with
    | false =>
     clear hb x2 x3 x4 x5 x2' x3' x4' x5'
     go_wp2_with fail
     go_ret
     exact ⟨rfl, HB2.out⟩
    | true =>
     have x2 : w2.cell? ⟨w.heap.size, 2, none⟩ = some (.slice P ps.length cp) := by rw [hb.cell (block_lt_of_cell x2)]; exact x2
     have x3 : w2.cell? ⟨w.heap.size, 3, none⟩ = some (.slice E es.length ce) := by rw [hb.cell (block_lt_of_cell x3)]; exact x3
     have x4 : w2.cell? ⟨w.heap.size, 4, none⟩ = some (.slice F fs.length cf) := by rw [hb.cell (block_lt_of_cell x4)]; exact x4
     have x5 : w2.cell? ⟨w.heap.size, 5, none⟩ = some (.slice B bs.length cb) := by rw [hb.cell (block_lt_of_cell x5)]; exact x5
     have x2' : w2.cell? ⟨w.heap.size + 1, 2, none⟩ = some (.slice P' ps'.length cp') := by rw [hb.cell (block_lt_of_cell x2')]; exact x2'
     have x3' : w2.cell? ⟨w.heap.size + 1, 3, none⟩ = some (.slice E' es'.length ce') := by rw [hb.cell (block_lt_of_cell x3')]; exact x3'
     have x4' : w2.cell? ⟨w.heap.size + 1, 4, none⟩ = some (.slice F' fs'.length cf') := by rw [hb.cell (block_lt_of_cell x4')]; exact x4'
     have x5' : w2.cell? ⟨w.heap.size + 1, 5, none⟩ = some (.slice B' bs'.length cb') := by rw [hb.cell (block_lt_of_cell x5')]; exact x5'
     clear hb
     go_wp2_with fail
     refine (CF.out _ (H.out.below HB2.out) (H'.out.below HB2.out)).mono ?_
     rintro e w3 ⟨rfl, hb⟩
     have HB3 := Lib.hid (HB2.out.trans (hb.mono HB2.out.size))
     cases rf with
     | false =>
      clear hb x2 x3 x4 x5 x2' x3' x4' x5'
      go_wp2_with fail
      go_ret
      exact ⟨rfl, HB3.out⟩
     | true =>
      have x2 : w3.cell? ⟨w.heap.size, 2, none⟩ = some (.slice P ps.length cp) := by rw [hb.cell (block_lt_of_cell x2)]; exact x2
      have x3 : w3.cell? ⟨w.heap.size, 3, none⟩ = some (.slice E es.length ce) := by rw [hb.cell (block_lt_of_cell x3)]; exact x3
      have x4 : w3.cell? ⟨w.heap.size, 4, none⟩ = some (.slice F fs.length cf) := by rw [hb.cell (block_lt_of_cell x4)]; exact x4
      have x5 : w3.cell? ⟨w.heap.size, 5, none⟩ = some (.slice B bs.length cb) := by rw [hb.cell (block_lt_of_cell x5)]; exact x5
      have x2' : w3.cell? ⟨w.heap.size + 1, 2, none⟩ = some (.slice P' ps'.length cp') := by rw [hb.cell (block_lt_of_cell x2')]; exact x2'
      have x3' : w3.cell? ⟨w.heap.size + 1, 3, none⟩ = some (.slice E' es'.length ce') := by rw [hb.cell (block_lt_of_cell x3')]; exact x3'
      have x4' : w3.cell? ⟨w.heap.size + 1, 4, none⟩ = some (.slice F' fs'.length cf') := by rw [hb.cell (block_lt_of_cell x4')]; exact x4'
      have x5' : w3.cell? ⟨w.heap.size + 1, 5, none⟩ = some (.slice B' bs'.length cb') := by rw [hb.cell (block_lt_of_cell x5')]; exact x5'
      clear hb
      go_wp2_with fail
      refine (CB.out _ (H.out.below HB3.out) (H'.out.below HB3.out)).mono ?_
      rintro e w4 ⟨rfl, hb⟩
      have HB4 := Lib.hid (HB3.out.trans (hb.mono HB3.out.size))
      clear hb x2 x3 x4 x5 x2' x3' x4' x5'
      go_wp2_with fail
      go_ret
      exact ⟨by simp, HB4.out⟩
  ·have hper' : (per == per') = true := by simp [hper]
   have hdl' : (dl == dl') = false := by simp [hdl]
   rw [hper', hdl', Bool.true_and, Bool.false_and]
   clear hper hdl
   go_enter Tryz.func15, Tryz.ntmps15
   go_wp2_with fail
   go_ret
   exact ⟨rfl, HB0.out⟩
 ·have hper' : (per == per') = false := by simp [hper]
  rw [hper', Bool.false_and]
  clear hper
  go_enter Tryz.func15, Tryz.ntmps15
  go_wp2_with fail
  go_ret
  exact ⟨rfl, HB0.out⟩
end Go.Proofs.YtokhibhmlninnaaGreatDoor
