/- Texts of this work, put into one. -/
import Derived.Test.YtokhibhmlninnaaGreatDoorGMLaw
import Derived.Lib.QuietBelow
import Derived.Deep.QuietTactic
import Derived.BigQuiet
set_option linter.unusedVariables false
set_option linter.unusedSimpArgs false
namespace Go.Proofs.YtokhibhmlninnaaGreatDoor
open Go.RowKit Go.Sort Go.Proofs.YtokhibhmlninnaaGreatDoorW.PrintWords
theorem any_yes {n k : Nat} {p : Nat → Bool} (hk : k < n) (h : p k = true) : (List.range n).any p = true := List.any_eq_true.2 ⟨k, List.mem_range.2 hk, h⟩
theorem any_no {n : Nat} {p : Nat → Bool} (h : ∀ j, j < n → p j = false) : (List.range n).any p = false := CodPlain.range_no h
theorem all_getD {α : Type} {l : List α} {p : α → Bool} {d : α} (h : ∀ j, j < l.length → p (l.getD j d) = false) : l.any p = false := by
 rw [List.any_eq_false]
 intro x hx
 obtain ⟨i, hi, rfl⟩ := CodPlain.getD_of_mem (d := d) hx
 rw [h i hi]; simp
theorem inB_yes {n a b : Int} (h1 : a ≤ n) (h2 : n ≤ b) : CodPlain.inB n a b = true := by unfold CodPlain.inB; rw [decide_eq_true h1, decide_eq_true h2]; rfl
theorem inB_no {n a b : Int} (h : n < a ∨ b < n) : CodPlain.inB n a b = false := by
 unfold CodPlain.inB
 rcases h with h | h
 ·rw [decide_eq_false (by omega), Bool.false_and]
 ·rw [decide_eq_false (p := n ≤ b) (by omega), Bool.and_false]
theorem inB_at {n : Int} {m : Nat} : CodPlain.inB n 0 ((m : Int) - 1) = true → 0 ≤ n ∧ n < m := fun h => by have := CodPlain.inB_in h; omega
set_option maxHeartbeats 1000000 in
theorem refpart_any (per dl : Int) (P : Option Addr) (cp : Nat) (E : Option Addr) (ce : Nat) (F : Option Addr) (cf : Nat) (B : Option Addr) (cb : Nat) (np ne nf nb : Nat) (n : Int) (w : World) (hl : np ≤ 1000) :
  Calls Tryz.prog 84 #[.agg #[.int .i64 per, .int .i64 dl, .slice P np cp, .slice E ne ce, .slice F nf cf, .slice B nb cb], .int .i64 n] w fun e w' => e = .returned (.bool (CodPlain.inB n 0 ((np : Int) - 1))) ∧ Below w.heap.size w w' := by
 have HB0 := Lib.hid (below_alloc' w (.cells #[.int .i64 per, .int .i64 dl, .slice P np cp, .slice E ne ce, .slice F nf cf, .slice B nb cb] 27))
 by_cases h0 : 0 ≤ n
 ·by_cases h1 : n < (np : Int)
  ·rw [inB_yes h0 (by omega)]
   go_enter Tryz.func84, Tryz.ntmps84
   go_wp2_with fail
   go_ret
   exact ⟨rfl, HB0.out⟩
  ·rw [inB_no (by omega)]
   go_enter Tryz.func84, Tryz.ntmps84
   go_wp2_with fail
   go_ret
   exact ⟨rfl, HB0.out⟩
 ·rw [inB_no (by omega)]
  go_enter Tryz.func84, Tryz.ntmps84
  go_wp2_with fail
  go_ret
  exact ⟨rfl, HB0.out⟩
def twoP (n : Int) (k : Nat) : Bool := (List.range k).any fun j => ((2 ^ j : Nat) : Int) == n
theorem two_small {k : Nat} (h : k ≤ 40) : (2 ^ k : Nat) ≤ 2 ^ 40 := Nat.pow_le_pow_right (by decide) h
theorem two_q {k : Nat} (h : k ≤ 39) : wrap64 (2 * ((2 ^ k : Nat) : Int)) = ((2 ^ (k + 1) : Nat) : Int) := by
 have h2 := two_small (k := k + 1) (by omega)
 have h3 : (2 ^ (k + 1) : Nat) = 2 * 2 ^ k := by rw [Nat.pow_succ, Nat.mul_comm]
 have h4 : (2 ^ 40 : Nat) = 1099511627776 := by decide
 rw [h4] at h2
 rw [h3] at h2 ⊢
 generalize (2 ^ k : Nat) = p at *
 rw [wrap_in (by omega)]; omega
theorem twoP_snoc {n : Int} {k : Nat} : twoP n (k + 1) = (twoP n k || ((2 ^ k : Nat) : Int) == n) := by
 unfold twoP
 rw [List.range_succ, List.any_append]; simp
set_option maxHeartbeats 2000000 in
theorem reftwo_any (n : Int) (w : World) : Calls Tryz.prog 83 #[.int .i64 n] w fun e w' => (∃ v, e = .returned (.tuple #[.int .i64 v, .bool (twoP n 40)])) ∧ Below w.heap.size w w' := by
 obtain ⟨r, hr⟩ : ∃ r, r = twoP n 40 := ⟨_, rfl⟩
 rw [← hr]
 have HRES := Lib.hid hr
 clear hr
 go_enter Tryz.func83, Tryz.ntmps83
 go_wp2_with fail
 go_loopw [4, 5] (fun p i wr => ∃ (k : Nat) (m : Int), k ≤ 40 ∧ i = .int .i64 k ∧ p = .int .i64 m ∧ Hid (m = ((2 ^ k : Nat) : Int)) ∧ Hid (twoP n k = false) ∧ Hid (Below w.heap.size w wr)) (fun _ i _ => 40 - (intOf i).toNat)
 case atStart => exact ⟨0, 1, by omega, rfl, rfl, rfl, rfl, Below.refl _ _⟩
 case round =>
  obtain ⟨k, m, hk, rfl, rfl, HM, HN, HB⟩ := hrel
  by_cases hlt : k < 40
  ·have hltI : (k : Int) < 40 := by omega
   by_cases he : m = n
   ·have hv : r = true := by
     rw [HRES.out]
     unfold twoP
     exact any_yes hlt (by rw [← HM.out, he]; simp)
    subst hv
    clear HM HN HRES
    go_wp2_with fail
    go_ret2
    exact ⟨⟨_, rfl⟩, HB.out⟩
   ·have hw := two_q (k := k) (by omega)
    rw [← HM.out] at hw
    obtain ⟨m2, hm2⟩ : ∃ m2, m2 = ((2 ^ (k + 1) : Nat) : Int) := ⟨_, rfl⟩
    rw [← hm2] at hw
    have HM2 : Hid (m2 = ((2 ^ (k + 1) : Nat) : Int)) := hm2
    have HN2 : Hid (twoP n (k + 1) = false) := by
     show _ = _
     rw [twoP_snoc, HN.out, ← HM.out, Bool.false_or]; simpa using he
    clear HM HN hm2
    go_wp2_with fail
    go_roundw
    case rel => exact ⟨k + 1, m2, by omega, by go_num, by first | rfl | rw [hw] | simp [hw], HM2, HN2, HB⟩
    case measure => simp [intOf]; omega
  ·obtain rfl : k = 40 := by omega
   have hv : r = false := by rw [HRES.out]; exact HN.out
   subst hv
   clear HM HN HRES
   go_wp2_with fail
   go_ret2
   exact ⟨⟨_, rfl⟩, HB.out⟩
theorem pow_two (n : Int) : CodPlain.powB n = (twoP n 40 && decide (n ≤ 4096)) := by
 unfold CodPlain.powB twoP
 by_cases h : n ≤ 4096
 ·rw [decide_eq_true h, Bool.and_true, Bool.eq_iff_iff, List.any_eq_true, List.any_eq_true]
  constructor
  ·rintro ⟨k, hk, he⟩
   have := List.mem_range.1 hk
   refine ⟨k, List.mem_range.2 (by omega), ?_⟩
   rw [beq_iff_eq] at he ⊢
   rw [he]; exact Int.natCast_pow 2 k
  ·rintro ⟨k, hk, he⟩
   rw [beq_iff_eq] at he
   refine ⟨k, List.mem_range.2 ?_, ?_⟩
   ·rcases Nat.lt_or_ge k 13 with h2 | h2
    ·exact h2
    ·exfalso
     have h3 : (2 ^ 13 : Nat) ≤ 2 ^ k := Nat.pow_le_pow_right (by decide) h2
     have h4 : (2 ^ 13 : Nat) = 8192 := by decide
     rw [h4] at h3
     generalize (2 ^ k : Nat) = p at *
     omega
   ·rw [beq_iff_eq, ← he]; exact Int.natCast_pow 2 k
 ·rw [decide_eq_false h, Bool.and_false]
  rw [List.any_eq_false]
  intro k hk he
  rw [beq_iff_eq] at he
  have hk13 := List.mem_range.1 hk
  have h3 : (2 ^ k : Nat) ≤ 2 ^ 12 := Nat.pow_le_pow_right (by decide) (by omega)
  have h4 : (2 ^ 12 : Nat) = 4096 := by decide
  rw [h4] at h3
  have h5 : n = ((2 ^ k : Nat) : Int) := by rw [he]; exact (Int.natCast_pow 2 k).symm
  generalize (2 ^ k : Nat) = p at *
  omega
set_option maxRecDepth 100000 in
set_option maxHeartbeats 2000000 in
theorem reftime_any (per dl : Int) (P : Option Addr) (cp : Nat) (ps : List PCod.S47) (E : Option Addr) (ce : Nat) (es : List PCod.S63) (F : Option Addr) (cf : Nat) (fs : List PCod.S65) (B : Option Addr) (cb : Nat) (bs : List PCod.S50) (w : World) : Calls Tryz.prog 55 #[.agg #[.int .i64 per, .int .i64 dl, .slice P ps.length cp, .slice E es.length ce, .slice F fs.length cf, .slice B bs.length cb]] w fun e w' => e = .returned (.bool (CodPlain.timeB (dOf per dl ps es fs bs))) ∧ Below w.heap.size w w' := by
 have HB0 := Lib.hid (below_alloc' w (.cells #[.int .i64 per, .int .i64 dl, .slice P ps.length cp, .slice E es.length ce, .slice F fs.length cf, .slice B bs.length cb] 27))
 have HX0 := Lib.hid (blk_new w (.cells #[.int .i64 per, .int .i64 dl, .slice P ps.length cp, .slice E es.length ce, .slice F fs.length cf, .slice B bs.length cb] 27))
 have C := Lib.hid (fun w1 => reftwo_any per w1)
 have ht : CodPlain.timeB (dOf per dl ps es fs bs) = (twoP per 40 && decide (per ≤ 4096) && (decide (1 ≤ dl) && decide (dl ≤ per))) := by
  unfold CodPlain.timeB dOf CodPlain.inB
  dsimp only
  rw [pow_two]
 rw [ht]
 clear ht
 generalize twoP per 40 = b at *
 obtain ⟨r, hr⟩ : ∃ r, r = (b && decide (per ≤ 4096) && (decide (1 ≤ dl) && decide (dl ≤ per))) := ⟨_, rfl⟩
 rw [← hr]
 have HRES := Lib.hid hr
 clear hr
 go_enter Tryz.func55, Tryz.ntmps55
 go_upto_region 1 with fail
 generalize w.alloc (.cells #[.int .i64 per, .int .i64 dl, .slice P ps.length cp, .slice E es.length ce, .slice F fs.length cf, .slice B bs.length cb] 27) = w0 at *
 have y0 : w0.cell? ⟨w.heap.size, 0, none⟩ = some (.int .i64 per) := (blk_cell HX0.out 0).trans rfl
 go_wp2_with fail
 refine (C.out w0).mono ?_
 rintro e w1 ⟨⟨v, rfl⟩, hb⟩
 have HB1 := Lib.hid (HB0.out.trans (hb.mono HB0.out.size))
 have HX1 := Lib.hid (blk_below HX0.out hb)
 clear hb HB0 HX0 y0
 have y0 : w1.cell? ⟨w.heap.size, 0, none⟩ = some (.int .i64 per) := (blk_cell HX1.out 0).trans rfl
 have y1 : w1.cell? ⟨w.heap.size, 1, none⟩ = some (.int .i64 dl) := (blk_cell HX1.out 1).trans rfl
 cases b with
 | false =>
  have hv : r = false := by rw [HRES.out]; simp
  subst hv
  clear HRES
  go_wp2_with fail
  go_ret
  exact ⟨rfl, HB1.out⟩
 | true =>
  by_cases h1 : per ≤ 4096
  ·by_cases h2 : 1 ≤ dl
   ·by_cases h3 : dl ≤ per
    ·have hv : r = true := by rw [HRES.out]; simp [h1, h2, h3]
     subst hv
     clear HRES
     go_wp2_with fail
     go_ret
     exact ⟨by first | rfl | simp [h3], HB1.out⟩
    ·have hv : r = false := by rw [HRES.out]; simp [h1, h2, h3]
     subst hv
     clear HRES
     go_wp2_with fail
     go_ret
     exact ⟨by first | rfl | simp [h3], HB1.out⟩
   ·have hv : r = false := by rw [HRES.out]; simp [h1, h2]
    subst hv
    clear HRES
    go_wp2_with fail
    go_ret
    exact ⟨rfl, HB1.out⟩
  ·have hv : r = false := by rw [HRES.out]; simp [h1]
   subst hv
   clear HRES
   go_wp2_with fail
   go_ret
   exact ⟨rfl, HB1.out⟩
theorem part_odd6 {a b c : Int} (h : CodPlain.partOdd (a, b, c) = true) : (a < 0) ∨ (¬ a < 0 ∧ 5 < a) ∨ (¬ a < 0 ∧ ¬ 5 < a ∧ b < 0) ∨ (¬ a < 0 ∧ ¬ 5 < a ∧ ¬ b < 0 ∧ 2147483647 < b) ∨ (¬ a < 0 ∧ ¬ 5 < a ∧ ¬ b < 0 ∧ ¬ 2147483647 < b ∧ c < 1) ∨ (¬ a < 0 ∧ ¬ 5 < a ∧ ¬ b < 0 ∧ ¬ 2147483647 < b ∧ ¬ c < 1 ∧ 100 < c) := by
 unfold CodPlain.partOdd CodPlain.inB at h
 simp only [Bool.or_eq_true, Bool.not_eq_true', Bool.and_eq_false_iff, decide_eq_false_iff_not] at h
 omega
set_option maxRecDepth 100000 in
set_option maxHeartbeats 4000000 in
theorem refparts_any (per dl : Int) (P : Option Addr) (cp : Nat) (ps : List PCod.S47) (E : Option Addr) (ce : Nat) (es : List PCod.S63) (F : Option Addr) (cf : Nat) (fs : List PCod.S65) (B : Option Addr) (cb : Nat) (bs : List PCod.S50) (w : World) (hs : ps.length ≤ 1000) (hr : DR w P cp ps E ce es F cf fs B cb bs) : Calls Tryz.prog 56 #[.agg #[.int .i64 per, .int .i64 dl, .slice P ps.length cp, .slice E es.length ce, .slice F fs.length cf, .slice B bs.length cb]] w fun e w' => e = .returned (.bool (!(ps.any fun x => CodPlain.partOdd (tP x)))) ∧ Below w.heap.size w w' := by
 have HR := Lib.hid hr
 have HB0 := Lib.hid (below_alloc' w (.cells #[.int .i64 per, .int .i64 dl, .slice P ps.length cp, .slice E es.length ce, .slice F fs.length cf, .slice B bs.length cb] 27))
 have HX0 := Lib.hid (blk_new w (.cells #[.int .i64 per, .int .i64 dl, .slice P ps.length cp, .slice E es.length ce, .slice F fs.length cf, .slice B bs.length cb] 27))
 clear hr
 obtain ⟨r, hr⟩ : ∃ r, r = !(ps.any fun x => CodPlain.partOdd (tP x)) := ⟨_, rfl⟩
 rw [← hr]
 have HRES := Lib.hid hr
 clear hr
 go_enter Tryz.func56, Tryz.ntmps56
 go_upto_region 1 with fail
 generalize w.alloc (.cells #[.int .i64 per, .int .i64 dl, .slice P ps.length cp, .slice E es.length ce, .slice F fs.length cf, .slice B bs.length cb] 27) = w0 at *
 go_wp2_with fail
 go_loopw [3] (fun i wr => ∃ k : Nat, k ≤ ps.length ∧ i = .int .i64 k ∧ Hid (∀ j, j < k → CodPlain.partOdd (tP (ps.getD j PCod.z47)) = false) ∧ Hid (Below w0.heap.size w0 wr)) (fun i _ => ps.length - (intOf i).toNat)
 case atStart => exact ⟨0, Nat.zero_le _, rfl, by show ∀ j, j < 0 → _; omega, Below.refl _ _⟩
 case round =>
  obtain ⟨k, hk, rfl, HN, HBW⟩ := hrel
  have y2 : wr.cell? ⟨w.heap.size, 2, none⟩ = some (.slice P ps.length cp) := (blk_cell (blk_below HX0.out HBW.out) 2).trans rfl
  have hbw : Below w.heap.size w wr := HB0.out.trans (HBW.out.mono HB0.out.size)
  by_cases hlt : k < ps.length
  ·have hltI : (k : Int) < (ps.length : Int) := by omega
   have hc := HR.out.pc
   obtain ⟨ad, hA, a0, a1, a2⟩ := PCod.at_T47 ((HR.out.below hbw).p) (k : Int) (by omega) (by omega)
   subst hA
   have hrd : PCod.rd_T47 ps (k : Int) = ps.getD k PCod.z47 := by unfold PCod.rd_T47; rw [Int.toNat_natCast]
   rw [Int.toNat_natCast, hrd] at a0 a1 a2
   obtain ⟨y, hy⟩ : ∃ y, y = ps.getD k PCod.z47 := ⟨_, rfl⟩
   rw [← hy] at a0 a1 a2
   obtain ⟨x0, x1, x2⟩ := y
   dsimp only at a0 a1 a2
   have HY := Lib.hid hy
   clear hy hrd hbw
   cases ho : CodPlain.partOdd (x0, x1, x2) with
   | true =>
    have hv : r = false := by
     rw [HRES.out]
     have : (ps.any fun x => CodPlain.partOdd (tP x)) = true := List.any_eq_true.2 ⟨_, CodPlain.getD_in (d := PCod.z47) hlt, by rw [← HY.out]; exact ho⟩
     rw [this]; rfl
    subst hv
    have hB2 := Lib.hid (HBW.out.trans ((below_alloc' wr (.cells #[.int .i64 x0, .int .i64 x1, .int .i64 x2] 47)).mono HBW.out.size))
    clear HN HY HRES
    rcases part_odd6 ho with h0 | ⟨h0, h1⟩ | ⟨h0, h1, h2⟩ | ⟨h0, h1, h2, h3⟩ | ⟨h0, h1, h2, h3, h4⟩ | ⟨h0, h1, h2, h3, h4, h5⟩
    all_goals
     clear ho
     go_wp2_with fail
     go_ret
     exact ⟨rfl, HB0.out.trans (hB2.out.mono HB0.out.size)⟩
   | false =>
    obtain ⟨⟨h0, h1⟩, ⟨h2, h3⟩, h4, h5⟩ := CodPlain.part_in ho
    dsimp only at h0 h1 h2 h3 h4 h5
    have hB2 := Lib.hid (HBW.out.trans ((below_alloc' wr (.cells #[.int .i64 x0, .int .i64 x1, .int .i64 x2] 47)).mono HBW.out.size))
    have HN2 : Hid (∀ j, j < k + 1 → CodPlain.partOdd (tP (ps.getD j PCod.z47)) = false) := by
     show ∀ j, j < k + 1 → _
     intro j hj
     by_cases e : j = k
     ·rw [e, ← HY.out]; exact ho
     ·exact HN.out j (by omega)
    clear HN HY HRES ho
    go_wp2_with fail
    go_roundw
    case rel => exact ⟨k + 1, by omega, by go_num, HN2, hB2⟩
    case measure => simp [intOf]; omega
  ·obtain rfl : k = ps.length := by omega
   have hv : r = true := by rw [HRES.out, all_getD (p := fun x => CodPlain.partOdd (tP x)) HN.out]; rfl
   subst hv
   clear HRES HN
   go_wp2_with fail
   go_ret
   exact ⟨rfl, hbw⟩
end Go.Proofs.YtokhibhmlninnaaGreatDoor

set_option linter.unusedVariables false
set_option linter.unusedSimpArgs false
namespace Go.Proofs.YtokhibhmlninnaaGreatDoor
open Go.RowKit Go.Sort Go.Proofs.YtokhibhmlninnaaGreatDoorW.PrintWords
theorem take_getD {α : Type} {l : List α} {d : α} {j k : Nat} (h : j < k) (hl : j < l.length) : l.getD j d ∈ l.take k := by
 rw [List.getD_eq_getElem?_getD, List.getElem?_eq_getElem hl]
 exact List.mem_take_iff_getElem.2 ⟨j, by omega, rfl⟩
theorem take_mem {α : Type} {l : List α} {d x : α} {k : Nat} (h : x ∈ l.take k) : ∃ j, j < k ∧ l.getD j d = x := by
 obtain ⟨j, hj, e⟩ := List.mem_take_iff_getElem.1 h
 refine ⟨j, by omega, ?_⟩
 rw [List.getD_eq_getElem?_getD, List.getElem?_eq_getElem (by omega)]
 exact e
def NoE (l : List PCod.S63) (a b : Int) (k : Nat) : Prop := ∀ m, m < k → ¬ ((l.getD m PCod.z63).f0 = a ∧ (l.getD m PCod.z63).f1 = b)
theorem con_yes {es : List PCod.S63} {j k : Nat} {a b : Int} (h : j < k) (hl : j < es.length) (h0 : (es.getD j PCod.z63).f0 = a) (h1 : (es.getD j PCod.z63).f1 = b) : ((es.take k).map tE).contains (a, b) = true := by
 rw [List.contains_iff_mem]
 exact List.mem_map.2 ⟨_, take_getD h hl, by unfold tE; rw [h0, h1]⟩
theorem con_no {es : List PCod.S63} {k : Nat} {a b : Int} (hk : k ≤ es.length) (h : ∀ m, m < k → ¬ ((es.getD m PCod.z63).f0 = a ∧ (es.getD m PCod.z63).f1 = b)) : ((es.take k).map tE).contains (a, b) = false := by
 cases hc : ((es.take k).map tE).contains (a, b) with
 | false => rfl
 | true =>
  exfalso
  rw [List.contains_iff_mem] at hc
  obtain ⟨x, hx, e⟩ := List.mem_map.1 hc
  obtain ⟨m, hm, rfl⟩ := take_mem (d := PCod.z63) hx
  unfold tE at e
  injection e with e1 e2
  exact h m hm ⟨e1, e2⟩
def NoF (l : List PCod.S65) (a b : Int) (k : Nat) : Prop := ∀ m, m < k → ¬ ((l.getD m PCod.z65).f1 = a ∧ (l.getD m PCod.z65).f2 = b)
theorem ag_yes {fs : List PCod.S65} {j k : Nat} {a b : Int} (h : j < k) (hl : j < fs.length) (h0 : (fs.getD j PCod.z65).f1 = a) (h1 : (fs.getD j PCod.z65).f2 = b) : (fs.take k).any (agB a b) = true :=
 List.any_eq_true.2 ⟨_, take_getD h hl, by unfold agB; rw [h0, h1]; simp⟩
theorem ag_no {fs : List PCod.S65} {k : Nat} {a b : Int} (hk : k ≤ fs.length) (h : ∀ m, m < k → ¬ ((fs.getD m PCod.z65).f1 = a ∧ (fs.getD m PCod.z65).f2 = b)) : (fs.take k).any (agB a b) = false := by
 rw [List.any_eq_false]
 intro x hx hc
 obtain ⟨m, hm, rfl⟩ := take_mem (d := PCod.z65) hx
 unfold agB at hc
 simp only [Bool.and_eq_true, beq_iff_eq] at hc
 exact h m hm hc
set_option maxRecDepth 100000 in
set_option maxHeartbeats 8000000 in
theorem refedges_any (per dl : Int) (P : Option Addr) (cp : Nat) (ps : List PCod.S47) (E : Option Addr) (ce : Nat) (es : List PCod.S63) (F : Option Addr) (cf : Nat) (fs : List PCod.S65) (B : Option Addr) (cb : Nat) (bs : List PCod.S50) (w : World) (hs : ps.length ≤ 1000 ∧ es.length ≤ 1000 ∧ fs.length ≤ 1000) (hr : DR w P cp ps E ce es F cf fs B cb bs) : Calls Tryz.prog 57 #[.agg #[.int .i64 per, .int .i64 dl, .slice P ps.length cp, .slice E es.length ce, .slice F fs.length cf, .slice B bs.length cb]] w fun e w' => e = .returned (.bool (!((List.range es.length).any (CodPlain.edgeOdd (dOf per dl ps es fs bs))))) ∧ Below w.heap.size w w' := by
 obtain ⟨hs, hs2, hs3⟩ := hs
 have HR := Lib.hid hr
 have HB0 := Lib.hid (below_alloc' w (.cells #[.int .i64 per, .int .i64 dl, .slice P ps.length cp, .slice E es.length ce, .slice F fs.length cf, .slice B bs.length cb] 27))
 have HX0 := Lib.hid (blk_new w (.cells #[.int .i64 per, .int .i64 dl, .slice P ps.length cp, .slice E es.length ce, .slice F fs.length cf, .slice B bs.length cb] 27))
 clear hr
 have CP := Lib.hid (fun (A0 : Option Addr) n w1 => refpart_any per dl P cp A0 ce F cf B cb ps.length es.length fs.length bs.length n w1 hs)
 obtain ⟨r, hr⟩ : ∃ r, r = !((List.range es.length).any (CodPlain.edgeOdd (dOf per dl ps es fs bs))) := ⟨_, rfl⟩
 rw [← hr]
 have HRES := Lib.hid hr
 clear hr
 have HNO : Hid (∀ k, k < es.length → CodPlain.edgeOdd (dOf per dl ps es fs bs) k = true → r = false) := by
  show ∀ k, _ → _ → _
  intro k h1 h2
  rw [HRES.out, any_yes h1 h2]; rfl
 have HYES : Hid ((∀ k, k < es.length → CodPlain.edgeOdd (dOf per dl ps es fs bs) k = false) → r = true) := by
  show (∀ k, _ → _) → _
  intro h
  rw [HRES.out, any_no h]; rfl
 clear HRES
 go_enter Tryz.func57, Tryz.ntmps57
 go_upto_region 1 with fail
 generalize w.alloc (.cells #[.int .i64 per, .int .i64 dl, .slice P ps.length cp, .slice E es.length ce, .slice F fs.length cf, .slice B bs.length cb] 27) = w0 at *
 go_wp2_with fail
 go_loopw [3] (fun i wr => ∃ k : Nat, k ≤ es.length ∧ i = .int .i64 k ∧ Hid (∀ j, j < k → CodPlain.edgeOdd (dOf per dl ps es fs bs) j = false) ∧ Hid (Below w0.heap.size w0 wr)) (fun i _ => es.length - (intOf i).toNat)
 case atStart => exact ⟨0, Nat.zero_le _, rfl, by show ∀ j, j < 0 → _; omega, Below.refl _ _⟩
 case round =>
  obtain ⟨k, hk, rfl, HN, HBW⟩ := hrel
  have y3 : wr.cell? ⟨w.heap.size, 3, none⟩ = some (.slice E es.length ce) := (blk_cell (blk_below HX0.out HBW.out) 3).trans rfl
  have hbw : Below w.heap.size w wr := HB0.out.trans (HBW.out.mono HB0.out.size)
  by_cases hlt : k < es.length
  ·have hltI : (k : Int) < (es.length : Int) := by omega
   have hc := HR.out.ec
   obtain ⟨ad, hA, a0, a1⟩ := PCod.at_T63 ((HR.out.below hbw).e) (k : Int) (by omega) (by omega)
   subst hA
   have hrd : PCod.rd_T63 es (k : Int) = es.getD k PCod.z63 := by unfold PCod.rd_T63; rw [Int.toNat_natCast]
   rw [Int.toNat_natCast, hrd] at a0 a1
   obtain ⟨y, hy⟩ : ∃ y, y = es.getD k PCod.z63 := ⟨_, rfl⟩
   rw [← hy] at a0 a1
   have hodd := edge_odd (per := per) (dl := dl) (ps := ps) (fs := fs) (bs := bs) hy
   obtain ⟨x0, x1⟩ := y
   dsimp only at a0 a1 hodd
   have HODD := Lib.hid hodd
   have HBw := Lib.hid (below_alloc' wr (.cells #[.int .i64 x0, .int .i64 x1] 63))
   have HXw := Lib.hid (blk_new wr (.cells #[.int .i64 x0, .int .i64 x1] 63))
   clear hy hrd hbw hodd
   go_upto_region 5 with fail
   generalize wr.alloc (.cells #[.int .i64 x0, .int .i64 x1] 63) = W at *
   obtain ⟨ge, hge⟩ : ∃ x, x = wr.heap.size := ⟨_, rfl⟩
   rw [← hge] at HXw ⊢
   have HB1 := Lib.hid (HBW.out.trans (HBw.out.mono HBW.out.size))
   have HXd := Lib.hid (blk_below HX0.out HB1.out)
   clear hge HBw a0 a1 y3 HBW
   have y0 : W.cell? ⟨w.heap.size, 0, none⟩ = some (.int .i64 per) := (blk_cell HXd.out 0).trans rfl
   have y1 : W.cell? ⟨w.heap.size, 1, none⟩ = some (.int .i64 dl) := (blk_cell HXd.out 1).trans rfl
   have y2 : W.cell? ⟨w.heap.size, 2, none⟩ = some (.slice P ps.length cp) := (blk_cell HXd.out 2).trans rfl
   have y3 : W.cell? ⟨w.heap.size, 3, none⟩ = some (.slice (some ad) es.length ce) := (blk_cell HXd.out 3).trans rfl
   have y4 : W.cell? ⟨w.heap.size, 4, none⟩ = some (.slice F fs.length cf) := (blk_cell HXd.out 4).trans rfl
   have y5 : W.cell? ⟨w.heap.size, 5, none⟩ = some (.slice B bs.length cb) := (blk_cell HXd.out 5).trans rfl
   have e0 : W.cell? ⟨ge, 0, none⟩ = some (.int .i64 x0) := (blk_cell HXw.out 0).trans rfl
   have e1 : W.cell? ⟨ge, 1, none⟩ = some (.int .i64 x1) := (blk_cell HXw.out 1).trans rfl
   go_wp2_with fail
   refine (CP.out (some ad) x0 W).mono ?_
   rintro e w1 ⟨rfl, hb⟩
   have HB2 := Lib.hid (HB1.out.trans (hb.mono HB1.out.size))
   have HXd2 := Lib.hid (blk_below HXd.out hb)
   have HXw2 := Lib.hid (blk_below HXw.out hb)
   clear hb HB1 HXd HXw y0 y1 y2 y3 y4 y5 e0 e1
   have y0 : w1.cell? ⟨w.heap.size, 0, none⟩ = some (.int .i64 per) := (blk_cell HXd2.out 0).trans rfl
   have y1 : w1.cell? ⟨w.heap.size, 1, none⟩ = some (.int .i64 dl) := (blk_cell HXd2.out 1).trans rfl
   have y2 : w1.cell? ⟨w.heap.size, 2, none⟩ = some (.slice P ps.length cp) := (blk_cell HXd2.out 2).trans rfl
   have y3 : w1.cell? ⟨w.heap.size, 3, none⟩ = some (.slice (some ad) es.length ce) := (blk_cell HXd2.out 3).trans rfl
   have y4 : w1.cell? ⟨w.heap.size, 4, none⟩ = some (.slice F fs.length cf) := (blk_cell HXd2.out 4).trans rfl
   have y5 : w1.cell? ⟨w.heap.size, 5, none⟩ = some (.slice B bs.length cb) := (blk_cell HXd2.out 5).trans rfl
   have e0 : w1.cell? ⟨ge, 0, none⟩ = some (.int .i64 x0) := (blk_cell HXw2.out 0).trans rfl
   have e1 : w1.cell? ⟨ge, 1, none⟩ = some (.int .i64 x1) := (blk_cell HXw2.out 1).trans rfl
   cases hb0 : CodPlain.inB x0 0 ((ps.length : Int) - 1) with
   | false =>
    have hv : r = false := HNO.out k hlt (by rw [HODD.out]; unfold CodPlain.twoB; rw [hb0]; simp)
    subst hv
    clear HN HODD HNO HYES
    go_wp2_with fail
    go_ret
    exact ⟨rfl, HB0.out.trans (HB2.out.mono HB0.out.size)⟩
   | true =>
    go_wp2_with fail
    refine (CP.out (some ad) x1 w1).mono ?_
    rintro e w2 ⟨rfl, hb⟩
    have HB3 := Lib.hid (HB2.out.trans (hb.mono HB2.out.size))
    have HXd3 := Lib.hid (blk_below HXd2.out hb)
    have HXw3 := Lib.hid (blk_below HXw2.out hb)
    clear hb HB2 HXd2 HXw2 y0 y1 y2 y3 y4 y5 e0 e1
    have y0 : w2.cell? ⟨w.heap.size, 0, none⟩ = some (.int .i64 per) := (blk_cell HXd3.out 0).trans rfl
    have y1 : w2.cell? ⟨w.heap.size, 1, none⟩ = some (.int .i64 dl) := (blk_cell HXd3.out 1).trans rfl
    have y2 : w2.cell? ⟨w.heap.size, 2, none⟩ = some (.slice P ps.length cp) := (blk_cell HXd3.out 2).trans rfl
    have y3 : w2.cell? ⟨w.heap.size, 3, none⟩ = some (.slice (some ad) es.length ce) := (blk_cell HXd3.out 3).trans rfl
    have y4 : w2.cell? ⟨w.heap.size, 4, none⟩ = some (.slice F fs.length cf) := (blk_cell HXd3.out 4).trans rfl
    have y5 : w2.cell? ⟨w.heap.size, 5, none⟩ = some (.slice B bs.length cb) := (blk_cell HXd3.out 5).trans rfl
    have e0 : w2.cell? ⟨ge, 0, none⟩ = some (.int .i64 x0) := (blk_cell HXw3.out 0).trans rfl
    have e1 : w2.cell? ⟨ge, 1, none⟩ = some (.int .i64 x1) := (blk_cell HXw3.out 1).trans rfl
    cases hb1 : CodPlain.inB x1 0 ((ps.length : Int) - 1) with
    | false =>
     have hv : r = false := HNO.out k hlt (by rw [HODD.out]; unfold CodPlain.twoB; rw [hb1]; simp)
     subst hv
     clear HN HODD HNO HYES
     go_wp2_with fail
     go_ret
     exact ⟨rfl, HB0.out.trans (HB3.out.mono HB0.out.size)⟩
    | true =>
     by_cases heq : x0 = x1
     ·have hv : r = false := HNO.out k hlt (by rw [HODD.out]; unfold CodPlain.twoB; rw [heq]; simp)
      subst hv
      clear HN HODD HNO HYES
      go_wp2_with fail
      go_ret
      exact ⟨rfl, HB0.out.trans (HB3.out.mono HB0.out.size)⟩
     ·have HOD2 : Hid (CodPlain.edgeOdd (dOf per dl ps es fs bs) k = ((es.take k).map tE).contains (x0, x1)) := by
       show _ = _
       rw [HODD.out]
       unfold CodPlain.twoB
       rw [hb0, hb1]
       simp [heq]
      clear HODD hb0 hb1
      go_wp2_with fail
      clear y0 y1 y2 y3 y4 y5 e0 e1
      go_loopw [5] (fun i wr => ∃ j : Nat, j ≤ k ∧ i = .int .i64 j ∧ Hid (NoE es x0 x1 j) ∧ Hid (Below w2.heap.size w2 wr)) (fun i _ => k - (intOf i).toNat)
      case atStart => exact ⟨0, Nat.zero_le _, rfl, by show NoE _ _ _ 0; unfold NoE; omega, Below.refl _ _⟩
      case round =>
       obtain ⟨j, hj, rfl, HM, HBQ⟩ := hrel
       have y3 : wr.cell? ⟨w.heap.size, 3, none⟩ = some (.slice (some ad) es.length ce) := (blk_cell (blk_below HXd3.out HBQ.out) 3).trans rfl
       have e0 : wr.cell? ⟨ge, 0, none⟩ = some (.int .i64 x0) := (blk_cell (blk_below HXw3.out HBQ.out) 0).trans rfl
       have e1 : wr.cell? ⟨ge, 1, none⟩ = some (.int .i64 x1) := (blk_cell (blk_below HXw3.out HBQ.out) 1).trans rfl
       have HB4 := Lib.hid (HB3.out.trans (HBQ.out.mono HB3.out.size))
       have hbw : Below w.heap.size w wr := HB0.out.trans (HB4.out.mono HB0.out.size)
       by_cases hjk : j < k
       ·have hjkI : (j : Int) < (k : Int) := by omega
        have hjl : j < es.length := Nat.lt_of_lt_of_le hjk hk
        have hjlI : (j : Int) < (es.length : Int) := by omega
        obtain ⟨bd, hB, b0, b1⟩ := PCod.at_T63 ((HR.out.below hbw).e) (j : Int) (by omega) (by omega)
        obtain rfl := Option.some.inj hB
        have hrd : PCod.rd_T63 es (j : Int) = es.getD j PCod.z63 := by unfold PCod.rd_T63; rw [Int.toNat_natCast]
        rw [Int.toNat_natCast, hrd] at b0 b1
        obtain ⟨z, hz⟩ : ∃ z, z = es.getD j PCod.z63 := ⟨_, rfl⟩
        rw [← hz] at b0 b1
        have HZ := Lib.hid hz
        clear hz hrd hbw
        by_cases hu : z.f0 = x0
        ·by_cases hv : z.f1 = x1
         ·have hr0 : r = false := HNO.out k hlt (by
           rw [HOD2.out]
           exact con_yes hjk hjl (by rw [← HZ.out]; exact hu) (by rw [← HZ.out]; exact hv))
          subst hr0
          clear HN HM HNO HYES HOD2 HZ
          go_upto_region 10 with fail
          go_quiet (fail)
          go_wp2_with fail
          go_ret
          exact ⟨rfl, HB0.out.trans ((HB3.out.trans ((pw_below_drewN HBQ.out nq).mono HB3.out.size)).mono HB0.out.size)⟩
         ·have HM2 : Hid (NoE es x0 x1 (j + 1)) := by
           show NoE _ _ _ (j + 1)
           intro m hm
           by_cases e : m = j
           ·rw [e, ← HZ.out]; exact fun h => hv h.2
           ·exact HM.out m (by omega)
          clear HZ HM
          go_upto_region 10 with fail
          go_quiet (fail)
          go_wp2_with fail
          go_roundw
          case rel => exact ⟨j + 1, by omega, by go_num, HM2, pw_below_drewN HBQ.out nq⟩
          case measure => simp [intOf]; omega
        ·have HM2 : Hid (NoE es x0 x1 (j + 1)) := by
          show NoE _ _ _ (j + 1)
          intro m hm
          by_cases e : m = j
          ·rw [e, ← HZ.out]; exact fun h => hu h.1
          ·exact HM.out m (by omega)
         clear HZ HM
         go_upto_region 10 with fail
         go_quiet (fail)
         go_wp2_with fail
         go_roundw
         case rel => exact ⟨j + 1, by omega, by go_num, HM2, pw_below_drewN HBQ.out nq⟩
         case measure => simp [intOf]; omega
       ·obtain rfl : j = k := by omega
        have HN2 : Hid (∀ i, i < j + 1 → CodPlain.edgeOdd (dOf per dl ps es fs bs) i = false) := CodPlain.snoc_no HN.out (by
         rw [HOD2.out]
         exact con_no hk HM.out)
        clear HM HN HOD2 hbw
        go_wp2_with fail
        go_roundw
        case rel => exact ⟨j + 1, by omega, by go_num, HN2, HB4⟩
        case measure => simp [intOf]; omega
  ·obtain rfl : k = es.length := by omega
   have hv : r = true := HYES.out HN.out
   subst hv
   clear HNO HYES HN
   go_wp2_with fail
   go_ret
   exact ⟨rfl, hbw⟩
set_option maxRecDepth 100000 in
set_option maxHeartbeats 8000000 in
theorem reffutures_any (per dl : Int) (P : Option Addr) (cp : Nat) (ps : List PCod.S47) (E : Option Addr) (ce : Nat) (es : List PCod.S63) (F : Option Addr) (cf : Nat) (fs : List PCod.S65) (B : Option Addr) (cb : Nat) (bs : List PCod.S50) (w : World) (hs : ps.length ≤ 1000 ∧ es.length ≤ 1000 ∧ fs.length ≤ 1000) (hr : DR w P cp ps E ce es F cf fs B cb bs) : Calls Tryz.prog 58 #[.agg #[.int .i64 per, .int .i64 dl, .slice P ps.length cp, .slice E es.length ce, .slice F fs.length cf, .slice B bs.length cb]] w fun e w' => e = .returned (.bool (!((List.range fs.length).any (CodPlain.futOdd (dOf per dl ps es fs bs))))) ∧ Below w.heap.size w w' := by
 obtain ⟨hs, hs2, hs3⟩ := hs
 have HR := Lib.hid hr
 have HB0 := Lib.hid (below_alloc' w (.cells #[.int .i64 per, .int .i64 dl, .slice P ps.length cp, .slice E es.length ce, .slice F fs.length cf, .slice B bs.length cb] 27))
 have HX0 := Lib.hid (blk_new w (.cells #[.int .i64 per, .int .i64 dl, .slice P ps.length cp, .slice E es.length ce, .slice F fs.length cf, .slice B bs.length cb] 27))
 clear hr
 have CP := Lib.hid (fun (A0 : Option Addr) n w1 => refpart_any per dl P cp E ce A0 cf B cb ps.length es.length fs.length bs.length n w1 hs)
 obtain ⟨r, hr⟩ : ∃ r, r = !((List.range fs.length).any (CodPlain.futOdd (dOf per dl ps es fs bs))) := ⟨_, rfl⟩
 rw [← hr]
 have HRES := Lib.hid hr
 clear hr
 have HNO : Hid (∀ k, k < fs.length → CodPlain.futOdd (dOf per dl ps es fs bs) k = true → r = false) := by
  show ∀ k, _ → _ → _
  intro k h1 h2
  rw [HRES.out, any_yes h1 h2]; rfl
 have HYES : Hid ((∀ k, k < fs.length → CodPlain.futOdd (dOf per dl ps es fs bs) k = false) → r = true) := by
  show (∀ k, _ → _) → _
  intro h
  rw [HRES.out, any_no h]; rfl
 clear HRES
 go_enter Tryz.func58, Tryz.ntmps58
 go_upto_region 1 with fail
 generalize w.alloc (.cells #[.int .i64 per, .int .i64 dl, .slice P ps.length cp, .slice E es.length ce, .slice F fs.length cf, .slice B bs.length cb] 27) = w0 at *
 go_wp2_with fail
 go_loopw [3] (fun i wr => ∃ k : Nat, k ≤ fs.length ∧ i = .int .i64 k ∧ Hid (∀ j, j < k → CodPlain.futOdd (dOf per dl ps es fs bs) j = false) ∧ Hid (Below w0.heap.size w0 wr)) (fun i _ => fs.length - (intOf i).toNat)
 case atStart => exact ⟨0, Nat.zero_le _, rfl, by show ∀ j, j < 0 → _; omega, Below.refl _ _⟩
 case round =>
  obtain ⟨k, hk, rfl, HN, HBW⟩ := hrel
  have y4 : wr.cell? ⟨w.heap.size, 4, none⟩ = some (.slice F fs.length cf) := (blk_cell (blk_below HX0.out HBW.out) 4).trans rfl
  have hbw : Below w.heap.size w wr := HB0.out.trans (HBW.out.mono HB0.out.size)
  by_cases hlt : k < fs.length
  ·have hltI : (k : Int) < (fs.length : Int) := by omega
   have hc := HR.out.fc
   obtain ⟨ad, hA, a0, a1, a2⟩ := PCod.at_T65 ((HR.out.below hbw).f) (k : Int) (by omega) (by omega)
   subst hA
   have hrd : PCod.rd_T65 fs (k : Int) = fs.getD k PCod.z65 := by unfold PCod.rd_T65; rw [Int.toNat_natCast]
   rw [Int.toNat_natCast, hrd] at a0 a1 a2
   obtain ⟨y, hy⟩ : ∃ y, y = fs.getD k PCod.z65 := ⟨_, rfl⟩
   rw [← hy] at a0 a1 a2
   have hodd := fut_odd (per := per) (dl := dl) (ps := ps) (es := es) (bs := bs) hy
   obtain ⟨x0, x1, x2⟩ := y
   dsimp only at a0 a1 a2 hodd
   have HODD := Lib.hid hodd
   have HBw := Lib.hid (below_alloc' wr (.cells #[.int .i64 x0, .int .i64 x1, .int .i64 x2] 65))
   have HXw := Lib.hid (blk_new wr (.cells #[.int .i64 x0, .int .i64 x1, .int .i64 x2] 65))
   clear hy hrd hbw hodd
   go_upto_region 5 with fail
   generalize wr.alloc (.cells #[.int .i64 x0, .int .i64 x1, .int .i64 x2] 65) = W at *
   obtain ⟨ge, hge⟩ : ∃ x, x = wr.heap.size := ⟨_, rfl⟩
   rw [← hge] at HXw ⊢
   have HB1 := Lib.hid (HBW.out.trans (HBw.out.mono HBW.out.size))
   have HXd := Lib.hid (blk_below HX0.out HB1.out)
   clear hge HBw a0 a1 a2 y4 HBW
   have hbW : Below w.heap.size w W := HB0.out.trans (HB1.out.mono HB0.out.size)
   have CT0 : ∀ d' os', Calls Tryz.prog 84 #[.agg #[.int .i64 per, .int .i64 dl, .slice P ps.length cp, .slice E es.length ce, .slice (some ad) fs.length cf, .slice B bs.length cb], .int .i64 x0] (grow (redrawn W d') os') _ := regrown_calls (w := W) (fun W2 hB => CP.out (some ad) x0 W2)
   have CT1 : ∀ d' os', Calls Tryz.prog 84 #[.agg #[.int .i64 per, .int .i64 dl, .slice P ps.length cp, .slice E es.length ce, .slice (some ad) fs.length cf, .slice B bs.length cb], .int .i64 x1] (grow (redrawn W d') os') _ := regrown_calls (w := W) (fun W2 hB => CP.out (some ad) x1 W2)
   have y0 : W.cell? ⟨w.heap.size, 0, none⟩ = some (.int .i64 per) := (blk_cell HXd.out 0).trans rfl
   have y1 : W.cell? ⟨w.heap.size, 1, none⟩ = some (.int .i64 dl) := (blk_cell HXd.out 1).trans rfl
   have y2 : W.cell? ⟨w.heap.size, 2, none⟩ = some (.slice P ps.length cp) := (blk_cell HXd.out 2).trans rfl
   have y3 : W.cell? ⟨w.heap.size, 3, none⟩ = some (.slice E es.length ce) := (blk_cell HXd.out 3).trans rfl
   have y4 : W.cell? ⟨w.heap.size, 4, none⟩ = some (.slice (some ad) fs.length cf) := (blk_cell HXd.out 4).trans rfl
   have y5 : W.cell? ⟨w.heap.size, 5, none⟩ = some (.slice B bs.length cb) := (blk_cell HXd.out 5).trans rfl
   have e0 : W.cell? ⟨ge, 0, none⟩ = some (.int .i64 x0) := (blk_cell HXw.out 0).trans rfl
   have e1 : W.cell? ⟨ge, 1, none⟩ = some (.int .i64 x1) := (blk_cell HXw.out 1).trans rfl
   have e2 : W.cell? ⟨ge, 2, none⟩ = some (.int .i64 x2) := (blk_cell HXw.out 2).trans rfl
   have Y0 := fun d' os' => cell_regrown y0 d' os'
   have Y1 := fun d' os' => cell_regrown y1 d' os'
   have Y2 := fun d' os' => cell_regrown y2 d' os'
   have Y3 := fun d' os' => cell_regrown y3 d' os'
   have Y4 := fun d' os' => cell_regrown y4 d' os'
   have Y5 := fun d' os' => cell_regrown y5 d' os'
   have E0 := fun d' os' => cell_regrown e0 d' os'
   have E1 := fun d' os' => cell_regrown e1 d' os'
   have E2 := fun d' os' => cell_regrown e2 d' os'
   clear y0 y1 y2 y3 y4 y5 e0 e1 e2
   cases hb0 : CodPlain.inB x0 0 ((ps.length : Int) - 1) with
   | false =>
    rw [hb0] at CT0
    have hv : r = false := HNO.out k hlt (by rw [HODD.out]; unfold CodPlain.twoB; rw [hb0]; simp)
    subst hv
    clear HN HODD HNO HYES hb0 hbW
    refine wp_region_quiet_below (by kernel_rfl) (by kernel_rfl) ?_
    repeat (any_goals (first | go_big_quiet_step ((with_reducible (first | exact CT0 _ _ | exact CT1 _ _))) | quiet_step ((with_reducible (first | exact CT0 _ _ | exact CT1 _ _)))))
    refine wpQuiet_nil ?_
    rintro _ ⟨⟨dq, osq⟩, rfl⟩
    have hbq := below_regrown W dq osq
    have HB3 := Lib.hid (HB1.out.trans (hbq.mono HB1.out.size))
    have HXd3 := Lib.hid (blk_below HXd.out hbq)
    have HXw3 := Lib.hid (blk_below HXw.out hbq)
    clear hbq Y0 Y1 Y2 Y3 Y4 Y5 E0 E1 E2 CT0 CT1
    generalize grow (redrawn W dq) osq = w2 at *
    go_wp2_with fail
    go_ret
    exact ⟨rfl, HB0.out.trans (HB3.out.mono HB0.out.size)⟩
   | true =>
    rw [hb0] at CT0
    cases hb1 : CodPlain.inB x1 0 ((ps.length : Int) - 1) with
    | false =>
     rw [hb1] at CT1
     have hv : r = false := HNO.out k hlt (by rw [HODD.out]; unfold CodPlain.twoB; rw [hb1]; simp)
     subst hv
     clear HN HODD HNO HYES hb0 hb1 hbW
     refine wp_region_quiet_below (by kernel_rfl) (by kernel_rfl) ?_
     repeat (any_goals (first | go_big_quiet_step ((with_reducible (first | exact CT0 _ _ | exact CT1 _ _))) | quiet_step ((with_reducible (first | exact CT0 _ _ | exact CT1 _ _)))))
     refine wpQuiet_nil ?_
     rintro _ ⟨⟨dq, osq⟩, rfl⟩
     have hbq := below_regrown W dq osq
     have HB3 := Lib.hid (HB1.out.trans (hbq.mono HB1.out.size))
     have HXd3 := Lib.hid (blk_below HXd.out hbq)
     have HXw3 := Lib.hid (blk_below HXw.out hbq)
     clear hbq Y0 Y1 Y2 Y3 Y4 Y5 E0 E1 E2 CT0 CT1
     generalize grow (redrawn W dq) osq = w2 at *
     go_wp2_with fail
     go_ret
     exact ⟨rfl, HB0.out.trans (HB3.out.mono HB0.out.size)⟩
    | true =>
     rw [hb1] at CT1
     obtain ⟨hi0, hi1⟩ := inB_at hb1
     have hpc := HR.out.pc
     obtain ⟨pd, hP, p0, p1, p2⟩ := PCod.at_T47 ((HR.out.below hbW).p) x1 hi0 (by omega)
     subst hP
     have hrdp : PCod.rd_T47 ps x1 = ps.getD x1.toNat PCod.z47 := rfl
     rw [hrdp] at p0 p1 p2
     obtain ⟨wk, hwk⟩ : ∃ x, x = (ps.getD x1.toNat PCod.z47).f2 := ⟨_, rfl⟩
     rw [← hwk] at p2
     rw [← hwk] at HODD
     have P2 := fun d' os' => cell_regrown p2 d' os'
     obtain ⟨xu, rfl⟩ : ∃ u : Nat, x1 = (u : Int) := ⟨x1.toNat, by omega⟩
     rw [Int.toNat_natCast] at P2
     have hxu : (xu : Int) < (ps.length : Int) := hi1
     clear p0 p1 p2 hrdp hwk hbW
     by_cases heq : x0 = (xu : Int)
     ·have hv : r = false := HNO.out k hlt (by rw [HODD.out]; unfold CodPlain.twoB; rw [heq]; simp)
      subst hv
      clear HN HODD HNO HYES hb0 hb1
      refine wp_region_quiet_below (by kernel_rfl) (by kernel_rfl) ?_
      repeat (any_goals (first | go_big_quiet_step ((with_reducible (first | exact CT0 _ _ | exact CT1 _ _))) | quiet_step ((with_reducible (first | exact CT0 _ _ | exact CT1 _ _)))))
      refine wpQuiet_nil ?_
      rintro _ ⟨⟨dq, osq⟩, rfl⟩
      have hbq := below_regrown W dq osq
      have HB3 := Lib.hid (HB1.out.trans (hbq.mono HB1.out.size))
      have HXd3 := Lib.hid (blk_below HXd.out hbq)
      have HXw3 := Lib.hid (blk_below HXw.out hbq)
      clear hbq P2 Y0 Y1 Y2 Y3 Y4 Y5 E0 E1 E2 CT0 CT1
      generalize grow (redrawn W dq) osq = w2 at *
      go_wp2_with fail
      go_ret
      exact ⟨rfl, HB0.out.trans (HB3.out.mono HB0.out.size)⟩
     ·by_cases h1 : x2 < 1
      ·have hv : r = false := HNO.out k hlt (by rw [HODD.out, inB_no (n := x2) (.inl h1)]; simp)
       subst hv
       clear HN HODD HNO HYES hb0 hb1
       refine wp_region_quiet_below (by kernel_rfl) (by kernel_rfl) ?_
       repeat (any_goals (first | go_big_quiet_step ((with_reducible (first | exact CT0 _ _ | exact CT1 _ _))) | quiet_step ((with_reducible (first | exact CT0 _ _ | exact CT1 _ _)))))
       refine wpQuiet_nil ?_
       rintro _ ⟨⟨dq, osq⟩, rfl⟩
       have hbq := below_regrown W dq osq
       have HB3 := Lib.hid (HB1.out.trans (hbq.mono HB1.out.size))
       have HXd3 := Lib.hid (blk_below HXd.out hbq)
       have HXw3 := Lib.hid (blk_below HXw.out hbq)
       clear hbq P2 Y0 Y1 Y2 Y3 Y4 Y5 E0 E1 E2 CT0 CT1
       generalize grow (redrawn W dq) osq = w2 at *
       go_wp2_with fail
       go_ret
       exact ⟨rfl, HB0.out.trans (HB3.out.mono HB0.out.size)⟩
      ·by_cases h2 : x2 ≥ wk
       ·have hv : r = false := HNO.out k hlt (by rw [HODD.out, inB_no (n := x2) (b := wk - 1) (.inr (by omega))]; simp)
        subst hv
        clear HN HODD HNO HYES hb0 hb1
        refine wp_region_quiet_below (by kernel_rfl) (by kernel_rfl) ?_
        repeat (any_goals (first | go_big_quiet_step ((with_reducible (first | exact CT0 _ _ | exact CT1 _ _))) | quiet_step ((with_reducible (first | exact CT0 _ _ | exact CT1 _ _)))))
        refine wpQuiet_nil ?_
        rintro _ ⟨⟨dq, osq⟩, rfl⟩
        have hbq := below_regrown W dq osq
        have HB3 := Lib.hid (HB1.out.trans (hbq.mono HB1.out.size))
        have HXd3 := Lib.hid (blk_below HXd.out hbq)
        have HXw3 := Lib.hid (blk_below HXw.out hbq)
        clear hbq P2 Y0 Y1 Y2 Y3 Y4 Y5 E0 E1 E2 CT0 CT1
        generalize grow (redrawn W dq) osq = w2 at *
        go_wp2_with fail
        go_ret
        exact ⟨rfl, HB0.out.trans (HB3.out.mono HB0.out.size)⟩
       ·have HOD2 : Hid (CodPlain.futOdd (dOf per dl ps es fs bs) k = (fs.take k).any (agB (xu : Int) x2)) := by
         show _ = _
         rw [HODD.out, inB_yes (n := x2) (b := wk - 1) (by omega) (by omega)]
         unfold CodPlain.twoB
         rw [hb0, hb1]
         simp [heq]
        clear HODD hb0 hb1
        refine wp_region_quiet_below (by kernel_rfl) (by kernel_rfl) ?_
        repeat (any_goals (first | go_big_quiet_step ((with_reducible (first | exact CT0 _ _ | exact CT1 _ _))) | quiet_step ((with_reducible (first | exact CT0 _ _ | exact CT1 _ _)))))
        refine wpQuiet_nil ?_
        rintro _ ⟨⟨dq, osq⟩, rfl⟩
        have hbq := below_regrown W dq osq
        have HB3 := Lib.hid (HB1.out.trans (hbq.mono HB1.out.size))
        have HXd3 := Lib.hid (blk_below HXd.out hbq)
        have HXw3 := Lib.hid (blk_below HXw.out hbq)
        clear hbq Y0 Y1 Y2 Y3 Y4 Y5 E0 E1 E2 CT0 CT1
        generalize grow (redrawn W dq) osq = w2 at *
        clear P2
        go_wp2_with fail
        go_loopw [5] (fun i wr => ∃ j : Nat, j ≤ k ∧ i = .int .i64 j ∧ Hid (NoF fs (xu : Int) x2 j) ∧ Hid (Below w2.heap.size w2 wr)) (fun i _ => k - (intOf i).toNat)
        case atStart => exact ⟨0, Nat.zero_le _, rfl, by show NoF _ _ _ 0; unfold NoF; omega, Below.refl _ _⟩
        case round =>
         obtain ⟨j, hj, rfl, HM, HBQ⟩ := hrel
         have y4 : wr.cell? ⟨w.heap.size, 4, none⟩ = some (.slice (some ad) fs.length cf) := (blk_cell (blk_below HXd3.out HBQ.out) 4).trans rfl
         have e0 : wr.cell? ⟨ge, 0, none⟩ = some (.int .i64 x0) := (blk_cell (blk_below HXw3.out HBQ.out) 0).trans rfl
         have e1 : wr.cell? ⟨ge, 1, none⟩ = some (.int .i64 (xu : Int)) := (blk_cell (blk_below HXw3.out HBQ.out) 1).trans rfl
         have e2 : wr.cell? ⟨ge, 2, none⟩ = some (.int .i64 x2) := (blk_cell (blk_below HXw3.out HBQ.out) 2).trans rfl
         have HB4 := Lib.hid (HB3.out.trans (HBQ.out.mono HB3.out.size))
         have hbw : Below w.heap.size w wr := HB0.out.trans (HB4.out.mono HB0.out.size)
         by_cases hjk : j < k
         ·have hjkI : (j : Int) < (k : Int) := by omega
          have hjl : j < fs.length := Nat.lt_of_lt_of_le hjk hk
          have hjlI : (j : Int) < (fs.length : Int) := by omega
          obtain ⟨bd, hB, b0, b1, b2⟩ := PCod.at_T65 ((HR.out.below hbw).f) (j : Int) (by omega) (by omega)
          obtain rfl := Option.some.inj hB
          have hrd : PCod.rd_T65 fs (j : Int) = fs.getD j PCod.z65 := by unfold PCod.rd_T65; rw [Int.toNat_natCast]
          rw [Int.toNat_natCast, hrd] at b0 b1 b2
          obtain ⟨z, hz⟩ : ∃ z, z = fs.getD j PCod.z65 := ⟨_, rfl⟩
          rw [← hz] at b0 b1 b2
          have HZ := Lib.hid hz
          clear hz hrd hbw
          by_cases hu : z.f1 = (xu : Int)
          ·by_cases hv : z.f2 = x2
           ·have hr0 : r = false := HNO.out k hlt (by
             rw [HOD2.out]
             exact ag_yes hjk hjl (by rw [← HZ.out]; exact hu) (by rw [← HZ.out]; exact hv))
            subst hr0
            clear HN HM HNO HYES HOD2 HZ
            go_upto_region 10 with fail
            go_quiet (fail)
            go_wp2_with fail
            go_ret
            exact ⟨rfl, HB0.out.trans ((HB3.out.trans ((pw_below_drewN HBQ.out nq).mono HB3.out.size)).mono HB0.out.size)⟩
           ·have HM2 : Hid (NoF fs (xu : Int) x2 (j + 1)) := by
             show NoF _ _ _ (j + 1)
             intro m hm
             by_cases e : m = j
             ·rw [e, ← HZ.out]; exact fun h => hv h.2
             ·exact HM.out m (by omega)
            clear HZ HM
            go_upto_region 10 with fail
            go_quiet (fail)
            go_wp2_with fail
            go_roundw
            case rel => exact ⟨j + 1, by omega, by go_num, HM2, pw_below_drewN HBQ.out nq⟩
            case measure => simp [intOf]; omega
          ·have HM2 : Hid (NoF fs (xu : Int) x2 (j + 1)) := by
            show NoF _ _ _ (j + 1)
            intro m hm
            by_cases e : m = j
            ·rw [e, ← HZ.out]; exact fun h => hu h.1
            ·exact HM.out m (by omega)
           clear HZ HM
           go_upto_region 10 with fail
           go_quiet (fail)
           go_wp2_with fail
           go_roundw
           case rel => exact ⟨j + 1, by omega, by go_num, HM2, pw_below_drewN HBQ.out nq⟩
           case measure => simp [intOf]; omega
         ·obtain rfl : j = k := by omega
          have HN2 : Hid (∀ i, i < j + 1 → CodPlain.futOdd (dOf per dl ps es fs bs) i = false) := CodPlain.snoc_no HN.out (by
           rw [HOD2.out]
           exact ag_no hk HM.out)
          clear HM HN HOD2 hbw
          go_wp2_with fail
          go_roundw
          case rel => exact ⟨j + 1, by omega, by go_num, HN2, HB4⟩
          case measure => simp [intOf]; omega
  ·obtain rfl : k = fs.length := by omega
   have hv : r = true := HYES.out HN.out
   subst hv
   clear HNO HYES HN
   go_wp2_with fail
   go_ret
   exact ⟨rfl, hbw⟩
end Go.Proofs.YtokhibhmlninnaaGreatDoor

set_option linter.unusedVariables false
set_option linter.unusedSimpArgs false
namespace Go.Proofs.YtokhibhmlninnaaGreatDoor
open Go.RowKit Go.Sort Go.Proofs.YtokhibhmlninnaaGreatDoorW.PrintWords
set_option maxHeartbeats 1000000 in
theorem refhas_any (A : Option Addr) (c : Nat) (l : List Int) (n : Int) (w : World) (hl : Kd.C (Kd.int .i64) w A l.length l) (hn : l.length ≤ 1000) :
  Calls Tryz.prog 86 #[.slice A l.length c, .int .i64 n] w fun e w' => e = .returned (.bool (l.contains n)) ∧ Below w.heap.size w w' := by
 have HL := Lib.hid (Kd.reads_of_C (d := (0 : Int)) (h1 := fun _ => rfl) hl)
 obtain ⟨r, hr⟩ : ∃ r, r = l.contains n := ⟨_, rfl⟩
 rw [← hr]
 have HRES := Lib.hid hr
 clear hl hr
 go_enter Tryz.func86, Tryz.ntmps86
 go_wp2_with fail
 go_loopw [5] (fun i wr => ∃ k : Nat, k ≤ l.length ∧ i = .int .i64 k ∧ Hid (∀ j, j < k → l.getD j 0 ≠ n) ∧ Hid (Below w.heap.size w wr)) (fun i _ => l.length - (intOf i).toNat)
 case atStart => exact ⟨0, Nat.zero_le _, rfl, by show ∀ j, j < 0 → _; omega, Below.refl _ _⟩
 case round =>
  obtain ⟨k, hk, rfl, HN, HBW⟩ := hrel
  by_cases hlt : k < l.length
  ·obtain ⟨ad, rfl, hcs⟩ := (HL.out.below HBW.out).2.2 (by omega)
   have hc := hcs k hlt
   obtain ⟨x, hx⟩ : ∃ x, x = l.getD k 0 := ⟨_, rfl⟩
   rw [← hx] at hc
   have HX := Lib.hid hx
   have hltI : (k : Int) < (l.length : Int) := by omega
   clear hcs hx
   by_cases he : x = n
   ·have hv : r = true := by
     rw [HRES.out, List.contains_iff_mem, ← he, HX.out]
     exact CodPlain.getD_in hlt
    subst hv
    clear HRES HN HX
    go_wp2_with fail
    go_ret
    exact ⟨rfl, HBW.out⟩
   ·have HN2 : Hid (∀ j, j < k + 1 → l.getD j 0 ≠ n) := by
     show ∀ j, j < k + 1 → _
     intro j hj
     by_cases e : j = k
     ·rw [e, ← HX.out]; exact he
     ·exact HN.out j (by omega)
    clear HN HX HRES
    go_wp2_with fail
    go_roundw
    case rel => exact ⟨k + 1, by omega, by go_num, HN2, HBW⟩
    case measure => simp [intOf]; omega
  ·obtain rfl : k = l.length := by omega
   have hv : r = false := by
    rw [HRES.out]
    cases hc : l.contains n with
    | false => rfl
    | true =>
     exfalso
     rw [List.contains_iff_mem] at hc
     obtain ⟨i, hi, e⟩ := CodPlain.getD_of_mem (d := (0 : Int)) hc
     exact HN.out i hi e
   subst hv
   clear HRES HN
   go_wp2_with fail
   go_ret
   exact ⟨rfl, HBW.out⟩
set_option maxRecDepth 100000 in
set_option maxHeartbeats 4000000 in
theorem refrow_any (per dl : Int) (P : Option Addr) (cp : Nat) (E : Option Addr) (ce : Nat) (F : Option Addr) (cf : Nat) (B : Option Addr) (cb : Nat) (np ne nf nb : Nat) (A : Option Addr) (c : Nat) (l : List Int) (w : World) (hl : Kd.C (Kd.int .i64) w A l.length l) (hn : l.length ≤ 1000) (hs : np ≤ 1000) :
  Calls Tryz.prog 85 #[.agg #[.int .i64 per, .int .i64 dl, .slice P np cp, .slice E ne ce, .slice F nf cf, .slice B nb cb], .slice A l.length c] w fun e w' => e = .returned (.bool (CodPlain.rowB np l)) ∧ Below w.heap.size w w' := by
 have HL := Lib.hid (Kd.reads_of_C (d := (0 : Int)) (h1 := fun _ => rfl) hl)
 have CP := Lib.hid (fun n w1 => refpart_any per dl P cp E ce F cf B cb np ne nf nb n w1 hs)
 have HB0 := Lib.hid (below_alloc' w (.cells #[.int .i64 per, .int .i64 dl, .slice P np cp, .slice E ne ce, .slice F nf cf, .slice B nb cb] 27))
 have HX0 := Lib.hid (blk_new w (.cells #[.int .i64 per, .int .i64 dl, .slice P np cp, .slice E ne ce, .slice F nf cf, .slice B nb cb] 27))
 obtain ⟨r, hr⟩ : ∃ r, r = CodPlain.rowB np l := ⟨_, rfl⟩
 rw [← hr]
 have HNO : Hid (∀ k, k < l.length → CodPlain.rowOdd np l k = true → r = false) := by
  show ∀ k, _ → _ → _
  intro k h1 h2
  rw [hr]
  unfold CodPlain.rowB
  rw [any_yes h1 h2]; rfl
 have HYES : Hid ((∀ k, k < l.length → CodPlain.rowOdd np l k = false) → r = decide (0 < l.length)) := by
  show (∀ k, _ → _) → _
  intro h
  rw [hr]
  unfold CodPlain.rowB
  rw [any_no h]; rfl
 clear hl hr
 go_enter Tryz.func85, Tryz.ntmps85
 go_upto_region 1 with fail
 generalize w.alloc (.cells #[.int .i64 per, .int .i64 dl, .slice P np cp, .slice E ne ce, .slice F nf cf, .slice B nb cb] 27) = w0 at *
 go_wp2_with fail
 go_loopw [5] (fun i wr => ∃ k : Nat, k ≤ l.length ∧ i = .int .i64 k ∧ Hid (∀ j, j < k → CodPlain.rowOdd np l j = false) ∧ Hid (Below w0.heap.size w0 wr)) (fun i _ => l.length - (intOf i).toNat)
 case atStart => exact ⟨0, Nat.zero_le _, rfl, by show ∀ j, j < 0 → _; omega, Below.refl _ _⟩
 case round =>
  obtain ⟨k, hk, rfl, HN, HBW⟩ := hrel
  have hbw : Below w.heap.size w wr := HB0.out.trans (HBW.out.mono HB0.out.size)
  by_cases hlt : k < l.length
  ·obtain ⟨ad, rfl, hcs⟩ := (HL.out.below hbw).2.2 (by omega)
   have hc := hcs k hlt
   obtain ⟨x, hx⟩ : ∃ x, x = l.getD k 0 := ⟨_, rfl⟩
   rw [← hx] at hc
   have HX := Lib.hid hx
   have hltI : (k : Int) < (l.length : Int) := by omega
   have HXr := Lib.hid (blk_below HX0.out HBW.out)
   have y0 : wr.cell? ⟨w.heap.size, 0, none⟩ = some (.int .i64 per) := (blk_cell HXr.out 0).trans rfl
   have y1 : wr.cell? ⟨w.heap.size, 1, none⟩ = some (.int .i64 dl) := (blk_cell HXr.out 1).trans rfl
   have y2 : wr.cell? ⟨w.heap.size, 2, none⟩ = some (.slice P np cp) := (blk_cell HXr.out 2).trans rfl
   have y3 : wr.cell? ⟨w.heap.size, 3, none⟩ = some (.slice E ne ce) := (blk_cell HXr.out 3).trans rfl
   have y4 : wr.cell? ⟨w.heap.size, 4, none⟩ = some (.slice F nf cf) := (blk_cell HXr.out 4).trans rfl
   have y5 : wr.cell? ⟨w.heap.size, 5, none⟩ = some (.slice B nb cb) := (blk_cell HXr.out 5).trans rfl
   have Y0 := fun d' os' => cell_regrown y0 d' os'
   have Y1 := fun d' os' => cell_regrown y1 d' os'
   have Y2 := fun d' os' => cell_regrown y2 d' os'
   have Y3 := fun d' os' => cell_regrown y3 d' os'
   have Y4 := fun d' os' => cell_regrown y4 d' os'
   have Y5 := fun d' os' => cell_regrown y5 d' os'
   have L0 := fun d' os' => cell_regrown hc d' os'
   have CT0 : ∀ d' os', Calls Tryz.prog 84 #[.agg #[.int .i64 per, .int .i64 dl, .slice P np cp, .slice E ne ce, .slice F nf cf, .slice B nb cb], .int .i64 x] (grow (redrawn wr d') os') _ := regrown_calls (w := wr) (fun W2 hB => CP.out x W2)
   go_upto_region 4 with fail
   clear y0 y1 y2 y3 y4 y5 hc hx hbw
   cases hb0 : CodPlain.inB x 0 ((np : Int) - 1) with
   | false =>
    rw [hb0] at CT0
    have hv : r = false := HNO.out k hlt (by unfold CodPlain.rowOdd; rw [← HX.out, hb0]; rfl)
    subst hv
    clear HN HX HNO HYES hb0 hcs
    refine wp_region_quiet_below (by kernel_rfl) (by kernel_rfl) ?_
    repeat (any_goals (first | go_big_quiet_step ((with_reducible (first | exact CT0 _ _))) | quiet_step ((with_reducible (first | exact CT0 _ _)))))
    refine wpQuiet_nil ?_
    rintro _ ⟨⟨dq, osq⟩, rfl⟩
    have hbq := below_regrown wr dq osq
    have HB3 := Lib.hid (HBW.out.trans (hbq.mono HBW.out.size))
    clear hbq CT0 Y0 Y1 Y2 Y3 Y4 Y5 L0
    generalize grow (redrawn wr dq) osq = w2 at *
    go_wp2_with fail
    go_ret
    exact ⟨rfl, HB0.out.trans (HB3.out.mono HB0.out.size)⟩
   | true =>
    rw [hb0] at CT0
    by_cases hk0 : k = 0
    ·have hkd : decide (0 < k) = false := by rw [hk0]; rfl
     have HN2 : Hid (∀ j, j < k + 1 → CodPlain.rowOdd np l j = false) := CodPlain.snoc_no HN.out (by unfold CodPlain.rowOdd; rw [← HX.out, hb0, hkd]; rfl)
     clear hk0
     clear HN HX HNO HYES hb0 hcs
     refine wp_region_quiet_below (by kernel_rfl) (by kernel_rfl) ?_
     repeat (any_goals (first | go_big_quiet_step ((with_reducible (first | exact CT0 _ _))) | quiet_step ((with_reducible (first | exact CT0 _ _)))))
     refine wpQuiet_nil ?_
     rintro _ ⟨⟨dq, osq⟩, rfl⟩
     have hbq := below_regrown wr dq osq
     have HB3 := Lib.hid (HBW.out.trans (hbq.mono HBW.out.size))
     clear hbq CT0 Y0 Y1 Y2 Y3 Y4 Y5 L0
     generalize grow (redrawn wr dq) osq = w2 at *
     go_wp2_with fail
     go_roundw
     case rel => exact ⟨k + 1, by omega, by go_num, HN2, HB3⟩
     case measure => simp [intOf]; omega
    ·obtain ⟨j, hj⟩ : ∃ j, k = j + 1 := ⟨k - 1, by omega⟩
     have hc1 := hcs j (by omega)
     obtain ⟨y, hy⟩ : ∃ y, y = l.getD j 0 := ⟨_, rfl⟩
     rw [← hy] at hc1
     have HY := Lib.hid hy
     have hk1 : ((k : Int) - 1).toNat = j := by omega
     have hk2 : k - 1 = j := by omega
     have hi0 : 0 ≤ (k : Int) - 1 := by omega
     have hi1 : (k : Int) - 1 < (l.length : Int) := by omega
     have L1 := fun d' os' => cell_regrown hc1 d' os'
     have L2 := L1
     have L3 := L1
     rw [← hk1] at L2
     rw [← hk2] at L3
     have hw : wrap64 ((k : Int) - 1) = (j : Int) := by rw [wrap_in (by omega)]; omega
     have hkd : decide (0 < k) = true := decide_eq_true (by omega)
     have hjl : (j : Int) < (l.length : Int) := by omega
     have HJ := Lib.hid hj
     clear hcs hy hc1 hj hk0 hk1 hk2
     by_cases hge : x ≤ y
     ·have hgd : decide (x ≤ y) = true := decide_eq_true hge
      have hv : r = false := HNO.out k hlt (by
       unfold CodPlain.rowOdd
       rw [← HX.out, hb0, HJ.out, Nat.add_sub_cancel, ← HY.out, decide_eq_true (show 0 < j + 1 by omega), hgd]; rfl)
      subst hv
      clear HN HX HY HJ HNO HYES hb0
      refine wp_region_quiet_below (by kernel_rfl) (by kernel_rfl) ?_
      repeat (any_goals (first | go_big_quiet_step ((with_reducible (first | exact CT0 _ _))) | quiet_step ((with_reducible (first | exact CT0 _ _)))))
      refine wpQuiet_nil ?_
      rintro _ ⟨⟨dq, osq⟩, rfl⟩
      have hbq := below_regrown wr dq osq
      have HB3 := Lib.hid (HBW.out.trans (hbq.mono HBW.out.size))
      clear hbq CT0 Y0 Y1 Y2 Y3 Y4 Y5 L0
      generalize grow (redrawn wr dq) osq = w2 at *
      clear L1 L2 L3
      go_wp2_with fail
      go_ret
      exact ⟨rfl, HB0.out.trans (HB3.out.mono HB0.out.size)⟩
     ·have hgd : decide (x ≤ y) = false := decide_eq_false hge
      have HN2 : Hid (∀ j, j < k + 1 → CodPlain.rowOdd np l j = false) := CodPlain.snoc_no HN.out (by
       unfold CodPlain.rowOdd
       rw [← HX.out, hb0, HJ.out, Nat.add_sub_cancel, ← HY.out, hgd]; simp)
      clear HN HX HY HJ HNO HYES hb0
      refine wp_region_quiet_below (by kernel_rfl) (by kernel_rfl) ?_
      repeat (any_goals (first | go_big_quiet_step ((with_reducible (first | exact CT0 _ _))) | quiet_step ((with_reducible (first | exact CT0 _ _)))))
      refine wpQuiet_nil ?_
      rintro _ ⟨⟨dq, osq⟩, rfl⟩
      have hbq := below_regrown wr dq osq
      have HB3 := Lib.hid (HBW.out.trans (hbq.mono HBW.out.size))
      clear hbq CT0 Y0 Y1 Y2 Y3 Y4 Y5 L0
      generalize grow (redrawn wr dq) osq = w2 at *
      clear L1 L2 L3
      go_wp2_with fail
      go_roundw
      case rel => exact ⟨k + 1, by omega, by go_num, HN2, HB3⟩
      case measure => simp [intOf]; omega
  ·obtain rfl : k = l.length := by omega
   have hv := HYES.out HN.out
   clear HYES HNO HN CP
   by_cases h0 : 0 < l.length
   ·have h0I : (l.length : Int) > 0 := by omega
    rw [decide_eq_true h0] at hv
    subst hv
    go_wp2_with fail
    go_ret
    exact ⟨by first | rfl | simp [h0], hbw⟩
   ·rw [decide_eq_false h0] at hv
    subst hv
    have h0I : ¬ (l.length : Int) > 0 := by omega
    go_wp2_with fail
    go_ret
    exact ⟨by first | rfl | simp [h0] | (simp; omega), hbw⟩
def NoB (d : CodPlain.D) (k : Nat) : Prop := ∀ j, j < k → CodPlain.barOdd d (d.bars.getD j ([], [])) = false
def NoO (l m : List Int) (k : Nat) : Prop := ∀ j, j < k → m.contains (l.getD j 0) = false
set_option maxRecDepth 100000 in
set_option maxHeartbeats 8000000 in
theorem refbarriers_any (per dl : Int) (P : Option Addr) (cp : Nat) (ps : List PCod.S47) (E : Option Addr) (ce : Nat) (es : List PCod.S63) (F : Option Addr) (cf : Nat) (fs : List PCod.S65) (B : Option Addr) (cb : Nat) (bs : List PCod.S50) (w : World) (hs : ps.length ≤ 1000 ∧ bs.length ≤ 1000) (hsb : ∀ b ∈ bs, b.f0.length ≤ 1000 ∧ b.f1.length ≤ 1000) (hr : DR w P cp ps E ce es F cf fs B cb bs) : Calls Tryz.prog 59 #[.agg #[.int .i64 per, .int .i64 dl, .slice P ps.length cp, .slice E es.length ce, .slice F fs.length cf, .slice B bs.length cb]] w fun e w' => e = .returned (.bool (!((List.range bs.length).any (fun k => CodPlain.barOdd (dOf per dl ps es fs bs) ((dOf per dl ps es fs bs).bars.getD k ([], [])))))) ∧ Below w.heap.size w w' := by
 obtain ⟨hs, hs2⟩ := hs
 have HSB := Lib.hid hsb
 clear hsb
 have HR := Lib.hid hr
 have HB0 := Lib.hid (below_alloc' w (.cells #[.int .i64 per, .int .i64 dl, .slice P ps.length cp, .slice E es.length ce, .slice F fs.length cf, .slice B bs.length cb] 27))
 have HX0 := Lib.hid (blk_new w (.cells #[.int .i64 per, .int .i64 dl, .slice P ps.length cp, .slice E es.length ce, .slice F fs.length cf, .slice B bs.length cb] 27))
 clear hr
 have CR := Lib.hid (fun (B0 : Option Addr) A c l w1 h1 h2 => refrow_any per dl P cp E ce F cf B0 cb ps.length es.length fs.length bs.length A c l w1 h1 h2 hs)
 obtain ⟨r, hr⟩ : ∃ r, r = !((List.range bs.length).any (fun k => CodPlain.barOdd (dOf per dl ps es fs bs) ((dOf per dl ps es fs bs).bars.getD k ([], [])))) := ⟨_, rfl⟩
 rw [← hr]
 have HRES := Lib.hid hr
 clear hr
 have HNO : Hid (∀ k, k < bs.length → (fun k => CodPlain.barOdd (dOf per dl ps es fs bs) ((dOf per dl ps es fs bs).bars.getD k ([], []))) k = true → r = false) := by
  show ∀ k, _ → _ → _
  intro k h1 h2
  rw [HRES.out, any_yes h1 h2]; rfl
 have HYES : Hid ((∀ k, k < bs.length → (fun k => CodPlain.barOdd (dOf per dl ps es fs bs) ((dOf per dl ps es fs bs).bars.getD k ([], []))) k = false) → r = true) := by
  show (∀ k, _ → _) → _
  intro h
  rw [HRES.out, any_no h]; rfl
 clear HRES
 go_enter Tryz.func59, Tryz.ntmps59
 go_upto_region 1 with fail
 generalize w.alloc (.cells #[.int .i64 per, .int .i64 dl, .slice P ps.length cp, .slice E es.length ce, .slice F fs.length cf, .slice B bs.length cb] 27) = w0 at *
 go_wp2_with fail
 go_loopw [3] (fun i wr => ∃ k : Nat, k ≤ bs.length ∧ i = .int .i64 k ∧ Hid (NoB (dOf per dl ps es fs bs) k) ∧ Hid (Below w0.heap.size w0 wr)) (fun i _ => bs.length - (intOf i).toNat)
 case atStart => exact ⟨0, Nat.zero_le _, rfl, by show NoB _ 0; unfold NoB; omega, Below.refl _ _⟩
 case round =>
  obtain ⟨k, hk, rfl, HN, HBW⟩ := hrel
  have y5 : wr.cell? ⟨w.heap.size, 5, none⟩ = some (.slice B bs.length cb) := (blk_cell (blk_below HX0.out HBW.out) 5).trans rfl
  have hbw : Below w.heap.size w wr := HB0.out.trans (HBW.out.mono HB0.out.size)
  by_cases hlt : k < bs.length
  ·have hltI : (k : Int) < (bs.length : Int) := by omega
   have hc := HR.out.bc
   obtain ⟨ad, A0, c0, A1, c1, hA, a0, a1, la0, ca0, la1, ca1⟩ := PCod.at_T50 ((HR.out.below hbw).b) (k : Int) (by omega) (by omega)
   subst hA
   have hrd : PCod.rd_T50 bs (k : Int) = bs.getD k PCod.z50 := by unfold PCod.rd_T50; rw [Int.toNat_natCast]
   have hsb := HSB.out _ (CodPlain.getD_in (d := PCod.z50) hlt)
   rw [Int.toNat_natCast, hrd] at a0 a1
   rw [hrd] at la0 ca0 la1 ca1
   obtain ⟨y, hy⟩ : ∃ y, y = bs.getD k PCod.z50 := ⟨_, rfl⟩
   rw [← hy] at a0 a1 la0 ca0 la1 ca1 hsb
   have hodd := bar_odd (per := per) (dl := dl) (ps := ps) (es := es) (fs := fs) (bs := bs) hy
   obtain ⟨l0, l1⟩ := y
   dsimp only at a0 a1 la0 ca0 la1 ca1 hsb hodd
   have HODD : Hid ((fun k => CodPlain.barOdd (dOf per dl ps es fs bs) ((dOf per dl ps es fs bs).bars.getD k ([], []))) k = (!CodPlain.rowB ps.length l0 || !CodPlain.rowB ps.length l1 || l0.any (outB l1))) := hodd
   obtain ⟨hl0, hl1⟩ := hsb
   have HC0 := Lib.hid ca0
   have HC1 := Lib.hid ca1
   have HBw := Lib.hid (below_alloc' wr (.cells #[.slice A0 l0.length c0, .slice A1 l1.length c1] 50))
   have HXw := Lib.hid (blk_new wr (.cells #[.slice A0 l0.length c0, .slice A1 l1.length c1] 50))
   clear hy hrd hbw hodd ca0 ca1
   go_upto_region 5 with fail
   rename World => wz
   generalize wz.alloc (.cells #[.slice A0 l0.length c0, .slice A1 l1.length c1] 50) = W at *
   obtain ⟨ge, hge⟩ : ∃ x, x = wz.heap.size := ⟨_, rfl⟩
   rw [← hge] at HXw ⊢
   have HB1 := Lib.hid (HBW.out.trans (HBw.out.mono HBW.out.size))
   have HXd := Lib.hid (blk_below HX0.out HB1.out)
   have HC0' := Lib.hid (Kd.C_below HC0.out HBw.out)
   have HC1' := Lib.hid (Kd.C_below HC1.out HBw.out)
   clear hge HBw a0 a1 y5 HBW HC0 HC1
   have y0 : W.cell? ⟨w.heap.size, 0, none⟩ = some (.int .i64 per) := (blk_cell HXd.out 0).trans rfl
   have y1 : W.cell? ⟨w.heap.size, 1, none⟩ = some (.int .i64 dl) := (blk_cell HXd.out 1).trans rfl
   have y2 : W.cell? ⟨w.heap.size, 2, none⟩ = some (.slice P ps.length cp) := (blk_cell HXd.out 2).trans rfl
   have y3 : W.cell? ⟨w.heap.size, 3, none⟩ = some (.slice E es.length ce) := (blk_cell HXd.out 3).trans rfl
   have y4 : W.cell? ⟨w.heap.size, 4, none⟩ = some (.slice F fs.length cf) := (blk_cell HXd.out 4).trans rfl
   have y5 : W.cell? ⟨w.heap.size, 5, none⟩ = some (.slice (some ad) bs.length cb) := (blk_cell HXd.out 5).trans rfl
   have e0 : W.cell? ⟨ge, 0, none⟩ = some (.slice A0 l0.length c0) := (blk_cell HXw.out 0).trans rfl
   have e1 : W.cell? ⟨ge, 1, none⟩ = some (.slice A1 l1.length c1) := (blk_cell HXw.out 1).trans rfl
   go_wp2_with fail
   refine (CR.out (some ad) A0 c0 l0 W HC0'.out hl0).mono ?_
   rintro e w1 ⟨rfl, hb⟩
   have HB2 := Lib.hid (HB1.out.trans (hb.mono HB1.out.size))
   have HXd2 := Lib.hid (blk_below HXd.out hb)
   have HXw2 := Lib.hid (blk_below HXw.out hb)
   have HD0 := Lib.hid (Kd.C_below HC0'.out hb)
   have HD1 := Lib.hid (Kd.C_below HC1'.out hb)
   clear hb HB1 HXd HXw HC0' HC1' y0 y1 y2 y3 y4 y5 e0 e1
   have y0 : w1.cell? ⟨w.heap.size, 0, none⟩ = some (.int .i64 per) := (blk_cell HXd2.out 0).trans rfl
   have y1 : w1.cell? ⟨w.heap.size, 1, none⟩ = some (.int .i64 dl) := (blk_cell HXd2.out 1).trans rfl
   have y2 : w1.cell? ⟨w.heap.size, 2, none⟩ = some (.slice P ps.length cp) := (blk_cell HXd2.out 2).trans rfl
   have y3 : w1.cell? ⟨w.heap.size, 3, none⟩ = some (.slice E es.length ce) := (blk_cell HXd2.out 3).trans rfl
   have y4 : w1.cell? ⟨w.heap.size, 4, none⟩ = some (.slice F fs.length cf) := (blk_cell HXd2.out 4).trans rfl
   have y5 : w1.cell? ⟨w.heap.size, 5, none⟩ = some (.slice (some ad) bs.length cb) := (blk_cell HXd2.out 5).trans rfl
   have e0 : w1.cell? ⟨ge, 0, none⟩ = some (.slice A0 l0.length c0) := (blk_cell HXw2.out 0).trans rfl
   have e1 : w1.cell? ⟨ge, 1, none⟩ = some (.slice A1 l1.length c1) := (blk_cell HXw2.out 1).trans rfl
   cases hb0 : CodPlain.rowB ps.length l0 with
   | false =>
    have hv : r = false := HNO.out k hlt (by rw [HODD.out, hb0]; rfl)
    subst hv
    clear HN HODD HNO HYES
    go_wp2_with fail
    go_ret
    exact ⟨rfl, HB0.out.trans (HB2.out.mono HB0.out.size)⟩
   | true =>
    go_wp2_with fail
    refine (CR.out (some ad) A1 c1 l1 w1 HD1.out hl1).mono ?_
    rintro e w2 ⟨rfl, hb⟩
    have HB3 := Lib.hid (HB2.out.trans (hb.mono HB2.out.size))
    have HXd3 := Lib.hid (blk_below HXd2.out hb)
    have HXw3 := Lib.hid (blk_below HXw2.out hb)
    have HF0 := Lib.hid (Kd.C_below HD0.out hb)
    have HF1 := Lib.hid (Kd.C_below HD1.out hb)
    clear hb HB2 HXd2 HXw2 HD0 HD1 y0 y1 y2 y3 y4 y5 e0 e1
    have y0 : w2.cell? ⟨w.heap.size, 0, none⟩ = some (.int .i64 per) := (blk_cell HXd3.out 0).trans rfl
    have y1 : w2.cell? ⟨w.heap.size, 1, none⟩ = some (.int .i64 dl) := (blk_cell HXd3.out 1).trans rfl
    have y2 : w2.cell? ⟨w.heap.size, 2, none⟩ = some (.slice P ps.length cp) := (blk_cell HXd3.out 2).trans rfl
    have y3 : w2.cell? ⟨w.heap.size, 3, none⟩ = some (.slice E es.length ce) := (blk_cell HXd3.out 3).trans rfl
    have y4 : w2.cell? ⟨w.heap.size, 4, none⟩ = some (.slice F fs.length cf) := (blk_cell HXd3.out 4).trans rfl
    have y5 : w2.cell? ⟨w.heap.size, 5, none⟩ = some (.slice (some ad) bs.length cb) := (blk_cell HXd3.out 5).trans rfl
    have e0 : w2.cell? ⟨ge, 0, none⟩ = some (.slice A0 l0.length c0) := (blk_cell HXw3.out 0).trans rfl
    have e1 : w2.cell? ⟨ge, 1, none⟩ = some (.slice A1 l1.length c1) := (blk_cell HXw3.out 1).trans rfl
    cases hb1 : CodPlain.rowB ps.length l1 with
    | false =>
     have hv : r = false := HNO.out k hlt (by rw [HODD.out, hb1]; simp)
     subst hv
     clear HN HODD HNO HYES
     go_wp2_with fail
     go_ret
     exact ⟨rfl, HB0.out.trans (HB3.out.mono HB0.out.size)⟩
    | true =>
     have HOD2 : Hid ((fun k => CodPlain.barOdd (dOf per dl ps es fs bs) ((dOf per dl ps es fs bs).bars.getD k ([], []))) k = l0.any (outB l1)) := by
      refine HODD.out.trans ?_
      rw [hb0, hb1]; rfl
     clear HODD hb0 hb1
     go_wp2_with fail
     clear y0 y1 y2 y3 y4 y5 e0 e1
     go_loopw [5] (fun i wr => ∃ j : Nat, j ≤ l0.length ∧ i = .int .i64 j ∧ Hid (NoO l0 l1 j) ∧ Hid (Below w2.heap.size w2 wr)) (fun i _ => l0.length - (intOf i).toNat)
     case atStart => exact ⟨0, Nat.zero_le _, rfl, by show NoO _ _ 0; unfold NoO; omega, Below.refl _ _⟩
     case round =>
      obtain ⟨j, hj, rfl, HM, HBQ⟩ := hrel
      have e0 : wr.cell? ⟨ge, 0, none⟩ = some (.slice A0 l0.length c0) := (blk_cell (blk_below HXw3.out HBQ.out) 0).trans rfl
      have e1 : wr.cell? ⟨ge, 1, none⟩ = some (.slice A1 l1.length c1) := (blk_cell (blk_below HXw3.out HBQ.out) 1).trans rfl
      have HB4 := Lib.hid (HB3.out.trans (HBQ.out.mono HB3.out.size))
      by_cases hjk : j < l0.length
      ·have hjkI : (j : Int) < (l0.length : Int) := by omega
       obtain ⟨bd, rfl, hcs⟩ := ((Kd.reads_of_C (d := (0 : Int)) (h1 := fun _ => rfl) HF0.out).below HBQ.out).2.2 (by omega)
       have hc0 := hcs j hjk
       obtain ⟨x, hx⟩ : ∃ x, x = l0.getD j 0 := ⟨_, rfl⟩
       rw [← hx] at hc0
       have HX := Lib.hid hx
       have CH : ∀ d' os', Calls Tryz.prog 86 #[.slice A1 l1.length c1, .int .i64 x] (grow (redrawn wr d') os') _ := regrown_calls (w := wr) (fun W2 hB => refhas_any A1 c1 l1 x W2 (Kd.C_below HF1.out (HBQ.out.trans (hB.mono HBQ.out.size))) hl1)
       have E0 := fun d' os' => cell_regrown e0 d' os'
       have E1 := fun d' os' => cell_regrown e1 d' os'
       have L0 := fun d' os' => cell_regrown hc0 d' os'
       go_upto_region 10 with fail
       clear hcs hx hc0 e0 e1
       cases hh : l1.contains x with
       | true =>
        rw [hh] at CH
        have hr0 : r = false := HNO.out k hlt (by
         rw [HOD2.out]
         exact List.any_eq_true.2 ⟨x, by rw [HX.out]; exact CodPlain.getD_in hjk, hh⟩)
        subst hr0
        clear HN HM HNO HYES HOD2 HX hh
        refine wp_region_quiet_below (by kernel_rfl) (by kernel_rfl) ?_
        repeat (any_goals (first | go_big_quiet_step ((with_reducible (first | exact CH _ _))) | quiet_step ((with_reducible (first | exact CH _ _)))))
        refine wpQuiet_nil ?_
        rintro _ ⟨⟨dq, osq⟩, rfl⟩
        have hbq := below_regrown wr dq osq
        have HB5 := Lib.hid (HBQ.out.trans (hbq.mono HBQ.out.size))
        clear hbq CH E0 E1 L0
        generalize grow (redrawn wr dq) osq = w2 at *
        go_wp2_with fail
        go_ret
        exact ⟨rfl, HB0.out.trans ((HB3.out.trans (HB5.out.mono HB3.out.size)).mono HB0.out.size)⟩
       | false =>
        rw [hh] at CH
        have HM2 : Hid (NoO l0 l1 (j + 1)) := by
         show NoO l0 l1 (j + 1)
         intro m hm
         by_cases e : m = j
         ·rw [e, ← HX.out]; exact hh
         ·exact HM.out m (by omega)
        clear HM HX hh
        refine wp_region_quiet_below (by kernel_rfl) (by kernel_rfl) ?_
        repeat (any_goals (first | go_big_quiet_step ((with_reducible (first | exact CH _ _))) | quiet_step ((with_reducible (first | exact CH _ _)))))
        refine wpQuiet_nil ?_
        rintro _ ⟨⟨dq, osq⟩, rfl⟩
        have hbq := below_regrown wr dq osq
        have HB5 := Lib.hid (HBQ.out.trans (hbq.mono HBQ.out.size))
        clear hbq CH E0 E1 L0
        generalize grow (redrawn wr dq) osq = w2 at *
        go_wp2_with fail
        go_roundw
        case rel => exact ⟨j + 1, by omega, by go_num, HM2, HB5⟩
        case measure => simp [intOf]; omega
      ·obtain rfl : j = l0.length := by omega
       have HN2 : Hid (NoB (dOf per dl ps es fs bs) (k + 1)) := by
        show NoB _ (k + 1)
        intro i hi
        by_cases e : i = k
        ·rw [e]
         refine HOD2.out.trans ?_
         rw [List.any_eq_false]
         intro x hx hc
         obtain ⟨m, hm, rfl⟩ := CodPlain.getD_of_mem (d := (0 : Int)) hx
         have := HM.out m hm
         unfold outB at hc
         rw [this] at hc; cases hc
        ·exact HN.out i (by omega)
       clear HM HN HOD2
       go_wp2_with fail
       go_roundw
       case rel => exact ⟨k + 1, by omega, by go_num, HN2, HB4⟩
       case measure => simp [intOf]; omega
  ·obtain rfl : k = bs.length := by omega
   have hv : r = true := HYES.out HN.out
   subst hv
   clear HNO HYES HN
   go_wp2_with fail
   go_ret
   exact ⟨rfl, hbw⟩
set_option maxRecDepth 100000 in
set_option maxHeartbeats 8000000 in
theorem refcheck_any (per dl : Int) (P : Option Addr) (cp : Nat) (ps : List PCod.S47) (E : Option Addr) (ce : Nat) (es : List PCod.S63) (F : Option Addr) (cf : Nat) (fs : List PCod.S65) (B : Option Addr) (cb : Nat) (bs : List PCod.S50) (w : World) (hs : ShortD ps es fs bs) (hr : DR w P cp ps E ce es F cf fs B cb bs) : Calls Tryz.prog 22 #[.agg #[.int .i64 per, .int .i64 dl, .slice P ps.length cp, .slice E es.length ce, .slice F fs.length cf, .slice B bs.length cb]] w fun e w' => e = .returned (.int .i64 (CodPlain.checkD (dOf per dl ps es fs bs))) ∧ Below w.heap.size w w' := by
 obtain ⟨⟨s1, s2, s3, s4⟩, sb⟩ := hs
 obtain ⟨r, hr'⟩ : ∃ r, r = CodPlain.checkD (dOf per dl ps es fs bs) := ⟨_, rfl⟩
 rw [← hr']
 have HCK : Hid (r = if (!(decide (1 ≤ ps.length) && decide (ps.length ≤ 16)) || decide (48 < es.length) || decide (16 < fs.length) || decide (4 < bs.length)) = true then 50 else if CodPlain.timeB (dOf per dl ps es fs bs) = false then 51 else if (ps.any fun x => CodPlain.partOdd (tP x)) = true then 52 else if (List.range es.length).any (CodPlain.edgeOdd (dOf per dl ps es fs bs)) = true then 53 else if (List.range fs.length).any (CodPlain.futOdd (dOf per dl ps es fs bs)) = true then 54 else if (List.range bs.length).any (fun k => CodPlain.barOdd (dOf per dl ps es fs bs) ((dOf per dl ps es fs bs).bars.getD k ([], []))) = true then 55 else 0) := by
  show _ = _
  rw [hr']
  unfold CodPlain.checkD CodPlain.manyB
  have h1 : (dOf per dl ps es fs bs).parts.length = ps.length := List.length_map _
  have h2 : (dOf per dl ps es fs bs).edges.length = es.length := List.length_map _
  have h3 : (dOf per dl ps es fs bs).futs.length = fs.length := List.length_map _
  have h4 : (dOf per dl ps es fs bs).bars.length = bs.length := List.length_map _
  have h5 : (dOf per dl ps es fs bs).parts.any CodPlain.partOdd = ps.any fun x => CodPlain.partOdd (tP x) := by unfold dOf; dsimp only; rw [List.any_map]; rfl
  have h6 : (dOf per dl ps es fs bs).bars.any (CodPlain.barOdd (dOf per dl ps es fs bs)) = (List.range bs.length).any (fun k => CodPlain.barOdd (dOf per dl ps es fs bs) ((dOf per dl ps es fs bs).bars.getD k ([], []))) := by
   rw [Bool.eq_iff_iff, List.any_eq_true, List.any_eq_true]
   constructor
   ·rintro ⟨x, hx, h⟩
    obtain ⟨i, hi, rfl⟩ := CodPlain.getD_of_mem (d := (([], []) : List Int × List Int)) hx
    exact ⟨i, List.mem_range.2 (by rw [← h4]; exact hi), h⟩
   ·rintro ⟨i, hi, h⟩
    exact ⟨_, CodPlain.getD_in (by rw [h4]; exact List.mem_range.1 hi), h⟩
  rw [h1, h2, h3, h4, h5, h6]
 have CT := Lib.hid (fun w1 => reftime_any per dl P cp ps E ce es F cf fs B cb bs w1)
 have CA := Lib.hid (fun w1 h => refparts_any per dl P cp ps E ce es F cf fs B cb bs w1 s1 h)
 have CE := Lib.hid (fun w1 h => refedges_any per dl P cp ps E ce es F cf fs B cb bs w1 ⟨s1, s2, s3⟩ h)
 have CF := Lib.hid (fun w1 h => reffutures_any per dl P cp ps E ce es F cf fs B cb bs w1 ⟨s1, s2, s3⟩ h)
 have CB := Lib.hid (fun w1 h => refbarriers_any per dl P cp ps E ce es F cf fs B cb bs w1 ⟨s1, s4⟩ sb h)
 clear hr' sb
 generalize CodPlain.timeB (dOf per dl ps es fs bs) = bt at *
 generalize (ps.any fun x => CodPlain.partOdd (tP x)) = ba at *
 generalize (List.range es.length).any (CodPlain.edgeOdd (dOf per dl ps es fs bs)) = be at *
 generalize (List.range fs.length).any (CodPlain.futOdd (dOf per dl ps es fs bs)) = bf at *
 generalize (List.range bs.length).any (fun k => CodPlain.barOdd (dOf per dl ps es fs bs) ((dOf per dl ps es fs bs).bars.getD k ([], []))) = bb at *
 have HR := Lib.hid hr
 have HB0 := Lib.hid (below_alloc' w (.cells #[.int .i64 per, .int .i64 dl, .slice P ps.length cp, .slice E es.length ce, .slice F fs.length cf, .slice B bs.length cb] 27))
 have HX0 := Lib.hid (blk_new w (.cells #[.int .i64 per, .int .i64 dl, .slice P ps.length cp, .slice E es.length ce, .slice F fs.length cf, .slice B bs.length cb] 27))
 clear hr
 by_cases hm : ps.length < 1 ∨ 16 < ps.length ∨ 48 < es.length ∨ 16 < fs.length ∨ 4 < bs.length
 ·have hv : r = 50 := by
   rw [HCK.out, if_pos]
   simp only [Bool.or_eq_true, Bool.not_eq_true', Bool.and_eq_false_iff, decide_eq_false_iff_not, decide_eq_true_eq]
   omega
  subst hv
  have hcs : (ps.length : Int) < 1 ∨ (¬ (ps.length : Int) < 1 ∧ (16 : Int) < ps.length) ∨ (¬ (ps.length : Int) < 1 ∧ ¬ (16 : Int) < ps.length ∧ (48 : Int) < es.length) ∨ (¬ (ps.length : Int) < 1 ∧ ¬ (16 : Int) < ps.length ∧ ¬ (48 : Int) < es.length ∧ (16 : Int) < fs.length) ∨ (¬ (ps.length : Int) < 1 ∧ ¬ (16 : Int) < ps.length ∧ ¬ (48 : Int) < es.length ∧ ¬ (16 : Int) < fs.length ∧ (4 : Int) < bs.length) := by omega
  clear HCK CT CA CE CF CB hm
  rcases hcs with h0 | ⟨h0, h1⟩ | ⟨h0, h1, h2⟩ | ⟨h0, h1, h2, h3⟩ | ⟨h0, h1, h2, h3, h4⟩
  all_goals
   go_enter Tryz.func22, Tryz.ntmps22
   go_wp2_with fail
   go_ret
   exact ⟨rfl, HB0.out⟩
 ·have h0 : ¬ (ps.length : Int) < 1 := by omega
  have h1 : ¬ (16 : Int) < ps.length := by omega
  have h2 : ¬ (48 : Int) < es.length := by omega
  have h3 : ¬ (16 : Int) < fs.length := by omega
  have h4 : ¬ (4 : Int) < bs.length := by omega
  have HCK2 : Hid (r = if bt = false then 51 else if ba = true then 52 else if be = true then 53 else if bf = true then 54 else if bb = true then 55 else 0) := by
   show _ = _
   rw [HCK.out, if_neg]
   simp only [Bool.or_eq_true, Bool.not_eq_true', Bool.and_eq_false_iff, decide_eq_false_iff_not, decide_eq_true_eq]
   omega
  clear HCK hm
  go_enter Tryz.func22, Tryz.ntmps22
  go_upto_region 1 with fail
  generalize w.alloc (.cells #[.int .i64 per, .int .i64 dl, .slice P ps.length cp, .slice E es.length ce, .slice F fs.length cf, .slice B bs.length cb] 27) = w0 at *
  have y0 : w0.cell? ⟨w.heap.size, 0, none⟩ = some (.int .i64 per) := (blk_cell HX0.out 0).trans rfl
  have y1 : w0.cell? ⟨w.heap.size, 1, none⟩ = some (.int .i64 dl) := (blk_cell HX0.out 1).trans rfl
  have y2 : w0.cell? ⟨w.heap.size, 2, none⟩ = some (.slice P ps.length cp) := (blk_cell HX0.out 2).trans rfl
  have y3 : w0.cell? ⟨w.heap.size, 3, none⟩ = some (.slice E es.length ce) := (blk_cell HX0.out 3).trans rfl
  have y4 : w0.cell? ⟨w.heap.size, 4, none⟩ = some (.slice F fs.length cf) := (blk_cell HX0.out 4).trans rfl
  have y5 : w0.cell? ⟨w.heap.size, 5, none⟩ = some (.slice B bs.length cb) := (blk_cell HX0.out 5).trans rfl
  go_wp2_with fail
  refine (CT.out w0).mono ?_
  rintro e w1 ⟨rfl, hb⟩
  have HB1 := Lib.hid (HB0.out.trans (hb.mono HB0.out.size))
  have HX1 := Lib.hid (blk_below HX0.out hb)
  clear hb y0 y1 y2 y3 y4 y5
  have y0 : w1.cell? ⟨w.heap.size, 0, none⟩ = some (.int .i64 per) := (blk_cell HX1.out 0).trans rfl
  have y1 : w1.cell? ⟨w.heap.size, 1, none⟩ = some (.int .i64 dl) := (blk_cell HX1.out 1).trans rfl
  have y2 : w1.cell? ⟨w.heap.size, 2, none⟩ = some (.slice P ps.length cp) := (blk_cell HX1.out 2).trans rfl
  have y3 : w1.cell? ⟨w.heap.size, 3, none⟩ = some (.slice E es.length ce) := (blk_cell HX1.out 3).trans rfl
  have y4 : w1.cell? ⟨w.heap.size, 4, none⟩ = some (.slice F fs.length cf) := (blk_cell HX1.out 4).trans rfl
  have y5 : w1.cell? ⟨w.heap.size, 5, none⟩ = some (.slice B bs.length cb) := (blk_cell HX1.out 5).trans rfl
  cases bt with
  | false =>
   have hv : r = 51 := by rw [HCK2.out]; rfl
   subst hv
   clear HCK2
   go_wp2_with fail
   go_ret
   exact ⟨rfl, HB1.out⟩
  | true =>
   go_wp2_with fail
   refine (CA.out w1 (HR.out.below HB1.out)).mono ?_
   rintro e w2 ⟨rfl, hb⟩
   have HB2 := Lib.hid (HB1.out.trans (hb.mono HB1.out.size))
   have HX2 := Lib.hid (blk_below HX1.out hb)
   clear hb y0 y1 y2 y3 y4 y5
   have y0 : w2.cell? ⟨w.heap.size, 0, none⟩ = some (.int .i64 per) := (blk_cell HX2.out 0).trans rfl
   have y1 : w2.cell? ⟨w.heap.size, 1, none⟩ = some (.int .i64 dl) := (blk_cell HX2.out 1).trans rfl
   have y2 : w2.cell? ⟨w.heap.size, 2, none⟩ = some (.slice P ps.length cp) := (blk_cell HX2.out 2).trans rfl
   have y3 : w2.cell? ⟨w.heap.size, 3, none⟩ = some (.slice E es.length ce) := (blk_cell HX2.out 3).trans rfl
   have y4 : w2.cell? ⟨w.heap.size, 4, none⟩ = some (.slice F fs.length cf) := (blk_cell HX2.out 4).trans rfl
   have y5 : w2.cell? ⟨w.heap.size, 5, none⟩ = some (.slice B bs.length cb) := (blk_cell HX2.out 5).trans rfl
   cases ba with
   | true =>
    have hv : r = 52 := by rw [HCK2.out]; rfl
    subst hv
    clear HCK2
    go_wp2_with fail
    go_ret
    exact ⟨rfl, HB2.out⟩
   | false =>
    go_wp2_with fail
    refine (CE.out w2 (HR.out.below HB2.out)).mono ?_
    rintro e w3 ⟨rfl, hb⟩
    have HB3 := Lib.hid (HB2.out.trans (hb.mono HB2.out.size))
    have HX3 := Lib.hid (blk_below HX2.out hb)
    clear hb y0 y1 y2 y3 y4 y5
    have y0 : w3.cell? ⟨w.heap.size, 0, none⟩ = some (.int .i64 per) := (blk_cell HX3.out 0).trans rfl
    have y1 : w3.cell? ⟨w.heap.size, 1, none⟩ = some (.int .i64 dl) := (blk_cell HX3.out 1).trans rfl
    have y2 : w3.cell? ⟨w.heap.size, 2, none⟩ = some (.slice P ps.length cp) := (blk_cell HX3.out 2).trans rfl
    have y3 : w3.cell? ⟨w.heap.size, 3, none⟩ = some (.slice E es.length ce) := (blk_cell HX3.out 3).trans rfl
    have y4 : w3.cell? ⟨w.heap.size, 4, none⟩ = some (.slice F fs.length cf) := (blk_cell HX3.out 4).trans rfl
    have y5 : w3.cell? ⟨w.heap.size, 5, none⟩ = some (.slice B bs.length cb) := (blk_cell HX3.out 5).trans rfl
    cases be with
    | true =>
     have hv : r = 53 := by rw [HCK2.out]; rfl
     subst hv
     clear HCK2
     go_wp2_with fail
     go_ret
     exact ⟨rfl, HB3.out⟩
    | false =>
     go_wp2_with fail
     refine (CF.out w3 (HR.out.below HB3.out)).mono ?_
     rintro e w4 ⟨rfl, hb⟩
     have HB4 := Lib.hid (HB3.out.trans (hb.mono HB3.out.size))
     have HX4 := Lib.hid (blk_below HX3.out hb)
     clear hb y0 y1 y2 y3 y4 y5
     have y0 : w4.cell? ⟨w.heap.size, 0, none⟩ = some (.int .i64 per) := (blk_cell HX4.out 0).trans rfl
     have y1 : w4.cell? ⟨w.heap.size, 1, none⟩ = some (.int .i64 dl) := (blk_cell HX4.out 1).trans rfl
     have y2 : w4.cell? ⟨w.heap.size, 2, none⟩ = some (.slice P ps.length cp) := (blk_cell HX4.out 2).trans rfl
     have y3 : w4.cell? ⟨w.heap.size, 3, none⟩ = some (.slice E es.length ce) := (blk_cell HX4.out 3).trans rfl
     have y4 : w4.cell? ⟨w.heap.size, 4, none⟩ = some (.slice F fs.length cf) := (blk_cell HX4.out 4).trans rfl
     have y5 : w4.cell? ⟨w.heap.size, 5, none⟩ = some (.slice B bs.length cb) := (blk_cell HX4.out 5).trans rfl
     cases bf with
     | true =>
      have hv : r = 54 := by rw [HCK2.out]; rfl
      subst hv
      clear HCK2
      go_wp2_with fail
      go_ret
      exact ⟨rfl, HB4.out⟩
     | false =>
      go_wp2_with fail
      refine (CB.out w4 (HR.out.below HB4.out)).mono ?_
      rintro e w5 ⟨rfl, hb⟩
      have HB5 := Lib.hid (HB4.out.trans (hb.mono HB4.out.size))
      have HX5 := Lib.hid (blk_below HX4.out hb)
      clear hb y0 y1 y2 y3 y4 y5
      have y0 : w5.cell? ⟨w.heap.size, 0, none⟩ = some (.int .i64 per) := (blk_cell HX5.out 0).trans rfl
      have y1 : w5.cell? ⟨w.heap.size, 1, none⟩ = some (.int .i64 dl) := (blk_cell HX5.out 1).trans rfl
      have y2 : w5.cell? ⟨w.heap.size, 2, none⟩ = some (.slice P ps.length cp) := (blk_cell HX5.out 2).trans rfl
      have y3 : w5.cell? ⟨w.heap.size, 3, none⟩ = some (.slice E es.length ce) := (blk_cell HX5.out 3).trans rfl
      have y4 : w5.cell? ⟨w.heap.size, 4, none⟩ = some (.slice F fs.length cf) := (blk_cell HX5.out 4).trans rfl
      have y5 : w5.cell? ⟨w.heap.size, 5, none⟩ = some (.slice B bs.length cb) := (blk_cell HX5.out 5).trans rfl
      cases bb with
      | true =>
       have hv : r = 55 := by rw [HCK2.out]; rfl
       subst hv
       clear HCK2
       go_wp2_with fail
       go_ret
       exact ⟨rfl, HB5.out⟩
      | false =>
       have hv : r = 0 := by rw [HCK2.out]; rfl
       subst hv
       clear HCK2
       go_wp2_with fail
       go_ret
       exact ⟨rfl, HB5.out⟩
end Go.Proofs.YtokhibhmlninnaaGreatDoor

set_option linter.unusedVariables false
set_option linter.unusedSimpArgs false
namespace Go.Proofs.YtokhibhmlninnaaGreatDoor
open Go.RowKit Go.Sort
theorem rg {P : Program} {f : FuncId} {args : Array Value} {w : World} {v : Value} (h : ∀ W, Below w.heap.size w W → Calls P f args W fun e w' => e = .returned v ∧ Below W.heap.size W w') :
  ∀ d os, Calls P f args (grow (redrawn w d) os) fun e w'' => e = .returned v ∧ ∃ p : Regrown, w'' = grow (redrawn w p.d) p.os := fun d os => Calls.regrown_of (h _ (below_regrown w d os))
theorem same_below {P : Program} {f : FuncId} {args : Array Value} {w : World} {v : Value} (h : Calls P f args w fun e w' => e = .returned v ∧ w = w') : Calls P f args w fun e w' => e = .returned v ∧ Below w.heap.size w w' :=
 h.mono fun _ _ ⟨he, hw⟩ => ⟨he, by subst hw; exact Below.refl _ _⟩
theorem refopen_eq (s : ByteArray) : (sealB (s.extract 0 (s.size - 4)) = s) ↔ s.extract (s.size - 4) s.size = tailB (sumB (s.extract 0 (s.size - 4))) := by
 have hsplit : s = s.extract 0 (s.size - 4) ++ s.extract (s.size - 4) s.size := by
  apply ByteArray.ext
  simp
 unfold sealB
 generalize s.extract 0 (s.size - 4) = P at *
 generalize s.extract (s.size - 4) s.size = Q at *
 constructor
 ·intro h
  rw [hsplit] at h
  have := congrArg (fun x : ByteArray => x.data.toList) h
  simp at this
  exact (ByteArray.ext (by simpa using this)).symm
 ·intro h
  rw [hsplit, h]
set_option maxHeartbeats 400000 in
theorem refopen_any (s : ByteArray) (w : World) (hl : s.size ≤ 1000) :
  Calls Tryz.prog 28 #[.string s] w fun e w' => e = .returned (.tuple #[.string (openB s).1, .bool (openB s).2]) ∧ Below w.heap.size w w' := by
 by_cases h4 : s.size < 4
 ·have he : openB s = (⟨#[]⟩, false) := by unfold openB; rw [if_pos h4]
  rw [he]
  clear he
  go_enter Tryz.func28, Tryz.ntmps28
  go_wp2_with fail
  have hd : (decide ((s.size : Int) - 4 < 0)) = true := by simp; omega
  go_quiet (fail)
  go_wp2
  go_ret2
  exact ⟨rfl, below_drewN (Below.refl _ _) _⟩
 ·have hp : (s.extract 0 (s.size - 4)).size ≤ 1000 := by simp; omega
  have C1 := Lib.hid (rg (w := w) (fun W _ => same_below (refsum_any (s.extract 0 (s.size - 4)) W hp)))
  have C2 := Lib.hid (rg (w := w) (fun W _ => tail_any (sumB (s.extract 0 (s.size - 4))) (CrcPlain.sum_lt _) W))
  have he := refopen_eq s
  by_cases hq : sealB (s.extract 0 (s.size - 4)) = s
  ·have h2 : openB s = (s.extract 0 (s.size - 4), true) := by unfold openB; rw [if_neg h4, if_pos hq]
   rw [h2]
   have HQ : ((s.extract (s.size - 4) s.size).toList == (tailB (sumB (s.extract 0 (s.size - 4)))).toList) = true := by rw [he.1 hq]; simp
   clear he hq h2
   have hd : (decide ((s.size : Int) - 4 < 0)) = false := by simp; omega
   go_enter Tryz.func28, Tryz.ntmps28
   go_wp2_with fail
   refine wp_region_quiet_below (by kernel_rfl) (by kernel_rfl) ?_
   repeat (any_goals (first | go_big_quiet_step ((first | exact C1.out _ _ | exact C2.out _ _)) | quiet_step ((first | exact C1.out _ _ | exact C2.out _ _))))
   refine wpQuiet_nil ?_
   rintro _ ⟨⟨dq, osq⟩, rfl⟩
   have hbq := below_regrown w dq osq
   generalize grow (redrawn w dq) osq = w1 at *
   go_wp2
   go_ret2
   exact ⟨rfl, hbq⟩
  ·have h2 : openB s = (⟨#[]⟩, false) := by unfold openB; rw [if_neg h4, if_neg hq]
   rw [h2]
   have HQ := str_ne (fun h => hq (he.2 h))
   clear he hq h2
   have hd : (decide ((s.size : Int) - 4 < 0)) = false := by simp; omega
   go_enter Tryz.func28, Tryz.ntmps28
   go_wp2_with fail
   refine wp_region_quiet_below (by kernel_rfl) (by kernel_rfl) ?_
   repeat (any_goals (first | go_big_quiet_step ((first | exact C1.out _ _ | exact C2.out _ _)) | quiet_step ((first | exact C1.out _ _ | exact C2.out _ _))))
   refine wpQuiet_nil ?_
   rintro _ ⟨⟨dq, osq⟩, rfl⟩
   have hbq := below_regrown w dq osq
   generalize grow (redrawn w dq) osq = w1 at *
   go_wp2
   go_ret2
   exact ⟨rfl, hbq⟩
end Go.Proofs.YtokhibhmlninnaaGreatDoor
