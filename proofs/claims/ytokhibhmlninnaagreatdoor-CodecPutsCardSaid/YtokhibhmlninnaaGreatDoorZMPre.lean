/- Texts of this work, put into one. -/
import Derived.Test.YtokhibhmlninnaaGreatDoorZCodG
import Derived.Test.YtokhibhmlninnaaGreatDoorZMOp
import Derived.Test.YtokhibhmlninnaaGreatDoorZMSm
import Derived.Test.YtokhibhmlninnaaGreatDoorZMEnc
set_option linter.unusedVariables false
set_option linter.unusedSimpArgs false
namespace Go.Proofs.YtokhibhmlninnaaGreatDoor
open Go.RowKit Go.Proofs.YtokhibhmlninnaaGreatDoorW.PrintWords
def badB (b : PCod.S50) : Bool := decide (20 < b.f0.length) || decide (20 < b.f1.length)
def finB (ps : List PCod.S47) (es : List PCod.S63) (fs : List PCod.S65) (bs : List PCod.S50) : Bool := decide (ps.length ≤ 20) && (decide (es.length ≤ 60) && (decide (fs.length ≤ 20) && decide (bs.length ≤ 8)))
def fewB (ps : List PCod.S47) (es : List PCod.S63) (fs : List PCod.S65) (bs : List PCod.S50) : Bool := if (bs.take 9).any badB = true then false else finB ps es fs bs
structure FewD (ps : List PCod.S47) (es : List PCod.S63) (fs : List PCod.S65) (bs : List PCod.S50) : Prop where
 p : ps.length ≤ 20
 e : es.length ≤ 60
 f : fs.length ≤ 20
 b : bs.length ≤ 8
 r : ∀ b ∈ bs, b.f0.length ≤ 20 ∧ b.f1.length ≤ 20
theorem few_yes {ps : List PCod.S47} {es : List PCod.S63} {fs : List PCod.S65} {bs : List PCod.S50} (h : fewB ps es fs bs = true) : FewD ps es fs bs := by
 unfold fewB at h
 split at h
 ·cases h
 ·rename_i h2
  unfold finB at h
  simp only [Bool.and_eq_true, decide_eq_true_eq] at h
  refine ⟨h.1, h.2.1, h.2.2.1, h.2.2.2, fun b hb => ?_⟩
  have h3 : badB b = false := by
   cases hq : badB b with
   | false => rfl
   | true => exact absurd (List.any_eq_true.2 ⟨b, by rw [List.take_of_length_le (by omega)]; exact hb, hq⟩) h2
  unfold badB at h3
  simp only [Bool.or_eq_false_iff, decide_eq_false_iff_not] at h3
  omega
theorem FewD.short {ps : List PCod.S47} {es : List PCod.S63} {fs : List PCod.S65} {bs : List PCod.S50} (h : FewD ps es fs bs) : ShortD ps es fs bs :=
 ⟨⟨by have := h.p; omega, by have := h.e; omega, by have := h.f; omega, by have := h.b; omega⟩, fun b hb => by have := h.r b hb; omega⟩
theorem few_ev (per dl : Int) (ps : List PCod.S47) (es : List PCod.S63) (fs : List PCod.S65) (bs : List PCod.S50) : ∃ k, PCodO.trefoilref05_Few.f k per dl ps es fs bs = some (fewB ps es fs bs) := by
 have fin : ∀ x : Int, Ev (fun k => PCodO.trefoilref05_Few.j1 k x false per dl ps es fs bs) (finB ps es fs bs) := by
  intro x
  refine Ev.step (f := fun _ => some (finB ps es fs bs)) (fun k => ?_) (Ev.now _)
  rw [PCodO.trefoilref05_Few.j1, if_neg (by simp)]
  unfold finB
  by_cases h1 : ps.length ≤ 20
  ·rw [if_pos (by omega), decide_eq_true h1, Bool.true_and]
   by_cases h2 : es.length ≤ 60
   ·rw [if_pos (by omega), decide_eq_true h2, Bool.true_and]
    by_cases h3 : fs.length ≤ 20
    ·rw [if_pos (by omega), decide_eq_true h3, Bool.true_and]
     exact congrArg some (decide_eq_decide.2 (by omega))
    ·rw [if_neg (by omega), decide_eq_false h3, Bool.false_and]
   ·rw [if_neg (by omega), decide_eq_false h2, Bool.false_and]
  ·rw [if_neg (by omega), decide_eq_false h1, Bool.false_and]
 have key : ∀ (m x : Nat), x + m = 9 → Ev (fun k => PCodO.trefoilref05_Few.l0 k (x : Int) per dl ps es fs bs) (if ((bs.take 9).drop x).any badB = true then false else finB ps es fs bs) := by
  intro m
  induction m with
  | zero =>
   intro x hx
   rw [List.drop_of_length_le (by rw [List.length_take]; omega), if_neg (by simp)]
   refine Ev.step (f := fun k => PCodO.trefoilref05_Few.j1 k (x : Int) false per dl ps es fs bs) (fun k => ?_) (fin _)
   rw [PCodO.trefoilref05_Few.l0]
   by_cases h : (x : Int) < (bs.length : Int)
   ·rw [if_pos h, decide_eq_false (by omega)]
   ·rw [if_neg h]
  | succ m ih =>
   intro x hx
   have h2 := ih (x + 1) (by omega)
   by_cases h : x < bs.length
   ·have hd : (bs.take 9).drop x = bs[x] :: (bs.take 9).drop (x + 1) := by
     rw [List.drop_eq_getElem_cons (by rw [List.length_take]; omega), List.getElem_take]
    have hr : PCod.rd_T50 bs (x : Int) = bs[x] := by unfold PCod.rd_T50; rw [Int.toNat_natCast, List.getD_eq_getElem?_getD, List.getElem?_eq_getElem h]; rfl
    rw [hd, List.any_cons]
    refine Ev.step (f := fun k => PCodO.trefoilref05_Few.j1 k (x : Int) true per dl ps es fs bs) (fun k => by rw [PCodO.trefoilref05_Few.l0, if_pos (by omega), decide_eq_true (by omega)]) ?_
    by_cases b0 : 20 < bs[x].f0.length
    ·have hb : badB bs[x] = true := by unfold badB; rw [decide_eq_true b0, Bool.true_or]
     rw [hb, Bool.true_or, if_pos rfl]
     refine Ev.step (f := fun _ => some false) (fun k => ?_) (Ev.now _)
     rw [PCodO.trefoilref05_Few.j1, if_pos rfl, if_pos (by omega), if_pos (by omega), hr, if_pos (by omega)]
    ·by_cases b1 : 20 < bs[x].f1.length
     ·have hb : badB bs[x] = true := by unfold badB; rw [decide_eq_true b1, Bool.or_true]
      rw [hb, Bool.true_or, if_pos rfl]
      refine Ev.step (f := fun _ => some false) (fun k => ?_) (Ev.now _)
      rw [PCodO.trefoilref05_Few.j1, if_pos rfl, if_pos (by omega), if_pos (by omega), hr, if_neg (by omega), if_pos (by omega)]
     ·have hb : badB bs[x] = false := by unfold badB; rw [decide_eq_false b0, decide_eq_false b1, Bool.false_or]
      rw [hb, Bool.false_or]
      refine Ev.step (fun k => ?_) h2
      rw [PCodO.trefoilref05_Few.j1, if_pos rfl, if_pos (by omega), if_pos (by omega), hr, if_neg (by omega), if_neg (by omega), wrap_in (by omega)]; rfl
   ·rw [List.drop_of_length_le (by rw [List.length_take]; omega), if_neg (by simp)]
    refine Ev.step (f := fun k => PCodO.trefoilref05_Few.j1 k (x : Int) false per dl ps es fs bs) (fun k => ?_) (fin _)
    rw [PCodO.trefoilref05_Few.l0, if_neg (by omega)]
 have h2 := key 9 0 (by omega)
 rw [List.drop_zero] at h2
 exact Ev.rounds h2
theorem own_ev (per dl : Int) (ps : List PCod.S47) (es : List PCod.S63) (fs : List PCod.S65) (bs : List PCod.S50) (h : ShortD ps es fs bs) : ∃ k, PCodO.trefoillaw05_Own.f k per dl ps es fs bs = some (per, dl, ps, es, fs, bs) := by
 obtain ⟨⟨s1, s2, s3, s4⟩, sb⟩ := h
 have key : ∀ (m x : Nat), x + m = bs.length → Ev (fun k => PCodO.trefoillaw05_Own.l0 k (x : Int) per dl ps es fs bs per dl ps es fs (bs.take x)) (per, dl, ps, es, fs, bs) := by
  intro m
  induction m with
  | zero =>
   intro x hx
   rw [List.take_of_length_le (by omega)]
   refine Ev.step (f := fun _ => some (per, dl, ps, es, fs, bs)) (fun k => ?_) (Ev.now _)
   rw [PCodO.trefoillaw05_Own.l0, if_neg (by omega)]
  | succ m ih =>
   intro x hx
   have h2 := ih (x + 1) (by omega)
   have hlt : x < bs.length := by omega
   have hr : PCod.rd_T50 bs (x : Int) = bs[x] := by unfold PCod.rd_T50; rw [Int.toNat_natCast, List.getD_eq_getElem?_getD, List.getElem?_eq_getElem hlt]; rfl
   have hb := sb _ (List.getElem_mem hlt)
   refine Ev.step (fun k => ?_) h2
   rw [PCodO.trefoillaw05_Own.l0, if_pos (by omega), Option.bind_some, if_pos (by omega), hr, if_pos (by simp; omega), Option.bind_some, if_pos (by simp; omega), if_pos (by rw [List.length_take]; omega), wrap_in (by omega), List.nil_append, List.nil_append]
   rw [show bs.take (x + 1) = bs.take x ++ [bs[x]] by rw [List.take_add_one, List.getElem?_eq_getElem hlt]; rfl]
   rfl
 have h2 := key bs.length 0 (by omega)
 rw [List.take_zero] at h2
 obtain ⟨k, hk⟩ := Ev.rounds h2
 refine ⟨k, ?_⟩
 unfold PCodO.trefoillaw05_Own.f
 rw [Option.bind_some, if_pos (by simp; omega), Option.bind_some, if_pos (by simp; omega), Option.bind_some, if_pos (by simp; omega), List.nil_append, List.nil_append, List.nil_append]
 exact hk
theorem few_any (per dl : Int) (P : Option Addr) (cp : Nat) (ps : List PCod.S47) (E : Option Addr) (ce : Nat) (es : List PCod.S63) (F : Option Addr) (cf : Nat) (fs : List PCod.S65) (B : Option Addr) (cb : Nat) (bs : List PCod.S50) (w : World) (hr : DR w P cp ps E ce es F cf fs B cb bs) :
  Calls Tryz.prog 8 #[.agg #[.int .i64 per, .int .i64 dl, .slice P ps.length cp, .slice E es.length ce, .slice F fs.length cf, .slice B bs.length cb]] w fun e w' => e = .returned (.bool (fewB ps es fs bs)) ∧ Below w.heap.size w w' := by
 obtain ⟨k, hk⟩ := few_ev per dl ps es fs bs
 have := PCodO.trefoilref05_Few.calls k per dl P cp ps E ce es F cf fs B cb bs _ w hr.p hr.pc hr.e hr.ec hr.f hr.fc hr.b hr.bc hk
 first | exact this | exact below_of this
def OwnPost (per dl : Int) (ps : List PCod.S47) (es : List PCod.S63) (fs : List PCod.S65) (bs : List PCod.S50) (w : World) (e : Ending) (w' : World) : Prop := ∃ P cp E ce F cf B cb, e = .returned (.agg #[.int .i64 per, .int .i64 dl, .slice P ps.length cp, .slice E es.length ce, .slice F fs.length cf, .slice B bs.length cb]) ∧ DR w' P cp ps E ce es F cf fs B cb bs ∧ Below w.heap.size w w'
theorem own_any (per dl : Int) (P : Option Addr) (cp : Nat) (ps : List PCod.S47) (E : Option Addr) (ce : Nat) (es : List PCod.S63) (F : Option Addr) (cf : Nat) (fs : List PCod.S65) (B : Option Addr) (cb : Nat) (bs : List PCod.S50) (w : World) (hs : ShortD ps es fs bs) (hr : DR w P cp ps E ce es F cf fs B cb bs) :
  Calls Tryz.prog 10 #[.agg #[.int .i64 per, .int .i64 dl, .slice P ps.length cp, .slice E es.length ce, .slice F fs.length cf, .slice B bs.length cb]] w (OwnPost per dl ps es fs bs w) := by
 obtain ⟨k, hk⟩ := own_ev per dl ps es fs bs hs
 refine (PCodO.trefoillaw05_Own.calls k per dl P cp ps E ce es F cf fs B cb bs _ _ _ _ _ _ w hr.p hr.pc hr.e hr.ec hr.f hr.fc hr.b hr.bc hk).mono ?_
 rintro e w' ⟨v2, v3, v4, v5, rfl, h2, h3, h4, h5, hb⟩
 obtain ⟨P', cp', rfl, p1, p2⟩ := Kd.R_reads h2
 obtain ⟨E', ce', rfl, e1, e2⟩ := Kd.R_reads h3
 obtain ⟨F', cf', rfl, f1, f2⟩ := Kd.R_reads h4
 obtain ⟨B', cb', rfl, b1, b2⟩ := Kd.S_reads h5
 exact ⟨P', cp', E', ce', F', cf', B', cb', rfl, ⟨p2, p1, e2, e1, f2, f1, b2, b1⟩, hb⟩
end Go.Proofs.YtokhibhmlninnaaGreatDoor

set_option linter.unusedVariables false
set_option linter.unusedSimpArgs false
namespace Go.Proofs.YtokhibhmlninnaaGreatDoor
open Go.RowKit Go.Sort Go.Proofs.YtokhibhmlninnaaGreatDoorW.PrintWords
def barN (x : PCod.S50) : Nat := 2 + x.f0.length + x.f1.length
def sumN (bs : List PCod.S50) (k : Nat) : Nat := ((bs.take k).map barN).sum
theorem sumN_snoc (bs : List PCod.S50) {k : Nat} (h : k < bs.length) : sumN bs (k + 1) = sumN bs k + barN (bs.getD k PCod.z50) := by
 unfold sumN
 rw [CodPlain.take_snoc (d := PCod.z50) h, List.map_append, List.sum_append]; simp
theorem sumN_le (bs : List PCod.S50) (hr : ∀ b ∈ bs, b.f0.length ≤ 20 ∧ b.f1.length ≤ 20) : ∀ k, k ≤ bs.length → sumN bs k ≤ 42 * k
 | 0, _ => by unfold sumN; simp
 | k + 1, h => by
  rw [sumN_snoc bs (by omega)]
  have := sumN_le bs hr k (by omega)
  have hb := hr _ (CodPlain.getD_in (d := PCod.z50) (show k < bs.length by omega))
  unfold barN; omega
theorem sumN_all (bs : List PCod.S50) : CodPlain.barsN (bs.map tB) = sumN bs bs.length := by
 unfold CodPlain.barsN sumN
 rw [List.take_length, List.map_map]
 rfl
theorem enc_size (per dl : Int) (ps : List PCod.S47) (es : List PCod.S63) (fs : List PCod.S65) (bs : List PCod.S50) (h : CodPlain.checkD (dOf per dl ps es fs bs) = 0) : (CodPlain.encL (dOf per dl ps es fs bs)).length = 21 + 7 * ps.length + 2 * es.length + 4 * fs.length + sumN bs bs.length := by
 rw [CodPlain.enc_len h]
 unfold dOf
 dsimp only
 rw [List.length_map, List.length_map, List.length_map, sumN_all]
end Go.Proofs.YtokhibhmlninnaaGreatDoor
