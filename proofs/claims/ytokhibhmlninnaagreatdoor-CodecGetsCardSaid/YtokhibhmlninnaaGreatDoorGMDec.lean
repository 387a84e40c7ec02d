/- Texts of this work, put into one. -/
import Derived.Test.YtokhibhmlninnaaGreatDoorGMBody
set_option linter.unusedVariables false
set_option linter.unusedSimpArgs false
namespace Go.Proofs.YtokhibhmlninnaaGreatDoor
open Go.RowKit Go.Proofs.YtokhibhmlninnaaGreatDoorW.PrintWords
theorem take_pfx (b : ByteArray) (h : 4 ≤ b.size) : ((b.extract 0 4).toList == (⟨#[100, 97, 103, 49]⟩ : ByteArray).toList) = decide (b.data.toList.take 4 = CodPlain.magicL) := by
 rw [ByteArray.toList_eq, ByteArray.toList_eq, Bool.eq_iff_iff, beq_iff_eq, decide_eq_true_iff]
 have e1 : (b.extract 0 4).data.toList = b.data.toList.take 4 := by
  rw [ByteArray.data_extract, Array.toList_extract]; simp
 rw [e1]; rfl
def WrongAt (ev : Value) (a b e : Int) (w : World) : Prop := if e = 0 then ev = .nilIface else ∃ k, ev = .iface 81 (.pointer (some ⟨k, 0, none⟩)) ∧ w.heap[k]? = some (.cells #[.int .i64 a, .int .i64 b, .iface 30 (.int .i64 e)] 85 (0, 0))
theorem wrong_mk {k : Nat} {a b e : Int} {w : World} (he : e ≠ 0) (h : w.heap[k]? = some (.cells #[.int .i64 a, .int .i64 b, .iface 30 (.int .i64 e)] 85 (0, 0))) : WrongAt (.iface 81 (.pointer (some ⟨k, 0, none⟩))) a b e w := by
 unfold WrongAt; rw [if_neg he]; exact ⟨k, rfl, h⟩
theorem WrongAt.below {ev : Value} {a b e : Int} {w w' : World} (h : WrongAt ev a b e w) (hb : Below w.heap.size w w') : WrongAt ev a b e w' := by
 unfold WrongAt at h ⊢
 split
 ·rename_i h2; rw [if_pos h2] at h; exact h
 ·rename_i h2; rw [if_neg h2] at h
  obtain ⟨k, h3, h4⟩ := h
  exact ⟨k, h3, blk_below h4 hb⟩
theorem drew_blk {W : World} {g : Nat} {o : Option Obj} (h : W.heap[g]? = o) : W.drew.heap[g]? = o := h
theorem dm_nil (w : World) (base R : Nat) : DM w base R none 0 [] none 0 [] none 0 [] none 0 [] := ⟨Kd.R_nil _ _ _ _ _, Kd.R_nil _ _ _ _ _, Kd.R_nil _ _ _ _ _, Kd.R_nil _ _ _ _ _⟩
theorem DM.lower {w : World} {base base' R : Nat} {P : Option Addr} {cp : Nat} {ps : List PCod.S47} {E : Option Addr} {ce : Nat} {es : List PCod.S63} {F : Option Addr} {cf : Nat} {fs : List PCod.S65} {B : Option Addr} {cb : Nat} {bs : List PCod.S50} (h : DM w base R P cp ps E ce es F cf fs B cb bs) (hb : base' ≤ base) : DM w base' R P cp ps E ce es F cf fs B cb bs := ⟨Kd.R_lower h.p hb, Kd.R_lower h.e hb, Kd.R_lower h.f hb, Kd.R_lower h.b hb⟩
def decOf (s : ByteArray) : CodPlain.D × Int × Int × Int := CodPlain.decR s (openB s).1 (openB s).2
def DecPost (s : ByteArray) (w : World) (e : Ending) (w' : World) : Prop := ∃ (per dl : Int) (P : Option Addr) (cp : Nat) (ps : List PCod.S47) (E : Option Addr) (ce : Nat) (es : List PCod.S63) (F : Option Addr) (cf : Nat) (fs : List PCod.S65) (B : Option Addr) (cb : Nat) (bs : List PCod.S50) (ev : Value), e = .returned (.tuple #[.agg #[.int .i64 per, .int .i64 dl, .slice P ps.length cp, .slice E es.length ce, .slice F fs.length cf, .slice B bs.length cb], ev]) ∧ dOf per dl ps es fs bs = (decOf s).1 ∧ (∃ R, DM w' w.heap.size R P cp ps E ce es F cf fs B cb bs) ∧ WrongAt ev (decOf s).2.1 (decOf s).2.2.1 (decOf s).2.2.2 w' ∧ Below w.heap.size w w'
theorem prefix_f (b : ByteArray) (h : 4 ≤ b.size) : PCod.strings_HasPrefix.f b ⟨#[100, 97, 103, 49]⟩ = some (decide (b.data.toList.take 4 = CodPlain.magicL)) := by
 have hs : (⟨#[100, 97, 103, 49]⟩ : ByteArray).size = 4 := rfl
 unfold PCod.strings_HasPrefix.f PCod.stringslite_HasPrefix.f
 rw [hs, if_pos (by omega), if_pos (by omega), if_pos (by omega), Option.bind_some]
 show some ((b.extract 0 4).toList == _) = _
 rw [take_pfx b h]
theorem open_size {s b : ByteArray} (h : openB s = (b, true)) : b.size = s.size - 4 ∧ 4 ≤ s.size := by
 unfold openB at h
 split at h
 ·cases h
 ·rename_i h4
  split at h
  ·injection h with h1 _
   rw [← h1]
   simp; omega
  ·cases h
theorem short_of {d : CodPlain.D} (h : CodPlain.Short d) {per dl : Int} {ps : List PCod.S47} {es : List PCod.S63} {fs : List PCod.S65} {bs : List PCod.S50} (e : dOf per dl ps es fs bs = d) : ShortD ps es fs bs := by
 subst e
 obtain ⟨h1, h2, h3, h4, h5⟩ := h
 unfold dOf at h1 h2 h3 h4 h5
 rw [List.length_map] at h1 h2 h3 h4
 refine ⟨⟨by omega, by omega, by omega, by omega⟩, fun b hb => ?_⟩
 have := h5 (tB b) (List.mem_map_of_mem hb)
 exact ⟨Nat.le_trans this.1 (by decide), Nat.le_trans this.2 (by decide)⟩
set_option maxRecDepth 100000 in
set_option maxHeartbeats 4000000 in
theorem dec_short (s : ByteArray) (w : World) (hs : s.size ≤ 1000) (h21 : s.size < 21) :
  Calls Tryz.prog 26 #[.string s] w (DecPost s w) := by
 have HD : Hid (decOf s = (CodPlain.noD, 0, (s.size : Int), 60)) := by show _ = _; unfold decOf CodPlain.decR; rw [if_pos h21]
 have h21' : (s.size : Int) < 21 := by omega
 have HZZ := Lib.hid (blk_alloc (blk_new w (.cells #[.int .i64 0, .int .i64 0, .slice none 0 0, .slice none 0 0, .slice none 0 0, .slice none 0 0] 27)) (.cells #[.int .i64 0, .int .i64 s.size, .iface 30 (.int .i64 60)] 85))
 have fr : ∀ i, ((w.alloc (.cells #[.int .i64 0, .int .i64 0, .slice none 0 0, .slice none 0 0, .slice none 0 0, .slice none 0 0] 27)).alloc (.cells #[.int .i64 0, .int .i64 s.size, .iface 30 (.int .i64 60)] 85)).frozen? ⟨w.heap.size, i, none⟩ = false := fun i => blk_frozen HZZ.out i
 have c0 : ((w.alloc (.cells #[.int .i64 0, .int .i64 0, .slice none 0 0, .slice none 0 0, .slice none 0 0, .slice none 0 0] 27)).alloc (.cells #[.int .i64 0, .int .i64 s.size, .iface 30 (.int .i64 60)] 85)).cell? ⟨w.heap.size, 0, none⟩ = some (.int .i64 0) := (blk_cell HZZ.out 0).trans rfl
 have c1 : ((w.alloc (.cells #[.int .i64 0, .int .i64 0, .slice none 0 0, .slice none 0 0, .slice none 0 0, .slice none 0 0] 27)).alloc (.cells #[.int .i64 0, .int .i64 s.size, .iface 30 (.int .i64 60)] 85)).cell? ⟨w.heap.size, 1, none⟩ = some (.int .i64 0) := (blk_cell HZZ.out 1).trans rfl
 have c2 : ((w.alloc (.cells #[.int .i64 0, .int .i64 0, .slice none 0 0, .slice none 0 0, .slice none 0 0, .slice none 0 0] 27)).alloc (.cells #[.int .i64 0, .int .i64 s.size, .iface 30 (.int .i64 60)] 85)).cell? ⟨w.heap.size, 2, none⟩ = some (.slice none 0 0) := (blk_cell HZZ.out 2).trans rfl
 have c3 : ((w.alloc (.cells #[.int .i64 0, .int .i64 0, .slice none 0 0, .slice none 0 0, .slice none 0 0, .slice none 0 0] 27)).alloc (.cells #[.int .i64 0, .int .i64 s.size, .iface 30 (.int .i64 60)] 85)).cell? ⟨w.heap.size, 3, none⟩ = some (.slice none 0 0) := (blk_cell HZZ.out 3).trans rfl
 have c4 : ((w.alloc (.cells #[.int .i64 0, .int .i64 0, .slice none 0 0, .slice none 0 0, .slice none 0 0, .slice none 0 0] 27)).alloc (.cells #[.int .i64 0, .int .i64 s.size, .iface 30 (.int .i64 60)] 85)).cell? ⟨w.heap.size, 4, none⟩ = some (.slice none 0 0) := (blk_cell HZZ.out 4).trans rfl
 have c5 : ((w.alloc (.cells #[.int .i64 0, .int .i64 0, .slice none 0 0, .slice none 0 0, .slice none 0 0, .slice none 0 0] 27)).alloc (.cells #[.int .i64 0, .int .i64 s.size, .iface 30 (.int .i64 60)] 85)).cell? ⟨w.heap.size, 5, none⟩ = some (.slice none 0 0) := (blk_cell HZZ.out 5).trans rfl
 go_enter Tryz.func26, Tryz.ntmps26
 go_wp2_with fail
 have z0' := HZZ.out
 have k0 := (by have := blk_new (w.alloc (.cells #[.int .i64 0, .int .i64 0, .slice none 0 0, .slice none 0 0, .slice none 0 0, .slice none 0 0] 27)) (.cells #[.int .i64 0, .int .i64 s.size, .iface 30 (.int .i64 60)] 85); rwa [World.size_alloc] at this : ((w.alloc (.cells #[.int .i64 0, .int .i64 0, .slice none 0 0, .slice none 0 0, .slice none 0 0, .slice none 0 0] 27)).alloc (.cells #[.int .i64 0, .int .i64 s.size, .iface 30 (.int .i64 60)] 85)).heap[w.heap.size + 1]? = some (.cells #[.int .i64 0, .int .i64 s.size, .iface 30 (.int .i64 60)] 85))
 refine bodyPost_ret (results_ct rfl _ _ w.heap.size 27 #[.int .i64 0, .int .i64 0, .slice none 0 0, .slice none 0 0, .slice none 0 0, .slice none 0 0] (0, 0) _ rfl z0' Tryz.underlying27 rfl (by kernel_rfl)) rfl ?_
 exact ⟨0, 0, none, 0, [], none, 0, [], none, 0, [], none, 0, [], _, rfl, by rw [HD.out]; rfl, ⟨0, dm_nil _ _ _⟩, by rw [HD.out]; exact wrong_mk (by dsimp only; decide) k0, (((Below.refl _ _).alloc (Nat.le_refl _) _).alloc (by simp) _)⟩
set_option maxRecDepth 100000 in
set_option maxHeartbeats 16000000 in
theorem dec_long (s : ByteArray) (w : World) (hs : s.size ≤ 1000) (h21 : ¬ s.size < 21) (hd : DbAt w) (ht : TabAt w) :
  Calls Tryz.prog 26 #[.string s] w (DecPost s w) := by
 have h21' : ¬ (s.size : Int) < 21 := by omega
 have HD1 : Hid (decOf s = if (openB s).2 = false then (CodPlain.noD, (s.size : Int) - 4, (s.size : Int), 61) else CodPlain.decR s (openB s).1 true) := by
  show _ = _
  unfold decOf
  cases (openB s).2 with
  | true => rw [if_neg (by simp)]
  | false => unfold CodPlain.decR; rw [if_neg h21, if_pos rfl, if_pos rfl]
 have CO := Lib.hid (fun w1 h => open_any s w1 hs h)
 have HOP : Hid (∀ b, openB s = (b, true) → b.size = s.size - 4 ∧ 4 ≤ s.size) := fun b h => open_size h
 have HDB := Lib.hid hd
 have HTB := Lib.hid ht
 have hw4 : wrap64 ((s.size : Int) - 4) = (s.size : Int) - 4 := wrap_in (by omega)
 clear hd ht
 obtain ⟨b, hb⟩ : ∃ b, b = (openB s).1 := ⟨_, rfl⟩
 obtain ⟨ok, hok⟩ : ∃ b, b = (openB s).2 := ⟨_, rfl⟩
 rw [← hb, ← hok] at HD1 CO
 have HOK : Hid (openB s = (b, ok)) := by rw [hb, hok]; rfl
 clear hb hok
 go_enter Tryz.func26, Tryz.ntmps26
 go_wp2_with fail
 refine (CO.out _ (HTB.out.below (below_alloc' _ _))).mono ?_
 rintro e w2 ⟨rfl, hb2⟩
 have HZ2 := Lib.hid (blk_below (blk_new w (.cells #[.int .i64 0, .int .i64 0, .slice none 0 0, .slice none 0 0, .slice none 0 0, .slice none 0 0] 27)) hb2)
 have HB2 := Lib.hid ((below_alloc' w (.cells #[.int .i64 0, .int .i64 0, .slice none 0 0, .slice none 0 0, .slice none 0 0, .slice none 0 0] 27)).trans (hb2.mono (by simp)))
 have hz2 : w.heap.size < w2.heap.size := blk_lt HZ2.out
 clear hb2
 cases ok with
 | false =>
  have HD : Hid (decOf s = (CodPlain.noD, (s.size : Int) - 4, (s.size : Int), 61)) := by show _ = _; rw [HD1.out, if_pos rfl]
  have HZZ := Lib.hid (blk_alloc HZ2.out (.cells #[.int .i64 ((s.size : Int) - 4), .int .i64 s.size, .iface 30 (.int .i64 61)] 85))
  have fr : ∀ i, (w2.alloc (.cells #[.int .i64 ((s.size : Int) - 4), .int .i64 s.size, .iface 30 (.int .i64 61)] 85)).frozen? ⟨w.heap.size, i, none⟩ = false := fun i => blk_frozen HZZ.out i
  have c0 : (w2.alloc (.cells #[.int .i64 ((s.size : Int) - 4), .int .i64 s.size, .iface 30 (.int .i64 61)] 85)).cell? ⟨w.heap.size, 0, none⟩ = some (.int .i64 0) := (blk_cell HZZ.out 0).trans rfl
  have c1 : (w2.alloc (.cells #[.int .i64 ((s.size : Int) - 4), .int .i64 s.size, .iface 30 (.int .i64 61)] 85)).cell? ⟨w.heap.size, 1, none⟩ = some (.int .i64 0) := (blk_cell HZZ.out 1).trans rfl
  have c2 : (w2.alloc (.cells #[.int .i64 ((s.size : Int) - 4), .int .i64 s.size, .iface 30 (.int .i64 61)] 85)).cell? ⟨w.heap.size, 2, none⟩ = some (.slice none 0 0) := (blk_cell HZZ.out 2).trans rfl
  have c3 : (w2.alloc (.cells #[.int .i64 ((s.size : Int) - 4), .int .i64 s.size, .iface 30 (.int .i64 61)] 85)).cell? ⟨w.heap.size, 3, none⟩ = some (.slice none 0 0) := (blk_cell HZZ.out 3).trans rfl
  have c4 : (w2.alloc (.cells #[.int .i64 ((s.size : Int) - 4), .int .i64 s.size, .iface 30 (.int .i64 61)] 85)).cell? ⟨w.heap.size, 4, none⟩ = some (.slice none 0 0) := (blk_cell HZZ.out 4).trans rfl
  have c5 : (w2.alloc (.cells #[.int .i64 ((s.size : Int) - 4), .int .i64 s.size, .iface 30 (.int .i64 61)] 85)).cell? ⟨w.heap.size, 5, none⟩ = some (.slice none 0 0) := (blk_cell HZZ.out 5).trans rfl
  have HLT := Lib.hid hz2
  clear hz2
  go_wp2_with fail
  have z0' := HZZ.out
  have k0 := (blk_new w2 (.cells #[.int .i64 ((s.size : Int) - 4), .int .i64 s.size, .iface 30 (.int .i64 61)] 85))
  have z1' := blk_set z0' 0 (.int .i64 0)
  have k1 := blk_far (p := ⟨w.heap.size, 0, none⟩) k0 (by show w2.heap.size ≠ w.heap.size; have := HLT.out; omega) (.int .i64 0)
  have z2' := blk_set z1' 1 (.int .i64 0)
  have k2 := blk_far (p := ⟨w.heap.size, 1, none⟩) k1 (by show w2.heap.size ≠ w.heap.size; have := HLT.out; omega) (.int .i64 0)
  have z3' := blk_set z2' 2 (.slice none 0 0)
  have k3 := blk_far (p := ⟨w.heap.size, 2, none⟩) k2 (by show w2.heap.size ≠ w.heap.size; have := HLT.out; omega) (.slice none 0 0)
  have z4' := blk_set z3' 3 (.slice none 0 0)
  have k4 := blk_far (p := ⟨w.heap.size, 3, none⟩) k3 (by show w2.heap.size ≠ w.heap.size; have := HLT.out; omega) (.slice none 0 0)
  have z5' := blk_set z4' 4 (.slice none 0 0)
  have k5 := blk_far (p := ⟨w.heap.size, 4, none⟩) k4 (by show w2.heap.size ≠ w.heap.size; have := HLT.out; omega) (.slice none 0 0)
  have z6' := blk_set z5' 5 (.slice none 0 0)
  have k6 := blk_far (p := ⟨w.heap.size, 5, none⟩) k5 (by show w2.heap.size ≠ w.heap.size; have := HLT.out; omega) (.slice none 0 0)
  refine bodyPost_ret (results_ct rfl _ _ w.heap.size 27 #[.int .i64 0, .int .i64 0, .slice none 0 0, .slice none 0 0, .slice none 0 0, .slice none 0 0] (0, 0) _ rfl z6' Tryz.underlying27 rfl (by kernel_rfl)) rfl ?_
  exact ⟨0, 0, none, 0, [], none, 0, [], none, 0, [], none, 0, [], _, rfl, by rw [HD.out]; rfl, ⟨0, dm_nil _ _ _⟩, by rw [HD.out]; exact wrong_mk (by dsimp only; decide) k6, (((((((HB2.out.alloc (by have := HLT.out; omega) (.cells #[.int .i64 ((s.size : Int) - 4), .int .i64 s.size, .iface 30 (.int .i64 61)] 85)).setCell (p := ⟨w.heap.size, 0, none⟩) (Nat.le_refl _) (.int .i64 0)).setCell (p := ⟨w.heap.size, 1, none⟩) (Nat.le_refl _) (.int .i64 0)).setCell (p := ⟨w.heap.size, 2, none⟩) (Nat.le_refl _) (.slice none 0 0)).setCell (p := ⟨w.heap.size, 3, none⟩) (Nat.le_refl _) (.slice none 0 0)).setCell (p := ⟨w.heap.size, 4, none⟩) (Nat.le_refl _) (.slice none 0 0)).setCell (p := ⟨w.heap.size, 5, none⟩) (Nat.le_refl _) (.slice none 0 0))⟩
 | true =>
  obtain ⟨hbs, h4s⟩ := HOP.out b HOK.out
  have hb17 : 17 ≤ b.size := by omega
  have hb1000 : b.size ≤ 1000 := by omega
  have HBS := Lib.hid hbs
  clear hbs
  have HD2 : Hid (decOf s = CodPlain.decR s b true) := by show _ = _; rw [HD1.out, if_neg (by simp)]
  have CH := Lib.hid (fun w1 => PCod.strings_HasPrefix.calls b ⟨#[100, 97, 103, 49]⟩ _ w1 (prefix_f b (by omega)))
  clear HD1 HOP HOK CO
  go_wp2_with fail
  refine (CH.out _).mono ?_
  rintro e w3 ⟨rfl, ⟨nq, rfl⟩⟩
  have HZ3 : Hid ((w2.drewN nq).heap[w.heap.size]? = some (.cells #[.int .i64 0, .int .i64 0, .slice none 0 0, .slice none 0 0, .slice none 0 0, .slice none 0 0] 27)) := HZ2.out
  have HB3 := Lib.hid (pw_below_drewN HB2.out nq)
  have hz3 : w.heap.size < (w2.drewN nq).heap.size := blk_lt HZ3.out
  clear HZ2 HB2 CH hz2
  generalize w2.drewN nq = w3 at *
  by_cases hm : b.data.toList.take 4 = CodPlain.magicL
  ·have hmb : decide (b.data.toList.take 4 = CodPlain.magicL) = true := decide_eq_true hm
   have HM := Lib.hid hm
   rw [hmb]
   clear hm hmb
   have hix : 4 < b.size := by omega
   have hixI : (4 : Int) < (b.size : Int) := by omega
   have hg4 : b.data.toList.getD 4 0 = b[4]'hix := by
    rw [List.getD_eq_getElem?_getD, List.getElem?_eq_getElem (by simpa using hix)]; rfl
   have HD3 : Hid (decOf s = if (b[4]'hix) ≠ 1 then (CodPlain.noD, 4, 5, 63) else (let r := CodPlain.bodyS b (5, false); if r.2.2 = true then (CodPlain.noD, (r.2.1 : Int), (b.size : Int), 64) else if r.2.1 < b.size then (CodPlain.noD, (r.2.1 : Int), (b.size : Int), 65) else if CodPlain.checkD r.1 ≠ 0 then (CodPlain.noD, 5, (b.size : Int), CodPlain.checkD r.1) else (r.1, 0, 0, 0))) := by
    show _ = _
    rw [HD2.out]
    unfold CodPlain.decR
    rw [if_neg h21, if_neg (by simp), if_neg (by rw [HM.out]; simp), hg4]
   have HLT := Lib.hid hz3
   clear HD2 HM hg4 hz3
   by_cases hv : (b[4]'hix) = 1
   ·have hvb : (((b[4]'hix).toNat : Int) != 1) = false := by rw [hv]; rfl
    have HD4 : Hid (decOf s = (let r := CodPlain.bodyS b (5, false); if r.2.2 = true then (CodPlain.noD, (r.2.1 : Int), (b.size : Int), 64) else if r.2.1 < b.size then (CodPlain.noD, (r.2.1 : Int), (b.size : Int), 65) else if CodPlain.checkD r.1 ≠ 0 then (CodPlain.noD, 5, (b.size : Int), CodPlain.checkD r.1) else (r.1, 0, 0, 0))) := by show _ = _; rw [HD3.out, if_neg (by rw [hv]; simp)]
    clear HD3 hv
    have HRD : Hid (RdAt w3.heap.size b (5, false) (w3.alloc (.cells #[.string b, .int .i64 5, .nilIface] 116))) := ⟨.nilIface, blk_new _ _, rfl⟩
    go_wp2_with fail
    refine (body_any w3.heap.size b (5, false) (w3.alloc (.cells #[.string b, .int .i64 5, .nilIface] 116)) hb1000 HRD.out).mono ?_
    rintro e w4 ⟨per, dl, P, cp, ps, E, ce, es, F, cf, fs, B, cb, bs, rfl, hdof, hdm, hrd, hkp⟩
    have hshort := short_of (CodPlain.body_short b (5, false)) hdof
    have hd4 := HD4.out
    generalize CodPlain.bodyS b (5, false) = r at *
    obtain ⟨d, n, stp⟩ := r
    replace hd4 : decOf s = (if stp = true then (CodPlain.noD, (n : Int), (b.size : Int), 64) else if n < b.size then (CodPlain.noD, (n : Int), (b.size : Int), 65) else if CodPlain.checkD d ≠ 0 then (CodPlain.noD, 5, (b.size : Int), CodPlain.checkD d) else (d, 0, 0, 0)) := hd4
    replace hdof : dOf per dl ps es fs bs = d := hdof
    replace hrd : RdAt w3.heap.size b (n, stp) w4 := hrd
    have HD5 := Lib.hid hd4
    have HDOF := Lib.hid hdof
    have HDM4 := Lib.hid hdm
    have HRD4 := Lib.hid hrd
    have HSH := Lib.hid hshort
    have hne3 : w.heap.size ≠ w3.heap.size := by have := HLT.out; omega
    have HNE3 := Lib.hid hne3
    have HZ4 := Lib.hid (hkp.blk (blk_alloc HZ3.out _) hne3)
    have HB4 := Lib.hid ((HB3.out.alloc (by have := HLT.out; omega) (.cells #[.string b, .int .i64 5, .nilIface] 116)).trans (hkp.below (B := w.heap.size) (by have := HLT.out; omega) (by have := HLT.out; rw [World.size_alloc]; omega)))
    have HS3 : Hid (w.heap.size < (w3.alloc (.cells #[.string b, .int .i64 5, .nilIface] 116)).heap.size) := by show _ < _; have := HLT.out; rw [World.size_alloc]; omega
    clear HRD hd4 hdof hdm hrd hkp hshort HD4 HZ3 HB3 hvb hne3
    obtain ⟨base, hbase⟩ : ∃ x, x = (w3.alloc (.cells #[.string b, .int .i64 5, .nilIface] 116)).heap.size := ⟨_, rfl⟩
    rw [← hbase] at HDM4 HS3
    clear hbase
    go_upto_region 12 with fail
    have HZ5 := Lib.hid (blk_alloc HZ4.out (.cells #[.int .i64 per, .int .i64 dl, .slice P ps.length cp, .slice E es.length ce, .slice F fs.length cf, .slice B bs.length cb] 27))
    have HDB5 := Lib.hid (blk_new w4 (.cells #[.int .i64 per, .int .i64 dl, .slice P ps.length cp, .slice E es.length ce, .slice F fs.length cf, .slice B bs.length cb] 27))
    have HRD5 := Lib.hid (HRD4.out.below (below_alloc' w4 (.cells #[.int .i64 per, .int .i64 dl, .slice P ps.length cp, .slice E es.length ce, .slice F fs.length cf, .slice B bs.length cb] 27)))
    have HDM5 := Lib.hid (HDM4.out.keep (KeepR.of (below_alloc' w4 (.cells #[.int .i64 per, .int .i64 dl, .slice P ps.length cp, .slice E es.length ce, .slice F fs.length cf, .slice B bs.length cb] 27))))
    have HB5 := Lib.hid (HB4.out.trans ((below_alloc' w4 (.cells #[.int .i64 per, .int .i64 dl, .slice P ps.length cp, .slice E es.length ce, .slice F fs.length cf, .slice B bs.length cb] 27)).mono HB4.out.size))
    have HL4 : Hid (w.heap.size ≠ w4.heap.size) := by show _ ≠ _; have := blk_lt HZ4.out; omega
    have HL4b : Hid (w3.heap.size ≠ w4.heap.size) := by show _ ≠ _; have := HRD4.out.lt; omega
    clear HZ4 HB4 HRD4 HDM4
    generalize w4.alloc (.cells #[.int .i64 per, .int .i64 dl, .slice P ps.length cp, .slice E es.length ce, .slice F fs.length cf, .slice B bs.length cb] 27) = w5 at *
    obtain ⟨ev, hev, herr⟩ := HRD5.out
    have HEV := Lib.hid hev
    have rd1 : w5.cell? ⟨w3.heap.size, 1, none⟩ = some (.int .i64 n) := (blk_cell hev 1).trans rfl
    have rd2 : w5.cell? ⟨w3.heap.size, 2, none⟩ = some ev := (blk_cell hev 2).trans rfl
    clear hev
    cases stp with
    | true =>
     obtain ⟨k, rfl, hk1, hk2⟩ := (show ∃ k, ev = .iface 81 (.pointer (some ⟨k, 0, none⟩)) ∧ k ≠ w3.heap.size ∧ w5.heap[k]? = some (.cells #[.int .i64 n, .int .i64 b.size, .iface 30 (.int .i64 64)] 85 (0, 0)) from herr)
     have HD : Hid (decOf s = (CodPlain.noD, (n : Int), (b.size : Int), 64)) := by show _ = _; rw [HD5.out, if_pos rfl]
     have HK := Lib.hid hk2
     have HKNE : Hid (k ≠ w.heap.size) := blk_ne hk2 HZ5.out (by decide)
     clear hk1 hk2 herr HD5
     have fr : ∀ i, w5.frozen? ⟨w.heap.size, i, none⟩ = false := fun i => blk_frozen HZ5.out i
     have c0 : w5.cell? ⟨w.heap.size, 0, none⟩ = some (.int .i64 0) := (blk_cell HZ5.out 0).trans rfl
     have c1 : w5.cell? ⟨w.heap.size, 1, none⟩ = some (.int .i64 0) := (blk_cell HZ5.out 1).trans rfl
     have c2 : w5.cell? ⟨w.heap.size, 2, none⟩ = some (.slice none 0 0) := (blk_cell HZ5.out 2).trans rfl
     have c3 : w5.cell? ⟨w.heap.size, 3, none⟩ = some (.slice none 0 0) := (blk_cell HZ5.out 3).trans rfl
     have c4 : w5.cell? ⟨w.heap.size, 4, none⟩ = some (.slice none 0 0) := (blk_cell HZ5.out 4).trans rfl
     have c5 : w5.cell? ⟨w.heap.size, 5, none⟩ = some (.slice none 0 0) := (blk_cell HZ5.out 5).trans rfl
     go_wp2_with fail
     have hq1 : w3.heap.size ≠ w.heap.size := HNE3.out.symm
     have hq2 : w.heap.size ≠ w3.heap.size := HNE3.out
     go_region
     all_goals (go_wp2_with fail)
     all_goals (
      have z0' := HZ5.out
      have k0 := HK.out
      have z1' := blk_set z0' 0 (.int .i64 0)
      have k1 := blk_far (p := ⟨w.heap.size, 0, none⟩) k0 (by show k ≠ w.heap.size; exact HKNE.out) (.int .i64 0)
      have z2' := blk_set z1' 1 (.int .i64 0)
      have k2 := blk_far (p := ⟨w.heap.size, 1, none⟩) k1 (by show k ≠ w.heap.size; exact HKNE.out) (.int .i64 0)
      have z3' := blk_set z2' 2 (.slice none 0 0)
      have k3 := blk_far (p := ⟨w.heap.size, 2, none⟩) k2 (by show k ≠ w.heap.size; exact HKNE.out) (.slice none 0 0)
      have z4' := blk_set z3' 3 (.slice none 0 0)
      have k4 := blk_far (p := ⟨w.heap.size, 3, none⟩) k3 (by show k ≠ w.heap.size; exact HKNE.out) (.slice none 0 0)
      have z5' := blk_set z4' 4 (.slice none 0 0)
      have k5 := blk_far (p := ⟨w.heap.size, 4, none⟩) k4 (by show k ≠ w.heap.size; exact HKNE.out) (.slice none 0 0)
      have z6' := blk_set z5' 5 (.slice none 0 0)
      have k6 := blk_far (p := ⟨w.heap.size, 5, none⟩) k5 (by show k ≠ w.heap.size; exact HKNE.out) (.slice none 0 0)
      have z6d := drew_blk z6'
      have k6d := drew_blk k6
      refine bodyPost_ret (results_ct rfl _ _ w.heap.size 27 #[.int .i64 0, .int .i64 0, .slice none 0 0, .slice none 0 0, .slice none 0 0, .slice none 0 0] (0, 0) _ rfl z6d Tryz.underlying27 rfl (by kernel_rfl)) rfl ?_
      exact ⟨0, 0, none, 0, [], none, 0, [], none, 0, [], none, 0, [], _, rfl, by rw [HD.out]; rfl, ⟨0, dm_nil _ _ _⟩, by rw [HD.out]; exact wrong_mk (by dsimp only; decide) k6d, ((((((HB5.out.setCell (p := ⟨w.heap.size, 0, none⟩) (Nat.le_refl _) (.int .i64 0)).setCell (p := ⟨w.heap.size, 1, none⟩) (Nat.le_refl _) (.int .i64 0)).setCell (p := ⟨w.heap.size, 2, none⟩) (Nat.le_refl _) (.slice none 0 0)).setCell (p := ⟨w.heap.size, 3, none⟩) (Nat.le_refl _) (.slice none 0 0)).setCell (p := ⟨w.heap.size, 4, none⟩) (Nat.le_refl _) (.slice none 0 0)).setCell (p := ⟨w.heap.size, 5, none⟩) (Nat.le_refl _) (.slice none 0 0)).drew⟩)
    | false =>
     have he : ev = .nilIface := herr
     subst he
     clear herr
     by_cases hn : n < b.size
     ·have HD : Hid (decOf s = (CodPlain.noD, (n : Int), (b.size : Int), 65)) := by show _ = _; rw [HD5.out, if_neg (by simp), if_pos hn]
      have hnI : (n : Int) < (b.size : Int) := by omega
      have HR65 := Lib.hid (blk_alloc HEV.out (.cells #[.int .i64 n, .int .i64 b.size, .iface 30 (.int .i64 65)] 85))
      have fz : ∀ i, (w5.alloc (.cells #[.int .i64 n, .int .i64 b.size, .iface 30 (.int .i64 65)] 85)).frozen? ⟨w3.heap.size, i, none⟩ = false := fun i => blk_frozen HR65.out i
      have rd2' : (w5.alloc (.cells #[.int .i64 n, .int .i64 b.size, .iface 30 (.int .i64 65)] 85)).cell? ⟨w3.heap.size, 2, none⟩ = some .nilIface := (blk_cell HR65.out 2).trans rfl
      have HK6 := Lib.hid (blk_far (p := ⟨w3.heap.size, 2, none⟩) (blk_new w5 (.cells #[.int .i64 n, .int .i64 b.size, .iface 30 (.int .i64 65)] 85)) (by show w5.heap.size ≠ w3.heap.size; have := HRD5.out.lt; omega) (.iface 81 (.pointer (some ⟨w5.heap.size, 0, none⟩))))
      have HZ6 := Lib.hid (blk_far (p := ⟨w3.heap.size, 2, none⟩) (blk_alloc HZ5.out (.cells #[.int .i64 n, .int .i64 b.size, .iface 30 (.int .i64 65)] 85)) (by show w.heap.size ≠ w3.heap.size; exact HNE3.out) (.iface 81 (.pointer (some ⟨w5.heap.size, 0, none⟩))))
      have HR6 := Lib.hid (blk_set HR65.out 2 (.iface 81 (.pointer (some ⟨w5.heap.size, 0, none⟩))))
      have HB6 := Lib.hid ((HB5.out.alloc (by have := blk_lt HZ5.out; omega) (.cells #[.int .i64 n, .int .i64 b.size, .iface 30 (.int .i64 65)] 85)).setCell (p := ⟨w3.heap.size, 2, none⟩) (by have := HLT.out; show w.heap.size ≤ w3.heap.size; omega) (.iface 81 (.pointer (some ⟨w5.heap.size, 0, none⟩))))
      have HKNE : Hid (w5.heap.size ≠ w.heap.size) := by show _ ≠ _; have := blk_lt HZ5.out; omega
      clear HD5
      go_upto_region 15 with fail
      generalize (w5.alloc (.cells #[.int .i64 n, .int .i64 b.size, .iface 30 (.int .i64 65)] 85)).setCell ⟨w3.heap.size, 2, none⟩ (.iface 81 (.pointer (some ⟨w5.heap.size, 0, none⟩))) = w6 at *
      have rd6 : w6.cell? ⟨w3.heap.size, 2, none⟩ = some (.iface 81 (.pointer (some ⟨w5.heap.size, 0, none⟩))) := (blk_cell HR6.out 2).trans rfl
      have fr : ∀ i, w6.frozen? ⟨w.heap.size, i, none⟩ = false := fun i => blk_frozen HZ6.out i
      have c0 : w6.cell? ⟨w.heap.size, 0, none⟩ = some (.int .i64 0) := (blk_cell HZ6.out 0).trans rfl
      have c1 : w6.cell? ⟨w.heap.size, 1, none⟩ = some (.int .i64 0) := (blk_cell HZ6.out 1).trans rfl
      have c2 : w6.cell? ⟨w.heap.size, 2, none⟩ = some (.slice none 0 0) := (blk_cell HZ6.out 2).trans rfl
      have c3 : w6.cell? ⟨w.heap.size, 3, none⟩ = some (.slice none 0 0) := (blk_cell HZ6.out 3).trans rfl
      have c4 : w6.cell? ⟨w.heap.size, 4, none⟩ = some (.slice none 0 0) := (blk_cell HZ6.out 4).trans rfl
      have c5 : w6.cell? ⟨w.heap.size, 5, none⟩ = some (.slice none 0 0) := (blk_cell HZ6.out 5).trans rfl
      clear rd1 rd2 rd2' fz HR65
      have hq1 : w3.heap.size ≠ w.heap.size := HNE3.out.symm
      have hq2 : w.heap.size ≠ w3.heap.size := HNE3.out
      go_region
      all_goals (go_wp2_with fail)
      all_goals (
       have z0' := HZ6.out
       have k0 := HK6.out
       have z1' := blk_set z0' 0 (.int .i64 0)
       have k1 := blk_far (p := ⟨w.heap.size, 0, none⟩) k0 (by show w5.heap.size ≠ w.heap.size; exact HKNE.out) (.int .i64 0)
       have z2' := blk_set z1' 1 (.int .i64 0)
       have k2 := blk_far (p := ⟨w.heap.size, 1, none⟩) k1 (by show w5.heap.size ≠ w.heap.size; exact HKNE.out) (.int .i64 0)
       have z3' := blk_set z2' 2 (.slice none 0 0)
       have k3 := blk_far (p := ⟨w.heap.size, 2, none⟩) k2 (by show w5.heap.size ≠ w.heap.size; exact HKNE.out) (.slice none 0 0)
       have z4' := blk_set z3' 3 (.slice none 0 0)
       have k4 := blk_far (p := ⟨w.heap.size, 3, none⟩) k3 (by show w5.heap.size ≠ w.heap.size; exact HKNE.out) (.slice none 0 0)
       have z5' := blk_set z4' 4 (.slice none 0 0)
       have k5 := blk_far (p := ⟨w.heap.size, 4, none⟩) k4 (by show w5.heap.size ≠ w.heap.size; exact HKNE.out) (.slice none 0 0)
       have z6' := blk_set z5' 5 (.slice none 0 0)
       have k6 := blk_far (p := ⟨w.heap.size, 5, none⟩) k5 (by show w5.heap.size ≠ w.heap.size; exact HKNE.out) (.slice none 0 0)
       have z6d := drew_blk z6'
       have k6d := drew_blk k6
       refine bodyPost_ret (results_ct rfl _ _ w.heap.size 27 #[.int .i64 0, .int .i64 0, .slice none 0 0, .slice none 0 0, .slice none 0 0, .slice none 0 0] (0, 0) _ rfl z6d Tryz.underlying27 rfl (by kernel_rfl)) rfl ?_
       exact ⟨0, 0, none, 0, [], none, 0, [], none, 0, [], none, 0, [], _, rfl, by rw [HD.out]; rfl, ⟨0, dm_nil _ _ _⟩, by rw [HD.out]; exact wrong_mk (by dsimp only; decide) k6d, ((((((HB6.out.setCell (p := ⟨w.heap.size, 0, none⟩) (Nat.le_refl _) (.int .i64 0)).setCell (p := ⟨w.heap.size, 1, none⟩) (Nat.le_refl _) (.int .i64 0)).setCell (p := ⟨w.heap.size, 2, none⟩) (Nat.le_refl _) (.slice none 0 0)).setCell (p := ⟨w.heap.size, 3, none⟩) (Nat.le_refl _) (.slice none 0 0)).setCell (p := ⟨w.heap.size, 4, none⟩) (Nat.le_refl _) (.slice none 0 0)).setCell (p := ⟨w.heap.size, 5, none⟩) (Nat.le_refl _) (.slice none 0 0)).drew⟩)
     ·have hnI : ¬ (n : Int) < (b.size : Int) := by omega
      have HD6 : Hid (decOf s = if CodPlain.checkD d ≠ 0 then (CodPlain.noD, 5, (b.size : Int), CodPlain.checkD d) else (d, 0, 0, 0)) := by show _ = _; rw [HD5.out, if_neg (by simp), if_neg hn]
      have hdof2 := HDOF.out
      subst hdof2
      clear HD5 HDOF
      have YS : True := trivial
      have y0 : w5.cell? ⟨w4.heap.size, 0, none⟩ = some (.int .i64 per) := (blk_cell HDB5.out 0).trans rfl
      have y1 : w5.cell? ⟨w4.heap.size, 1, none⟩ = some (.int .i64 dl) := (blk_cell HDB5.out 1).trans rfl
      have y2 : w5.cell? ⟨w4.heap.size, 2, none⟩ = some (.slice P ps.length cp) := (blk_cell HDB5.out 2).trans rfl
      have y3 : w5.cell? ⟨w4.heap.size, 3, none⟩ = some (.slice E es.length ce) := (blk_cell HDB5.out 3).trans rfl
      have y4 : w5.cell? ⟨w4.heap.size, 4, none⟩ = some (.slice F fs.length cf) := (blk_cell HDB5.out 4).trans rfl
      have y5 : w5.cell? ⟨w4.heap.size, 5, none⟩ = some (.slice B bs.length cb) := (blk_cell HDB5.out 5).trans rfl
      go_wp2_with fail
      refine (check_any per dl P cp ps E ce es F cf fs B cb bs w5 HSH.out.1 HSH.out.2 (HDB.out.below HB5.out) HDM5.out.dr).mono ?_
      rintro e w6 ⟨rfl, hb6⟩
      have HZ6 := Lib.hid (blk_below HZ5.out hb6)
      have HDB6 := Lib.hid (blk_below HDB5.out hb6)
      have HDM6 := Lib.hid (HDM5.out.keep (KeepR.of hb6))
      have HB6 := Lib.hid (HB5.out.trans (hb6.mono HB5.out.size))
      clear hb6 rd1 rd2 HZ5 HDB5 HDM5 HB5 HRD5 HEV y0 y1 y2 y3 y4 y5 YS
      by_cases hc : CodPlain.checkD (dOf per dl ps es fs bs) = 0
      ·have HD : Hid (decOf s = (dOf per dl ps es fs bs, 0, 0, 0)) := by show _ = _; rw [HD6.out, if_neg (by simp [hc])]
       rw [hc]
       clear hc HD6
       have fr : ∀ i, w6.frozen? ⟨w.heap.size, i, none⟩ = false := fun i => blk_frozen HZ6.out i
       have c0 : w6.cell? ⟨w.heap.size, 0, none⟩ = some (.int .i64 0) := (blk_cell HZ6.out 0).trans rfl
       have c1 : w6.cell? ⟨w.heap.size, 1, none⟩ = some (.int .i64 0) := (blk_cell HZ6.out 1).trans rfl
       have c2 : w6.cell? ⟨w.heap.size, 2, none⟩ = some (.slice none 0 0) := (blk_cell HZ6.out 2).trans rfl
       have c3 : w6.cell? ⟨w.heap.size, 3, none⟩ = some (.slice none 0 0) := (blk_cell HZ6.out 3).trans rfl
       have c4 : w6.cell? ⟨w.heap.size, 4, none⟩ = some (.slice none 0 0) := (blk_cell HZ6.out 4).trans rfl
       have c5 : w6.cell? ⟨w.heap.size, 5, none⟩ = some (.slice none 0 0) := (blk_cell HZ6.out 5).trans rfl
       have y0 : w6.cell? ⟨w4.heap.size, 0, none⟩ = some (.int .i64 per) := (blk_cell HDB6.out 0).trans rfl
       have y1 : w6.cell? ⟨w4.heap.size, 1, none⟩ = some (.int .i64 dl) := (blk_cell HDB6.out 1).trans rfl
       have y2 : w6.cell? ⟨w4.heap.size, 2, none⟩ = some (.slice P ps.length cp) := (blk_cell HDB6.out 2).trans rfl
       have y3 : w6.cell? ⟨w4.heap.size, 3, none⟩ = some (.slice E es.length ce) := (blk_cell HDB6.out 3).trans rfl
       have y4 : w6.cell? ⟨w4.heap.size, 4, none⟩ = some (.slice F fs.length cf) := (blk_cell HDB6.out 4).trans rfl
       have y5 : w6.cell? ⟨w4.heap.size, 5, none⟩ = some (.slice B bs.length cb) := (blk_cell HDB6.out 5).trans rfl
       go_wp2_with fail
       have z0' := HZ6.out
       have m0 := HDM6.out
       have z1' := blk_set z0' 0 (.int .i64 per)
       have m1 := m0.old (g := w.heap.size) HS3.out 0 (.int .i64 per)
       have z2' := blk_set z1' 1 (.int .i64 dl)
       have m2 := m1.old (g := w.heap.size) HS3.out 1 (.int .i64 dl)
       have z3' := blk_set z2' 2 (.slice P ps.length cp)
       have m3 := m2.old (g := w.heap.size) HS3.out 2 (.slice P ps.length cp)
       have z4' := blk_set z3' 3 (.slice E es.length ce)
       have m4 := m3.old (g := w.heap.size) HS3.out 3 (.slice E es.length ce)
       have z5' := blk_set z4' 4 (.slice F fs.length cf)
       have m5 := m4.old (g := w.heap.size) HS3.out 4 (.slice F fs.length cf)
       have z6' := blk_set z5' 5 (.slice B bs.length cb)
       have m6 := m5.old (g := w.heap.size) HS3.out 5 (.slice B bs.length cb)
       refine bodyPost_ret (results_ct rfl _ _ w.heap.size 27 #[.int .i64 per, .int .i64 dl, .slice P ps.length cp, .slice E es.length ce, .slice F fs.length cf, .slice B bs.length cb] (0, 0) _ rfl z6' Tryz.underlying27 rfl (by kernel_rfl)) rfl ?_
       exact ⟨per, dl, P, cp, ps, E, ce, es, F, cf, fs, B, cb, bs, _, rfl, by rw [HD.out], ⟨w3.heap.size, m6.lower (Nat.le_of_lt HS3.out)⟩, by rw [HD.out]; rfl, ((((((HB6.out.setCell (p := ⟨w.heap.size, 0, none⟩) (Nat.le_refl _) (.int .i64 per)).setCell (p := ⟨w.heap.size, 1, none⟩) (Nat.le_refl _) (.int .i64 dl)).setCell (p := ⟨w.heap.size, 2, none⟩) (Nat.le_refl _) (.slice P ps.length cp)).setCell (p := ⟨w.heap.size, 3, none⟩) (Nat.le_refl _) (.slice E es.length ce)).setCell (p := ⟨w.heap.size, 4, none⟩) (Nat.le_refl _) (.slice F fs.length cf)).setCell (p := ⟨w.heap.size, 5, none⟩) (Nat.le_refl _) (.slice B bs.length cb))⟩
      ·have HD : Hid (decOf s = (CodPlain.noD, 5, (b.size : Int), CodPlain.checkD (dOf per dl ps es fs bs))) := by show _ = _; rw [HD6.out, if_pos hc]
       have hzb : (CodPlain.checkD (dOf per dl ps es fs bs) != 0) = true := by simpa using hc
       have HNZ := Lib.hid hc
       clear hc HD6 HSH
       generalize CodPlain.checkD (dOf per dl ps es fs bs) = er at *
       have HZZ := Lib.hid (blk_alloc HZ6.out (.cells #[.int .i64 5, .int .i64 b.size, .iface 30 (.int .i64 er)] 85))
       have HLT6 : Hid (w.heap.size < w6.heap.size) := blk_lt HZ6.out
       have fr : ∀ i, (w6.alloc (.cells #[.int .i64 5, .int .i64 b.size, .iface 30 (.int .i64 er)] 85)).frozen? ⟨w.heap.size, i, none⟩ = false := fun i => blk_frozen HZZ.out i
       have c0 : (w6.alloc (.cells #[.int .i64 5, .int .i64 b.size, .iface 30 (.int .i64 er)] 85)).cell? ⟨w.heap.size, 0, none⟩ = some (.int .i64 0) := (blk_cell HZZ.out 0).trans rfl
       have c1 : (w6.alloc (.cells #[.int .i64 5, .int .i64 b.size, .iface 30 (.int .i64 er)] 85)).cell? ⟨w.heap.size, 1, none⟩ = some (.int .i64 0) := (blk_cell HZZ.out 1).trans rfl
       have c2 : (w6.alloc (.cells #[.int .i64 5, .int .i64 b.size, .iface 30 (.int .i64 er)] 85)).cell? ⟨w.heap.size, 2, none⟩ = some (.slice none 0 0) := (blk_cell HZZ.out 2).trans rfl
       have c3 : (w6.alloc (.cells #[.int .i64 5, .int .i64 b.size, .iface 30 (.int .i64 er)] 85)).cell? ⟨w.heap.size, 3, none⟩ = some (.slice none 0 0) := (blk_cell HZZ.out 3).trans rfl
       have c4 : (w6.alloc (.cells #[.int .i64 5, .int .i64 b.size, .iface 30 (.int .i64 er)] 85)).cell? ⟨w.heap.size, 4, none⟩ = some (.slice none 0 0) := (blk_cell HZZ.out 4).trans rfl
       have c5 : (w6.alloc (.cells #[.int .i64 5, .int .i64 b.size, .iface 30 (.int .i64 er)] 85)).cell? ⟨w.heap.size, 5, none⟩ = some (.slice none 0 0) := (blk_cell HZZ.out 5).trans rfl
       go_wp2_with fail
       have z0' := HZZ.out
       have k0 := (blk_new w6 (.cells #[.int .i64 5, .int .i64 b.size, .iface 30 (.int .i64 er)] 85))
       have z1' := blk_set z0' 0 (.int .i64 0)
       have k1 := blk_far (p := ⟨w.heap.size, 0, none⟩) k0 (by show w6.heap.size ≠ w.heap.size; have := HLT6.out; omega) (.int .i64 0)
       have z2' := blk_set z1' 1 (.int .i64 0)
       have k2 := blk_far (p := ⟨w.heap.size, 1, none⟩) k1 (by show w6.heap.size ≠ w.heap.size; have := HLT6.out; omega) (.int .i64 0)
       have z3' := blk_set z2' 2 (.slice none 0 0)
       have k3 := blk_far (p := ⟨w.heap.size, 2, none⟩) k2 (by show w6.heap.size ≠ w.heap.size; have := HLT6.out; omega) (.slice none 0 0)
       have z4' := blk_set z3' 3 (.slice none 0 0)
       have k4 := blk_far (p := ⟨w.heap.size, 3, none⟩) k3 (by show w6.heap.size ≠ w.heap.size; have := HLT6.out; omega) (.slice none 0 0)
       have z5' := blk_set z4' 4 (.slice none 0 0)
       have k5 := blk_far (p := ⟨w.heap.size, 4, none⟩) k4 (by show w6.heap.size ≠ w.heap.size; have := HLT6.out; omega) (.slice none 0 0)
       have z6' := blk_set z5' 5 (.slice none 0 0)
       have k6 := blk_far (p := ⟨w.heap.size, 5, none⟩) k5 (by show w6.heap.size ≠ w.heap.size; have := HLT6.out; omega) (.slice none 0 0)
       refine bodyPost_ret (results_ct rfl _ _ w.heap.size 27 #[.int .i64 0, .int .i64 0, .slice none 0 0, .slice none 0 0, .slice none 0 0, .slice none 0 0] (0, 0) _ rfl z6' Tryz.underlying27 rfl (by kernel_rfl)) rfl ?_
       exact ⟨0, 0, none, 0, [], none, 0, [], none, 0, [], none, 0, [], _, rfl, by rw [HD.out]; rfl, ⟨0, dm_nil _ _ _⟩, by rw [HD.out]; exact wrong_mk HNZ.out k6, (((((((HB6.out.alloc (by have := HLT6.out; omega) (.cells #[.int .i64 5, .int .i64 b.size, .iface 30 (.int .i64 er)] 85)).setCell (p := ⟨w.heap.size, 0, none⟩) (Nat.le_refl _) (.int .i64 0)).setCell (p := ⟨w.heap.size, 1, none⟩) (Nat.le_refl _) (.int .i64 0)).setCell (p := ⟨w.heap.size, 2, none⟩) (Nat.le_refl _) (.slice none 0 0)).setCell (p := ⟨w.heap.size, 3, none⟩) (Nat.le_refl _) (.slice none 0 0)).setCell (p := ⟨w.heap.size, 4, none⟩) (Nat.le_refl _) (.slice none 0 0)).setCell (p := ⟨w.heap.size, 5, none⟩) (Nat.le_refl _) (.slice none 0 0))⟩
   ·have hvb : (((b[4]'hix).toNat : Int) != 1) = true := by
     have : (b[4]'hix).toNat ≠ 1 := fun e => hv (by apply UInt8.toNat_inj.1; rw [e]; rfl)
     have h2 : ((b[4]'hix).toNat : Int) ≠ 1 := by omega
     simpa using h2
    have HD : Hid (decOf s = (CodPlain.noD, 4, 5, 63)) := by show _ = _; rw [HD3.out, if_pos hv]
    clear hv HD3
    have HZZ := Lib.hid (blk_alloc HZ3.out (.cells #[.int .i64 4, .int .i64 5, .iface 30 (.int .i64 63)] 85))
    have fr : ∀ i, (w3.alloc (.cells #[.int .i64 4, .int .i64 5, .iface 30 (.int .i64 63)] 85)).frozen? ⟨w.heap.size, i, none⟩ = false := fun i => blk_frozen HZZ.out i
    have c0 : (w3.alloc (.cells #[.int .i64 4, .int .i64 5, .iface 30 (.int .i64 63)] 85)).cell? ⟨w.heap.size, 0, none⟩ = some (.int .i64 0) := (blk_cell HZZ.out 0).trans rfl
    have c1 : (w3.alloc (.cells #[.int .i64 4, .int .i64 5, .iface 30 (.int .i64 63)] 85)).cell? ⟨w.heap.size, 1, none⟩ = some (.int .i64 0) := (blk_cell HZZ.out 1).trans rfl
    have c2 : (w3.alloc (.cells #[.int .i64 4, .int .i64 5, .iface 30 (.int .i64 63)] 85)).cell? ⟨w.heap.size, 2, none⟩ = some (.slice none 0 0) := (blk_cell HZZ.out 2).trans rfl
    have c3 : (w3.alloc (.cells #[.int .i64 4, .int .i64 5, .iface 30 (.int .i64 63)] 85)).cell? ⟨w.heap.size, 3, none⟩ = some (.slice none 0 0) := (blk_cell HZZ.out 3).trans rfl
    have c4 : (w3.alloc (.cells #[.int .i64 4, .int .i64 5, .iface 30 (.int .i64 63)] 85)).cell? ⟨w.heap.size, 4, none⟩ = some (.slice none 0 0) := (blk_cell HZZ.out 4).trans rfl
    have c5 : (w3.alloc (.cells #[.int .i64 4, .int .i64 5, .iface 30 (.int .i64 63)] 85)).cell? ⟨w.heap.size, 5, none⟩ = some (.slice none 0 0) := (blk_cell HZZ.out 5).trans rfl
    go_wp2_with fail
    have z0' := HZZ.out
    have k0 := (blk_new w3 (.cells #[.int .i64 4, .int .i64 5, .iface 30 (.int .i64 63)] 85))
    have z1' := blk_set z0' 0 (.int .i64 0)
    have k1 := blk_far (p := ⟨w.heap.size, 0, none⟩) k0 (by show w3.heap.size ≠ w.heap.size; have := HLT.out; omega) (.int .i64 0)
    have z2' := blk_set z1' 1 (.int .i64 0)
    have k2 := blk_far (p := ⟨w.heap.size, 1, none⟩) k1 (by show w3.heap.size ≠ w.heap.size; have := HLT.out; omega) (.int .i64 0)
    have z3' := blk_set z2' 2 (.slice none 0 0)
    have k3 := blk_far (p := ⟨w.heap.size, 2, none⟩) k2 (by show w3.heap.size ≠ w.heap.size; have := HLT.out; omega) (.slice none 0 0)
    have z4' := blk_set z3' 3 (.slice none 0 0)
    have k4 := blk_far (p := ⟨w.heap.size, 3, none⟩) k3 (by show w3.heap.size ≠ w.heap.size; have := HLT.out; omega) (.slice none 0 0)
    have z5' := blk_set z4' 4 (.slice none 0 0)
    have k5 := blk_far (p := ⟨w.heap.size, 4, none⟩) k4 (by show w3.heap.size ≠ w.heap.size; have := HLT.out; omega) (.slice none 0 0)
    have z6' := blk_set z5' 5 (.slice none 0 0)
    have k6 := blk_far (p := ⟨w.heap.size, 5, none⟩) k5 (by show w3.heap.size ≠ w.heap.size; have := HLT.out; omega) (.slice none 0 0)
    refine bodyPost_ret (results_ct rfl _ _ w.heap.size 27 #[.int .i64 0, .int .i64 0, .slice none 0 0, .slice none 0 0, .slice none 0 0, .slice none 0 0] (0, 0) _ rfl z6' Tryz.underlying27 rfl (by kernel_rfl)) rfl ?_
    exact ⟨0, 0, none, 0, [], none, 0, [], none, 0, [], none, 0, [], _, rfl, by rw [HD.out]; rfl, ⟨0, dm_nil _ _ _⟩, by rw [HD.out]; exact wrong_mk (by dsimp only; decide) k6, (((((((HB3.out.alloc (by have := HLT.out; omega) (.cells #[.int .i64 4, .int .i64 5, .iface 30 (.int .i64 63)] 85)).setCell (p := ⟨w.heap.size, 0, none⟩) (Nat.le_refl _) (.int .i64 0)).setCell (p := ⟨w.heap.size, 1, none⟩) (Nat.le_refl _) (.int .i64 0)).setCell (p := ⟨w.heap.size, 2, none⟩) (Nat.le_refl _) (.slice none 0 0)).setCell (p := ⟨w.heap.size, 3, none⟩) (Nat.le_refl _) (.slice none 0 0)).setCell (p := ⟨w.heap.size, 4, none⟩) (Nat.le_refl _) (.slice none 0 0)).setCell (p := ⟨w.heap.size, 5, none⟩) (Nat.le_refl _) (.slice none 0 0))⟩
  ·have HD : Hid (decOf s = (CodPlain.noD, 0, 4, 62)) := by show _ = _; rw [HD2.out]; unfold CodPlain.decR; rw [if_neg h21, if_neg (by simp), if_pos hm]
   have hmb : decide (b.data.toList.take 4 = CodPlain.magicL) = false := decide_eq_false hm
   rw [hmb]
   clear hm hmb
   have HZZ := Lib.hid (blk_alloc HZ3.out (.cells #[.int .i64 0, .int .i64 4, .iface 30 (.int .i64 62)] 85))
   have fr : ∀ i, (w3.alloc (.cells #[.int .i64 0, .int .i64 4, .iface 30 (.int .i64 62)] 85)).frozen? ⟨w.heap.size, i, none⟩ = false := fun i => blk_frozen HZZ.out i
   have c0 : (w3.alloc (.cells #[.int .i64 0, .int .i64 4, .iface 30 (.int .i64 62)] 85)).cell? ⟨w.heap.size, 0, none⟩ = some (.int .i64 0) := (blk_cell HZZ.out 0).trans rfl
   have c1 : (w3.alloc (.cells #[.int .i64 0, .int .i64 4, .iface 30 (.int .i64 62)] 85)).cell? ⟨w.heap.size, 1, none⟩ = some (.int .i64 0) := (blk_cell HZZ.out 1).trans rfl
   have c2 : (w3.alloc (.cells #[.int .i64 0, .int .i64 4, .iface 30 (.int .i64 62)] 85)).cell? ⟨w.heap.size, 2, none⟩ = some (.slice none 0 0) := (blk_cell HZZ.out 2).trans rfl
   have c3 : (w3.alloc (.cells #[.int .i64 0, .int .i64 4, .iface 30 (.int .i64 62)] 85)).cell? ⟨w.heap.size, 3, none⟩ = some (.slice none 0 0) := (blk_cell HZZ.out 3).trans rfl
   have c4 : (w3.alloc (.cells #[.int .i64 0, .int .i64 4, .iface 30 (.int .i64 62)] 85)).cell? ⟨w.heap.size, 4, none⟩ = some (.slice none 0 0) := (blk_cell HZZ.out 4).trans rfl
   have c5 : (w3.alloc (.cells #[.int .i64 0, .int .i64 4, .iface 30 (.int .i64 62)] 85)).cell? ⟨w.heap.size, 5, none⟩ = some (.slice none 0 0) := (blk_cell HZZ.out 5).trans rfl
   have HLT := Lib.hid hz3
   clear hz3
   go_wp2_with fail
   have z0' := HZZ.out
   have k0 := (blk_new w3 (.cells #[.int .i64 0, .int .i64 4, .iface 30 (.int .i64 62)] 85))
   have z1' := blk_set z0' 0 (.int .i64 0)
   have k1 := blk_far (p := ⟨w.heap.size, 0, none⟩) k0 (by show w3.heap.size ≠ w.heap.size; have := HLT.out; omega) (.int .i64 0)
   have z2' := blk_set z1' 1 (.int .i64 0)
   have k2 := blk_far (p := ⟨w.heap.size, 1, none⟩) k1 (by show w3.heap.size ≠ w.heap.size; have := HLT.out; omega) (.int .i64 0)
   have z3' := blk_set z2' 2 (.slice none 0 0)
   have k3 := blk_far (p := ⟨w.heap.size, 2, none⟩) k2 (by show w3.heap.size ≠ w.heap.size; have := HLT.out; omega) (.slice none 0 0)
   have z4' := blk_set z3' 3 (.slice none 0 0)
   have k4 := blk_far (p := ⟨w.heap.size, 3, none⟩) k3 (by show w3.heap.size ≠ w.heap.size; have := HLT.out; omega) (.slice none 0 0)
   have z5' := blk_set z4' 4 (.slice none 0 0)
   have k5 := blk_far (p := ⟨w.heap.size, 4, none⟩) k4 (by show w3.heap.size ≠ w.heap.size; have := HLT.out; omega) (.slice none 0 0)
   have z6' := blk_set z5' 5 (.slice none 0 0)
   have k6 := blk_far (p := ⟨w.heap.size, 5, none⟩) k5 (by show w3.heap.size ≠ w.heap.size; have := HLT.out; omega) (.slice none 0 0)
   refine bodyPost_ret (results_ct rfl _ _ w.heap.size 27 #[.int .i64 0, .int .i64 0, .slice none 0 0, .slice none 0 0, .slice none 0 0, .slice none 0 0] (0, 0) _ rfl z6' Tryz.underlying27 rfl (by kernel_rfl)) rfl ?_
   exact ⟨0, 0, none, 0, [], none, 0, [], none, 0, [], none, 0, [], _, rfl, by rw [HD.out]; rfl, ⟨0, dm_nil _ _ _⟩, by rw [HD.out]; exact wrong_mk (by dsimp only; decide) k6, (((((((HB3.out.alloc (by have := HLT.out; omega) (.cells #[.int .i64 0, .int .i64 4, .iface 30 (.int .i64 62)] 85)).setCell (p := ⟨w.heap.size, 0, none⟩) (Nat.le_refl _) (.int .i64 0)).setCell (p := ⟨w.heap.size, 1, none⟩) (Nat.le_refl _) (.int .i64 0)).setCell (p := ⟨w.heap.size, 2, none⟩) (Nat.le_refl _) (.slice none 0 0)).setCell (p := ⟨w.heap.size, 3, none⟩) (Nat.le_refl _) (.slice none 0 0)).setCell (p := ⟨w.heap.size, 4, none⟩) (Nat.le_refl _) (.slice none 0 0)).setCell (p := ⟨w.heap.size, 5, none⟩) (Nat.le_refl _) (.slice none 0 0))⟩
theorem decode_any (s : ByteArray) (w : World) (hs : s.size ≤ 1000) (hd : DbAt w) (ht : TabAt w) : Calls Tryz.prog 26 #[.string s] w (DecPost s w) := by
 by_cases h : s.size < 21
 ·exact dec_short s w hs h
 ·exact dec_long s w hs h hd ht
end Go.Proofs.YtokhibhmlninnaaGreatDoor
