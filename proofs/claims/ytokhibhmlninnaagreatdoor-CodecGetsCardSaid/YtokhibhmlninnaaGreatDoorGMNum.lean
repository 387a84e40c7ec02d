/- Texts of this work, put into one. -/
import Derived.Test.YtokhibhmlninnaaGreatDoorGMEnc
import Derived.Test.YtokhibhmlninnaaGreatDoorGMWire
import Derived.Lib.QuietBelow
import Derived.Deep.QuietTactic
import Derived.BigQuiet
set_option linter.unusedVariables false
set_option linter.unusedSimpArgs false
namespace Go.Proofs.YtokhibhmlninnaaGreatDoor
open Go.RowKit Go.Sort Go.Proofs.YtokhibhmlninnaaGreatDoorW.PrintWords
open WirePlain
structure KeepR (R : Nat) (w w' : World) : Prop where
 os : w'.os = w.os
 tape : w'.tape = w.tape
 output : w'.output = w.output
 size : w.heap.size ≤ w'.heap.size
 block : ∀ k, k < w.heap.size → k ≠ R → w'.heap[k]? = w.heap[k]?
theorem KeepR.refl (R : Nat) (w : World) : KeepR R w w := ⟨rfl, rfl, rfl, Nat.le_refl _, fun _ _ _ => rfl⟩
theorem KeepR.trans {R : Nat} {a b c : World} (h : KeepR R a b) (k : KeepR R b c) : KeepR R a c :=
 ⟨k.os.trans h.os, k.tape.trans h.tape, k.output.trans h.output, Nat.le_trans h.size k.size, fun i hi hr => (k.block i (Nat.lt_of_lt_of_le hi h.size) hr).trans (h.block i hi hr)⟩
theorem KeepR.of {R : Nat} {w w' : World} (h : Below w.heap.size w w') : KeepR R w w' := ⟨h.os, h.tape, h.output, h.size, fun k hk _ => h.block k hk⟩
theorem KeepR.set {R : Nat} (w : World) (i : Nat) (u : Value) : KeepR R w (w.setCell ⟨R, i, none⟩ u) := ⟨rfl, rfl, rfl, by simp [World.setCell], fun k _ hr => Below.heap_setCell w ⟨R, i, none⟩ u k hr⟩
theorem KeepR.below {R B : Nat} {w w' : World} (h : KeepR R w w') (hB : B ≤ R) (hw : B ≤ w.heap.size) : Below B w w' := ⟨h.os, h.tape, h.output, h.size, fun k hk => h.block k (by omega) (by omega)⟩
theorem KeepR.blk {R g : Nat} {w w' : World} {o : Obj} (h : KeepR R w w') (hb : w.heap[g]? = some o) (hr : g ≠ R) : w'.heap[g]? = some o := (h.block g (blk_lt hb) hr).trans hb
def ErrAt (R : Nat) (s : ByteArray) (st : CodPlain.St) (ev : Value) (w : World) : Prop :=
 if st.2 = true then ∃ b, ev = .iface 81 (.pointer (some ⟨b, 0, none⟩)) ∧ b ≠ R ∧ w.heap[b]? = some (.cells #[.int .i64 st.1, .int .i64 s.size, .iface 30 (.int .i64 64)] 85 (0, 0))
 else ev = .nilIface
def RdAt (R : Nat) (s : ByteArray) (st : CodPlain.St) (w : World) : Prop := ∃ ev, w.heap[R]? = some (.cells #[.string s, .int .i64 st.1, ev] 116 (0, 0)) ∧ ErrAt R s st ev w
theorem RdAt.lt {R : Nat} {s : ByteArray} {st : CodPlain.St} {w : World} (h : RdAt R s st w) : R < w.heap.size := by
 obtain ⟨ev, h1, _⟩ := h
 exact blk_lt h1
theorem ErrAt.keep {R : Nat} {s : ByteArray} {st : CodPlain.St} {ev : Value} {w w' : World} (h : ErrAt R s st ev w) (hk : KeepR R w w') : ErrAt R s st ev w' := by
 unfold ErrAt at h ⊢
 split
 ·rename_i h2
  rw [if_pos h2] at h
  obtain ⟨b, h1, h3, h4⟩ := h
  exact ⟨b, h1, h3, hk.blk h4 h3⟩
 ·rename_i h2
  rw [if_neg h2] at h
  exact h
theorem RdAt.below {R : Nat} {s : ByteArray} {st : CodPlain.St} {w w' : World} (h : RdAt R s st w) (hb : Below w.heap.size w w') : RdAt R s st w' := by
 obtain ⟨ev, h1, h2⟩ := h
 exact ⟨ev, blk_below h1 hb, h2.keep (KeepR.of hb)⟩
set_option maxRecDepth 100000 in
set_option maxHeartbeats 4000000 in
theorem number_any (R : Nat) (s : ByteArray) (st : CodPlain.St) (k : Nat) (w : World) (hs : s.size ≤ 1000) (hk8 : k ≤ 8) (hr : RdAt R s st w) :
  Calls Tryz.prog 88 #[.pointer (some ⟨R, 0, none⟩), .int .i64 k] w fun e w' => e = .returned (.int .i64 (CodPlain.numS s k st).1) ∧ RdAt R s (CodPlain.numS s k st).2 w' ∧ KeepR R w w' := by
 obtain ⟨at_, stp⟩ := st
 obtain ⟨g1, hg1⟩ : ∃ g, g = (getR s at_ k).1 := ⟨_, rfl⟩
 obtain ⟨g2, hg2⟩ : ∃ g, g = (getR s at_ k).2 := ⟨_, rfl⟩
 have HR := Lib.hid hr
 obtain ⟨ev, hev, herr⟩ := hr
 have HEV := Lib.hid hev
 have HERR := Lib.hid herr
 have hRlt := blk_lt hev
 have HNS : Hid (CodPlain.numS s k (at_, stp) = if stp = true then (0, (at_, stp)) else if g2 = 0 then (g1, (at_ + k, false)) else (0, (at_, true))) := by rw [hg1, hg2]; rfl
 have r0 : w.cell? ⟨R, 0, none⟩ = some (.string s) := (blk_cell hev 0).trans rfl
 have r1 : w.cell? ⟨R, 1, none⟩ = some (.int .i64 at_) := (blk_cell hev 1).trans rfl
 have CG : ∀ d' os', Calls Tryz.prog 104 #[.string s, .int .i64 at_, .int .i64 k] (grow (redrawn w d') os') _ := regrown_calls (w := w) (fun W hB => get_any s at_ k W (by unfold maxLen; omega))
 rw [← hg1, ← hg2] at CG
 have HAT : Hid (g2 = 0 → at_ + k ≤ 1000) := by
  show g2 = 0 → _
  intro h
  rw [hg2] at h
  unfold getR at h
  split at h
  ·split at h
   ·rename_i h3
    have := h3.2.2
    omega
   ·cases h
  ·cases h
 have hr0 := fun d' os' => cell_regrown r0 d' os'
 have hr1 := fun d' os' => cell_regrown r1 d' os'
 clear hev herr r0 r1 hg1 hg2 HR
 go_enter Tryz.func88, Tryz.ntmps88
 go_wp2_with fail
 refine wp_region_quiet_below (by kernel_rfl) (by kernel_rfl) ?_
 repeat (any_goals (first | go_big_quiet_step ((with_reducible (first | exact CG _ _))) | quiet_step ((with_reducible (first | exact CG _ _)))))
 refine wpQuiet_nil ?_
 rintro _ ⟨⟨dq, osq⟩, rfl⟩
 have HB1 := Lib.hid (below_regrown w dq osq)
 clear CG hr0 hr1
 generalize grow (redrawn w dq) osq = w1 at *
 have HEV1 := Lib.hid (blk_below HEV.out HB1.out)
 have HERR1 := Lib.hid (HERR.out.keep (KeepR.of HB1.out))
 have HK1 := Lib.hid (KeepR.of (R := R) HB1.out)
 have hR1 : R < w1.heap.size := by have := HB1.out.size; omega
 have c0 : w1.cell? ⟨R, 0, none⟩ = some (.string s) := (blk_cell HEV1.out 0).trans rfl
 have c1 : w1.cell? ⟨R, 1, none⟩ = some (.int .i64 at_) := (blk_cell HEV1.out 1).trans rfl
 have c2 : w1.cell? ⟨R, 2, none⟩ = some ev := (blk_cell HEV1.out 2).trans rfl
 clear HEV HERR HB1
 cases stp with
 | true =>
  have he := HERR1.out
  obtain ⟨b, rfl, hb1, hb2⟩ := he
  clear hb1 hb2
  have HN2 : Hid (CodPlain.numS s k (at_, true) = (0, (at_, true))) := by rw [HNS.out, if_pos rfl]; rfl
  clear HNS
  go_wp2_with fail
  go_ret
  rw [HN2.out]
  exact ⟨rfl, ⟨_, HEV1.out, HERR1.out⟩, HK1.out⟩
 | false =>
  have he : ev = .nilIface := HERR1.out
  subst he
  have HN1 : Hid (CodPlain.numS s k (at_, false) = if g2 = 0 then (g1, (at_ + k, false)) else (0, (at_, true))) := by rw [HNS.out, if_neg (by simp)]; rfl
  clear HNS
  by_cases hg : g2 = 0
  ·have HN2 : Hid (CodPlain.numS s k (at_, false) = (g1, (at_ + k, false))) := by rw [HN1.out, if_pos hg]; rfl
   have hle := HAT.out hg
   have hgb : (g2 != 0) = false := by simp [hg]
   have hgb2 : wrap64 ((at_ : Int) + (k : Int)) = ((at_ + k : Nat) : Int) := by rw [wrap_in (by omega)]; omega
   clear HN1 HAT
   subst hg
   have hfz : w1.frozen? ⟨R, 1, none⟩ = false := blk_frozen HEV1.out 1
   go_wp2_with fail
   go_ret
   rw [HN2.out, show ((at_ : Int) + (k : Int)) = ((at_ + k : Nat) : Int) from rfl]
   exact ⟨rfl, ⟨_, blk_set HEV1.out 1 _, rfl⟩, HK1.out.trans (KeepR.set w1 1 _)⟩
  ·have HN2 : Hid (CodPlain.numS s k (at_, false) = (0, (at_, true))) := by rw [HN1.out, if_neg hg]; rfl
   have hgb : (g2 != 0) = true := by simpa using hg
   have hfz : w1.frozen? ⟨R, 2, none⟩ = false := blk_frozen HEV1.out 2
   clear HN1 HAT
   go_wp2_with fail
   go_region
   go_wp2_with fail
   go_ret
   rw [HN2.out]
   have hsz : (w1.setCell ⟨R, 2, none⟩ (.iface 81 (.pointer (some ⟨w1.heap.size, 0, none⟩)))).heap.size = w1.heap.size := by simp [World.setCell]
   refine ⟨rfl, ⟨.iface 81 (.pointer (some ⟨w1.heap.size, 0, none⟩)), blk_alloc (blk_set HEV1.out 2 _) _, ⟨w1.heap.size, rfl, by omega, ?_⟩⟩, HK1.out.trans ((KeepR.set w1 2 (.iface 81 (.pointer (some ⟨w1.heap.size, 0, none⟩)))).trans (KeepR.of ?_))⟩
   ·show ((w1.setCell ⟨R, 2, none⟩ (.iface 81 (.pointer (some ⟨w1.heap.size, 0, none⟩)))).heap.push _)[w1.heap.size]? = _
    rw [Array.getElem?_push, if_pos hsz.symm]
   ·exact ((Below.refl _ _).alloc (Nat.le_refl _) _).drew
end Go.Proofs.YtokhibhmlninnaaGreatDoor
