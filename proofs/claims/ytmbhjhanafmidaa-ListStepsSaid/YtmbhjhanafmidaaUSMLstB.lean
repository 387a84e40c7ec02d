/- Texts of this work, put into one. -/
import Derived.Test.YtmbhjhanafmidaaUSMLstA
import Derived.Laws.Rows
import Derived.Test.YtmbhjhanafmidaaUSLstP
import Derived.Test.YtmbhjhanafmidaaUSMSchC
import Derived.Test.YtmbhjhanafmidaaUSMDagB
import Derived.Test.YtmbhjhanafmidaaUSMSchB
set_option linter.unusedVariables false
set_option linter.unusedSimpArgs false
namespace Go.Proofs.Ytmbhjhanafmidaa
open Go.RowKit Go.Sort
open DagPlain SchPlain LstPlain
open Go.Proofs.YtmbhjhanafmidaaW.PrintWords
theorem OI.reads {W : World} {base : Nat} {v : Value} {xs : List Int} (h : OI W base v xs) : ∃ A c, v = .slice A xs.length c ∧ xs.length ≤ c ∧ ReadsInt W .i64 A xs.length xs := own_reads_of_le (d := (0 : Int)) h
theorem OI.at_ {W : World} {base : Nat} {O : Option Addr} {n c : Nat} {xs : List Int} (h : OI W base (.slice O n c) xs) (hn : xs.length = n) (h0 : 0 < n) :
  ∃ g, O = some ⟨g, 0, none⟩ ∧ base ≤ g ∧ g < W.heap.size ∧ ∀ i : Nat, i < n → W.cell? ⟨g, i, none⟩ = some (.int .i64 (xs.getD i 0)) ∧ W.frozen? ⟨g, i, none⟩ = false := by
 have hR : Kd.R (Kd.int .i64) 3 W base (fun _ => True) (.slice O n c) xs := Kd.R_of_own h (fun _ _ => trivial)
 obtain ⟨g, cap, e, hb, hl, -⟩ := Kd.R_form hR (by omega)
 injection e with e1 e2 e3
 subst e1 e3
 refine ⟨g, rfl, hb, hl, fun i hi => ?_⟩
 have := Kd.R_celln (0 : Int) hR (i : Int) (by omega) (by omega)
 rw [Int.toNat_natCast] at this
 exact ⟨this.1, this.2⟩
theorem OI.set {W : World} {base g n c : Nat} {xs : List Int} (h : OI W base (.slice (some ⟨g, 0, none⟩) n c) xs) (i : Nat) (x : Int) : OI (W.setCell ⟨g, i, none⟩ (.int .i64 x)) base (.slice (some ⟨g, 0, none⟩) n c) (xs.set i x) := by
 have hR : Kd.R (Kd.int .i64) 3 W base (fun _ => True) (.slice (some ⟨g, 0, none⟩) n c) xs := Kd.R_of_own h (fun _ _ => trivial)
 have := Kd.own_of_R (Kd.R_putn hR (i : Int) x)
 rw [Int.toNat_natCast] at this
 exact this
theorem OI.far {W : World} {base : Nat} {v : Value} {xs : List Int} (h : OI W base v xs) (g i : Nat) (u : Value) (hne : v.ownBlock ≠ some g) : OI (W.setCell ⟨g, i, none⟩ u) base v xs :=
 own_move h (fun k hk => Below.heap_setCell W ⟨g, i, none⟩ u k (fun e => hne (by rw [hk, e])))
theorem OI.drew {W : World} {base : Nat} {v : Value} {xs : List Int} (h : OI W base v xs) : OI W.drew base v xs := own_move h (fun k _ => rfl)
structure CW (w0 W : World) (vO vL : Value) (on left : List Int) : Prop where
 o : OI W w0.heap.size vO on
 l : OI W w0.heap.size vL left
 ne : ∀ k, vO.ownBlock = some k → vL.ownBlock ≠ some k
 b : Below w0.heap.size w0 W
theorem CW.below {w0 W W' : World} {vO vL : Value} {on left : List Int} (h : CW w0 W vO vL on left) (hb : Below W.heap.size W W') : CW w0 W' vO vL on left :=
 ⟨h.o.below hb, h.l.below hb, h.ne, h.b.trans (hb.mono h.b.size)⟩
theorem CW.drew {w0 W : World} {vO vL : Value} {on left : List Int} (h : CW w0 W vO vL on left) : CW w0 W.drew vO vL on left := ⟨h.o.drew, h.l.drew, h.ne, h.b.trans ⟨rfl, rfl, rfl, Nat.le_refl _, fun _ _ => rfl⟩⟩
theorem CW.setO {w0 W : World} {g n c : Nat} {vL : Value} {on left : List Int} (h : CW w0 W (.slice (some ⟨g, 0, none⟩) n c) vL on left) (hg : w0.heap.size ≤ g) (i : Nat) (x : Int) : CW w0 (W.setCell ⟨g, i, none⟩ (.int .i64 x)) (.slice (some ⟨g, 0, none⟩) n c) vL (on.set i x) left :=
 ⟨h.o.set i x, h.l.far g i _ (h.ne g rfl), h.ne, h.b.setCell (p := ⟨g, i, none⟩) hg _⟩
theorem CW.setL {w0 W : World} {g n c : Nat} {vO : Value} {on left : List Int} (h : CW w0 W vO (.slice (some ⟨g, 0, none⟩) n c) on left) (hg : w0.heap.size ≤ g) (i : Nat) (x : Int) : CW w0 (W.setCell ⟨g, i, none⟩ (.int .i64 x)) vO (.slice (some ⟨g, 0, none⟩) n c) on (left.set i x) :=
 ⟨h.o.far g i _ (fun e => h.ne g e rfl), h.l.set i x, h.ne, h.b.setCell (p := ⟨g, i, none⟩) hg _⟩
theorem CW.cr {w0 W : World} {O : Option Addr} {no oc : Nat} {L : Option Addr} {nl lc : Nat} {on left : List Int} (h : CW w0 W (.slice O no oc) (.slice L nl lc) on left) (h1 : on.length = no) (h2 : left.length = nl) : CR W O oc on L lc left := by
 obtain ⟨A, c, e, hc, hr⟩ := h.o.reads
 injection e with e1 e2 e3
 subst e1 e3
 obtain ⟨A', c', e', hc', hr'⟩ := h.l.reads
 injection e' with e1 e2 e3
 subst e1 e3
 exact ⟨⟨hc, hr⟩, hc', hr'⟩
def RF (O : Option Addr) (W : World) (R : Option Addr) (r : List Int) : Prop := ReadsInt W .i64 R r.length r ∧ ∀ a b, R = some a → O = some b → a.block ≠ b.block
theorem RF.below {O : Option Addr} {W W' : World} {R : Option Addr} {r : List Int} (h : RF O W R r) (hb : Below W.heap.size W W') : RF O W' R r := ⟨h.1.below hb, h.2⟩
theorem RF.drew {O : Option Addr} {W : World} {R : Option Addr} {r : List Int} (h : RF O W R r) : RF O W.drew R r := h.below ⟨rfl, rfl, rfl, Nat.le_refl _, fun _ _ => rfl⟩
theorem RF.set {g : Nat} {W : World} {R : Option Addr} {r : List Int} (h : RF (some ⟨g, 0, none⟩) W R r) (i : Nat) (x : Value) : RF (some ⟨g, 0, none⟩) (W.setCell ⟨g, i, none⟩ x) R r :=
 ⟨(RX.set (g := g) ⟨h.1, fun a ha => h.2 a _ ha rfl⟩ i x).1, h.2⟩
theorem drop1 (ra : Addr) (n c : Nat) (h1 : 1 ≤ n) (hc : n ≤ c) : ∃ a' : Addr, (∀ W : World, (Instr.slice 22 (.slice (some ra) n c) (some (.int .i64 1)) none none).run Try.prog W = .ok (.slice (some a') (n - 1) (c - 1)) W) ∧ a'.block = ra.block ∧ (c ≠ 1 → a' = ra.add 1) := by
 obtain ⟨i0, hi, hz0, hz1, hz2⟩ := info_parts info3''
 have hel : Try.prog.elem 22 = 3 := by simp [Program.elem, Try.underlying22]
 have hu : Try.prog.underlying 22 = some (.slice (Try.prog.elem 22)) := by rw [hel]; exact Try.underlying22
 refine ⟨if c = 1 then ra else ra.add 1, fun W => ?_, ?_, fun h => by rw [if_neg h]⟩
 ·rw [run_slice_l W 22 (some ra) n c hu .i64 1 (by omega) (by omega), hel]
  by_cases h : c = 1
  ·subst h; simp [sizeOf, typeInfo, hi, hz1, sliced, Result.andThen]
  ·simp [sizeOf, typeInfo, hi, hz1, sliced, Result.andThen, h]
 ·split
  ·rfl
  ·unfold Addr.add; split <;> rfl
theorem RF.tail {O : Option Addr} {W : World} {ra a' : Addr} {y : Int} {r : List Int} {c : Nat} (h : RF O W (some ra) (y :: r)) (hc : (y :: r).length ≤ c) (hb : a'.block = ra.block) (he : c ≠ 1 → a' = ra.add 1) : RF O W (some a') r := by
 refine ⟨⟨rfl, by have := h.1.2.1; simp at this; omega, fun h0 => ⟨a', rfl, fun j hj => ?_⟩⟩, fun a b ha hO => ?_⟩
 ·obtain ⟨ad, e, hcs⟩ := h.1.2.2 (by simp)
  cases e
  have := hcs (j + 1) (by simp; omega)
  rw [he (by simp at hc; omega), Addr.add_add, Nat.add_comm]
  simpa using this
 ·cases ha
  rw [hb]
  exact h.2 ra b rfl hO
theorem BXL.set {p : Nat} {A : Option Addr} {n c : Nat} {B : Option Addr} {m d : Nat} {O : Option Addr} {no oc : Nat} {L : Option Addr} {nl lc : Nat} {W : World} (h : BXL p A n c B m d O no oc L nl lc W) {g : Nat} (i : Nat) (u : Value) (h1 : g ≠ p) (h2 : g ≠ p + 1) : BXL p A n c B m d O no oc L nl lc (W.setCell ⟨g, i, none⟩ u) :=
 ⟨⟨(set_far _ _ _ _ _ (Ne.symm h1)).trans h.1.1, (set_far _ _ _ _ _ (Ne.symm h1)).trans h.1.2⟩, (set_far _ _ _ _ _ (Ne.symm h2)).trans h.2.1, (set_far _ _ _ _ _ (Ne.symm h2)).trans h.2.2⟩
def fillK (r on : List Int) (k : Nat) : List Int × List Int := (List.range k).foldl fillS (on, r)
theorem fillK_next (r on : List Int) (k : Nat) : fillK r on (k + 1) = fillS (fillK r on k) k := by
 unfold fillK
 rw [List.range_succ, List.foldl_append]; rfl
theorem fillS_len (s : List Int × List Int) (c : Nat) : (fillS s c).1.length = s.1.length := by
 unfold fillS
 split
 ·split <;> simp
 ·rfl
theorem fillK_len (r on : List Int) : ∀ k, (fillK r on k).1.length = on.length
 | 0 => rfl
 | k + 1 => by rw [fillK_next, fillS_len]; exact fillK_len r on k
def Keep2 (v u : Value) (w w' : World) : Prop := w.heap.size ≤ w'.heap.size ∧ ∀ k, k < w.heap.size → v.ownBlock ≠ some k → u.ownBlock ≠ some k → w'.heap[k]? = w.heap[k]?
theorem Keep2.refl (v u : Value) (w : World) : Keep2 v u w w := ⟨Nat.le_refl _, fun _ _ _ _ => rfl⟩
theorem Keep2.below {v u : Value} {w W W' : World} (h : Keep2 v u w W) {b : Nat} (hb : Below b W W') (hbw : w.heap.size ≤ b) : Keep2 v u w W' := ⟨Nat.le_trans h.1 hb.size, fun k hk h1 h2 => (hb.block k (by omega)).trans (h.2 k hk h1 h2)⟩
theorem Keep2.drew {v u : Value} {w W : World} (h : Keep2 v u w W) : Keep2 v u w W.drew := ⟨h.1, h.2⟩
theorem Keep2.set1 {g n c : Nat} {u : Value} {w W : World} (h : Keep2 (.slice (some ⟨g, 0, none⟩) n c) u w W) (i : Nat) (x : Value) : Keep2 (.slice (some ⟨g, 0, none⟩) n c) u w (W.setCell ⟨g, i, none⟩ x) :=
 ⟨by rw [World.size_setCell]; exact h.1, fun k hk h1 h2 => (Below.heap_setCell W ⟨g, i, none⟩ x k (fun e => h1 (by rw [e]; rfl))).trans (h.2 k hk h1 h2)⟩
theorem Keep2.set2 {g n c : Nat} {v : Value} {w W : World} (h : Keep2 v (.slice (some ⟨g, 0, none⟩) n c) w W) (i : Nat) (x : Value) : Keep2 v (.slice (some ⟨g, 0, none⟩) n c) w (W.setCell ⟨g, i, none⟩ x) :=
 ⟨by rw [World.size_setCell]; exact h.1, fun k hk h1 h2 => (Below.heap_setCell W ⟨g, i, none⟩ x k (fun e => h2 (by rw [e]; rfl))).trans (h.2 k hk h1 h2)⟩
def FillPost (w0 : World) (vO vL : Value) (w : World) (on left : List Int) (e : Ending) (w' : World) : Prop := e = .returned (.tuple #[]) ∧ CW w0 w' vO vL on left ∧ Keep2 vO vL w w'
set_option maxRecDepth 100000 in
set_option maxHeartbeats 4000000 in
theorem fill_any (w0 : World) (A : Option Addr) (c : Nat) (l : List Int) (B : Option Addr) (d : Nat) (es : List (Int × Int)) (O : Option Addr) (oc : Nat) (on : List Int) (L : Option Addr) (lc : Nat) (left : List Int) (w : World) (h : CW w0 w (.slice O on.length oc) (.slice L left.length lc) on left) (hg : GR w0 A c l B d es) (hn : l.length ≤ 1000 ∧ es.length ≤ 1000) (ho : on.length ≤ 1000) (hlm : left.length ≤ 1000) (hes : ∀ e ∈ es, 0 ≤ e.1 ∧ e.1 < left.length) :
  Calls Try.prog 38 #[.agg #[.slice A l.length c, .slice B es.length d], .agg #[.slice O on.length oc, .slice L left.length lc]] w (FillPost w0 (.slice O on.length oc) (.slice L left.length lc) w (fillL (readyL es on left) on) left) := by
 have C := Lib.hid (fun w1 h1 h2 => ready_any A c l B d es O oc on L lc left w1 h1 h2 hn ho hlm hes)
 have hbx := boxes2 w A l.length c B es.length d O on.length oc L left.length lc 25 27
 have HG := Lib.hid ((hg.below h.b).below hbx.1)
 have HC := Lib.hid ((h.cr rfl rfl).below hbx.1)
 have HW := Lib.hid (h.below hbx.1)
 have HBA := Lib.hid hbx.1
 have HBX : Hid (BXL w.heap.size A l.length c B es.length d O on.length oc L left.length lc _) := hbx.2.2
 have HSZ := Lib.hid (show w.heap.size < _ from by have := hbx.2.1; exact (by rw [this]; omega : w.heap.size < ((w.alloc (Obj.cells #[Value.slice A l.length c, Value.slice B es.length d] 25)).alloc (Obj.cells #[Value.slice O on.length oc, Value.slice L left.length lc] 27)).heap.size))
 have HOB : Hid (∀ b, O = some b → b.block < w.heap.size) := fun b hb => own_lt h.o b.block (by rw [hb]; rfl)
 have HF : Hid (fillL (readyL es on left) on = (fillK (readyL es on left) on on.length).1) := rfl
 have hrl : (readyL es on left).length ≤ left.length := rTake_len es on left left.length
 generalize readyL es on left = r0 at *
 clear h hg hbx hes
 go_enter Try.func38, Try.ntmps38
 go_wp2_with fail
 generalize (w.alloc (Obj.cells #[Value.slice A l.length c, Value.slice B es.length d] 25)).alloc (Obj.cells #[Value.slice O on.length oc, Value.slice L left.length lc] 27) = W1 at *
 refine (C.out _ HG.out HC.out).mono ?_
 rintro e w2 ⟨v, rfl, hv, hb⟩
 have HW2 := Lib.hid (HW.out.below hb)
 have HKP0 : Hid (Keep2 (.slice O on.length oc) (.slice L left.length lc) w w2) := ((Keep2.refl _ _ w).below HBA.out (Nat.le_refl _)).below hb (by have := HBA.out.size; omega)
 have HBX2 := Lib.hid (HBX.out.below hb)
 obtain ⟨R, rc, rfl, hrc, hrr⟩ := hv.reads
 have HRF : Hid (RF O w2 R r0) := ⟨hrr, fun a b ha hO => by
  have h1 := own_base hv a.block (by rw [ha]; rfl)
  have h2 := HOB.out b hO
  have h3 := HSZ.out
  omega⟩
 have HRC := Lib.hid hrc
 clear hb hv hrr hrc HW HBX HG HC C
 obtain ⟨⟨hb1, hb2⟩, hb3, hb4⟩ := HBX2.out
 go_wp2_with fail
 clear hb1 hb2 hb3 hb4
 go_loopw [13, 4] (fun i v wr => ∃ (k : Nat) (R : Option Addr) (rc : Nat) (onk rk : List Int), k ≤ on.length ∧ i = .int .i64 k ∧ .slice R rk.length rc = v ∧ rk.length ≤ rc ∧ rk.length ≤ 1000 ∧ Hid (fillK r0 on k = (onk, rk)) ∧ Hid (CW w0 wr (.slice O on.length oc) (.slice L left.length lc) onk left) ∧ Hid (RF O wr R rk) ∧ Hid (Keep2 (.slice O on.length oc) (.slice L left.length lc) w wr) ∧ Hid (BXL w.heap.size A l.length c B es.length d O on.length oc L left.length lc wr)) (fun i _ _ => on.length - (intOf i).toNat)
 case atStart => exact ⟨0, R, rc, on, r0, Nat.zero_le _, rfl, rfl, HRC.out, by omega, rfl, HW2, HRF, HKP0, HBX2⟩
 case round =>
  clear HRF HW2 HBX2 HRC HKP0
  obtain ⟨k, R, rc, onk, rk, hk, rfl, rfl, hrc, hrk, HK, HW, HRF, HKP, HBX⟩ := hrel
  have hlen : onk.length = on.length := by have := fillK_len r0 on k; rw [HK.out] at this; exact this
  obtain ⟨⟨hb1, hb2⟩, hb3, hb4⟩ := HBX.out
  by_cases hlt : k < on.length
  ·obtain ⟨g, hO, hg1, hg2, hcs⟩ := HW.out.o.at_ hlen (by omega)
   subst hO
   obtain ⟨hok, hof⟩ := hcs k hlt
   have hgw : g < w.heap.size := HOB.out _ rfl
   have HNX := Lib.hid (fillK_next r0 on k)
   rw [HK.out] at HNX
   obtain ⟨x, hx⟩ : ∃ x, x = onk.getD k 0 := ⟨_, rfl⟩
   have HX := Lib.hid hx
   rw [← hx] at hok
   clear hcs hx
   by_cases x1 : x = -1
   ·subst x1
    cases rk with
    | nil =>
     have HK2 : Hid (fillK r0 on (k + 1) = (onk, [])) := by show _ = _; rw [HNX.out]; unfold fillS; rw [if_pos HX.out.symm]
     clear HNX HX HK
     go_wp2_with fail
     clear hb1 hb2 hb3 hb4 hof hok
     go_roundw
     case rel => exact ⟨k + 1, R, rc, onk, [], by omega, by go_num, rfl, hrc, hrk, HK2, HW, HRF, HKP, HBX⟩
     case measure => simp [intOf]; omega
    | cons y r =>
     have HK2 : Hid (fillK r0 on (k + 1) = (onk.set k y, r)) := by show _ = _; rw [HNX.out]; unfold fillS; rw [if_pos HX.out.symm]
     obtain ⟨ra, hR, hrs⟩ := HRF.out.1.2.2 (by simp)
     subst hR
     have hr1 : wr.cell? ra = some (.int .i64 y) := hrs 0 (by simp)
     obtain ⟨a', hsl, hab, hae⟩ := drop1 ra (r.length + 1) rc (by omega) (by simpa using hrc)
     have HRF3 := Lib.hid ((RF.tail HRF.out hrc hab hae).set k (.int .i64 y))
     have hrl1 : 0 < r.length + 1 := by omega
     have HW2 := Lib.hid (HW.out.setO hg1 k y)
     have HKP2 := Lib.hid (HKP.out.set1 k (.int .i64 y))
     have HBX2 := Lib.hid (BXL.set HBX.out (g := g) k (.int .i64 y) (Nat.ne_of_lt hgw) (Nat.ne_of_lt (Nat.lt_succ_of_lt hgw)))
     clear HNX HX HK hrs hab hae
     go_wp2_with fail
     go_region
     all_goals
      clear hb1 hb2 hb3 hb4 hof hok hr1 hsl
      generalize wr.setCell { block := g, off := k } (Value.int IntKind.i64 y) = w3 at *
      have HW3 := Lib.hid HW2.out.drew
      have HRF3 := Lib.hid HRF3.out.drew
      have HKP3 := Lib.hid HKP2.out.drew
      have HBX3 := Lib.hid (HBX2.out.below ⟨rfl, rfl, rfl, Nat.le_refl _, fun _ _ => rfl⟩ : BXL w.heap.size A l.length c B es.length d (some ⟨g, 0, none⟩) on.length oc L left.length lc w3.drew)
      go_wp2_with fail
      go_roundw
      case rel => exact ⟨k + 1, some a', rc - 1, onk.set k y, r, by omega, by go_num, rfl, by simp at hrc; omega, by simp at hrk; omega, HK2, HW3, HRF3, HKP3, HBX3⟩
      case measure => simp [intOf]; omega
   ·have HK2 : Hid (fillK r0 on (k + 1) = (onk, rk)) := by show _ = _; rw [HNX.out]; unfold fillS; rw [if_neg (by rw [← HX.out]; exact x1)]
    have x1b : (x == -1) = false := by simpa using x1
    clear HNX HX HK x1
    go_wp2_with fail
    clear hb1 hb2 hb3 hb4 hof hok
    go_roundw
    case rel => exact ⟨k + 1, R, rc, onk, rk, by omega, by go_num, rfl, hrc, hrk, HK2, HW, HRF, HKP, HBX⟩
    case measure => simp [intOf]; omega
  ·obtain rfl : k = on.length := by omega
   have HR : Hid (onk = fillL r0 on) := by show _ = _; rw [HF.out, HK.out]
   go_wp2_with fail
   go_end0
   exact ⟨rfl, by rw [← HR.out]; exact HW.out, HKP.out⟩
end Go.Proofs.Ytmbhjhanafmidaa

set_option linter.unusedVariables false
set_option linter.unusedSimpArgs false
namespace Go.Proofs.Ytmbhjhanafmidaa
open Go.RowKit Go.Sort
open DagPlain SchPlain LstPlain
open Go.Proofs.YtmbhjhanafmidaaW.PrintWords
theorem CW.far {w0 W : World} {vO vL : Value} {on left : List Int} (h : CW w0 W vO vL on left) {W' : World} (hb : Below w0.heap.size W W') (hk : ∀ k, (vO.ownBlock = some k ∨ vL.ownBlock = some k) → W'.heap[k]? = W.heap[k]?) : CW w0 W' vO vL on left :=
 ⟨own_move h.o (fun k e => hk k (.inl e)), own_move h.l (fun k e => hk k (.inr e)), h.ne, h.b.trans hb⟩
def BX1 (g : Nat) (O : Option Addr) (no oc : Nat) (L : Option Addr) (nl lc : Nat) (W : World) : Prop := W.cell? ⟨g, 0, none⟩ = some (.slice O no oc) ∧ W.cell? ⟨g, 1, none⟩ = some (.slice L nl lc)
theorem BX1.below {g : Nat} {O : Option Addr} {no oc : Nat} {L : Option Addr} {nl lc : Nat} {W W' : World} (h : BX1 g O no oc L nl lc W) (hb : Below W.heap.size W W') : BX1 g O no oc L nl lc W' :=
 ⟨(hb.cell (block_lt_of_cell h.1)).trans h.1, (hb.cell (block_lt_of_cell h.2)).trans h.2⟩
theorem BX1.set {p : Nat} {O : Option Addr} {no oc : Nat} {L : Option Addr} {nl lc : Nat} {W : World} (h : BX1 p O no oc L nl lc W) {g : Nat} (i : Nat) (u : Value) (h1 : g ≠ p) : BX1 p O no oc L nl lc (W.setCell ⟨g, i, none⟩ u) :=
 ⟨(set_far _ _ _ _ _ (Ne.symm h1)).trans h.1, (set_far _ _ _ _ _ (Ne.symm h1)).trans h.2⟩
theorem BX1.new (w : World) (O : Option Addr) (no oc : Nat) (L : Option Addr) (nl lc : Nat) (t : TypeId) : BX1 w.heap.size O no oc L nl lc (w.alloc (Obj.cells #[Value.slice O no oc, Value.slice L nl lc] t)) :=
 ⟨by rw [World.cell?_alloc_mark]; rfl, by rw [World.cell?_alloc_mark]; rfl⟩
def tickK (on left : List Int) (k : Nat) : List Int × List Int × List Int := (List.range k).foldl tickS (on, left, [])
theorem tickK_next (on left : List Int) (k : Nat) : tickK on left (k + 1) = tickS (tickK on left k) k := by
 unfold tickK
 rw [List.range_succ, List.foldl_append]; rfl
theorem tickS_len (s : List Int × List Int × List Int) (c : Nat) : (tickS s c).1.length = s.1.length ∧ (tickS s c).2.1.length = s.2.1.length ∧ (tickS s c).2.2.length ≤ s.2.2.length + 1 := by
 unfold tickS
 split
 ·exact ⟨rfl, rfl, by omega⟩
 ·refine ⟨?_, by simp, ?_⟩
  ·split <;> simp
  ·split
   ·simp
   ·simp
theorem tickK_len (on left : List Int) : ∀ k, (tickK on left k).1.length = on.length ∧ (tickK on left k).2.1.length = left.length ∧ (tickK on left k).2.2.length ≤ k
 | 0 => ⟨rfl, rfl, Nat.le_refl _⟩
 | k + 1 => by
  rw [tickK_next]
  have h1 := tickS_len (tickK on left k) k
  have h2 := tickK_len on left k
  omega
def OnIn (on left : List Int) : Prop := ∀ c, c < on.length → on.getD c 0 = -1 ∨ (0 ≤ on.getD c 0 ∧ on.getD c 0 < left.length)
def LeftIn (left : List Int) : Prop := ∀ i : Nat, -5000 ≤ left.getD i 0 ∧ left.getD i 0 ≤ 5000
theorem tickK_on (on left : List Int) : ∀ k j, k ≤ j → (tickK on left k).1.getD j 0 = on.getD j 0
 | 0, j, _ => rfl
 | k + 1, j, hj => by
  rw [tickK_next]
  unfold tickS
  split
  ·exact tickK_on on left k j (by omega)
  ·simp only
   split
   ·rw [getD_setB, if_neg (by omega)]; exact tickK_on on left k j (by omega)
   ·exact tickK_on on left k j (by omega)
theorem tickK_left (on left : List Int) (h : LeftIn left) : ∀ k i : Nat, -5000 - (k : Int) ≤ (tickK on left k).2.1.getD i 0 ∧ (tickK on left k).2.1.getD i 0 ≤ 5000
 | 0, i => by
  show -5000 - ((0 : Nat) : Int) ≤ left.getD i 0 ∧ left.getD i 0 ≤ 5000
  have := h i
  omega
 | k + 1, i => by
  rw [tickK_next]
  have ih := tickK_left on left h k
  have ih1 := ih i
  unfold tickS
  split
  ·omega
  ·simp only
   rw [getD_setB]
   split
   ·rename_i hc
    have := ih ((tickK on left k).1.getD k 0).toNat
    omega
   ·omega
def TickPost (w0 : World) (vO vL : Value) (w : World) (s : List Int × List Int × List Int) (e : Ending) (w' : World) : Prop := ∃ v, e = .returned v ∧ CW w0 w' vO vL s.1 s.2.1 ∧ OI w' w.heap.size v (sortL s.2.2) ∧ Keep2 vO vL w w'
set_option maxRecDepth 100000 in
set_option maxHeartbeats 8000000 in
theorem tick_any (w0 : World) (O : Option Addr) (oc : Nat) (on : List Int) (L : Option Addr) (lc : Nat) (left : List Int) (w : World) (h : CW w0 w (.slice O on.length oc) (.slice L left.length lc) on left) (ho : on.length ≤ 1000) (hlm : left.length ≤ 1000) (hon : OnIn on left) (hli : LeftIn left) :
  Calls Try.prog 39 #[.agg #[.slice O on.length oc, .slice L left.length lc]] w (TickPost w0 (.slice O on.length oc) (.slice L left.length lc) w (tickL on left)) := by
 have C1 := Lib.hid (fun (i : Nat) (lf : List Int) (w1 : World) (e : lf.length = left.length) (hi : i < left.length) (h : ReadsInt w1 .i64 L lf.length lf) => (show Calls Try.prog 58 #[.agg #[.slice O on.length oc, .slice L left.length lc], .int .i64 (i : Int)] w1 fun e w' => e = .returned (.bool (overC lf i)) ∧ Below w1.heap.size w1 w' from by rw [← e]; exact over_any O on.length oc L lc lf i w1 (by omega) (by omega) h))
 have CS := Lib.hid (fun base => sort_own base)
 have hb0 := below_alloc w (.cells #[.slice O on.length oc, .slice L left.length lc] 27)
 have HW0 := Lib.hid (h.below hb0)
 have HKP0 := Lib.hid ((Keep2.refl (.slice O on.length oc) (.slice L left.length lc) w).below hb0 (Nat.le_refl _))
 have HBX0 := Lib.hid (BX1.new w O on.length oc L left.length lc 27)
 have HOB : Hid (∀ b, O = some b → b.block < w.heap.size) := fun b hb => own_lt h.o b.block (by rw [hb]; rfl)
 have HLB : Hid (∀ b, L = some b → b.block < w.heap.size) := fun b hb => own_lt h.l b.block (by rw [hb]; rfl)
 have HWB := Lib.hid h.b.size
 have HT : Hid (tickL on left = tickK on left on.length) := rfl
 have HLI := Lib.hid (tickK_left on left hli)
 have HOI := Lib.hid hon
 have HTO := Lib.hid (tickK_on on left)
 obtain ⟨j0, ki, kz0, kz1, kz2⟩ := info_parts info3''
 clear h hb0 hon hli
 go_enter Try.func39, Try.ntmps39
 go_wp2_with fail
 have HS1 : Hid ((w.alloc (.cells #[.slice O on.length oc, .slice L left.length lc] 27)).heap.size = w.heap.size + 1) := World.size_alloc _ _
 generalize w.alloc (Obj.cells #[Value.slice O on.length oc, Value.slice L left.length lc] 27) = W1 at *
 go_loopw [9, 3] (fun i v wr => ∃ (k : Nat) (v0 : Value) (onk lk out : List Int), k ≤ on.length ∧ i = .int .i64 k ∧ v0 = v ∧ Hid (tickK on left k = (onk, lk, out)) ∧ Hid (CW w0 wr (.slice O on.length oc) (.slice L left.length lc) onk lk) ∧ Hid (wr.ownsRow W1.heap.size 3 1 v0 out.length (encs (Value.int .i64) out)) ∧ Hid (BX1 w.heap.size O on.length oc L left.length lc wr) ∧ Hid (Keep2 (.slice O on.length oc) (.slice L left.length lc) w wr) ∧ Hid (W1.heap.size ≤ wr.heap.size)) (fun i _ _ => on.length - (intOf i).toNat)
 case atStart => exact ⟨0, _, on, left, [], Nat.zero_le _, rfl, rfl, rfl, HW0, World.ownsRow_nil _ _ _ _, HBX0, HKP0, Nat.le_refl _⟩
 case round =>
  clear HW0 HBX0 HKP0
  obtain ⟨k, v0, onk, lk, out, hk, rfl, rfl, HK, HW, HO, HBX, HKP, HSZ⟩ := hrel
  obtain ⟨hl1, hl2, hl3⟩ := (by have := tickK_len on left k; rw [HK.out] at this; exact this : onk.length = on.length ∧ lk.length = left.length ∧ out.length ≤ k)
  obtain ⟨hb3, hb4⟩ := HBX.out
  by_cases hlt : k < on.length
  ·obtain ⟨g, hO, hg1, hg2, hcs⟩ := HW.out.o.at_ hl1 (by omega)
   subst hO
   obtain ⟨hok, hof⟩ := hcs k hlt
   have hgw : g < w.heap.size := HOB.out _ rfl
   have HNX := Lib.hid (tickK_next on left k)
   rw [HK.out] at HNX
   obtain ⟨x, hx⟩ : ∃ x, x = onk.getD k 0 := ⟨_, rfl⟩
   have HX := Lib.hid hx
   have hxi := HOI.out k hlt
   have hxo : x = on.getD k 0 := by rw [hx, ← HTO.out k k (Nat.le_refl _), HK.out]
   rw [← hxo] at hxi
   rw [← hx] at hok
   clear hcs hx hxo
   by_cases x1 : x = -1
   ·have HK2 : Hid (tickK on left (k + 1) = (onk, lk, out)) := by show _ = _; rw [HNX.out]; unfold tickS; rw [if_pos (by rw [← HX.out]; exact x1)]
    subst x1
    clear HNX HX HK hxi
    go_wp2_with fail
    clear hb3 hb4 hof hok
    go_roundw
    case rel => exact ⟨k + 1, v0, onk, lk, out, by omega, by go_num, rfl, HK2, HW, HO, HBX, HKP, HSZ⟩
    case measure => simp [intOf]; omega
   ·have hx2 : 0 ≤ x ∧ x < left.length := by rcases hxi with h | h; exact absurd h x1; exact h
    have x1b : (x == -1) = false := by simpa using x1
    obtain ⟨i, rfl⟩ : ∃ i : Nat, x = (i : Int) := ⟨x.toNat, by omega⟩
    have hil : i < left.length := by omega
    have hil' : (i : Int) < (left.length : Int) := by omega
    have hi0 : (0 : Int) ≤ (i : Int) := by omega
    obtain ⟨q, hL, hq1, hq2, hcl⟩ := HW.out.l.at_ hl2 (by omega)
    subst hL
    obtain ⟨hlk, hlf⟩ := hcl i hil
    have hqw : q < w.heap.size := HLB.out _ rfl
    have hqg : q ≠ g := fun e => HW.out.ne g rfl (by rw [e]; rfl)
    have hyb := HLI.out k i
    rw [HK.out] at hyb
    dsimp only at hyb
    have HNX2 : Hid (tickK on left (k + 1) = (if lk.getD i 0 - 1 = 0 then onk.set k (-1) else onk, lk.set i (lk.getD i 0 - 1), if lk.getD i 0 - 1 = 0 then out ++ [(i : Int)] else out)) := by
     show _ = _
     rw [HNX.out]
     unfold tickS
     simp only
     rw [← HX.out, if_neg (by omega), Int.toNat_natCast]
    have HOV : Hid (overC (lk.set i (lk.getD i 0 - 1)) (i : Int) = decide (lk.getD i 0 - 1 = 0)) := by
     show _ = _
     unfold overC
     rw [Int.toNat_natCast, getD_setB, if_pos ⟨rfl, by omega⟩]
    have HWL := Lib.hid (HW.out.setL hq1 i (lk.getD i 0 - 1))
    have HKPL := Lib.hid (HKP.out.set2 i (.int .i64 (lk.getD i 0 - 1)))
    have HBXL := Lib.hid (HBX.out.set i (.int .i64 (lk.getD i 0 - 1)) (by omega : q ≠ w.heap.size))
    have HOL : Hid ((wr.setCell ⟨q, i, none⟩ (.int .i64 (lk.getD i 0 - 1))).ownsRow W1.heap.size 3 1 v0 out.length (encs (Value.int .i64) out)) := OI.far HO.out q i _ (fun e => by have := own_base HO.out q e; have := HS1.out; omega)
    have HSL : Hid ((wr.setCell ⟨q, i, none⟩ (.int .i64 (lk.getD i 0 - 1))).heap.size = wr.heap.size) := World.size_setCell _ _ _
    have C1k := Lib.hid (fun w1 => C1.out i (lk.set i (lk.getD i 0 - 1)) w1 (by rw [List.length_set]; exact hl2) hil)
    have HR := Lib.hid (HWL.out.cr hl1 (by rw [List.length_set]; exact hl2)).2.2
    generalize lk.getD i 0 = y at *
    obtain ⟨hb5, hb6⟩ := HBXL.out
    clear HNX HX HK hxi x1 hx2 hcl HW HBX HO HKP
    by_cases hy : y - 1 = 0
    ·have hy1 : y = 1 := by omega
     subst hy1
     rw [HOV.out, decide_eq_true hy] at C1k
     rw [if_pos hy, if_pos hy] at HNX2
     rw [show (1 : Int) - 1 = 0 by omega] at *
     clear HOV hy hyb
     go_wp2_with fail
     refine (C1k.out _ HR.out).mono ?_
     rintro e w4 ⟨rfl, hb⟩
     have HW4 := Lib.hid (HWL.out.below hb)
     have HO4 := Lib.hid (OI.below HOL.out hb)
     have HKP4 := Lib.hid (HKPL.out.below hb (by have := HSL.out; have := HSZ.out; have := HS1.out; omega))
     have HBX4 := Lib.hid (HBXL.out.below hb)
     have HSZ4 : Hid (W1.heap.size ≤ w4.heap.size) := by show _ ≤ _; have := hb.size; have := HSL.out; have := HSZ.out; omega
     obtain ⟨g', hg', -, -, hcs4⟩ := HW4.out.o.at_ hl1 (by omega)
     cases hg'
     obtain ⟨hok4, hof4⟩ := hcs4 k hlt
     clear hb hb3 hb4 hb5 hb6 hok hof hlk hlf hcs4
     obtain ⟨hb3, hb4⟩ := HBX4.out
     have HW5 := Lib.hid (HW4.out.setO hg1 k (-1))
     have HKP5 := Lib.hid (HKP4.out.set1 k (.int .i64 (-1)))
     have HBX5 := Lib.hid (BX1.set HBX4.out (g := g) k (.int .i64 (-1)) (Nat.ne_of_lt hgw))
     have HO5 : Hid ((w4.setCell ⟨g, k, none⟩ (.int .i64 (-1))).ownsRow W1.heap.size 3 1 v0 out.length (encs (Value.int .i64) out)) := OI.far HO4.out g k _ (fun e => by have := own_base HO4.out g e; have := HS1.out; omega)
     have HSZ5 : Hid (W1.heap.size ≤ (w4.setCell ⟨g, k, none⟩ (.int .i64 (-1))).heap.size) := by show _ ≤ _; rw [World.size_setCell]; exact HSZ4.out
     generalize onk.getD k 0 = xk at *
     go_upto_region 9 with (fail)
     clear hb3 hb4 hok4 hof4
     generalize w4.setCell { block := g, off := k } (Value.int IntKind.i64 (-1)) = w5 at *
     go_wp2_with (at_builtin; refine wpList_append_own _ rfl _ _ 22 rfl W1.heap.size 3 j0 (.int .i64 0) 1 8 Try.underlying22 ki kz0 kz1 kz2 rfl (by decide) v0 out.length _ rfl (HO5.out.alloc _) ⟨w5.heap.size, 0, none⟩ 1 1 [.int .i64 (i : Int)] rfl rfl (cell_one_new _ _ _) (by simp [Value.oneCell']) (by unfold maxLen; omega) (by omega) (by have := HSZ5.out; simp; omega) ?_)
     intro v6 w6 hown6 hgrow6 _
     have hg6 : Below W1.heap.size w5 w6 := ((Below.refl W1.heap.size w5).alloc HSZ5.out _).grown hgrow6 (by have := HSZ5.out; simp; omega) (fun q hq => own_base HO5.out q hq)
     have HO6 : Hid (w6.ownsRow W1.heap.size 3 1 v6 (out ++ [(i : Int)]).length (encs (Value.int .i64) (out ++ [(i : Int)]))) := by
      show World.ownsRow _ _ _ _ _ _ _
      rw [List.length_append, encs_append]; exact hown6
     have hs1 := HS1.out
     have HW6 := Lib.hid (HW5.out.far (hg6.mono (by have := HWB.out; omega)) (fun p hp => hg6.block p (by
      rcases hp with hp | hp
      ·simp [Value.ownBlock] at hp; omega
      ·simp [Value.ownBlock] at hp; omega)))
     have HBX6 : Hid (BX1 w.heap.size (some ⟨g, 0, none⟩) on.length oc (some ⟨q, 0, none⟩) left.length lc w6) := ⟨(World.cell?_of_block (hg6.block w.heap.size (by omega))).trans HBX5.out.1, (World.cell?_of_block (hg6.block w.heap.size (by omega))).trans HBX5.out.2⟩
     have HKP6 := Lib.hid (HKP5.out.below hg6 (by omega))
     have HSZ6 : Hid (W1.heap.size ≤ w6.heap.size) := by show _ ≤ _; have := hg6.size; have := HSZ5.out; omega
     clear hg6 hs1 hown6 hgrow6
     go_wp2_with fail
     go_roundw
     case rel => exact ⟨k + 1, v6, onk.set k (-1), lk.set i 0, out ++ [(i : Int)], by omega, by go_num, rfl, HNX2, HW6, HO6, HBX6, HKP6, HSZ6⟩
     case measure => simp [intOf]; omega
    ·rw [HOV.out, decide_eq_false hy] at C1k
     rw [if_neg hy, if_neg hy] at HNX2
     clear HOV hy
     go_wp2_with fail
     refine (C1k.out _ HR.out).mono ?_
     rintro e w4 ⟨rfl, hb⟩
     have HW4 := Lib.hid (HWL.out.below hb)
     have HO4 := Lib.hid (OI.below HOL.out hb)
     have HKP4 := Lib.hid (HKPL.out.below hb (by have := HSL.out; have := HSZ.out; have := HS1.out; omega))
     have HBX4 := Lib.hid (HBXL.out.below hb)
     have HSZ4 : Hid (W1.heap.size ≤ w4.heap.size) := by show _ ≤ _; have := hb.size; have := HSL.out; have := HSZ.out; omega
     clear hb hb3 hb4 hb5 hb6 hok hof hlk hlf
     go_wp2_with fail
     go_roundw
     case rel => exact ⟨k + 1, v0, onk, lk.set i (y - 1), out, by omega, by go_num, rfl, HNX2, HW4, HO4, HBX4, HKP4, HSZ4⟩
     case measure => simp [intOf]; omega
  ·obtain rfl : k = on.length := by omega
   have HR : Hid ((onk, lk, out) = tickL on left) := by show _ = _; rw [HT.out, HK.out]
   have CSk := Lib.hid (CS.out W1.heap.size v0 out wr HO.out (by omega) HSZ.out)
   clear HK HO
   go_wp2_with fail
   refine CSk.out.mono ?_
   rintro e w4 ⟨rfl, hown, hb⟩
   have hs1 := HS1.out
   have HW4 : Hid (CW w0 w4 (.slice O on.length oc) (.slice L left.length lc) onk lk) := HW.out.far (hb.mono (by have := HWB.out; omega)) (fun q hq => hb.block q (by
    rcases hq with hq | hq
    ·have := HW.out.o
     cases O with
     | none => simp [Value.ownBlock] at hq
     | some b => have := HOB.out b rfl; simp [Value.ownBlock] at hq; omega
    ·cases L with
     | none => simp [Value.ownBlock] at hq
     | some b => have := HLB.out b rfl; simp [Value.ownBlock] at hq; omega))
   have HO4 : Hid (OI w4 w.heap.size v0 (sortL out)) := own_weaken hown (by omega)
   have HKP4 := Lib.hid (HKP.out.below hb (by omega))
   clear hb hown hs1
   go_wp2_with fail
   go_ret
   exact ⟨_, rfl, by rw [← HR.out]; exact HW4.out, by rw [← HR.out]; exact HO4.out, HKP4.out⟩
end Go.Proofs.Ytmbhjhanafmidaa

set_option linter.unusedVariables false
set_option linter.unusedSimpArgs false
namespace Go.Proofs.Ytmbhjhanafmidaa
open Go.RowKit Go.Sort
open DagPlain SchPlain LstPlain
open Go.Proofs.YtmbhjhanafmidaaW.PrintWords
open PLst (S85 k85 rd_T85 at_T85 k85_mk)
theorem add_nextL (ad : Addr) (k : Nat) : (⟨(ad.add k).block, (ad.add k).off + 1, none⟩ : Addr) = ad.add (k + 1) := by
 unfold Addr.add
 by_cases h : k = 0
 ·subst h; simp
 ·rw [if_neg h, if_neg (by omega)]; simp; omega
theorem edr_C {w : World} {B : Option Addr} {es : List (Int × Int)} (h : EdR w B es) (hm : es.length ≤ 1000) : Kd.C k85 w B (es.map fun e => (⟨e.1, e.2⟩ : S85)).length (es.map fun e => ⟨e.1, e.2⟩) := by
 refine ⟨by simp, by simp; omega, fun h0 => ?_⟩
 obtain ⟨ad, rfl, hc⟩ := h (by simpa using h0)
 refine ⟨ad, rfl, fun j p hp => ?_⟩
 have hj : j < es.length := by
  rcases Nat.lt_or_ge j es.length with h | h
  ·exact h
  ·rw [List.getElem?_eq_none (by simpa using h)] at hp; cases hp
 rw [List.getElem?_map, List.getElem?_eq_getElem hj] at hp
 simp only [Option.map_some, Option.some.injEq] at hp
 subst hp
 have hd : es.getD j (0, 0) = es[j] := by rw [List.getD_eq_getElem?_getD, List.getElem?_eq_getElem hj]; rfl
 obtain ⟨h1, h2⟩ := hc j hj
 rw [hd] at h1 h2
 rw [add_nextL] at h2
 refine ⟨[.int .i64 es[j].1, .int .i64 es[j].2], rfl, k85_mk w ⟨es[j].1, es[j].2⟩, fun i u hi => ?_⟩
 match i, hi with
 | 0, hi => simp at hi; subst hi; exact h1
 | 1, hi => simp at hi; subst hi; exact h2
theorem map_back (es : List (Int × Int)) : (es.map fun e => (⟨e.1, e.2⟩ : S85)).map (fun x => (x.f0, x.f1)) = es := by
 rw [List.map_map]
 exact List.map_id' es
theorem lCheck_any (A : Option Addr) (c : Nat) (l : List Int) (B : Option Addr) (d : Nat) (es : List (Int × Int)) (O : Option Addr) (oc : Nat) (on : List Int) (L : Option Addr) (lc : Nat) (left : List Int) (w : World) (hg : GR w A c l B d es) (hcr : CR w O oc on L lc left) (hn : l.length ≤ 1000 ∧ es.length ≤ 1000) (ho : on.length ≤ 1000) (hlm : left.length ≤ 1000) :
  Calls Try.prog 17 #[.agg #[.slice A l.length c, .slice B es.length d], .agg #[.slice O on.length oc, .slice L left.length lc]] w fun e w' => e = .returned (.int .i64 (crewR l es on left)) ∧ Below w.heap.size w w' := by
 have hf : PLst.list_Check.f l (es.map fun e => ⟨e.1, e.2⟩) on left = some (crewR l es on left) := by
  have h1 : PLst.dag_Check.f l (es.map fun e => ⟨e.1, e.2⟩) = some (checkL l es) := by unfold PLst.dag_Check.f; rw [if_pos ⟨hn.1, by rw [List.length_map]; exact hn.2⟩, map_back]
  unfold PLst.list_Check.f crewR
  rw [h1, Option.bind_some]
  by_cases hz : checkL l es = 0
  ·have h2 : PLst.list_right.f l (es.map fun e => ⟨e.1, e.2⟩) on left = some (rightC l es on left) := by unfold PLst.list_right.f; rw [map_back, if_pos ⟨⟨⟨hn.1, by rw [List.length_map]; exact hn.2⟩, ho, hlm⟩, hz⟩]
   rw [if_pos hz, if_pos hz, h2, Option.bind_some, hz]
   cases rightC l es on left <;> rfl
  ·rw [if_neg hz, if_neg hz]
 have := PLst.list_Check.calls A c l B d (es.map fun e => ⟨e.1, e.2⟩) O oc on L lc left _ w (Kd.C_of_reads (d := (0 : Int)) (h1 := fun _ => rfl) hg.1.2) hg.1.1 (edr_C hg.2.2 hn.2) (by rw [List.length_map]; exact hg.2.1) (Kd.C_of_reads (d := (0 : Int)) (h1 := fun _ => rfl) hcr.1.2) hcr.1.1 (Kd.C_of_reads (d := (0 : Int)) (h1 := fun _ => rfl) hcr.2.2) hcr.2.1 hf
 rw [List.length_map] at this
 exact this
def OwnPostL (w : World) (on left : List Int) (e : Ending) (w' : World) : Prop := ∃ O oc L lc, e = .returned (.agg #[.slice O on.length oc, .slice L left.length lc]) ∧ CW w w' (.slice O on.length oc) (.slice L left.length lc) on left
theorem own_any (O : Option Addr) (oc : Nat) (on : List Int) (L : Option Addr) (lc : Nat) (left : List Int) (w : World) (hcr : CR w O oc on L lc left) (ho : on.length ≤ 1000) (hlm : left.length ≤ 1000) :
  Calls Try.prog 37 #[.agg #[.slice O on.length oc, .slice L left.length lc]] w (OwnPostL w on left) := by
 have hf : PLst.list_own.f on left = some (on, left) := by
  unfold PLst.list_own.f PLst.slices_Clone_int_int.f
  rw [if_pos (by omega), if_pos (by omega)]
  rfl
 refine (PLst.list_own.calls O oc on L lc left on left w (Kd.C_of_reads (d := (0 : Int)) (h1 := fun _ => rfl) hcr.1.2) hcr.1.1 (Kd.C_of_reads (d := (0 : Int)) (h1 := fun _ => rfl) hcr.2.2) hcr.2.1 hf).mono ?_
 rintro e w' ⟨v0, v1, rfl, h0, h1, hb⟩
 have a0 : OI w' w.heap.size v0 on := Kd.own_of_R h0
 have a1 : OI w' w.heap.size v1 left := Kd.own_of_R h1
 obtain ⟨O', oc', e0, -, -⟩ := a0.reads
 obtain ⟨L', lc', e1, -, -⟩ := a1.reads
 subst e0 e1
 exact ⟨O', oc', L', lc', rfl, a0, a1, fun k hk hk2 => h0.1 k hk hk2.symm, hb⟩
def CrewPost (w : World) (on left : List Int) (er : Int) (e : Ending) (w' : World) : Prop := ∃ vO vL, e = .returned (.tuple #[.agg #[vO, vL], .int .i64 er]) ∧ CW w w' vO vL on left
theorem OI.weaken {W : World} {b b' : Nat} {v : Value} {xs : List Int} (h : OI W b v xs) (hb : b' ≤ b) : OI W b' v xs := own_weaken h hb
theorem boxes3 (w : World) (A : Option Addr) (n c : Nat) (B : Option Addr) (m d : Nat) (O : Option Addr) (no oc : Nat) (L : Option Addr) (nl lc : Nat) (t1 t2 t3 : TypeId) (V : Array Value) :
  ∃ W, W = ((w.alloc (Obj.cells #[Value.slice A n c, Value.slice B m d] t1)).alloc (Obj.cells #[Value.slice O no oc, Value.slice L nl lc] t2)).alloc (Obj.cells V t3) ∧ Below w.heap.size w W ∧ W.heap.size = w.heap.size + 1 + 1 + 1 ∧ BXL w.heap.size A n c B m d O no oc L nl lc W ∧ W.heap[w.heap.size + 1 + 1]? = some (.cells V t3) ∧ W.heap[w.heap.size + 1]? = some (.cells #[Value.slice O no oc, Value.slice L nl lc] t2) := by
 obtain ⟨h1, h2, h3⟩ := boxes2 w A n c B m d O no oc L nl lc t1 t2
 have h4 : ((w.alloc (Obj.cells #[Value.slice A n c, Value.slice B m d] t1)).alloc (Obj.cells #[Value.slice O no oc, Value.slice L nl lc] t2)).heap[w.heap.size + 1]? = some (.cells #[Value.slice O no oc, Value.slice L nl lc] t2) := by
  show ((w.heap.push _).push _)[w.heap.size + 1]? = _
  rw [Array.getElem?_push, if_pos (by simp)]
 generalize (w.alloc (Obj.cells #[Value.slice A n c, Value.slice B m d] t1)).alloc (Obj.cells #[Value.slice O no oc, Value.slice L nl lc] t2) = W2 at *
 have hb := below_alloc W2 (Obj.cells V t3)
 refine ⟨_, rfl, h1.trans (hb.mono h1.size), by rw [World.size_alloc, h2], BXL.below h3 hb, ?_, ?_⟩
 ·show (W2.heap.push _)[w.heap.size + 1 + 1]? = _
  rw [Array.getElem?_push, if_pos (by omega)]
 ·rw [hb.block _ (by omega)]; exact h4
theorem crew_edges {l on left : List Int} {es : List (Int × Int)} (h : crewR l es on left = 0) : ∀ e ∈ es, 0 ≤ e.1 ∧ e.1 < left.length := by
 unfold crewR at h
 by_cases hz : checkL l es = 0
 ·rw [if_pos hz] at h
  cases hr : rightC l es on left with
  | false => rw [hr, if_neg (by simp)] at h; cases h
  | true =>
   unfold rightC sizesC at hr
   simp only [Bool.and_eq_true, decide_eq_true_eq] at hr
   obtain ⟨y1, y2, y3, y4, y5⟩ := ordL_yes hz
   intro e he
   rw [hr.1.1.1.2]
   exact (oddEs_in y3 e he).1
 ·rw [if_neg hz] at h; exact absurd h hz
theorem blk2 {W : World} {g : Nat} {a b : Value} {t : TypeId} (h : W.heap[g]? = some (.cells #[a, b] t)) :
  (W.cell? ⟨g, 0, none⟩ = some a ∧ W.frozen? ⟨g, 0, none⟩ = false) ∧ W.cell? ⟨g, 1, none⟩ = some b ∧ W.frozen? ⟨g, 1, none⟩ = false := by
 refine ⟨⟨by simp [World.cell?, h], by simp [World.frozen?, h]⟩, by simp [World.cell?, h], by simp [World.frozen?, h]⟩
theorem blk2_set {W : World} {g : Nat} {a b : Value} {t : TypeId} (h : W.heap[g]? = some (.cells #[a, b] t)) (x y : Value) : ((W.setCell ⟨g, 0, none⟩ x).setCell ⟨g, 1, none⟩ y).heap[g]? = some (.cells #[x, y] t) := by
 have h1 := heap_setCell_same W g 0 #[a, b] t x h
 have h2 := heap_setCell_same (W.setCell ⟨g, 0, none⟩ x) g 1 _ t y h1
 rw [h2]; rfl
theorem blk2_far {W : World} {g k : Nat} (x y : Value) (h : k ≠ g) : ((W.setCell ⟨g, 0, none⟩ x).setCell ⟨g, 1, none⟩ y).heap[k]? = W.heap[k]? := by
 rw [Below.heap_setCell _ _ _ _ h, Below.heap_setCell _ _ _ _ h]
theorem below_set2 {w W : World} {b g : Nat} (h : Below b w W) (hg : b ≤ g) (x y : Value) : Below b w ((W.setCell ⟨g, 0, none⟩ x).setCell ⟨g, 1, none⟩ y) := (h.setCell (p := ⟨g, 0, none⟩) hg _).setCell (p := ⟨g, 1, none⟩) hg _
set_option maxRecDepth 100000 in
set_option maxHeartbeats 4000000 in
theorem Fill_any (A : Option Addr) (c : Nat) (l : List Int) (B : Option Addr) (d : Nat) (es : List (Int × Int)) (O : Option Addr) (oc : Nat) (on : List Int) (L : Option Addr) (lc : Nat) (left : List Int) (w : World) (hg : GR w A c l B d es) (hcr : CR w O oc on L lc left) (hn : l.length ≤ 1000 ∧ es.length ≤ 1000) (ho : on.length ≤ 1000) (hlm : left.length ≤ 1000) :
  Calls Try.prog 11 #[.agg #[.slice A l.length c, .slice B es.length d], .agg #[.slice O on.length oc, .slice L left.length lc]] w (CrewPost w (if crewR l es on left = 0 then fillL (readyL es on left) on else []) (if crewR l es on left = 0 then left else []) (crewR l es on left)) := by
 have C1 := Lib.hid (fun w1 h1 h2 => lCheck_any A c l B d es O oc on L lc left w1 h1 h2 hn ho hlm)
 obtain ⟨W1, hW1, hbw, hsz, hbx, hr4, hr3⟩ := boxes3 w A l.length c B es.length d O on.length oc L left.length lc 25 27 27 #[.slice none 0 0, .slice none 0 0]
 have HG := Lib.hid (hg.below hbw)
 have HG0 := Lib.hid hg
 have HC := Lib.hid (hcr.below hbw)
 have HBW := Lib.hid hbw
 have HBX := Lib.hid hbx
 have HSZ := Lib.hid hsz
 have HR4 := Lib.hid hr4
 have HR3 := Lib.hid hr3
 have HW1 := Lib.hid hW1
 clear hg hcr hbw hbx hsz hr4 hr3 hW1
 cases hz : decide (crewR l es on left = 0) with
 | false =>
  have hz1 : crewR l es on left ≠ 0 := by simpa using hz
  have hzb : (crewR l es on left != 0) = true := by simpa using hz1
  have HP : Hid ((if crewR l es on left = 0 then fillL (readyL es on left) on else []) = [] ∧ (if crewR l es on left = 0 then left else []) = []) := ⟨if_neg hz1, if_neg hz1⟩
  rw [HP.out.1, HP.out.2]
  clear HP hz hz1
  generalize crewR l es on left = er at *
  go_enter Try.func11, Try.ntmps11
  go_wp2_with fail
  rw [← HW1.out]
  refine (C1.out _ HG.out HC.out).mono ?_
  rintro e w2 ⟨rfl, hb⟩
  have hR := (hb.block _ (by have := HSZ.out; omega)).trans HR4.out
  obtain ⟨⟨a1, a2⟩, a3, a4⟩ := blk2 hR
  have hR2 := blk2_set hR (.slice none 0 0) (.slice none 0 0)
  obtain ⟨⟨b1, b2⟩, b3, b4⟩ := blk2 hR2
  have HB2 := Lib.hid (below_set2 (HBW.out.trans (hb.mono (by have := HSZ.out; omega))) (by omega : w.heap.size ≤ w.heap.size + 1 + 1) (.slice none 0 0) (.slice none 0 0))
  clear hb hR hR2 b2 b4
  go_wp2_with fail
  exact bodyPost_ret (v := .tuple #[.agg #[.slice none 0 0, .slice none 0 0], .int .i64 er]) (by simp [results, Try.results11, go_sem, b1, b3]) rfl ⟨_, _, rfl, World.ownsRow_nil _ _ _ _, World.ownsRow_nil _ _ _ _, fun k hk => by simp [Value.ownBlock] at hk, HB2.out⟩
 | true =>
  have hz1 : crewR l es on left = 0 := by simpa using hz
  have HP : Hid ((if crewR l es on left = 0 then fillL (readyL es on left) on else []) = fillL (readyL es on left) on ∧ (if crewR l es on left = 0 then left else []) = left) := ⟨if_pos hz1, if_pos hz1⟩
  rw [HP.out.1, HP.out.2]
  have hes : ∀ e ∈ es, 0 ≤ e.1 ∧ e.1 < left.length := crew_edges hz1
  have C2 := Lib.hid (fun w1 h => own_any O oc on L lc left w1 h ho hlm)
  have C3 := Lib.hid (fun w0 O oc L lc w1 h1 h2 => fill_any w0 A c l B d es O oc on L lc left w1 h1 h2 hn ho hlm hes)
  rw [hz1] at C1 ⊢
  clear HP hz hz1 hes
  go_enter Try.func11, Try.ntmps11
  go_wp2_with fail
  rw [← HW1.out]
  refine (C1.out _ HG.out HC.out).mono ?_
  rintro e w2 ⟨rfl, hb⟩
  have HC2 := Lib.hid (HC.out.below hb)
  have HBX2 := Lib.hid (HBX.out.below hb)
  have HB2 := Lib.hid (HBW.out.trans (hb.mono (by have := HSZ.out; omega)))
  have HR32 := Lib.hid ((hb.block _ (by have := HSZ.out; omega)).trans HR3.out)
  have HS2 : Hid (w.heap.size + 1 + 1 < w2.heap.size) := by show _ < _; have := hb.size; have := HSZ.out; omega
  have HR42 := Lib.hid ((hb.block _ (by have := HSZ.out; omega)).trans HR4.out)
  obtain ⟨⟨x1, x2⟩, x3, x4⟩ := HBX2.out
  clear hb HC HG HBX HW1 HR4 HR3
  go_wp2_with fail
  refine (C2.out _ HC2.out).mono ?_
  rintro e w3 ⟨O', oc', L', lc', rfl, hcw⟩
  have HR33 := Lib.hid ((hcw.b.block _ (by have := HS2.out; omega)).trans HR32.out)
  have HR43 := Lib.hid ((hcw.b.block _ HS2.out).trans HR42.out)
  have HD3 : Hid (BX1 w.heap.size A l.length c B es.length d w3) := BX1.below (show BX1 w.heap.size A l.length c B es.length d w2 from HBX2.out.1) hcw.b
  have HOB : Hid (∀ k, (Value.slice O' on.length oc').ownBlock = some k ∨ (Value.slice L' left.length lc').ownBlock = some k → w2.heap.size ≤ k) := fun k hk => by
   rcases hk with hk | hk
   ·exact own_base hcw.o k hk
   ·exact own_base hcw.l k hk
  have HCW3 : Hid (CW w w3 (.slice O' on.length oc') (.slice L' left.length lc') on left) := ⟨hcw.o.weaken (by have := HS2.out; omega), hcw.l.weaken (by have := HS2.out; omega), hcw.ne, HB2.out.trans (hcw.b.mono (by have := HS2.out; omega))⟩
  clear x1 x2 x3 x4 hcw HBX2 HC2
  obtain ⟨⟨a1, a2⟩, a3, a4⟩ := blk2 HR33.out
  have HR34 := Lib.hid (blk2_set HR33.out (.slice O' on.length oc') (.slice L' left.length lc'))
  have HR44 := Lib.hid ((blk2_far (.slice O' on.length oc') (.slice L' left.length lc') (by omega : w.heap.size + 1 + 1 ≠ w.heap.size + 1)).trans HR43.out)
  have HD4 := Lib.hid (BX1.set (BX1.set HD3.out (g := w.heap.size + 1) 0 (.slice O' on.length oc') (by omega)) (g := w.heap.size + 1) 1 (.slice L' left.length lc') (by omega))
  have HCW4 := Lib.hid (HCW3.out.far (below_set2 (Below.refl w.heap.size w3) (by omega : w.heap.size ≤ w.heap.size + 1) (.slice O' on.length oc') (.slice L' left.length lc')) (fun k hk => blk2_far _ _ (by have := HOB.out k hk; have := HS2.out; omega)))
  have HS4 : Hid (((w3.setCell ⟨w.heap.size + 1, 0, none⟩ (.slice O' on.length oc')).setCell ⟨w.heap.size + 1, 1, none⟩ (.slice L' left.length lc')).heap.size = w3.heap.size) := by show _ = _; rw [World.size_setCell, World.size_setCell]
  have HS3 : Hid (w.heap.size + 1 + 1 < w3.heap.size) := heap_lt HR43.out
  clear HR33 HR43 HD3 HCW3
  go_upto_region 5 with (fail)
  clear a1 a2 a3 a4
  generalize (w3.setCell { block := w.heap.size + 1, off := 0 } (Value.slice O' on.length oc')).setCell { block := w.heap.size + 1, off := 1 } (Value.slice L' left.length lc') = w4 at *
  obtain ⟨⟨a1, a2⟩, a3, a4⟩ := blk2 HR34.out
  obtain ⟨d1, d2⟩ := HD4.out
  go_wp2_with fail
  refine (C3.out w O' oc' L' lc' _ HCW4.out HG0.out).mono ?_
  rintro e w5 ⟨rfl, hcw5, hkp⟩
  have HR35 := Lib.hid ((hkp.2 (w.heap.size + 1) (by have := HS4.out; have := HS3.out; omega) (fun e => by have := HOB.out _ (.inl e); have := HS2.out; omega) (fun e => by have := HOB.out _ (.inr e); have := HS2.out; omega)).trans HR34.out)
  have HR45 := Lib.hid ((hkp.2 (w.heap.size + 1 + 1) (by have := HS4.out; have := HS3.out; omega) (fun e => by have := HOB.out _ (.inl e); have := HS2.out; omega) (fun e => by have := HOB.out _ (.inr e); have := HS2.out; omega)).trans HR44.out)
  have HCW5 := Lib.hid hcw5
  have HCW6 := Lib.hid (hcw5.far (below_set2 (Below.refl w.heap.size w5) (by omega : w.heap.size ≤ w.heap.size + 1 + 1) (.slice O' on.length oc') (.slice L' left.length lc')) (fun k hk => blk2_far _ _ (by have := HOB.out k hk; have := HS2.out; omega)))
  clear a1 a2 a3 a4 d1 d2 hcw5 hkp
  obtain ⟨⟨a1, a2⟩, a3, a4⟩ := blk2 HR35.out
  obtain ⟨⟨d1, d2⟩, d3, d4⟩ := blk2 HR45.out
  have hR6 := blk2_set HR45.out (.slice O' on.length oc') (.slice L' left.length lc')
  obtain ⟨⟨b1, b2⟩, b3, b4⟩ := blk2 hR6
  clear hR6 b2 b4
  go_wp2_with fail
  exact bodyPost_ret (v := .tuple #[.agg #[.slice O' on.length oc', .slice L' left.length lc'], .int .i64 0]) (by simp [results, Try.results11, go_sem, b1, b3]) rfl ⟨_, _, rfl, HCW6.out⟩
end Go.Proofs.Ytmbhjhanafmidaa

set_option linter.unusedVariables false
set_option linter.unusedSimpArgs false
namespace Go.Proofs.Ytmbhjhanafmidaa
open Go.RowKit Go.Sort
open DagPlain SchPlain LstPlain
open Go.Proofs.YtmbhjhanafmidaaW.PrintWords
def CrewPost3 (w : World) (s : List Int × List Int × List Int) (er : Int) (e : Ending) (w' : World) : Prop :=
 ∃ vO vL v, e = .returned (.tuple #[.agg #[vO, vL], v, .int .i64 er]) ∧ CW w w' vO vL s.1 s.2.1 ∧ OI w' w.heap.size v s.2.2 ∧ ∀ k, v.ownBlock = some k → vO.ownBlock ≠ some k ∧ vL.ownBlock ≠ some k
theorem crew_in {l on left : List Int} {es : List (Int × Int)} (h : crewR l es on left = 0) : OnIn on left ∧ LeftIn left := by
 unfold crewR at h
 by_cases hz : checkL l es = 0
 ·rw [if_pos hz] at h
  cases hr : rightC l es on left with
  | false => rw [hr, if_neg (by simp)] at h; cases h
  | true =>
   unfold rightC sizesC at hr
   simp only [Bool.and_eq_true, decide_eq_true_eq, Bool.not_eq_true', List.any_eq_false] at hr
   obtain ⟨⟨⟨-, h2⟩, h3⟩, -⟩ := hr
   refine ⟨fun c hc => ?_, fun i => ?_⟩
   ·have := h3 c (by simpa using hc)
    unfold badOn at this
    simp only [Bool.and_eq_true, Bool.or_eq_true, decide_eq_true_eq, bne_iff_ne, ne_eq, not_and, not_or] at this
    by_cases e : on.getD c 0 = -1
    ·exact .inl e
    ·have := this e
     exact .inr ⟨by omega, by omega⟩
   ·by_cases hi : i < left.length
    ·have := h2 (left.getD i 0) (getD_mem left i hi)
     unfold oddW at this
     simp only [Bool.or_eq_true, decide_eq_true_eq, not_or] at this
     omega
    ·rw [List.getD_eq_getElem?_getD, List.getElem?_eq_none (by omega)]; simp
 ·rw [if_neg hz] at h; exact absurd h hz
def tickR (on left : List Int) : List Int × List Int × List Int := ((tickL on left).1, (tickL on left).2.1, sortL (tickL on left).2.2)
set_option maxRecDepth 100000 in
set_option maxHeartbeats 4000000 in
theorem Tick_any (A : Option Addr) (c : Nat) (l : List Int) (B : Option Addr) (d : Nat) (es : List (Int × Int)) (O : Option Addr) (oc : Nat) (on : List Int) (L : Option Addr) (lc : Nat) (left : List Int) (w : World) (hg : GR w A c l B d es) (hcr : CR w O oc on L lc left) (hn : l.length ≤ 1000 ∧ es.length ≤ 1000) (ho : on.length ≤ 1000) (hlm : left.length ≤ 1000) :
  Calls Try.prog 14 #[.agg #[.slice A l.length c, .slice B es.length d], .agg #[.slice O on.length oc, .slice L left.length lc]] w (CrewPost3 w (if crewR l es on left = 0 then tickR on left else ([], [], [])) (crewR l es on left)) := by
 have C1 := Lib.hid (fun w1 h1 h2 => lCheck_any A c l B d es O oc on L lc left w1 h1 h2 hn ho hlm)
 obtain ⟨W1, hW1, hbw, hsz, hbx, hr4, hr3⟩ := boxes3 w A l.length c B es.length d O on.length oc L left.length lc 25 27 27 #[.slice none 0 0, .slice none 0 0]
 have HG := Lib.hid (hg.below hbw)
 have HG0 := Lib.hid hg
 have HC := Lib.hid (hcr.below hbw)
 have HBW := Lib.hid hbw
 have HBX := Lib.hid hbx
 have HSZ := Lib.hid hsz
 have HR4 := Lib.hid hr4
 have HR3 := Lib.hid hr3
 have HW1 := Lib.hid hW1
 clear hg hcr hbw hbx hsz hr4 hr3 hW1
 cases hz : decide (crewR l es on left = 0) with
 | false =>
  have hz1 : crewR l es on left ≠ 0 := by simpa using hz
  have hzb : (crewR l es on left != 0) = true := by simpa using hz1
  have HP : Hid ((if crewR l es on left = 0 then tickR on left else ([], [], [])) = ([], [], [])) := if_neg hz1
  rw [HP.out]
  clear HP hz hz1
  generalize crewR l es on left = er at *
  go_enter Try.func14, Try.ntmps14
  go_wp2_with fail
  rw [← HW1.out]
  refine (C1.out _ HG.out HC.out).mono ?_
  rintro e w2 ⟨rfl, hb⟩
  have hR := (hb.block _ (by have := HSZ.out; omega)).trans HR4.out
  obtain ⟨⟨a1, a2⟩, a3, a4⟩ := blk2 hR
  have hR2 := blk2_set hR (.slice none 0 0) (.slice none 0 0)
  obtain ⟨⟨b1, b2⟩, b3, b4⟩ := blk2 hR2
  have HB2 := Lib.hid (below_set2 (HBW.out.trans (hb.mono (by have := HSZ.out; omega))) (by omega : w.heap.size ≤ w.heap.size + 1 + 1) (.slice none 0 0) (.slice none 0 0))
  clear hb hR hR2 b2 b4
  go_wp2_with fail
  exact bodyPost_ret (v := .tuple #[.agg #[.slice none 0 0, .slice none 0 0], .slice none 0 0, .int .i64 er]) (by simp [results, Try.results14, go_sem, b1, b3]) rfl ⟨_, _, _, rfl, ⟨World.ownsRow_nil _ _ _ _, World.ownsRow_nil _ _ _ _, fun k hk => by simp [Value.ownBlock] at hk, HB2.out⟩, World.ownsRow_nil _ _ _ _, fun k hk => by simp [Value.ownBlock] at hk⟩
 | true =>
  have hz1 : crewR l es on left = 0 := by simpa using hz
  have HP : Hid ((if crewR l es on left = 0 then tickR on left else ([], [], [])) = tickR on left) := if_pos hz1
  rw [HP.out]
  obtain ⟨hoi, hli⟩ := crew_in hz1
  have C2 := Lib.hid (fun w1 h => own_any O oc on L lc left w1 h ho hlm)
  have C3 := Lib.hid (fun w0 O oc L lc w1 h1 => tick_any w0 O oc on L lc left w1 h1 ho hlm hoi hli)
  rw [hz1] at C1 ⊢
  clear HP hz hz1 hoi hli
  go_enter Try.func14, Try.ntmps14
  go_wp2_with fail
  rw [← HW1.out]
  refine (C1.out _ HG.out HC.out).mono ?_
  rintro e w2 ⟨rfl, hb⟩
  have HC2 := Lib.hid (HC.out.below hb)
  have HBX2 := Lib.hid (HBX.out.below hb)
  have HB2 := Lib.hid (HBW.out.trans (hb.mono (by have := HSZ.out; omega)))
  have HR32 := Lib.hid ((hb.block _ (by have := HSZ.out; omega)).trans HR3.out)
  have HS2 : Hid (w.heap.size + 1 + 1 < w2.heap.size) := by show _ < _; have := hb.size; have := HSZ.out; omega
  have HR42 := Lib.hid ((hb.block _ (by have := HSZ.out; omega)).trans HR4.out)
  obtain ⟨⟨x1, x2⟩, x3, x4⟩ := HBX2.out
  clear hb HC HG HBX HW1 HR4 HR3
  go_wp2_with fail
  refine (C2.out _ HC2.out).mono ?_
  rintro e w3 ⟨O', oc', L', lc', rfl, hcw⟩
  have HR33 := Lib.hid ((hcw.b.block _ (by have := HS2.out; omega)).trans HR32.out)
  have HR43 := Lib.hid ((hcw.b.block _ HS2.out).trans HR42.out)
  have HD3 : Hid (BX1 w.heap.size A l.length c B es.length d w3) := BX1.below (show BX1 w.heap.size A l.length c B es.length d w2 from HBX2.out.1) hcw.b
  have HOB : Hid (∀ k, (Value.slice O' on.length oc').ownBlock = some k ∨ (Value.slice L' left.length lc').ownBlock = some k → w2.heap.size ≤ k) := fun k hk => by
   rcases hk with hk | hk
   ·exact own_base hcw.o k hk
   ·exact own_base hcw.l k hk
  have HCW3 : Hid (CW w w3 (.slice O' on.length oc') (.slice L' left.length lc') on left) := ⟨hcw.o.weaken (by have := HS2.out; omega), hcw.l.weaken (by have := HS2.out; omega), hcw.ne, HB2.out.trans (hcw.b.mono (by have := HS2.out; omega))⟩
  clear x1 x2 x3 x4 hcw HBX2 HC2
  obtain ⟨⟨a1, a2⟩, a3, a4⟩ := blk2 HR33.out
  have HR34 := Lib.hid (blk2_set HR33.out (.slice O' on.length oc') (.slice L' left.length lc'))
  have HR44 := Lib.hid ((blk2_far (.slice O' on.length oc') (.slice L' left.length lc') (by omega : w.heap.size + 1 + 1 ≠ w.heap.size + 1)).trans HR43.out)
  have HD4 := Lib.hid (BX1.set (BX1.set HD3.out (g := w.heap.size + 1) 0 (.slice O' on.length oc') (by omega)) (g := w.heap.size + 1) 1 (.slice L' left.length lc') (by omega))
  have HCW4 := Lib.hid (HCW3.out.far (below_set2 (Below.refl w.heap.size w3) (by omega : w.heap.size ≤ w.heap.size + 1) (.slice O' on.length oc') (.slice L' left.length lc')) (fun k hk => blk2_far _ _ (by have := HOB.out k hk; have := HS2.out; omega)))
  have HS4 : Hid (((w3.setCell ⟨w.heap.size + 1, 0, none⟩ (.slice O' on.length oc')).setCell ⟨w.heap.size + 1, 1, none⟩ (.slice L' left.length lc')).heap.size = w3.heap.size) := by show _ = _; rw [World.size_setCell, World.size_setCell]
  have HS3 : Hid (w.heap.size + 1 + 1 < w3.heap.size) := heap_lt HR43.out
  clear HR33 HR43 HD3 HCW3
  go_upto_region 5 with (fail)
  clear a1 a2 a3 a4
  generalize (w3.setCell { block := w.heap.size + 1, off := 0 } (Value.slice O' on.length oc')).setCell { block := w.heap.size + 1, off := 1 } (Value.slice L' left.length lc') = w4 at *
  obtain ⟨⟨a1, a2⟩, a3, a4⟩ := blk2 HR34.out
  obtain ⟨d1, d2⟩ := HD4.out
  go_wp2_with fail
  refine (C3.out w O' oc' L' lc' _ HCW4.out).mono ?_
  rintro e w5 ⟨v5, rfl, hcw5, hv5, hkp⟩
  have HV6 : Hid (OI ((w5.setCell ⟨w.heap.size + 1 + 1, 0, none⟩ (.slice O' on.length oc')).setCell ⟨w.heap.size + 1 + 1, 1, none⟩ (.slice L' left.length lc')) w.heap.size v5 (tickR on left).2.2) := (own_move hv5 (fun k hk => blk2_far _ _ (by have := own_base hv5 k hk; have := HS4.out; have := HS3.out; omega)) |> fun h => OI.weaken h (by have := HS4.out; have := HS3.out; omega))
  have HVA : Hid (∀ k, v5.ownBlock = some k → (Value.slice O' on.length oc').ownBlock ≠ some k ∧ (Value.slice L' left.length lc').ownBlock ≠ some k) := fun k hk => by
   have h1 := own_base hv5 k hk
   exact ⟨fun e => by have := own_lt HCW4.out.o k e; omega, fun e => by have := own_lt HCW4.out.l k e; omega⟩
  clear hv5
  have HR35 := Lib.hid ((hkp.2 (w.heap.size + 1) (by have := HS4.out; have := HS3.out; omega) (fun e => by have := HOB.out _ (.inl e); have := HS2.out; omega) (fun e => by have := HOB.out _ (.inr e); have := HS2.out; omega)).trans HR34.out)
  have HR45 := Lib.hid ((hkp.2 (w.heap.size + 1 + 1) (by have := HS4.out; have := HS3.out; omega) (fun e => by have := HOB.out _ (.inl e); have := HS2.out; omega) (fun e => by have := HOB.out _ (.inr e); have := HS2.out; omega)).trans HR44.out)
  have HCW5 := Lib.hid hcw5
  have HCW6 := Lib.hid (hcw5.far (below_set2 (Below.refl w.heap.size w5) (by omega : w.heap.size ≤ w.heap.size + 1 + 1) (.slice O' on.length oc') (.slice L' left.length lc')) (fun k hk => blk2_far _ _ (by have := HOB.out k hk; have := HS2.out; omega)))
  clear a1 a2 a3 a4 d1 d2 hcw5 hkp
  obtain ⟨⟨a1, a2⟩, a3, a4⟩ := blk2 HR35.out
  obtain ⟨⟨d1, d2⟩, d3, d4⟩ := blk2 HR45.out
  have hR6 := blk2_set HR45.out (.slice O' on.length oc') (.slice L' left.length lc')
  obtain ⟨⟨b1, b2⟩, b3, b4⟩ := blk2 hR6
  clear hR6 b2 b4
  go_wp2_with fail
  exact bodyPost_ret (v := .tuple #[.agg #[.slice O' on.length oc', .slice L' left.length lc'], v5, .int .i64 0]) (by simp [results, Try.results14, go_sem, b1, b3]) rfl ⟨_, _, _, rfl, HCW6.out, HV6.out, HVA.out⟩
end Go.Proofs.Ytmbhjhanafmidaa

set_option linter.unusedVariables false
set_option linter.unusedSimpArgs false
namespace LstPlain
open DagPlain SchPlain Go.Proofs.Ytmbhjhanafmidaa
structure VC (es : List (Int × Int)) (on left : List Int) : Prop where
 lo : ∀ x ∈ left, 0 ≤ x ∧ x ≤ 1000
 on_ : ∀ c, c < on.length → on.getD c 0 ≠ -1 → (0 ≤ on.getD c 0 ∧ on.getD c 0 < left.length) ∧ left.getD (on.getD c 0).toNat 0 ≠ 0 ∧ freeC es left (on.getD c 0) = true
 one : ∀ c c', c < on.length → c' < on.length → on.getD c 0 ≠ -1 → on.getD c 0 = on.getD c' 0 → c = c'
 dn : ∀ n : Nat, n < left.length → left.getD n 0 = 0 → freeC es left n = true
theorem vc_of {l on left : List Int} {es : List (Int × Int)} (h : rightC l es on left = true) : VC es on left ∧ (1 ≤ on.length ∧ on.length ≤ 8) ∧ left.length = l.length := by
 unfold rightC sizesC at h
 simp only [Bool.and_eq_true, decide_eq_true_eq, Bool.not_eq_true', List.any_eq_false] at h
 obtain ⟨⟨⟨⟨⟨h1, h2⟩, h3⟩, h4⟩, h5⟩, h6⟩ := h
 have hon : ∀ c, c < on.length → on.getD c 0 ≠ -1 → ((0 ≤ on.getD c 0 ∧ on.getD c 0 < left.length) ∧ left.getD (on.getD c 0).toNat 0 ≠ 0 ∧ freeC es left (on.getD c 0) = true) ∧ on.getD c 0 ∉ on.take c := by
  intro c hc hne
  have := h5 c (by simpa using hc)
  unfold badOn overC at this
  simp only [Bool.and_eq_true, Bool.or_eq_true, decide_eq_true_eq, bne_iff_ne, ne_eq, not_and, not_or, Bool.not_eq_true', Bool.not_eq_false, List.contains_iff_mem] at this
  obtain ⟨a1, a2, a3, a4, a5⟩ := this hne
  exact ⟨⟨⟨by omega, by omega⟩, a3, a5⟩, a4⟩
 refine ⟨⟨fun x hx => ?_, fun c hc hne => (hon c hc hne).1, fun c c' hc hc' hne e => ?_, fun n hn h0 => ?_⟩, ⟨h1, h2⟩, h3⟩
 ·have := h4 x hx
  unfold oddW at this
  simp only [Bool.or_eq_true, decide_eq_true_eq, not_or] at this
  omega
 ·rcases Nat.lt_trichotomy c c' with g | g | g
  ·exfalso
   apply (hon c' hc' (by rw [← e]; exact hne)).2
   rw [← e, List.getD_eq_getElem?_getD, List.getElem?_eq_getElem hc]
   exact List.mem_take_iff_getElem.2 ⟨c, by omega, rfl⟩
  ·exact g
  ·exfalso
   apply (hon c hc hne).2
   rw [e, List.getD_eq_getElem?_getD, List.getElem?_eq_getElem hc']
   exact List.mem_take_iff_getElem.2 ⟨c', by omega, rfl⟩
 ·have := h6 n (by simpa using hn)
  unfold badLeft overC at this
  simp only [Bool.and_eq_true, decide_eq_true_eq, Bool.not_eq_true', not_and, Bool.not_eq_false, Int.toNat_natCast] at this
  exact this h0
theorem free_iff {es : List (Int × Int)} {left : List Int} {n : Int} : freeC es left n = true ↔ ∀ e ∈ es, e.2 = n → left.getD e.1.toNat 0 = 0 := by
 unfold freeC waitL overC
 simp only [Bool.not_eq_true', List.any_eq_false, Bool.and_eq_true, beq_iff_eq, decide_eq_false_iff_not, not_and, Decidable.not_not]
theorem mem_ready {es : List (Int × Int)} {on left : List Int} {x : Int} : x ∈ readyL es on left ↔ (0 ≤ x ∧ x < left.length) ∧ left.getD x.toNat 0 ≠ 0 ∧ x ∉ on ∧ freeC es left x = true := by
 unfold readyL
 rw [List.mem_map]
 constructor
 ·rintro ⟨n, hn, rfl⟩
  rw [List.mem_filter, List.mem_range] at hn
  obtain ⟨h1, h2⟩ := hn
  unfold readyB overC at h2
  simp only [Bool.and_eq_true, Bool.not_eq_true', decide_eq_false_iff_not, Int.toNat_natCast, List.contains_eq_mem] at h2
  exact ⟨by omega, by rw [Int.toNat_natCast]; exact h2.1.1, h2.1.2, h2.2⟩
 ·rintro ⟨h1, h2, h3, h4⟩
  refine ⟨x.toNat, ?_, by omega⟩
  rw [List.mem_filter, List.mem_range]
  refine ⟨by omega, ?_⟩
  have e : ((x.toNat : Nat) : Int) = x := by omega
  unfold readyB overC
  simp only [Bool.and_eq_true, Bool.not_eq_true', decide_eq_false_iff_not, e, List.contains_eq_mem]
  exact ⟨⟨h2, h3⟩, h4⟩
theorem ready_nodup (es : List (Int × Int)) (on left : List Int) : (readyL es on left).Nodup := by
 unfold readyL
 rw [List.Nodup, List.pairwise_map]
 exact (List.Pairwise.filter _ List.nodup_range).imp (fun h => by omega)
structure FK (r0 on : List Int) (k : Nat) (onk rk : List Int) : Prop where
 len : onk.length = on.length
 old : ∀ c, c < on.length → (k ≤ c ∨ on.getD c 0 ≠ -1) → onk.getD c 0 = on.getD c 0
 new : ∀ c, c < on.length → c < k → on.getD c 0 = -1 → (onk.getD c 0 ∈ r0 ∧ onk.getD c 0 ∉ rk) ∨ (onk.getD c 0 = -1 ∧ rk = [])
 inj : ∀ c c', c < on.length → c' < on.length → on.getD c 0 = -1 → on.getD c' 0 = -1 → onk.getD c 0 ≠ -1 → onk.getD c 0 = onk.getD c' 0 → c = c'
 sub : ∃ t, r0 = t ++ rk ∧ ∀ x, x ∈ t ↔ ∃ c, c < on.length ∧ on.getD c 0 = -1 ∧ onk.getD c 0 = x ∧ x ≠ -1
theorem fk_run {r0 on : List Int} (hn : r0.Nodup) (hp : ∀ x ∈ r0, x ≠ -1) : ∀ k, k ≤ on.length → FK r0 on k (fillK r0 on k).1 (fillK r0 on k).2
 | 0, _ => by
  refine ⟨rfl, fun _ _ _ => rfl, fun c _ h _ => absurd h (by omega), fun c c' _ _ h _ h2 _ => absurd h h2, [], rfl, fun x => ⟨fun h => absurd h (by simp), ?_⟩⟩
  rintro ⟨c, hc, h1, h2, h3⟩
  exact absurd (h2.symm.trans h1) h3
 | k + 1, hk => by
  have ih := fk_run (r0 := r0) (on := on) hn hp k (by omega)
  rw [fillK_next]
  generalize fillK r0 on k = s at *
  obtain ⟨onk, rk⟩ := s
  obtain ⟨i1, i2, i3, i4, t, i5, i6⟩ := ih
  dsimp only at i1 i2 i3 i4 i5 i6
  have hok := i2 k (by omega) (.inl (Nat.le_refl _))
  unfold fillS
  by_cases h1 : on.getD k 0 = -1
  ·rw [if_pos (by rw [hok]; exact h1)]
   cases rk with
   | nil =>
    refine ⟨i1, fun c hc h => i2 c hc (by omega), fun c hc hck h => ?_, i4, t, i5, i6⟩
    by_cases e : c = k
    ·subst e; exact .inr ⟨by rw [hok]; exact h, rfl⟩
    ·exact i3 c hc (by omega) h
   | cons y r =>
    have hset : ∀ c, c < on.length → (onk.set k y).getD c 0 = if c = k then y else onk.getD c 0 := fun c hc => by
     rw [getD_setB]
     by_cases e : k = c
     ·subst e; rw [if_pos ⟨rfl, by omega⟩, if_pos rfl]
     ·rw [if_neg (fun h => e h.1), if_neg (fun h => e h.symm)]
    have hy : y ∈ r0 := by rw [i5]; simp
    have hnd : (t ++ y :: r).Nodup := by rw [← i5]; exact hn
    have hyt : y ∉ t := fun h => (List.nodup_append.1 hnd).2.2 y h y (by simp) rfl
    have hyr : y ∉ r := (List.nodup_cons.1 (List.nodup_append.1 hnd).2.1).1
    have hidle : ∀ c, c < on.length → c ≠ k → on.getD c 0 = -1 → onk.getD c 0 = y → False := fun c hc hck h0 e => by
     have hym : y ∈ t := (i6 y).2 ⟨c, hc, h0, e, hp y hy⟩
     exact hyt hym
    refine ⟨by simp [i1], fun c hc h => ?_, fun c hc hck h => ?_, fun c c' hc hc' h h' hne e => ?_, t ++ [y], by rw [i5]; simp, fun x => ?_⟩
    ·rw [hset c hc]
     split
     ·rename_i e; subst e; rcases h with h | h
      ·omega
      ·exact absurd h1 h
     ·exact i2 c hc (by omega)
    ·rw [hset c hc]
     split
     ·exact .inl ⟨hy, hyr⟩
     ·rename_i e
      rcases i3 c hc (by omega) h with ⟨g1, g2⟩ | ⟨g1, g2⟩
      ·exact .inl ⟨g1, fun hm => g2 (List.mem_cons_of_mem _ hm)⟩
      ·cases g2
    ·rw [hset c hc] at e hne
     rw [hset c' hc'] at e
     by_cases e1 : c = k
     ·by_cases e2 : c' = k
      ·omega
      ·rw [if_pos e1, if_neg e2] at e
       exact absurd (hidle c' hc' e2 h' e.symm) (fun h => h)
     ·by_cases e2 : c' = k
      ·rw [if_neg e1, if_pos e2] at e
       exact absurd (hidle c hc e1 h e) (fun h => h)
      ·rw [if_neg e1] at e hne; rw [if_neg e2] at e
       exact i4 c c' hc hc' h h' hne e
    ·rw [List.mem_append, List.mem_singleton, i6]
     constructor
     ·rintro (⟨c, hc, g1, g2, g3⟩ | rfl)
      ·refine ⟨c, hc, g1, ?_, g3⟩
       rw [hset c hc, if_neg]
       ·exact g2
       ·rintro rfl
        rw [hok, g1] at g2; exact g3 g2.symm
      ·exact ⟨k, by omega, h1, by rw [hset k (by omega), if_pos rfl], hp x hy⟩
     ·rintro ⟨c, hc, g1, g2, g3⟩
      rw [hset c hc] at g2
      by_cases e : c = k
      ·rw [if_pos e] at g2; exact .inr g2.symm
      ·rw [if_neg e] at g2; exact .inl ⟨c, hc, g1, g2, g3⟩
  ·rw [if_neg (by rw [hok]; exact h1)]
   refine ⟨i1, fun c hc h => i2 c hc (by by_cases e : c = k; exact .inr (by rw [e]; exact h1); omega), fun c hc hck h => ?_, i4, t, i5, i6⟩
   by_cases e : c = k
   ·subst e; exact absurd h h1
   ·exact i3 c hc (by omega) h
theorem getD_mem_of {on : List Int} {x : Int} (h : x ∈ on) : ∃ c, c < on.length ∧ on.getD c 0 = x := mem_getD_row h
section
variable {es : List (Int × Int)} {on left : List Int}
theorem ready_pos : ∀ x ∈ readyL es on left, x ≠ -1 := fun x hx e => by have := (mem_ready.1 hx).1; omega
theorem fill_fk (es : List (Int × Int)) (on left : List Int) : FK (readyL es on left) on on.length (fillL (readyL es on left) on) (fillK (readyL es on left) on on.length).2 := fk_run (ready_nodup es on left) ready_pos on.length (Nat.le_refl _)
theorem fill_len : (fillL (readyL es on left) on).length = on.length := (fill_fk es on left).len
theorem fill_old {c : Nat} (hc : c < on.length) (h : on.getD c 0 ≠ -1) : (fillL (readyL es on left) on).getD c 0 = on.getD c 0 := (fill_fk es on left).old c hc (.inr h)
theorem fill_new {c : Nat} (hc : c < on.length) (h : on.getD c 0 = -1) : (fillL (readyL es on left) on).getD c 0 ∈ readyL es on left ∨ (fillL (readyL es on left) on).getD c 0 = -1 := by
 rcases (fill_fk es on left).new c hc hc h with h | h
 ·exact .inl h.1
 ·exact .inr h.1
theorem fill_mem {x : Int} (h : x ∈ on) (hx : x ≠ -1) : x ∈ fillL (readyL es on left) on := by
 obtain ⟨c, hc, e⟩ := mem_getD_row h
 exact getD_row_mem (c := c) (by rw [fill_len]; exact hc) (by rw [fill_old hc (by rw [e]; exact hx)]; exact e)
theorem fill_idle {c : Nat} (hc : c < on.length) (h : (fillL (readyL es on left) on).getD c 0 = -1) : readyL es (fillL (readyL es on left) on) left = [] := by
 have F := fill_fk es on left
 have h0 : on.getD c 0 = -1 := by
  by_cases e : on.getD c 0 = -1
  ·exact e
  ·rw [fill_old hc e] at h; exact absurd h e
 have hr : (fillK (readyL es on left) on on.length).2 = [] := by
  rcases F.new c hc hc h0 with g | g
  ·exact absurd h (ready_pos _ g.1)
  ·exact g.2
 obtain ⟨t, ht, hm⟩ := F.sub
 rw [hr, List.append_nil] at ht
 rw [List.eq_nil_iff_forall_not_mem]
 intro x hx
 obtain ⟨g1, g2, g3, g4⟩ := mem_ready.1 hx
 have : x ∈ readyL es on left := mem_ready.2 ⟨g1, g2, fun hm => g3 (fill_mem hm (by omega)), g4⟩
 rw [ht, hm] at this
 obtain ⟨c', hc', -, e, -⟩ := this
 exact g3 (getD_row_mem (c := c') (by rw [fill_len]; exact hc') e)
theorem fill_vc (h : VC es on left) : VC es (fillL (readyL es on left) on) left := by
 have F := fill_fk es on left
 have key : ∀ c, c < on.length → on.getD c 0 = -1 → (fillL (readyL es on left) on).getD c 0 ≠ -1 → (fillL (readyL es on left) on).getD c 0 ∈ readyL es on left := fun c hc h0 hne => by
  rcases fill_new (es := es) (left := left) hc h0 with g | g
  ·exact g
  ·exact absurd g hne
 have cross : ∀ c c', c < on.length → c' < on.length → on.getD c 0 ≠ -1 → on.getD c' 0 = -1 → (fillL (readyL es on left) on).getD c' 0 ≠ -1 → on.getD c 0 = (fillL (readyL es on left) on).getD c' 0 → False := fun c c' hc hc' h1 h2 h3 e => by
  have := (mem_ready.1 (key c' hc' h2 h3)).2.2.1
  exact this (by rw [← e]; exact getD_row_mem hc rfl)
 refine ⟨h.lo, fun c hc hne => ?_, fun c c' hc hc' hne e => ?_, h.dn⟩
 ·rw [fill_len] at hc
  by_cases h0 : on.getD c 0 = -1
  ·obtain ⟨g1, g2, g3, g4⟩ := mem_ready.1 (key c hc h0 hne)
   exact ⟨g1, g2, g4⟩
  ·rw [fill_old hc h0]; exact h.on_ c hc h0
 ·rw [fill_len] at hc hc'
  by_cases h0 : on.getD c 0 = -1
  ·by_cases h1 : on.getD c' 0 = -1
   ·exact F.inj c c' hc hc' h0 h1 hne e
   ·exfalso
    rw [fill_old hc' h1] at e
    exact cross c' c hc' hc h1 h0 hne e.symm
  ·by_cases h1 : on.getD c' 0 = -1
   ·exfalso
    have hne' := hne
    rw [e] at hne'
    rw [fill_old hc h0] at e
    exact cross c c' hc hc' h0 h1 hne' e
   ·rw [fill_old hc h0] at e hne; rw [fill_old hc' h1] at e
    exact h.one c c' hc hc' hne e
structure TK (on left : List Int) (k : Nat) (onk lk out : List Int) : Prop where
 onl : onk.length = on.length
 ll : lk.length = left.length
 on_ : ∀ c, c < on.length → onk.getD c 0 = if c < k ∧ on.getD c 0 ≠ -1 ∧ left.getD (on.getD c 0).toNat 0 = 1 then -1 else on.getD c 0
 left_ : ∀ i : Nat, i < left.length → lk.getD i 0 = left.getD i 0 - if (i : Int) ∈ on.take k then 1 else 0
 out_ : ∀ x, x ∈ out ↔ ∃ c, c < k ∧ c < on.length ∧ on.getD c 0 = x ∧ x ≠ -1 ∧ left.getD x.toNat 0 = 1
 nod : out.Nodup
 sum : lk.sum = left.sum - busyRow (on.take k)
theorem tk_run (h : VC es on left) : ∀ k, k ≤ on.length → TK on left k (tickK on left k).1 (tickK on left k).2.1 (tickK on left k).2.2
 | 0, _ => by
  refine ⟨rfl, rfl, fun c _ => by rw [if_neg (by omega)]; rfl, fun i _ => by simp [tickK], fun x => ⟨fun h => by simp [tickK] at h, ?_⟩, List.nodup_nil, by simp [tickK, busyRow]⟩
  rintro ⟨c, hc, -⟩; omega
 | k + 1, hk => by
  have ih := tk_run h k (by omega)
  rw [tickK_next]
  generalize tickK on left k = s at *
  obtain ⟨onk, lk, out⟩ := s
  obtain ⟨i1, i2, i3, i4, i5, i6, i7⟩ := ih
  dsimp only at i1 i2 i3 i4 i5 i6 i7
  have hok : onk.getD k 0 = on.getD k 0 := by rw [i3 k (by omega), if_neg (by omega)]
  have hb := busyRow_next on k (by omega)
  unfold tickS
  dsimp only
  rw [hok]
  by_cases h1 : on.getD k 0 = -1
  ·rw [if_pos h1]
   rw [if_pos h1] at hb
   refine ⟨i1, i2, fun c hc => ?_, fun i hi => ?_, fun x => ?_, i6, by rw [hb]; simpa using i7⟩
   ·rw [i3 c hc]
    by_cases e : c = k
    ·subst e; rw [if_neg (by omega), if_neg (fun h => h.2.1 h1)]
    ·by_cases hcc : c < k ∧ on.getD c 0 ≠ -1 ∧ left.getD (on.getD c 0).toNat 0 = 1
     ·rw [if_pos hcc, if_pos ⟨by omega, hcc.2⟩]
     ·rw [if_neg hcc, if_neg (fun h => hcc ⟨by omega, h.2⟩)]
   ·rw [i4 i hi]
    congr 1
    have : (i : Int) ∈ on.take (k + 1) ↔ (i : Int) ∈ on.take k := by
     rw [take_mem_next (by omega), h1]; exact ⟨fun h => h.resolve_right (by omega), .inl⟩
    by_cases hm : (i : Int) ∈ on.take k
    ·rw [if_pos hm, if_pos (this.2 hm)]
    ·rw [if_neg hm, if_neg (fun h => hm (this.1 h))]
   ·rw [i5]
    constructor
    ·rintro ⟨c, g1, g2⟩; exact ⟨c, by omega, g2⟩
    ·rintro ⟨c, g1, g2, g3, g4, g5⟩
     refine ⟨c, ?_, g2, g3, g4, g5⟩
     by_cases e : c = k
     ·subst e; exact absurd (g3.symm.trans h1) g4
     ·omega
  ·rw [if_neg h1]
   rw [if_neg h1] at hb
   obtain ⟨⟨n0, n1⟩, n2, n3⟩ := h.on_ k (by omega) h1
   obtain ⟨n, hn⟩ : ∃ n : Nat, on.getD k 0 = (n : Int) := ⟨(on.getD k 0).toNat, by omega⟩
   rw [hn] at n0 n1 n2 h1 ⊢
   rw [Int.toNat_natCast] at n2 ⊢
   have hnl : n < left.length := by omega
   have hnt : (n : Int) ∉ on.take k := fun hm => by
    obtain ⟨j, hj, e⟩ := List.mem_take_iff_getElem.1 hm
    have := h.one k j (by omega) (by omega) (by rw [hn]; exact h1) (by rw [hn, List.getD_eq_getElem?_getD, List.getElem?_eq_getElem (by omega)]; exact e.symm)
    omega
   have hlk : lk.getD n 0 = left.getD n 0 := by rw [i4 n hnl, if_neg hnt]; omega
   rw [hlk]
   have hout : (n : Int) ∉ out := fun hm => by
    obtain ⟨c, g1, g2, g3, -⟩ := (i5 _).1 hm
    exact hnt (List.mem_take_iff_getElem.2 ⟨c, by omega, by rw [List.getD_eq_getElem?_getD, List.getElem?_eq_getElem g2] at g3; exact g3⟩)
   have hsum : (lk.set n (left.getD n 0 - 1)).sum = left.sum - busyRow (on.take (k + 1)) := by rw [sum_set lk n _ (by omega), hlk, i7, hb]; omega
   refine ⟨?_, by simp [i2], fun c hc => ?_, fun i hi => ?_, fun x => ?_, ?_, hsum⟩
   ·split <;> simp [i1]
   ·have hb3 : ∀ (z : Int), (if left.getD n 0 - 1 = 0 then onk.set k (-1) else onk).getD c 0 = if c = k ∧ left.getD n 0 = 1 then -1 else onk.getD c 0 := fun _ => by
     by_cases hz : left.getD n 0 - 1 = 0
     ·rw [if_pos hz, getD_setB]
      by_cases e : k = c
      ·subst e; rw [if_pos ⟨rfl, by omega⟩, if_pos ⟨rfl, by omega⟩]
      ·rw [if_neg (fun h => e h.1), if_neg (fun h => e h.1.symm)]
     ·rw [if_neg hz, if_neg (by omega)]
    rw [hb3 0, i3 c hc]
    by_cases e : c = k
    ·subst e
     rw [hn, Int.toNat_natCast, if_neg (by omega : ¬ (c < c ∧ (n : Int) ≠ -1 ∧ left.getD n 0 = 1))]
     by_cases hz : left.getD n 0 = 1
     ·rw [if_pos ⟨rfl, hz⟩, if_pos ⟨by omega, h1, hz⟩]
     ·rw [if_neg (fun h => hz h.2), if_neg (fun h => hz h.2.2)]
    ·rw [if_neg (fun h => e h.1)]
     by_cases hcc : c < k ∧ on.getD c 0 ≠ -1 ∧ left.getD (on.getD c 0).toNat 0 = 1
     ·rw [if_pos hcc, if_pos ⟨by omega, hcc.2⟩]
     ·rw [if_neg hcc, if_neg (fun h => hcc ⟨by omega, h.2⟩)]
   ·rw [getD_setB]
    by_cases e : n = i
    ·subst e
     rw [if_pos ⟨rfl, by omega⟩, if_pos ((take_mem_next (by omega) _).2 (.inr hn))]
    ·rw [if_neg (fun h => e h.1), i4 i hi]
     congr 1
     have : (i : Int) ∈ on.take (k + 1) ↔ (i : Int) ∈ on.take k := by
      rw [take_mem_next (by omega), hn]; exact ⟨fun h => h.resolve_right (by omega), .inl⟩
     by_cases hm : (i : Int) ∈ on.take k
     ·rw [if_pos hm, if_pos (this.2 hm)]
     ·rw [if_neg hm, if_neg (fun h => hm (this.1 h))]
   ·have hx : x ∈ (if left.getD n 0 - 1 = 0 then out ++ [(n : Int)] else out) ↔ x ∈ out ∨ (x = (n : Int) ∧ left.getD n 0 = 1) := by
     by_cases hz : left.getD n 0 - 1 = 0
     ·rw [if_pos hz, List.mem_append, List.mem_singleton]
      exact ⟨fun h => h.imp id (fun e => ⟨e, by omega⟩), fun h => h.imp id (fun e => e.1)⟩
     ·rw [if_neg hz]
      exact ⟨.inl, fun h => h.resolve_right (fun e => hz (by omega))⟩
    rw [hx, i5]
    constructor
    ·rintro (⟨c, g1, g2⟩ | ⟨rfl, g⟩)
     ·exact ⟨c, by omega, g2⟩
     ·exact ⟨k, by omega, by omega, hn, h1, by rw [Int.toNat_natCast]; exact g⟩
    ·rintro ⟨c, g1, g2, g3, g4, g5⟩
     by_cases e : c = k
     ·subst e
      rw [hn] at g3
      subst g3
      exact .inr ⟨rfl, by rw [Int.toNat_natCast] at g5; exact g5⟩
     ·exact .inl ⟨c, by omega, g2, g3, g4, g5⟩
   ·show (if left.getD n 0 - 1 = 0 then out ++ [(n : Int)] else out).Nodup
    by_cases hz : left.getD n 0 - 1 = 0
    ·rw [if_pos hz, List.nodup_append]
     refine ⟨i6, by simp, fun a ha b hb => ?_⟩
     rw [List.mem_singleton] at hb
     subst hb
     exact fun e => hout (by rw [← e]; exact ha)
    ·rw [if_neg hz]; exact i6
end
end LstPlain

set_option linter.unusedVariables false
set_option linter.unusedSimpArgs false
namespace LstPlain
open DagPlain SchPlain Go.Proofs.Ytmbhjhanafmidaa
section
variable {es : List (Int × Int)} {on left : List Int}
theorem tick_tk (h : VC es on left) : TK on left on.length (tickL on left).1 (tickL on left).2.1 (tickL on left).2.2 := tk_run h on.length (Nat.le_refl _)
theorem tick_on (h : VC es on left) {c : Nat} (hc : c < on.length) : (tickL on left).1.getD c 0 = if on.getD c 0 ≠ -1 ∧ left.getD (on.getD c 0).toNat 0 = 1 then -1 else on.getD c 0 := by
 rw [(tick_tk h).on_ c hc]
 by_cases g : on.getD c 0 ≠ -1 ∧ left.getD (on.getD c 0).toNat 0 = 1
 ·rw [if_pos ⟨hc, g⟩, if_pos g]
 ·rw [if_neg (fun x => g x.2), if_neg g]
theorem tick_left (h : VC es on left) {i : Nat} (hi : i < left.length) : (tickL on left).2.1.getD i 0 = left.getD i 0 - if (i : Int) ∈ on then 1 else 0 := by
 rw [(tick_tk h).left_ i hi, List.take_length]
theorem tick_out (h : VC es on left) {x : Int} : x ∈ (tickL on left).2.2 ↔ x ∈ on ∧ x ≠ -1 ∧ left.getD x.toNat 0 = 1 := by
 rw [(tick_tk h).out_]
 constructor
 ·rintro ⟨c, -, hc, e, h1, h2⟩; exact ⟨getD_row_mem hc e, h1, h2⟩
 ·rintro ⟨hm, h1, h2⟩
  obtain ⟨c, hc, e⟩ := mem_getD_row hm
  exact ⟨c, hc, hc, e, h1, h2⟩
theorem tick_len (h : VC es on left) : (tickL on left).1.length = on.length ∧ (tickL on left).2.1.length = left.length := ⟨(tick_tk h).onl, (tick_tk h).ll⟩
theorem tick_sum (h : VC es on left) : (tickL on left).2.1.sum = left.sum - busyRow on := by rw [(tick_tk h).sum, List.take_length]
theorem on_pos (h : VC es on left) {i : Nat} (hm : (i : Int) ∈ on) : i < left.length ∧ 1 ≤ left.getD i 0 := by
 obtain ⟨c, hc, e⟩ := mem_getD_row hm
 obtain ⟨h1, h2, -⟩ := h.on_ c hc (by omega)
 rw [e] at h1 h2
 rw [Int.toNat_natCast] at h2
 have := h.lo (left.getD i 0) (getD_mem left i (by omega))
 omega
theorem tick_zero (h : VC es on left) (i : Nat) (h0 : left.getD i 0 = 0) : (tickL on left).2.1.getD i 0 = 0 := by
 by_cases hi : i < left.length
 ·rw [tick_left h hi, h0, if_neg (fun hm => by have := (on_pos h hm).2; omega)]; rfl
 ·rw [List.getD_eq_getElem?_getD, List.getElem?_eq_none (by rw [(tick_len h).2]; omega)]; rfl
theorem free_keep {left' : List Int} (hk : ∀ i : Nat, left.getD i 0 = 0 → left'.getD i 0 = 0) {n : Int} (h : freeC es left n = true) : freeC es left' n = true := by
 rw [free_iff] at h ⊢
 exact fun e he h2 => hk _ (h e he h2)
theorem tick_vc (h : VC es on left) : VC es (tickL on left).1 (tickL on left).2.1 := by
 obtain ⟨l1, l2⟩ := tick_len h
 have hz := tick_zero h
 refine ⟨fun x hx => ?_, fun c hc hne => ?_, fun c c' hc hc' hne e => ?_, fun n hn h0 => ?_⟩
 ·obtain ⟨i, hi, rfl⟩ := List.getElem_of_mem hx
  have e := tick_left h (i := i) (by omega)
  rw [List.getD_eq_getElem?_getD, List.getElem?_eq_getElem hi] at e
  simp only [Option.getD_some] at e
  have := h.lo (left.getD i 0) (getD_mem left i (by omega))
  rw [e]
  by_cases hm : (i : Int) ∈ on
  ·have := (on_pos h hm).2; rw [if_pos hm]; omega
  ·rw [if_neg hm]; omega
 ·rw [l1] at hc
  rw [tick_on h hc] at hne ⊢
  by_cases g : on.getD c 0 ≠ -1 ∧ left.getD (on.getD c 0).toNat 0 = 1
  ·rw [if_pos g] at hne; exact absurd rfl hne
  ·rw [if_neg g] at hne ⊢
   obtain ⟨h1, h2, h3⟩ := h.on_ c hc hne
   refine ⟨by omega, ?_, free_keep hz h3⟩
   rw [tick_left h (by omega), if_pos (by rw [show (((on.getD c 0).toNat : Nat) : Int) = on.getD c 0 by omega]; exact getD_row_mem hc rfl)]
   intro e
   exact g ⟨hne, by omega⟩
 ·rw [l1] at hc hc'
  rw [tick_on h hc] at hne e
  rw [tick_on h hc'] at e
  by_cases g : on.getD c 0 ≠ -1 ∧ left.getD (on.getD c 0).toNat 0 = 1
  ·rw [if_pos g] at hne; exact absurd rfl hne
  ·rw [if_neg g] at hne e
   by_cases g' : on.getD c' 0 ≠ -1 ∧ left.getD (on.getD c' 0).toNat 0 = 1
   ·rw [if_pos g'] at e; exact absurd e hne
   ·rw [if_neg g'] at e; exact h.one c c' hc hc' hne e
 ·rw [l2] at hn
  rw [tick_left h hn] at h0
  by_cases hm : (n : Int) ∈ on
  ·obtain ⟨c, hc, e⟩ := mem_getD_row hm
   have := (h.on_ c hc (by omega)).2.2
   rw [e] at this
   exact free_keep hz this
  ·rw [if_neg hm] at h0
   exact free_keep hz (h.dn n hn (by omega))
theorem busy_pos {on : List Int} {c : Nat} (hc : c < on.length) (h : on.getD c 0 ≠ -1) : 1 ≤ busyRow on := by
 unfold busyRow
 have : on.getD c 0 ∈ on.filter (· != -1) := List.mem_filter.2 ⟨getD_row_mem hc rfl, by simpa using h⟩
 have := List.length_pos_of_mem this
 omega
theorem some_runs {l : List Int} (hz : checkL l es = 0) (h : VC es on left) (hll : left.length = l.length) (h1 : 1 ≤ on.length) (hp : ∃ i : Nat, i < left.length ∧ left.getD i 0 ≠ 0) : 1 ≤ busyRow (fillL (readyL es on left) on) := by
 by_cases hr : ∃ c, c < on.length ∧ (fillL (readyL es on left) on).getD c 0 ≠ -1
 ·obtain ⟨c, hc, hne⟩ := hr
  exact busy_pos (c := c) (by rw [fill_len]; exact hc) hne
 ·exfalso
  have hall : ∀ c, c < on.length → (fillL (readyL es on left) on).getD c 0 = -1 := fun c hc => by
   by_cases e : (fillL (readyL es on left) on).getD c 0 = -1
   ·exact e
   ·exact absurd ⟨c, hc, e⟩ hr
  have hnil := fill_idle (es := es) (left := left) (c := 0) (by omega) (hall 0 (by omega))
  obtain ⟨g1, g2, g3, g4⟩ := ordL_good hz
  have key : ∀ j, j < (ordL l es).length → left.getD ((ordL l es).getD j 0).toNat 0 = 0 := by
   intro j
   induction j using Nat.strongRecOn with
   | _ j ih =>
    intro hj
    have hv := g3 _ (getD_mem _ j hj)
    by_cases e : left.getD ((ordL l es).getD j 0).toNat 0 = 0
    ·exact e
    ·exfalso
     have hmem : (ordL l es).getD j 0 ∈ readyL es (fillL (readyL es on left) on) left := by
      refine mem_ready.2 ⟨by omega, e, fun hm => ?_, free_iff.2 (fun x hx h2 => ?_)⟩
      ·obtain ⟨c, hc, ec⟩ := mem_getD_row hm
       rw [fill_len] at hc
       rw [hall c hc] at ec
       omega
      ·obtain ⟨i, hi, ei⟩ := g1.2 j hj x hx h2
       have := ih i hi (by omega)
       rw [ei] at this
       exact this
     rw [hnil] at hmem
     cases hmem
  obtain ⟨i, hi, hne⟩ := hp
  obtain ⟨j, hj, e⟩ := mem_getD (g4 (i : Int) (by omega))
  have := key j hj
  rw [e, Int.toNat_natCast] at this
  exact hne this
end
def rowR (es : List (Int × Int)) (s : List Int × List Int) : List Int := fillL (readyL es s.1 s.2) s.1
def stepR (es : List (Int × Int)) (s : List Int × List Int) : List Int × List Int := ((tickL (rowR es s) s.2).1, (tickL (rowR es s) s.2).2.1)
def runT (es : List (Int × Int)) : Nat → List Int × List Int → List (List Int)
 | 0, _ => []
 | g + 1, s => if s.2.any posN = true then rowR es s :: runT es g (stepR es s) else []
theorem any_pos {left : List Int} (h : ∀ x ∈ left, 0 ≤ x ∧ x ≤ 1000) : left.any posN = true ↔ ∃ i : Nat, i < left.length ∧ left.getD i 0 ≠ 0 := by
 rw [List.any_eq_true]
 constructor
 ·rintro ⟨x, hx, hp⟩
  obtain ⟨i, hi, rfl⟩ := List.getElem_of_mem hx
  unfold posN at hp
  simp only [decide_eq_true_eq] at hp
  exact ⟨i, hi, by rw [List.getD_eq_getElem?_getD, List.getElem?_eq_getElem hi]; simp only [Option.getD_some]; omega⟩
 ·rintro ⟨i, hi, hne⟩
  have hm := getD_mem left i hi
  have := h _ hm
  exact ⟨_, hm, by unfold posN; simp only [decide_eq_true_eq]; omega⟩
theorem sum_zero {left : List Int} (h : ∀ x ∈ left, 0 ≤ x ∧ x ≤ 1000) (h0 : left.sum ≤ 0) : left.any posN = false := by
 induction left with
 | nil => rfl
 | cons x l ih =>
  have hx := h x List.mem_cons_self
  have hs : 0 ≤ l.sum := by
   have : ∀ (m : List Int), (∀ y ∈ m, 0 ≤ y ∧ y ≤ 1000) → 0 ≤ m.sum := by
    intro m
    induction m with
    | nil => intro _; simp
    | cons a m ihm => intro hm; have := hm a List.mem_cons_self; have := ihm (fun y hy => hm y (List.mem_cons_of_mem _ hy)); simp; omega
   exact this l (fun y hy => h y (List.mem_cons_of_mem _ hy))
  simp only [List.sum_cons] at h0
  rw [List.any_cons, ih (fun y hy => h y (List.mem_cons_of_mem _ hy)) (by omega)]
  unfold posN
  simp; omega
structure RI (l : List Int) (es : List (Int × Int)) (cores : Nat) (s : List Int × List Int) : Prop where
 vc : VC es s.1 s.2
 on_ : s.1.length = cores
 ll : s.2.length = l.length
section
variable {l : List Int} {es : List (Int × Int)} {cores : Nat} {s : List Int × List Int}
theorem RI.step (h : RI l es cores s) : RI l es cores (stepR es s) := by
 have h1 := fill_vc h.vc
 obtain ⟨l1, l2⟩ := tick_len h1
 exact ⟨tick_vc h1, l1.trans (fill_len.trans h.on_), l2.trans h.ll⟩
theorem RI.less (h : RI l es cores s) (hz : checkL l es = 0) (hc : 1 ≤ cores) (hp : s.2.any posN = true) : (stepR es s).2.sum ≤ s.2.sum - 1 := by
 have h1 := fill_vc h.vc
 have h2 := tick_sum h1
 have h3 := some_runs hz h.vc h.ll (by rw [h.on_]; exact hc) ((any_pos h.vc.lo).1 hp)
 show (tickL (rowR es s) s.2).2.1.sum ≤ _
 unfold rowR
 omega
theorem runT_stop {g : Nat} (hp : s.2.any posN = false) : runT es g s = [] := by
 cases g with
 | zero => rfl
 | succ g => show (if s.2.any posN = true then _ else []) = []; rw [hp]; rfl
theorem runT_next {g : Nat} (hp : s.2.any posN = true) : runT es (g + 1) s = rowR es s :: runT es g (stepR es s) := by
 show (if s.2.any posN = true then _ else []) = _
 rw [if_pos hp]
theorem vc_new {need : List Int} (h : ∀ x ∈ need, 1 ≤ x ∧ x ≤ 1000) (n : Nat) : VC es (List.replicate n (-1)) need := by
 have g : ∀ c, c < n → (List.replicate n (-1 : Int)).getD c 0 = -1 := fun c hc => by simp [List.getD_eq_getElem?_getD, List.getElem?_replicate, hc]
 refine ⟨fun x hx => by have := h x hx; omega, fun c hc hne => ?_, fun c c' hc _ hne => ?_, fun i hi h0 => ?_⟩
 ·rw [List.length_replicate] at hc; exact absurd (g c hc) hne
 ·rw [List.length_replicate] at hc; exact absurd (g c hc) hne
 ·have := h _ (getD_mem need i hi); omega
end
end LstPlain

set_option linter.unusedVariables false
set_option linter.unusedSimpArgs false
namespace Go.Proofs.Ytmbhjhanafmidaa
open Go.RowKit Go.Sort
open DagPlain SchPlain LstPlain
open Go.Proofs.YtmbhjhanafmidaaW.PrintWords
open PLst (S85 k85 rd_T85 at_T85 k85_mk)
theorem new_run (need : List Int) (cores : Nat) (hc : cores ≤ 8) : ∀ (m x : Nat), x + m = cores → PLst.list_New.l0 (m + 1) (cores : Int) (x : Int) (List.replicate x (-1)) need = some (List.replicate cores (-1), need, 0)
 | 0, x, h => by
  obtain rfl : x = cores := by omega
  rw [PLst.list_New.l0, if_neg (by omega)]
 | m + 1, x, h => by
  rw [PLst.list_New.l0, if_pos (by omega), if_pos (by rw [List.length_replicate]; omega), show wrap64 ((x : Int) + 1) = ((x + 1 : Nat) : Int) by unfold wrap64; omega, ← List.replicate_succ']
  exact new_run need cores hc m (x + 1) (by omega)
def newR (l : List Int) (es : List (Int × Int)) (need : List Int) (cores : Int) : List Int × List Int := if lookR l es need cores [] = 0 then (List.replicate cores.toNat (-1), need) else ([], [])
theorem look_nil {l need : List Int} {es : List (Int × Int)} {cores : Int} (h : lookR l es need cores [] = 0) : checkL l es = 0 ∧ (1 ≤ cores ∧ cores ≤ 8) ∧ need.length = l.length ∧ ∀ x ∈ need, 1 ≤ x ∧ x ≤ 1000 := by
 have hv := valid_of h
 have hr := hv.rb
 unfold rightB at hr
 simp only [Bool.and_eq_true, decide_eq_true_eq, Bool.not_eq_true', List.any_eq_false] at hr
 refine ⟨hv.zd, ⟨hr.1.2, hr.2⟩, hr.1.1.1, fun x hx => ?_⟩
 have := hr.1.1.2 x hx
 unfold oddN at this
 simp at this
 omega
theorem New_any (A : Option Addr) (c : Nat) (l : List Int) (B : Option Addr) (d : Nat) (es : List (Int × Int)) (D : Option Addr) (dc : Nat) (need : List Int) (cores : Int) (w : World) (hg : GR w A c l B d es) (hd : need.length ≤ dc) (hD : ReadsInt w .i64 D need.length need) (hn : l.length ≤ 1000 ∧ es.length ≤ 1000) (hnl : need.length ≤ 1000) :
  Calls Try.prog 28 #[.agg #[.slice A l.length c, .slice B es.length d], .slice D need.length dc, .int .i64 cores] w (CrewPost w (newR l es need cores).1 (newR l es need cores).2 (lookR l es need cores [])) := by
 have hf : ∃ k, PLst.list_New.f k l (es.map fun e => ⟨e.1, e.2⟩) need cores = some ((newR l es need cores).1, (newR l es need cores).2, lookR l es need cores []) := by
  have h1 : PLst.sched_Check.f l (es.map fun e => ⟨e.1, e.2⟩) need cores [] = some (lookR l es need cores []) := by
   unfold PLst.sched_Check.f
   rw [map_back, if_pos ⟨⟨⟨hn.1, by rw [List.length_map]; exact hn.2⟩, hnl⟩, by simp⟩]
  have h2 : PLst.slices_Clone_int_int.f need = some need := by unfold PLst.slices_Clone_int_int.f; rw [if_pos (by omega)]
  unfold PLst.list_New.f newR
  by_cases hz : lookR l es need cores [] = 0
  ·obtain ⟨-, ⟨c1, c2⟩, -, -⟩ := look_nil hz
   obtain ⟨n, rfl⟩ : ∃ n : Nat, cores = (n : Int) := ⟨cores.toNat, by omega⟩
   refine ⟨n + 1, ?_⟩
   rw [h1, Option.bind_some, if_pos hz, h2, Option.bind_some, if_pos hz, hz, Int.toNat_natCast]
   exact new_run need n (by omega) n 0 (by omega)
  ·refine ⟨0, ?_⟩
   rw [h1, Option.bind_some, if_neg hz, if_neg hz]
 obtain ⟨k, hf⟩ := hf
 have := PLst.list_New.calls k A c l B d (es.map fun e => ⟨e.1, e.2⟩) D dc need cores _ _ _ w (Kd.C_of_reads (d := (0 : Int)) (h1 := fun _ => rfl) hg.1.2) hg.1.1 (edr_C hg.2.2 hn.2) (by rw [List.length_map]; exact hg.2.1) (Kd.C_of_reads (d := (0 : Int)) (h1 := fun _ => rfl) hD) hd hf
 rw [List.length_map] at this
 refine this.mono ?_
 rintro e w' ⟨v0, v1, rfl, h0, h1, hb⟩
 exact ⟨v0, v1, rfl, Kd.own_of_R h0, Kd.own_of_R h1, fun k hk hk2 => h0.1 k hk hk2.symm, hb⟩
def runE (l : List Int) (es : List (Int × Int)) (need : List Int) (cores : Int) : Int := if lookR l es need cores [] = 0 then (if 4096 < need.sum then 100 else 0) else lookR l es need cores []
def runR (l : List Int) (es : List (Int × Int)) (need : List Int) (cores : Int) : List (List Int) := if runE l es need cores = 0 then LstPlain.runT es need.sum.toNat (List.replicate cores.toNat (-1), need) else []
def TracePost (w : World) (ts : List (List Int)) (er : Int) (e : Ending) (w' : World) : Prop := ∃ v, e = .returned (.tuple #[v, .int .i64 er]) ∧ Kd.S (Kd.slice 3 (Kd.int .i64)) 22 w' w.heap.size (fun _ => True) v ts ∧ Below w.heap.size w w'
theorem S_keep2 {vO vL v : Value} {W W' : World} {base : Nat} {xs : List (List Int)} (h : Kd.S (Kd.slice 3 (Kd.int .i64)) 22 W base (fun _ => True) v xs) (hk : Keep2 vO vL W W') (hlt : ∀ k, vO.ownBlock = some k ∨ vL.ownBlock = some k → k < base) : Kd.S (Kd.slice 3 (Kd.int .i64)) 22 W' base (fun _ => True) v xs :=
 Kd.S_mono (Kd.S_step (Kd.S_bound h) (fun k ho hlt2 => hk.2 k hlt2 (fun e => by have := hlt k (.inl e); omega) (fun e => by have := hlt k (.inr e); omega))) (fun _ _ => trivial)
theorem sum_pre {need : List Int} (h : ∀ x ∈ need, 1 ≤ x ∧ x ≤ 1000) : ∀ k, k ≤ need.length → 0 ≤ (need.take k).sum ∧ (need.take k).sum ≤ 1000 * k
 | 0, _ => by simp
 | k + 1, hk => by
  rw [sum_snoc need k (by omega)]
  have := sum_pre h k (by omega)
  have := h _ (getD_mem need k (by omega))
  omega
theorem vc_on {es : List (Int × Int)} {on left : List Int} (h : VC es on left) : OnIn on left := fun c hc => by
 by_cases e : on.getD c 0 = -1
 ·exact .inl e
 ·exact .inr (h.on_ c hc e).1
theorem vc_left {es : List (Int × Int)} {on left : List Int} (h : VC es on left) : LeftIn left := fun i => by
 by_cases hi : i < left.length
 ·have := h.lo _ (getD_mem left i hi); omega
 ·rw [List.getD_eq_getElem?_getD, List.getElem?_eq_none (by omega)]; simp
theorem info22L : (Try.prog.info? 22).map (fun i => (i.zero, i.size, i.bytes)) = some (some (.slice none 0 0), 1, 24) := by kernel_rfl
set_option maxRecDepth 100000 in
set_option maxHeartbeats 8000000 in
theorem Run_any (A : Option Addr) (c : Nat) (l : List Int) (B : Option Addr) (d : Nat) (es : List (Int × Int)) (D : Option Addr) (dc : Nat) (need : List Int) (cores : Int) (w : World) (hg : GR w A c l B d es) (hd : need.length ≤ dc) (hD : ReadsInt w .i64 D need.length need) (hn : l.length ≤ 1000 ∧ es.length ≤ 1000) (hnl : need.length ≤ 1000) :
  Calls Try.prog 26 #[.agg #[.slice A l.length c, .slice B es.length d], .slice D need.length dc, .int .i64 cores] w (TracePost w (runR l es need cores) (runE l es need cores)) := by
 have C1 := Lib.hid (fun w1 h1 h2 => New_any A c l B d es D dc need cores w1 h1 hd h2 hn hnl)
 have hb0 := below_alloc w (.cells #[.slice A l.length c, .slice B es.length d] 25)
 have HG0 := Lib.hid hg
 have HG := Lib.hid (hg.below hb0)
 have HD := Lib.hid (hD.below hb0)
 have HB0 := Lib.hid hb0
 have HDX := Lib.hid (BX1.new w A l.length c B es.length d 25)
 have HS0 : Hid ((w.alloc (.cells #[.slice A l.length c, .slice B es.length d] 25)).heap.size = w.heap.size + 1) := World.size_alloc _ _
 clear hg hD hb0 hd
 cases hz : decide (lookR l es need cores [] = 0) with
 | false =>
  have hz1 : lookR l es need cores [] ≠ 0 := by simpa using hz
  have hzb : (lookR l es need cores [] != 0) = true := by simpa using hz1
  have HE : Hid (runE l es need cores = lookR l es need cores []) := if_neg hz1
  have HR : Hid (runR l es need cores = []) := if_neg (by rw [HE.out]; exact hz1)
  rw [HR.out, HE.out]
  clear HR HE hz hz1
  generalize lookR l es need cores [] = er at *
  go_enter Try.func26, Try.ntmps26
  go_wp2_with fail
  generalize w.alloc (Obj.cells #[Value.slice A l.length c, Value.slice B es.length d] 25) = W1 at *
  refine (C1.out _ HG.out HD.out).mono ?_
  rintro e w2 ⟨vO, vL, rfl, hcw⟩
  have HB2 := Lib.hid (HB0.out.trans (hcw.b.mono (by have := HS0.out; omega)))
  obtain ⟨O, oc, hvO, -, -⟩ := hcw.o.reads
  obtain ⟨L, lc, hvL, -, -⟩ := hcw.l.reads
  generalize (newR l es need cores).1 = n1 at *
  generalize (newR l es need cores).2 = n2 at *
  subst hvO hvL
  clear hcw
  go_wp2_with fail
  go_ret2
  exact ⟨_, rfl, Kd.S_nil _ _ _ _ _, HB2.out.alloc HB2.out.size _⟩
 | true =>
  have hz1 : lookR l es need cores [] = 0 := by simpa using hz
  obtain ⟨hck, hcs, hln, hnd⟩ := look_nil hz1
  obtain ⟨N, rfl⟩ : ∃ N : Nat, cores = (N : Int) := ⟨cores.toNat, by omega⟩
  have HNR : Hid (newR l es need (N : Int) = (List.replicate N (-1), need)) := by show _ = _; unfold newR; rw [if_pos hz1, Int.toNat_natCast]
  have HE : Hid (runE l es need (N : Int) = if 4096 < need.sum then 100 else 0) := if_pos hz1
  have HRR : Hid (runR l es need (N : Int) = if runE l es need (N : Int) = 0 then LstPlain.runT es need.sum.toNat (List.replicate N (-1), need) else []) := rfl
  rw [hz1] at C1
  rw [HNR.out] at C1
  have hsp := Lib.hid (sum_pre hnd)
  have hsn := sum_pre hnd need.length (Nat.le_refl _)
  rw [List.take_length] at hsn
  have HCK := Lib.hid hck
  have HLN := Lib.hid hln
  have HRI : Hid (LstPlain.RI l es N (List.replicate N (-1), need)) := ⟨vc_new hnd N, by simp, hln⟩
  have hes : ∀ e ∈ es, 0 ≤ e.1 ∧ e.1 < need.length := fun e he => by
   obtain ⟨y1, y2, y3, y4, y5⟩ := ordL_yes hck
   rw [hln]; exact (oddEs_in y3 e he).1
  have HES := Lib.hid hes
  clear hz hz1 hck hln hnd hes HNR
  go_enter Try.func26, Try.ntmps26
  go_wp2_with fail
  generalize w.alloc (Obj.cells #[Value.slice A l.length c, Value.slice B es.length d] 25) = W1 at *
  refine (C1.out _ HG.out HD.out).mono ?_
  rintro e w2 ⟨vO, vL, rfl, hcw⟩
  obtain ⟨O, oc, hvO, -, -⟩ := hcw.o.reads
  obtain ⟨L, lc, hvL, -, -⟩ := hcw.l.reads
  rw [List.length_replicate] at hvO
  subst hvO hvL
  have HB2 := Lib.hid (HB0.out.trans (hcw.b.mono (by have := HS0.out; omega)))
  have HD2 := Lib.hid (HD.out.below (hcw.b))
  have HDX2 := Lib.hid (HDX.out.below hcw.b)
  have HCW2 : Hid (CW w w2 (.slice O N oc) (.slice L need.length lc) (List.replicate N (-1)) need) := ⟨hcw.o.weaken (by have := HS0.out; omega), hcw.l.weaken (by have := HS0.out; omega), hcw.ne, HB2.out⟩
  have hal := below_alloc w2 (.cells #[.slice O N oc, .slice L need.length lc] 27)
  have HCX3 := Lib.hid (BX1.new w2 O N oc L need.length lc 27)
  have HDX3 := Lib.hid (HDX2.out.below hal)
  have HCW3 := Lib.hid (HCW2.out.below hal)
  have HD3 := Lib.hid (HD2.out.below hal)
  have HB3 := Lib.hid (HB2.out.trans (hal.mono HB2.out.size))
  have HOB : Hid (∀ k, (Value.slice O N oc).ownBlock = some k ∨ (Value.slice L need.length lc).ownBlock = some k → w.heap.size < k ∧ k < w2.heap.size) := fun k hk => by
   have h0 := HS0.out
   rcases hk with hk | hk
   ·have h1 := own_base hcw.o k hk; have h2 := own_lt hcw.o k hk; omega
   ·have h1 := own_base hcw.l k hk; have h2 := own_lt hcw.l k hk; omega
  have HS3 : Hid ((w2.alloc (.cells #[.slice O N oc, .slice L need.length lc] 27)).heap.size = w2.heap.size + 1) := World.size_alloc _ _
  have hww2 : Hid (w.heap.size < w2.heap.size) := by show _ < _; have := hcw.b.size; have := HS0.out; omega
  clear hcw hal HD2 HB2 HDX2 HCW2 HG HD HB0 HDX C1
  go_upto_region 4 with (fail)
  generalize w2.alloc (Obj.cells #[Value.slice O N oc, Value.slice L need.length lc] 27) = W3 at *
  go_wp2_with fail
  go_loop [26, 10] (fun i n => ∃ k : Nat, k ≤ need.length ∧ i = .int .i64 k ∧ n = .int .i64 ((need.take k).sum)) (fun i _ => need.length - (intOf i).toNat)
  case atStart => exact ⟨0, Nat.zero_le _, rfl, rfl⟩
  case round =>
   obtain ⟨k, hk, rfl, rfl⟩ := hrel
   by_cases hlt : k < need.length
   ·obtain ⟨ad, hA, hcells⟩ := HD3.out.2.2 (by omega)
    subst hA
    have hc := hcells k hlt
    have hb1 := hsp.out k (by omega)
    have hb2 := hsp.out (k + 1) (by omega)
    have hsq := sum_snoc need k hlt
    have HSQ := Lib.hid hsq
    rw [hsq] at hb2
    clear hcells hsq
    generalize (need.take k).sum = z at *
    generalize need.getD k 0 = y at *
    go_wp2
    go_round
    case rel => exact ⟨k + 1, by omega, by go_num, by rw [HSQ.out]⟩
    case measure => simp [intOf]; omega
   ·obtain rfl : k = need.length := by omega
    have HTL : Hid ((need.take need.length).sum = need.sum) := by show _ = _; rw [List.take_length]
    rw [HTL.out]
    by_cases hbig : 4096 < need.sum
    ·have HE2 : Hid (runE l es need (N : Int) = 100) := by show _ = _; rw [HE.out, if_pos hbig]
     have HR2 : Hid (runR l es need (N : Int) = []) := by show _ = _; rw [HRR.out, HE2.out]; rfl
     generalize need.sum = z at *
     go_wp2
     go_ret2
     exact ⟨_, by rw [HE2.out]; rfl, by rw [HR2.out]; exact Kd.S_nil _ _ _ _ _, HB3.out⟩
    ·have HE2 : Hid (runE l es need (N : Int) = 0) := by show _ = _; rw [HE.out, if_neg hbig]
     have HR2 : Hid (runR l es need (N : Int) = LstPlain.runT es need.sum.toNat (List.replicate N (-1), need)) := by show _ = _; rw [HRR.out, if_pos HE2.out]
     clear HRR HE
     generalize runR l es need (N : Int) = tot at *
     generalize runE l es need (N : Int) = er at *
     generalize hzs : need.sum = z at *
     have HZS := Lib.hid hzs
     have h22 := info22L
     clear hzs
     go_wp2
     go_loopg [13] z.toNat (fun g v wr => ∃ (s : List Int × List Int) (rows : List (List Int)) (v0 : Value), v0 = v ∧ rows.length + g = z.toNat ∧ Hid (LstPlain.RI l es N s) ∧ Hid (s.2.sum ≤ g) ∧ Hid (rows ++ LstPlain.runT es g s = tot) ∧ Hid (CW w wr (.slice O N oc) (.slice L need.length lc) s.1 s.2) ∧ Hid (Kd.S (Kd.slice 3 (Kd.int .i64)) 22 wr W3.heap.size (fun _ => True) v0 rows) ∧ Hid (BX1 w2.heap.size O N oc L need.length lc wr) ∧ Hid (BX1 w.heap.size A l.length c B es.length d wr) ∧ Hid (W3.heap.size ≤ wr.heap.size))
     case atStart => exact ⟨(List.replicate N (-1), need), [], _, rfl, by simp, HRI, by show need.sum ≤ _; rw [HZS.out]; omega, HR2.out.symm, HCW3, Kd.S_nil _ _ _ _ _, HCX3, HDX3, Nat.le_refl _⟩
     case round =>
      clear HCX3 HDX3 HCW3 HR2
      obtain ⟨s, rows, v0, rfl, hrg, HI, HSM, HTT, HW, HT, HCX, HDX, HSZ⟩ := hrel
      have hs1 := HI.out.on_
      have hs2 : s.2.length = need.length := by rw [HI.out.ll, HLN.out]
      have HCR := Lib.hid (HW.out.cr hs1 hs2)
      have C4 := Lib.hid (contR_any L lc s.2 wr HCR.out.2.2 (by omega))
      rw [hs2] at C4
      obtain ⟨x3, x4⟩ := HCX.out
      cases hp : s.2.any posN with
      | false =>
       have HTE : Hid (rows = tot) := by show _ = _; rw [← HTT.out, runT_stop hp, List.append_nil]
       rw [hp] at C4
       clear hp
       go_wp2_with fail
       refine C4.out.mono ?_
       rintro e w4 ⟨rfl, rfl⟩
       go_wp2_with fail
       go_ret2
       exact ⟨_, by rw [HE2.out]; rfl, by rw [← HTE.out]; exact Kd.S_lower HT.out (by have := hww2.out; have := HS3.out; omega), HW.out.b⟩
      | true =>
       cases gk with
       | zero => exact absurd hp (by rw [LstPlain.sum_zero HI.out.vc.lo (by have := HSM.out; simpa using this)]; simp)
       | succ g =>
        have HI2 := Lib.hid HI.out.step
        have HSM2 : Hid ((LstPlain.stepR es s).2.sum ≤ g) := by show _ ≤ _; have h1 := HI.out.less HCK.out (by omega) hp; have h2 := HSM.out; omega
        have HTT2 : Hid ((rows ++ [rowR es s]) ++ LstPlain.runT es g (LstPlain.stepR es s) = tot) := by show _ = _; rw [← HTT.out, runT_next hp, List.append_assoc]; rfl
        have HVF := Lib.hid (fill_vc HI.out.vc)
        have hlf : (rowR es s).length = N := by unfold rowR; rw [fill_len]; exact hs1
        rw [hp] at C4
        have C5 := Lib.hid (fun w1 (h1 : CW w w1 (.slice O s.1.length oc) (.slice L s.2.length lc) s.1 s.2) => fill_any w A c l B d es O oc s.1 L lc s.2 w1 h1 HG0.out hn (by omega) (by omega) (by rw [hs2]; exact HES.out))
        rw [hs1, hs2] at C5
        have C6 := Lib.hid (fun w1 h => clone_any O oc (rowR es s) w1 h (by omega))
        rw [hlf] at C6
        have C7 := Lib.hid (fun w1 (h1 : CW w w1 (.slice O (rowR es s).length oc) (.slice L s.2.length lc) (rowR es s) s.2) => tick_any w O oc (rowR es s) L lc s.2 w1 h1 (by omega) (by omega) (vc_on HVF.out) (vc_left HVF.out))
        rw [hlf, hs2] at C7
        clear hp
        go_wp2_with fail
        refine C4.out.mono ?_
        rintro e w4 ⟨rfl, rfl⟩
        obtain ⟨y3, y4⟩ := HDX.out
        go_wp2_with fail
        refine (C5.out _ HW.out).mono ?_
        rintro e w5 ⟨rfl, hw5, hk5⟩
        have hO2 : ∀ k, (Value.slice O N oc).ownBlock = some k ∨ (Value.slice L need.length lc).ownBlock = some k → w.heap.size < k ∧ k < w2.heap.size := HOB.out
        have hk5h : ∀ b, b = w.heap.size ∨ b = w2.heap.size → w5.heap[b]? = wr.heap[b]? := fun b hb => hk5.2 b (by have := HSZ.out; have := HS3.out; have := hww2.out; omega) (fun e => by have := hO2 b (.inl e); omega) (fun e => by have := hO2 b (.inr e); omega)
        have HW5 : Hid (CW w w5 (.slice O N oc) (.slice L need.length lc) (rowR es s) s.2) := hw5
        have HT5 := Lib.hid (S_keep2 HT.out hk5 (fun k hk => by have := hO2 k hk; have := HS3.out; omega))
        have HCX5 : Hid (BX1 w2.heap.size O N oc L need.length lc w5) := ⟨(World.cell?_of_block (hk5h _ (.inr rfl))).trans HCX.out.1, (World.cell?_of_block (hk5h _ (.inr rfl))).trans HCX.out.2⟩
        have HDX5 : Hid (BX1 w.heap.size A l.length c B es.length d w5) := ⟨(World.cell?_of_block (hk5h _ (.inl rfl))).trans HDX.out.1, (World.cell?_of_block (hk5h _ (.inl rfl))).trans HDX.out.2⟩
        have HSZ5 : Hid (W3.heap.size ≤ w5.heap.size) := Nat.le_trans HSZ.out hk5.1
        clear hw5 hk5 hk5h hO2 x3 x4 y3 y4 HW HT HCX HDX HSZ HCR C4 C5
        obtain ⟨x3, x4⟩ := HCX5.out
        have HCR5 := Lib.hid (HW5.out.cr hlf hs2)
        go_wp2_with fail
        refine (C6.out _ (by have := HCR5.out.1.2; rw [hlf] at this; exact this)).mono ?_
        rintro e w6 ⟨v6, rfl, hv6, hb6⟩
        have hO2 : ∀ k, (Value.slice O N oc).ownBlock = some k ∨ (Value.slice L need.length lc).ownBlock = some k → w.heap.size < k ∧ k < w2.heap.size := HOB.out
        have HW6 := Lib.hid (HW5.out.below hb6)
        have HCX6 := Lib.hid (HCX5.out.below hb6)
        have HDX6 := Lib.hid (HDX5.out.below hb6)
        have hv6b := own_base (show OI w6 w5.heap.size v6 (rowR es s) from hv6)
        have HT6 : Hid (Kd.S (Kd.slice 3 (Kd.int .i64)) 22 w6 W3.heap.size (fun k => True ∧ ¬ (some k = v6.ownBlock)) v0 rows) := Kd.S_below (Kd.S_mono (Kd.S_bound HT5.out) (fun k hk => ⟨trivial, fun e => by have h1 := hv6b k e.symm; have h2 := hk.2.2.1; omega⟩)) hb6
        have HV6 : Hid ((Kd.slice 3 (Kd.int .i64)).M w6 W3.heap.size (fun k => some k = v6.ownBlock) (rowR es s) [v6]) := Kd.M_row (Kd.R_of_own (OI.weaken (show OI w6 w5.heap.size v6 (rowR es s) from hv6) HSZ5.out) (fun k hk => hk.symm))
        have HVO : Hid (∀ k, some k = v6.ownBlock → True ∧ some k ≠ v0.ownBlock) := fun k hk => ⟨trivial, fun e => by have h1 := hv6b k hk.symm; have h2 := (Kd.S_typed HT5.out) k e.symm; obtain ⟨cs, h2⟩ := h2; have h3 := (Array.getElem?_eq_some_iff.1 h2).1; omega⟩
        have HS6 : Hid (W3.heap.size ≤ w6.heap.size) := Nat.le_trans HSZ5.out hb6.size
        obtain ⟨V, vc, rfl, -, -⟩ := OI.reads (show OI w6 w5.heap.size v6 (rowR es s) from hv6)
        clear hv6 hb6 hv6b HT5 hO2 HW5 HCX5 HDX5 HSZ5 HCR5 x3 x4 C6
        rw [hlf] at *
        obtain ⟨x3, x4⟩ := HCX6.out
        go_wp2_with (at_builtin; refine Kd.S_append (Kd.slice 3 (Kd.int .i64)) (w0 := w6) W3.heap.size rfl (.tmp 42) (.tmp 46) 48 22 (.slice none 0 0) 24 rfl Try.underlying48 h22 rfl (by decide) (by omega) v0 rows (rowR es s) _ (fun _ => True) _ rfl rfl HV6.out HVO.out (fun _ _ => trivial) HT6.out ?aB ?aS ?aL ?_)
        case aB => exact Below.refl _ _
        case aS => exact HS6.out
        case aL => omega
        intro v7 w7 hS7 hb7 hg7 hnew7
        clear hnew7
        have hsz7 : w6.heap.size ≤ w7.heap.size := hg7.size
        have HW7 : Hid (CW w w7 (.slice O N oc) (.slice L need.length lc) (rowR es s) s.2) := HW6.out.far (hb7.mono (by have := hww2.out; have := HS3.out; omega)) (fun k hk => hb7.block k (by have := HOB.out k hk; have := HS3.out; omega))
        have HCX7 : Hid (BX1 w2.heap.size O N oc L need.length lc w7) := ⟨(hb7.cell (by show w2.heap.size < _; have := HS3.out; omega)).trans HCX6.out.1, (hb7.cell (by show w2.heap.size < _; have := HS3.out; omega)).trans HCX6.out.2⟩
        have HDX7 : Hid (BX1 w.heap.size A l.length c B es.length d w7) := ⟨(hb7.cell (by show w.heap.size < _; have := HS3.out; have := hww2.out; omega)).trans HDX6.out.1, (hb7.cell (by show w.heap.size < _; have := HS3.out; have := hww2.out; omega)).trans HDX6.out.2⟩
        have HS7 : Hid (W3.heap.size ≤ w7.heap.size) := Nat.le_trans HS6.out hsz7
        have HT7 := Lib.hid hS7
        clear hS7 hb7 hg7 hsz7 HW6 HCX6 HDX6 HT6 HV6 HVO HS6 x3 x4
        obtain ⟨x3, x4⟩ := HCX7.out
        go_wp2_with fail
        refine (C7.out _ HW7.out).mono ?_
        rintro e w8 ⟨v8, rfl, hw8, hv8, hk8⟩
        have hO2 : ∀ k, (Value.slice O N oc).ownBlock = some k ∨ (Value.slice L need.length lc).ownBlock = some k → w.heap.size < k ∧ k < w2.heap.size := HOB.out
        have hk8h : ∀ b, b = w.heap.size ∨ b = w2.heap.size → w8.heap[b]? = w7.heap[b]? := fun b hb => hk8.2 b (by have := HS7.out; have := HS3.out; have := hww2.out; omega) (fun e => by have := hO2 b (.inl e); omega) (fun e => by have := hO2 b (.inr e); omega)
        have HW8 : Hid (CW w w8 (.slice O N oc) (.slice L need.length lc) (LstPlain.stepR es s).1 (LstPlain.stepR es s).2) := hw8
        have HT8 := Lib.hid (S_keep2 HT7.out hk8 (fun k hk => by have := hO2 k hk; have := HS3.out; omega))
        have HCX8 : Hid (BX1 w2.heap.size O N oc L need.length lc w8) := ⟨(World.cell?_of_block (hk8h _ (.inr rfl))).trans HCX7.out.1, (World.cell?_of_block (hk8h _ (.inr rfl))).trans HCX7.out.2⟩
        have HDX8 : Hid (BX1 w.heap.size A l.length c B es.length d w8) := ⟨(World.cell?_of_block (hk8h _ (.inl rfl))).trans HDX7.out.1, (World.cell?_of_block (hk8h _ (.inl rfl))).trans HDX7.out.2⟩
        have HSZ8 : Hid (W3.heap.size ≤ w8.heap.size) := Nat.le_trans HS7.out hk8.1
        clear hw8 hv8 hk8 hk8h hO2 x3 x4 HW7 HT7 HCX7 HDX7 HS7
        go_wp2_with fail
        go_roundg g
        case rel => exact ⟨LstPlain.stepR es s, rows ++ [rowR es s], _, rfl, by rw [List.length_append, List.length_singleton]; omega, HI2, HSM2, HTT2, HW8, HT8, HCX8, HDX8, HSZ8⟩
        all_goals omega
end Go.Proofs.Ytmbhjhanafmidaa

namespace LstPlain
open DagPlain Go.Proofs.Ytmbhjhanafmidaa
def fillR (l : List Int) (es : List (Int × Int)) (on left : List Int) : List Int × List Int × Int := (if crewR l es on left = 0 then fillL (readyL es on left) on else [], if crewR l es on left = 0 then left else [], crewR l es on left)
def tickQ (l : List Int) (es : List (Int × Int)) (on left : List Int) : List Int × List Int × List Int × Int := ((if crewR l es on left = 0 then tickR on left else ([], [], [])).1, (if crewR l es on left = 0 then tickR on left else ([], [], [])).2.1, (if crewR l es on left = 0 then tickR on left else ([], [], [])).2.2, crewR l es on left)
end LstPlain

set_option linter.unusedVariables false
namespace LstPlain
open DagPlain SchPlain Go.Proofs.Ytmbhjhanafmidaa
section
variable {l : List Int} {es : List (Int × Int)} {cores : Nat}
end
end LstPlain
