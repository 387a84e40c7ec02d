/- Texts of this work, put into one. -/
import Derived.Test.YtokhibhmlninnaaGreatDoorGMLaw
set_option linter.unusedVariables false
set_option linter.unusedSimpArgs false
namespace CodPlain
open WirePlain
theorem back_some {α : Type} {b : ByteArray} {f : St → α × St} {g : α → List UInt8} (hf : Wr b f g) : ∀ n st, (someS f n st).2.2 = false → st.2 = false := fun n st h => (wr_some hf n).back h
end CodPlain
namespace Go.Proofs.YtokhibhmlninnaaGreatDoor
open CodPlain
end Go.Proofs.YtokhibhmlninnaaGreatDoor

set_option linter.unusedVariables false
set_option linter.unusedSimpArgs false
namespace CodPlain
open WirePlain
def rdL (b : ByteArray) : List Nat → St → List Int × St
 | [], st => ([], st)
 | k :: ws, st => if st.2 = true then ([], st) else if (numS b k st).2.2 = true then ([], (numS b k st).2) else ((numS b k st).1 :: (rdL b ws (numS b k st).2).1, (rdL b ws (numS b k st).2).2)
theorem rdL_stop (b : ByteArray) (ws : List Nat) (i : Nat) : rdL b ws (i, true) = ([], (i, true)) := by
 cases ws with
 | nil => rfl
 | cons k ws => rw [rdL, if_pos rfl]
theorem rdL_cons {b : ByteArray} {k : Nat} {ws : List Nat} {st : St} (h : st.2 = false) : rdL b (k :: ws) st = if (numS b k st).2.2 = true then ([], (numS b k st).2) else ((numS b k st).1 :: (rdL b ws (numS b k st).2).1, (rdL b ws (numS b k st).2).2) := by
 rw [rdL, if_neg (by rw [h]; simp)]
theorem some_cons {α : Type} {f : St → α × St} {n : Nat} {st : St} (h : st.2 = false) : someS f (n + 1) st = ((f st).1 :: (someS f n (f st).2).1, (someS f n (f st).2).2) := by
 rw [someS, if_neg (by rw [h]; simp)]
theorem rdL_app (b : ByteArray) : ∀ (ws ws' : List Nat) (st : St), rdL b (ws ++ ws') st = if (rdL b ws st).2.2 = true then rdL b ws st else ((rdL b ws st).1 ++ (rdL b ws' (rdL b ws st).2).1, (rdL b ws' (rdL b ws st).2).2)
 | [], ws', st => by
  rw [List.nil_append]
  show _ = if st.2 = true then (([] : List Int), st) else ([] ++ (rdL b ws' st).1, (rdL b ws' st).2)
  cases h : st.2 with
  | true =>
   have e : st = (st.1, true) := Prod.ext rfl h
   rw [if_pos rfl, e, rdL_stop]
  | false => rw [if_neg (by simp), List.nil_append]
 | k :: ws, ws', st => by
  rw [List.cons_append]
  cases h : st.2 with
  | true =>
   have e : st = (st.1, true) := Prod.ext rfl h
   rw [e, rdL_stop, rdL_stop, if_pos rfl]
  | false =>
   rw [rdL_cons h, rdL_cons h]
   by_cases h2 : (numS b k st).2.2 = true
   ·rw [if_pos h2, if_pos h2]
    exact (if_pos h2).symm
   ·rw [if_neg h2, if_neg h2, rdL_app b ws ws']
    dsimp only
    by_cases h3 : (rdL b ws (numS b k st).2).2.2 = true
    ·rw [if_pos h3, if_pos h3]
    ·rw [if_neg h3, if_neg h3]; rfl
structure Fl {α : Type} (b : ByteArray) (f : St → α × St) (ws : List Nat) (g : α → List Int) : Prop where
 st : ∀ st, (rdL b ws st).2 = (f st).2
 val : ∀ st, (f st).2.2 = false → (rdL b ws st).1 = g (f st).1
theorem fl_num (b : ByteArray) (k : Nat) : Fl b (numS b k) [k] (fun n => [n]) := by
 refine ⟨fun st => ?_, fun st h => ?_⟩
 ·rw [rdL]
  cases h : st.2 with
  | true =>
   rw [if_pos rfl]
   unfold numS
   rw [if_pos h]
  | false =>
   rw [if_neg (by simp)]
   split
   ·rfl
   ·rfl
 ·cases h2 : st.2 with
  | true =>
   unfold numS at h
   rw [if_pos h2] at h
   change st.2 = false at h
   rw [h2] at h; cases h
  | false => rw [rdL, if_neg (by rw [h2]; simp), if_neg (by rw [h]; simp)]; rfl
theorem Fl.two {α β γ : Type} {b : ByteArray} {f : St → α × St} {f' : St → β × St} {ws ws' : List Nat} {g : α → List Int} {g' : β → List Int} (h : Fl b f ws g) (h' : Fl b f' ws' g') (hs : ∀ i, (f' (i, true)).2 = (i, true)) {F : St → γ × St} {G : γ → List Int}
  (e2 : ∀ st, (F st).2 = (f' (f st).2).2) (e1 : ∀ st, G (F st).1 = g (f st).1 ++ g' (f' (f st).2).1) : Fl b F (ws ++ ws') G := by
 refine ⟨fun st => ?_, fun st hh => ?_⟩
 ·rw [rdL_app, e2, h.st]
  cases hb : (f st).2.2 with
  | true =>
   have e : (f st).2 = ((f st).2.1, true) := Prod.ext rfl hb
   rw [if_pos rfl, h.st, e, hs]
  | false => rw [if_neg (by simp)]; exact h'.st _
 ·rw [e2] at hh
  have hb : (f st).2.2 = false := by
   cases hb : (f st).2.2 with
   | false => rfl
   | true =>
    have e : (f st).2 = ((f st).2.1, true) := Prod.ext rfl hb
    rw [e, hs] at hh; cases hh
  rw [rdL_app, h.st, if_neg (by rw [hb]; simp), e1, h.val st hb]
  dsimp only
  rw [h'.val _ hh]
theorem fl_some {α : Type} {b : ByteArray} {f : St → α × St} {ws : List Nat} {g : α → List Int} (h : Fl b f ws g) (hs : ∀ i, (f (i, true)).2 = (i, true)) : ∀ n, Fl b (someS f n) (List.replicate n ws).flatten (fun l => l.flatMap g)
 | 0 => ⟨fun _ => rfl, fun _ _ => rfl⟩
 | n + 1 => by
  have ih := fl_some h hs n
  have hst : ∀ i, (someS f n (i, true)).2 = (i, true) := fun i => by
   cases n with
   | zero => rfl
   | succ n => rw [someS, if_pos rfl]
  rw [List.replicate_succ, List.flatten_cons]
  refine ⟨fun st => ?_, fun st hh => ?_⟩
  ·cases h2 : st.2 with
   | true =>
    have e : st = (st.1, true) := Prod.ext rfl h2
    rw [e, rdL_stop, someS, if_pos rfl]
   | false =>
    rw [rdL_app, h.st, some_cons h2]
    dsimp only
    by_cases hb : (f st).2.2 = true
    ·have e : (f st).2 = ((f st).2.1, true) := Prod.ext rfl hb
     rw [if_pos hb, h.st, e, hst]
    ·rw [if_neg hb]; exact ih.st _
  ·cases h2 : st.2 with
   | true =>
    rw [someS, if_pos h2] at hh
    change st.2 = false at hh
    rw [h2] at hh; cases hh
   | false =>
    rw [some_cons h2] at hh ⊢
    change (someS f n (f st).2).2.2 = false at hh
    have hb : (f st).2.2 = false := by
     cases hb : (f st).2.2 with
     | false => rfl
     | true =>
      have e : (f st).2 = ((f st).2.1, true) := Prod.ext rfl hb
      rw [e, hst] at hh; cases hh
    rw [rdL_app, h.st, if_neg (by rw [hb]; simp), h.val st hb]
    dsimp only
    rw [ih.val _ hh, List.flatMap_cons]
def pN (p : Int × Int × Int) : List Int := [p.1, p.2.1, p.2.2]
def eN (e : Int × Int) : List Int := [e.1, e.2]
def bN (x : List Int × List Int) : List Int := [(x.1.length : Int), (x.2.length : Int)] ++ (x.1 ++ x.2)
theorem fl_part (b : ByteArray) : Fl b (partS b) [1, 4, 2] pN :=
 (((fl_num b 1).two (fl_num b 4) (wr4 b).stop (F := fun st => (((numS b 1 st).1, (numS b 4 (numS b 1 st).2).1), (numS b 4 (numS b 1 st).2).2)) (G := fun q => [q.1] ++ [q.2]) (fun st => rfl) (fun st => rfl)).two (fl_num b 2) (wr2 b).stop (fun st => rfl) (fun st => rfl))
theorem fl_fut (b : ByteArray) : Fl b (futS b) [1, 1, 2] pN :=
 (((fl_num b 1).two (fl_num b 1) (wr1 b).stop (F := fun st => (((numS b 1 st).1, (numS b 1 (numS b 1 st).2).1), (numS b 1 (numS b 1 st).2).2)) (G := fun q => [q.1] ++ [q.2]) (fun st => rfl) (fun st => rfl)).two (fl_num b 2) (wr2 b).stop (fun st => rfl) (fun st => rfl))
theorem fl_edge (b : ByteArray) : Fl b (edgeS b) [1, 1] eN := (fl_num b 1).two (fl_num b 1) (wr1 b).stop (fun st => rfl) (fun st => rfl)
theorem fl_ones (b : ByteArray) (n : Nat) : Fl b (someS (numS b 1) n) (List.replicate n 1) (fun l => l) := by
 have h := fl_some (fl_num b 1) (wr1 b).stop n
 have e : (List.replicate n [1]).flatten = List.replicate n 1 := by
  induction n with
  | zero => rfl
  | succ n ih => rw [List.replicate_succ, List.flatten_cons, ih (fl_some (fl_num b 1) (wr1 b).stop n), List.replicate_succ]; rfl
 rw [e] at h
 refine ⟨h.st, fun st hh => ?_⟩
 rw [h.val st hh]
 simp
theorem fl_rows (b : ByteArray) (m n : Nat) : Fl b (fun st => (((someS (numS b 1) m st).1, (someS (numS b 1) n (someS (numS b 1) m st).2).1), (someS (numS b 1) n (someS (numS b 1) m st).2).2)) (List.replicate (m + n) 1) (fun q => q.1 ++ q.2) := by
 rw [← List.replicate_append_replicate]
 exact (fl_ones b m).two (fl_ones b n) (wr_some (wr1 b) n).stop (fun st => rfl) (fun st => rfl)
theorem num_byte {b : ByteArray} {i : Nat} (h : i < b.size) : numS b 1 (i, false) = (((b.data.toList.getD i 0).toNat : Int), (i + 1, false)) := by
 have hl : b.data.toList.length = b.size := by simp
 unfold numS getR
 rw [if_neg (by simp), if_pos (show Wide ((1 : Nat) : Int) from .inl rfl), if_pos (show There b.size (i : Int) ((1 : Nat) : Int) from ⟨by omega, by omega, by omega, by omega⟩)]
 have hn : num b (i : Int) ((1 : Nat) : Int) = (b.data.toList.getD i 0).toNat := by
  unfold num
  rw [Int.toNat_natCast, Int.toNat_natCast, List.drop_eq_getElem_cons (by rw [hl]; exact h), List.take_succ_cons, List.take_zero, List.getD_eq_getElem?_getD, List.getElem?_eq_getElem (by rw [hl]; exact h)]
  simp [le]
 have hc := (b.data.toList.getD i 0).toNat_lt
 have hle : (b.data.toList.getD i 0).toNat ≤ 9223372036854775807 := by omega
 rw [hn, if_pos hle]
 rfl
theorem num_none {b : ByteArray} {i : Nat} (h : b.size ≤ i) : numS b 1 (i, false) = (0, (i, true)) := by
 unfold numS getR
 rw [if_neg (by simp), if_pos (show Wide ((1 : Nat) : Int) from .inl rfl), if_neg (fun (t : There b.size (i : Int) ((1 : Nat) : Int)) => by obtain ⟨a1, a2, a3, a4⟩ := t; omega)]
 rfl
theorem bar_cut {b : ByteArray} {i : Nat} (h : b.size < i + 2) (hi : i ≤ b.size) : (barS b (i, false)).2 = (if i < b.size then i + 1 else i, true) := by
 have W := wr1 b
 by_cases h1 : i < b.size
 ·rw [if_pos h1]
  have e1 := num_byte h1
  have e2 : numS b 1 (i + 1, false) = (0, (i + 1, true)) := num_none (by omega)
  show (someS (numS b 1) (numS b 1 (numS b 1 (i, false)).2).1.toNat (someS (numS b 1) (numS b 1 (i, false)).1.toNat (numS b 1 (numS b 1 (i, false)).2).2).2).2 = _
  rw [e1]
  dsimp only
  rw [e2]
  dsimp only
  rw [(wr_some W _).stop, (wr_some W _).stop]
 ·rw [if_neg h1]
  have e1 : numS b 1 (i, false) = (0, (i, true)) := num_none (by omega)
  show (someS (numS b 1) (numS b 1 (numS b 1 (i, false)).2).1.toNat (someS (numS b 1) (numS b 1 (i, false)).1.toNat (numS b 1 (numS b 1 (i, false)).2).2).2).2 = _
  rw [e1]
  dsimp only
  rw [W.stop, (wr_some W _).stop, (wr_some W _).stop]
theorem bar_fl {b : ByteArray} {i : Nat} (h : i + 2 ≤ b.size) {ws : List Nat} (hw : ws = [1, 1] ++ List.replicate ((b.data.toList.getD i 0).toNat + (b.data.toList.getD (i + 1) 0).toNat) 1) :
  (rdL b ws (i, false)).2 = (barS b (i, false)).2 ∧ ((barS b (i, false)).2.2 = false → (rdL b ws (i, false)).1 = bN (barS b (i, false)).1) := by
 have e1 := num_byte (b := b) (i := i) (by omega)
 have e2 := num_byte (b := b) (i := i + 1) (by omega)
 obtain ⟨m, hm⟩ : ∃ m, m = (b.data.toList.getD i 0).toNat := ⟨_, rfl⟩
 obtain ⟨n, hn⟩ : ∃ n, n = (b.data.toList.getD (i + 1) 0).toNat := ⟨_, rfl⟩
 rw [← hm] at e1 hw
 rw [← hn] at e2 hw
 clear hm hn
 have hbar : barS b (i, false) = (((someS (numS b 1) m (i + 2, false)).1, (someS (numS b 1) n (someS (numS b 1) m (i + 2, false)).2).1), (someS (numS b 1) n (someS (numS b 1) m (i + 2, false)).2).2) := by
  unfold barS
  dsimp only
  rw [e1]
  dsimp only
  rw [e2]
  dsimp only
  rw [Int.toNat_natCast, Int.toNat_natCast]
 have hrd : rdL b ws (i, false) = ((m : Int) :: (n : Int) :: (rdL b (List.replicate (m + n) 1) (i + 2, false)).1, (rdL b (List.replicate (m + n) 1) (i + 2, false)).2) := by
  rw [hw]
  show rdL b (1 :: 1 :: List.replicate (m + n) 1) (i, false) = _
  rw [rdL, if_neg (by simp), e1]
  dsimp only
  rw [if_neg (by simp), rdL, if_neg (by simp), e2]
  dsimp only
  rw [if_neg (by simp)]
 have F := fl_rows b m n
 rw [hrd, hbar]
 dsimp only
 refine ⟨F.st (i + 2, false), fun hh => ?_⟩
 have hv := F.val (i + 2, false) hh
 dsimp only at hv
 rw [hv]
 have g2 : (someS (numS b 1) m (i + 2, false)).2.2 = false := (wr_some (wr1 b) n).back hh
 have l1 := some_len (wr1 b) m _ g2
 have l2 := some_len (wr1 b) n _ hh
 unfold bN
 dsimp only
 rw [l1, l2]
 rfl
end CodPlain

set_option linter.unusedVariables false
set_option linter.unusedSimpArgs false
namespace CodPlain
open WirePlain
def contW (b : ByteArray) (ws : List Nat) (n : Nat) (st : St) : List Int × St := ((rdL b ws st).1 ++ (someS (barS b) n (rdL b ws st).2).1.flatMap bN, (someS (barS b) n (rdL b ws st).2).2)
theorem someS_stop {α : Type} (f : St → α × St) (n i : Nat) : someS f n (i, true) = ([], (i, true)) := by
 cases n with
 | zero => rfl
 | succ n => rw [someS, if_pos rfl]
theorem cont_num {b : ByteArray} {w i j : Nat} {n : Int} (ws : List Nat) (m : Nat) (h : numS b w (i, false) = (n, (j, false))) : contW b (w :: ws) m (i, false) = (n :: (contW b ws m (j, false)).1, (contW b ws m (j, false)).2) := by
 unfold contW
 rw [rdL_cons rfl, h, if_neg (by simp)]
 rfl
theorem cont_fail {b : ByteArray} {w i : Nat} (ws : List Nat) (m : Nat) (h : (numS b w (i, false)).2 = (i, true)) : (contW b (w :: ws) m (i, false)).2 = (i, true) := by
 unfold contW
 rw [rdL_cons rfl, h, if_pos rfl]
 dsimp only
 rw [someS_stop]
theorem cont_end (b : ByteArray) (i : Nat) : contW b [] 0 (i, false) = ([], (i, false)) := rfl
theorem cont_cut {b : ByteArray} {i : Nat} (m : Nat) (h : b.size < i + 2) (hi : i ≤ b.size) : (contW b [] (m + 1) (i, false)).2 = (if i < b.size then i + 1 else i, true) := by
 show (someS (barS b) (m + 1) (i, false)).2 = _
 rw [some_cons rfl]
 dsimp only
 rw [bar_cut h hi, someS_stop]
theorem cont_bar {b : ByteArray} {i : Nat} (m : Nat) (h : i + 2 ≤ b.size) {ws : List Nat} (hw : ws = [1, 1] ++ List.replicate ((b.data.toList.getD i 0).toNat + (b.data.toList.getD (i + 1) 0).toNat) 1) :
  (contW b [] (m + 1) (i, false)).2 = (contW b ws m (i, false)).2 ∧ ((contW b ws m (i, false)).2.2 = false → (contW b [] (m + 1) (i, false)).1 = (contW b ws m (i, false)).1) := by
 obtain ⟨h1, h2⟩ := bar_fl h hw
 have e : contW b [] (m + 1) (i, false) = (bN (barS b (i, false)).1 ++ (someS (barS b) m (barS b (i, false)).2).1.flatMap bN, (someS (barS b) m (barS b (i, false)).2).2) := by
  show ((someS (barS b) (m + 1) (i, false)).1.flatMap bN, (someS (barS b) (m + 1) (i, false)).2) = _
  rw [some_cons rfl, List.flatMap_cons]
 rw [e]
 unfold contW
 rw [h1]
 dsimp only
 refine ⟨rfl, fun hh => ?_⟩
 have hb : (barS b (i, false)).2.2 = false := back_some (wr_bar b) _ _ hh
 rw [h2 hb]
theorem num_there {b : ByteArray} {k i : Nat} (hk : Wide k) (hk7 : k ≤ 4) (h : i + k ≤ b.size) : numS b k (i, false) = (((num b (i : Int) (k : Int) : Nat) : Int), (i + k, false)) := by
 unfold numS getR
 rw [if_neg (by simp), if_pos hk, if_pos (show There b.size (i : Int) (k : Int) from ⟨by omega, by omega, by omega, by omega⟩)]
 have hn : num b (i : Int) (k : Int) ≤ 9223372036854775807 := by
  unfold num
  have h1 := le_lt ((b.data.toList.drop ((i : Nat) : Int).toNat).take ((k : Nat) : Int).toNat)
  have h2 : ((b.data.toList.drop ((i : Nat) : Int).toNat).take ((k : Nat) : Int).toNat).length ≤ 4 := by rw [List.length_take, Int.toNat_natCast]; omega
  have h3 : (256 : Nat) ^ ((b.data.toList.drop ((i : Nat) : Int).toNat).take ((k : Nat) : Int).toNat).length ≤ 256 ^ 4 := Nat.pow_le_pow_right (by decide) h2
  have h4 : (256 : Nat) ^ 4 = 4294967296 := by decide
  rw [h4] at h3
  generalize (256 : Nat) ^ ((b.data.toList.drop ((i : Nat) : Int).toNat).take ((k : Nat) : Int).toNat).length = q at *
  generalize le ((b.data.toList.drop ((i : Nat) : Int).toNat).take ((k : Nat) : Int).toNat) = z at *
  omega
 rw [if_pos hn]
 rfl
theorem num_not {b : ByteArray} {k i : Nat} (hk : Wide k) (h : b.size < i + k) : numS b k (i, false) = (0, (i, true)) := by
 unfold numS getR
 rw [if_neg (by simp), if_pos hk, if_neg (fun (t : There b.size (i : Int) (k : Int)) => by obtain ⟨a1, a2, a3, a4⟩ := t; omega)]
 rfl
def byteN (b : ByteArray) (i : Nat) : Nat := (b.data.toList.getD i 0).toNat
theorem byteN_lt (b : ByteArray) (i : Nat) : byteN b i < 256 := (b.data.toList.getD i 0).toNat_lt
def widths (b : ByteArray) : List Nat := (List.replicate (byteN b 5) [1, 4, 2]).flatten ++ (List.replicate (byteN b 6) [1, 1]).flatten ++ (List.replicate (byteN b 7) [1, 1, 2]).flatten
theorem cont_body {b : ByteArray} (h : 17 ≤ b.size) : (contW b (widths b) (byteN b 8) (17, false)).2 = (bodyS b (5, false)).2 ∧ ((bodyS b (5, false)).2.2 = false → (contW b (widths b) (byteN b 8) (17, false)).1 = (bodyS b (5, false)).1.parts.flatMap pN ++ (bodyS b (5, false)).1.edges.flatMap eN ++ (bodyS b (5, false)).1.futs.flatMap pN ++ (bodyS b (5, false)).1.bars.flatMap bN ∧
  (bodyS b (5, false)).1.parts.length = byteN b 5 ∧ (bodyS b (5, false)).1.edges.length = byteN b 6 ∧ (bodyS b (5, false)).1.futs.length = byteN b 7 ∧ (bodyS b (5, false)).1.bars.length = byteN b 8) ∧ (bodyS b (5, false)).1.per = ((num b 9 4 : Nat) : Int) ∧ (bodyS b (5, false)).1.dl = ((num b 13 4 : Nat) : Int) := by
 have e1 := num_byte (b := b) (i := 5) (by omega)
 have e2 := num_byte (b := b) (i := 6) (by omega)
 have e3 := num_byte (b := b) (i := 7) (by omega)
 have e4 := num_byte (b := b) (i := 8) (by omega)
 have e5 := num_there (b := b) (k := 4) (i := 9) (.inr (.inr (.inl rfl))) (by omega) (by omega)
 have e6 := num_there (b := b) (k := 4) (i := 13) (.inr (.inr (.inl rfl))) (by omega) (by omega)
 change numS b 1 (5, false) = (((byteN b 5 : Nat) : Int), (6, false)) at e1
 change numS b 1 (6, false) = (((byteN b 6 : Nat) : Int), (7, false)) at e2
 change numS b 1 (7, false) = (((byteN b 7 : Nat) : Int), (8, false)) at e3
 change numS b 1 (8, false) = (((byteN b 8 : Nat) : Int), (9, false)) at e4
 change numS b 4 (9, false) = (((num b 9 4 : Nat) : Int), (13, false)) at e5
 change numS b 4 (13, false) = (((num b 13 4 : Nat) : Int), (17, false)) at e6
 unfold widths
 generalize byteN b 5 = n1 at *
 generalize byteN b 6 = n2 at *
 generalize byteN b 7 = n3 at *
 generalize byteN b 8 = n4 at *
 obtain ⟨f, hf⟩ : ∃ f, f = someS (partS b) n1 (17, false) := ⟨_, rfl⟩
 obtain ⟨g, hg⟩ : ∃ g, g = someS (edgeS b) n2 f.2 := ⟨_, rfl⟩
 obtain ⟨u, hu⟩ : ∃ u, u = someS (futS b) n3 g.2 := ⟨_, rfl⟩
 obtain ⟨v, hv⟩ : ∃ v, v = someS (barS b) n4 u.2 := ⟨_, rfl⟩
 have hbody : bodyS b (5, false) = (⟨((num b 9 4 : Nat) : Int), ((num b 13 4 : Nat) : Int), f.1, g.1, u.1, v.1⟩, v.2) := by
  unfold bodyS
  dsimp only
  rw [e1]
  dsimp only
  rw [e2]
  dsimp only
  rw [e3]
  dsimp only
  rw [e4]
  dsimp only
  rw [e5]
  dsimp only
  rw [e6]
  dsimp only
  rw [Int.toNat_natCast, Int.toNat_natCast, Int.toNat_natCast, Int.toNat_natCast, ← hf, ← hg, ← hu, ← hv]
 rw [hbody]
 dsimp only
 have F1 := fl_some (fl_part b) (wr_part b).stop n1
 have F2 := fl_some (fl_edge b) (wr_edge b).stop n2
 have F3 := fl_some (fl_fut b) (wr_fut b).stop n3
 have F12 := F1.two F2 (wr_some (wr_edge b) n2).stop (F := fun st => (((someS (partS b) n1 st).1, (someS (edgeS b) n2 (someS (partS b) n1 st).2).1), (someS (edgeS b) n2 (someS (partS b) n1 st).2).2)) (G := fun q => q.1.flatMap pN ++ q.2.flatMap eN) (fun st => rfl) (fun st => rfl)
 have F123 := F12.two F3 (wr_some (wr_fut b) n3).stop (F := fun st => (((someS (partS b) n1 st).1, (someS (edgeS b) n2 (someS (partS b) n1 st).2).1, (someS (futS b) n3 (someS (edgeS b) n2 (someS (partS b) n1 st).2).2).1), (someS (futS b) n3 (someS (edgeS b) n2 (someS (partS b) n1 st).2).2).2)) (G := fun q => q.1.flatMap pN ++ q.2.1.flatMap eN ++ q.2.2.flatMap pN) (fun st => rfl) (fun st => rfl)
 have hst := F123.st (17, false)
 dsimp only at hst
 rw [← hf, ← hg, ← hu] at hst
 unfold contW
 rw [hst, ← hv]
 refine ⟨rfl, fun hh => ?_, rfl, rfl⟩
 have hu2 : u.2.2 = false := by have := back_some (wr_bar b) n4 u.2 (by rw [← hv]; exact hh); exact this
 have hg2 : g.2.2 = false := by have := back_some (wr_fut b) n3 g.2 (by rw [← hu]; exact hu2); exact this
 have hf2 : f.2.2 = false := by have := back_some (wr_edge b) n2 f.2 (by rw [← hg]; exact hg2); exact this
 have hval := F123.val (17, false) (by dsimp only; rw [← hf, ← hg, ← hu]; exact hu2)
 dsimp only at hval
 rw [← hf, ← hg, ← hu] at hval
 rw [hval]
 dsimp only
 have l1 := some_len (wr_part b) n1 (17, false) (by rw [← hf]; exact hf2)
 have l2 := some_len (wr_edge b) n2 f.2 (by rw [← hg]; exact hg2)
 have l3 := some_len (wr_fut b) n3 g.2 (by rw [← hu]; exact hu2)
 have l4 := some_len (wr_bar b) n4 u.2 (by rw [← hv]; exact hh)
 rw [← hf] at l1
 rw [← hg] at l2
 rw [← hu] at l3
 rw [← hv] at l4
 exact ⟨rfl, l1, l2, l3, l4⟩
end CodPlain
