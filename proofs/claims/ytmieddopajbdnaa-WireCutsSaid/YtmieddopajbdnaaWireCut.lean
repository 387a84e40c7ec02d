/- wire.Cut hands back the parts, what is left and the error. -/
import Derived.Test.YtmieddopajbdnaaWireUnrow
import Derived.Deep.QuietTactic
import Derived.BigQuiet
import Derived.WalkSmall
namespace Go.Proofs.Ytmieddopajbdnaa
open Go.RowKit Go.Sort
open WirePlain
open Go.Proofs.YtmieddopajbdnaaW.PrintWords

theorem info9 : (Try.prog.info? 9).map (fun i => (i.zero, i.size, i.bytes)) = some (some (.string ⟨#[]⟩), 1, 16) := by kernel_rfl
/-- The parts, and what is left; none: there are too few bytes. -/
def cutL : List Int → List UInt8 → Option (List ByteArray × List UInt8)
  | [], s => some ([], s)
  | n :: l, s => if 0 ≤ n ∧ n ≤ s.length then (cutL l (s.drop n.toNat)).map fun r => (⟨(s.take n.toNat).toArray⟩ :: r.1, r.2) else none
def cutR (s : ByteArray) (l : List Int) : List ByteArray × ByteArray × Int := match cutL l s.data.toList with | some r => (r.1, ⟨r.2.toArray⟩, 0) | none => ([], ⟨#[]⟩, 21)
def CutPost (w : World) (r : List ByteArray × ByteArray × Int) (e : Ending) (w' : World) : Prop :=
  ∃ v, e = .returned (.tuple #[v, .string r.2.1, .int .i64 r.2.2]) ∧ w'.ownsRow w.heap.size 9 1 v r.1.length (encs Value.string r.1) ∧ Below w.heap.size w w'
theorem cutL_snoc (l : List Int) (n : Int) : ∀ s, cutL (l ++ [n]) s = match cutL l s with | some r => if 0 ≤ n ∧ n ≤ r.2.length then some (r.1 ++ [⟨(r.2.take n.toNat).toArray⟩], r.2.drop n.toNat) else none | none => none := by
  induction l with
  | nil => intro s; simp only [List.nil_append, cutL]; split <;> simp
  | cons m l ih =>
    intro s
    simp only [List.cons_append, cutL]
    by_cases h : 0 ≤ m ∧ m ≤ s.length
    · rw [if_pos h, if_pos h, ih]
      cases cutL l (s.drop m.toNat) with
      | none => rfl
      | some r =>
        simp only [Option.map_some]
        split <;> simp
    · rw [if_neg h, if_neg h]
theorem cutL_none (l m : List Int) : ∀ s, cutL l s = none → cutL (l ++ m) s = none := by
  induction l with
  | nil => intro s h; simp [cutL] at h
  | cons n l ih =>
    intro s h
    simp only [List.cons_append, cutL] at h ⊢
    split at h
    · rename_i hc
      rw [if_pos hc, ih _ (by simpa using h)]; rfl
    · rename_i hc
      rw [if_neg hc]
theorem cutL_len (l : List Int) : ∀ s r, cutL l s = some r → r.1.length = l.length ∧ r.2.length ≤ s.length := by
  induction l with
  | nil => intro s r h; simp [cutL] at h; subst h; exact ⟨rfl, Nat.le_refl _⟩
  | cons n l ih =>
    intro s r h
    simp only [cutL] at h
    split at h
    · obtain ⟨q, hq, rfl⟩ := Option.map_eq_some_iff.1 h
      obtain ⟨h1, h2⟩ := ih _ _ hq
      simp at h2 ⊢
      omega
    · cases h

/-- The cells of a row of bytes that is read. -/
def At (w : World) (B o m : Nat) (r : List UInt8) : Prop := r.length = m ∧ ∀ i, i < m → w.cell? ⟨B, o + i, none⟩ = some (.int .u8 ((r.getD i 0).toNat : Int))
theorem At.str {w : World} {B o m : Nat} {r : List UInt8} (h : At w B o m r) (n cap : Nat) (hn : n ≤ m) :
    (convert 42 9 (.slice (some ⟨B, o, none⟩) n cap)).run Try.prog w = .ok (.string ⟨(r.take n).toArray⟩) w := by
  have hl : (r.take n).length = n := by rw [List.length_take, h.1]; omega
  have := run_convert_bytes_back w 42 9 5 ⟨B, o, none⟩ cap (r.take n) Try.underlying42 Try.underlying5 Try.underlying9 (by
    intro j hj
    rw [hl] at hj
    have hc := h.2 j (by omega)
    rw [show (⟨B, o, none⟩ : Addr).add j = ⟨B, o + j, none⟩ by simp [Addr.add], hc, List.getD_eq_getElem?_getD, List.getElem?_eq_getElem (by rw [h.1]; omega)]
    simp)
  rw [hl] at this
  exact this
theorem At.below {w w' : World} {B o m : Nat} {r : List UInt8} (h : At w B o m r) (hb : Below w.heap.size w w') : At w' B o m r :=
  ⟨h.1, fun i hi => by rw [hb.cell (p := ⟨B, o + i, none⟩) (block_lt_of_cell (h.2 i hi))]; exact h.2 i hi⟩
theorem At.drop {w : World} {B o m : Nat} {r : List UInt8} (h : At w B o m r) (n : Nat) (hn : n ≤ m) : At w B (o + n) (m - n) (r.drop n) :=
  ⟨by rw [List.length_drop, h.1], fun i hi => by
    have := h.2 (n + i) (by omega)
    rw [Nat.add_assoc, this]
    simp [List.getD_eq_getElem?_getD]⟩
theorem bytes_conv (w : World) (s : ByteArray) : ∃ cap W, (convert 9 42 (.string s)).run Try.prog w = .ok (.slice (some ⟨w.heap.size, 0, none⟩) s.size cap) W ∧ Below w.heap.size w W ∧ s.size ≤ cap ∧ At W w.heap.size 0 s.size s.data.toList ∧ w.heap.size < W.heap.size := by
  refine ⟨_, _, run_bytes_of_string w 9 42 5 s Try.underlying9 Try.underlying42 Try.underlying5, ((Below.refl _ _).drew).alloc (Nat.le_refl _) _, ?_, ⟨rfl, ?_⟩, by simp⟩
  · exact grownCap_ge _ _ _ _
  · intro j hj
    rw [Nat.zero_add, show w.heap.size = w.drew.heap.size from rfl, World.cell?_alloc_mark, bytesRow_at s _ j hj]
    simp [List.getD_eq_getElem?_getD, hj]

set_option maxHeartbeats 1000000 in
theorem cut_any (s : ByteArray) (A : Option Addr) (c : Nat) (l : List Int) (w : World) (hs : s.size ≤ 100000) (hl : ReadsInt w .i64 A l.length l) (hlen : l.length ≤ 1000) (hwf : ∀ n ∈ l, -9223372036854775808 ≤ n ∧ n ≤ 9223372036854775807) :
    Calls Try.prog 17 #[.string s, .slice A l.length c] w (CutPost w (cutR s l)) := by
  obtain ⟨cap, W, hconv, hbW, hcap, hat, hWs⟩ := bytes_conv w s
  obtain ⟨i0, hi, hz0, hz1, hz2⟩ := info_parts info9
  have HL := Lib.hid hl
  have HWF := Lib.hid hwf
  have HAT0 := Lib.hid hat
  have HB0 := Lib.hid hbW
  obtain ⟨B, hBe⟩ : ∃ B, B = w.heap.size := ⟨_, rfl⟩
  rw [← hBe] at hconv HAT0
  have hBW : B < W.heap.size := by omega
  have HBE := Lib.hid hBe
  clear hl hwf hat hbW hWs hBe
  go_enter Try.func17, Try.ntmps17
  go_wp2
  go_loopw [7, 8, 16] (fun x v i wr => ∃ (j : Nat) (v0 : Value) (o m cp : Nat) (ps : List ByteArray) (r : List UInt8), j ≤ l.length ∧ i = .int .i64 j ∧ v0 = v ∧ x = .slice (some ⟨B, o, none⟩) m cp ∧ m ≤ cp ∧ m ≤ 100000 ∧ Hid (cutL (l.take j) s.data.toList = some (ps, r)) ∧ Hid (At wr B o m r) ∧ Hid (wr.ownsRow (B + 1) 9 1 v0 j (encs Value.string ps)) ∧ Hid (Below w.heap.size w wr) ∧ B < wr.heap.size) (fun _ _ i _ => l.length - (intOf i).toNat)
  case atStart => exact ⟨0, _, 0, s.size, cap, [], s.data.toList, Nat.zero_le _, rfl, rfl, rfl, hcap, hs, rfl, HAT0, own_nil _ _ _ _, HB0, hBW⟩
  case round =>
    clear HAT0 HB0 hBW
    obtain ⟨j, v0, o, m, cp, ps, r, hj, rfl, rfl, rfl, hmc, hm, HC, HAT, HO, HB, hBs⟩ := hrel
    by_cases hlt : j < l.length
    · obtain ⟨ad, hA, hcs⟩ := (HL.out.below HB.out).2.2 (by omega)
      subst hA
      have hc := hcs j hlt
      have hn := HWF.out (l.getD j 0) (by rw [List.getD_eq_getElem?_getD, List.getElem?_eq_getElem hlt]; exact List.getElem_mem hlt)
      have hmem : l.take (j + 1) = l.take j ++ [l.getD j 0] := by
        rw [List.take_succ_eq_append_getElem hlt, List.getD_eq_getElem?_getD, List.getElem?_eq_getElem hlt]; rfl
      have hall : cutL (l.take j) s.data.toList = none ∨ True := .inr trivial
      generalize l.getD j 0 = n at *
      have HM := Lib.hid hmem
      clear hcs hmem hall
      by_cases hf : 0 ≤ n ∧ n ≤ m
      · obtain ⟨hn0, hnm⟩ := hf
        obtain ⟨n, rfl⟩ : ∃ q : Nat, n = q := ⟨n.toNat, by omega⟩
        have hnm2 : n ≤ m := by omega
        have hpart := HAT.out.str n n hnm2
        have HC3 : Hid (cutL (l.take (j + 1)) s.data.toList = some (ps ++ [⟨(r.take n).toArray⟩], r.drop n)) := by
          show cutL (l.take (j + 1)) s.data.toList = _
          rw [HM.out, cutL_snoc, HC.out]
          simp only
          rw [if_pos ⟨hn0, by rw [HAT.out.1]; exact hnm⟩]
          rfl
        obtain ⟨T, hT⟩ : ∃ T : ByteArray, T = ⟨(r.take n).toArray⟩ := ⟨_, rfl⟩
        rw [← hT] at hpart HC3
        clear hT
        by_cases hcn : cp = n
        · obtain rfl : m = n := by omega
          obtain rfl := hcn
          go_wp2_with (at_builtin; refine wpList_append_own _ rfl _ _ 37 rfl (B + 1) 9 i0 (.string ⟨#[]⟩) 1 16 Try.underlying37 hi hz0 hz1 hz2 rfl (by decide) v0 j _ rfl (HO.out.alloc _) ⟨wr.heap.size, 0, none⟩ 1 1 [.string T] rfl rfl (cell_one_new _ _ _) (by simp [Value.oneCell']) (by unfold maxLen; omega) (by omega) (by simp; omega) ?_)
          intro v3 w3 hown3 hgrow3 _
          have hcat : encs Value.string ps ++ [Value.string T] = encs Value.string (ps ++ [T]) := by simp [encs]
          rw [hcat] at hown3
          have HO3 := Lib.hid hown3
          have HB3 : Hid (Below w.heap.size w w3) := (HB.out.alloc HB.out.size _).grown hgrow3 (by have := HB.out.size; simp; omega) (fun q hq => by have := own_base HO.out q hq; have := HBE.out; omega)
          have hb3 : w3.heap[B]? = wr.heap[B]? := by
            rw [hgrow3.block B (by simp; omega) (fun e => by have := own_base HO.out B e.symm; omega)]
            exact Below.heap_alloc _ _ _ hBs
          have hs3 : B < w3.heap.size := by have := hgrow3.size; simp at this; omega
          have HAT3 : Hid (At w3 B o cp r) := ⟨HAT.out.1, fun i hi => by rw [World.cell?_of_block (w := wr) hb3]; exact HAT.out.2 i hi⟩
          clear hown3 hgrow3 hcat hb3
          go_wp2
          go_roundw
          case rel => exact ⟨j + 1, v3, o, 0, 0, ps ++ [T], _, by omega, by go_num, rfl, by simp, Nat.le_refl _, by omega, HC3, ⟨by rw [List.length_drop, HAT3.out.1]; exact Nat.sub_self _, fun i hi => by omega⟩, HO3, HB3, hs3⟩
          case measure => simp [intOf]; omega
        · have hne : ((cp : Int) == (n : Int)) = false := by rw [beq_eq_false_iff_ne]; omega
          go_wp2_with (at_builtin; refine wpList_append_own _ rfl _ _ 37 rfl (B + 1) 9 i0 (.string ⟨#[]⟩) 1 16 Try.underlying37 hi hz0 hz1 hz2 rfl (by decide) v0 j _ rfl (HO.out.alloc _) ⟨wr.heap.size, 0, none⟩ 1 1 [.string T] rfl rfl (cell_one_new _ _ _) (by simp [Value.oneCell']) (by unfold maxLen; omega) (by omega) (by simp; omega) ?_)
          intro v3 w3 hown3 hgrow3 _
          have hcat : encs Value.string ps ++ [Value.string T] = encs Value.string (ps ++ [T]) := by simp [encs]
          rw [hcat] at hown3
          have HO3 := Lib.hid hown3
          have HB3 : Hid (Below w.heap.size w w3) := (HB.out.alloc HB.out.size _).grown hgrow3 (by have := HB.out.size; simp; omega) (fun q hq => by have := own_base HO.out q hq; have := HBE.out; omega)
          have hb3 : w3.heap[B]? = wr.heap[B]? := by
            rw [hgrow3.block B (by simp; omega) (fun e => by have := own_base HO.out B e.symm; omega)]
            exact Below.heap_alloc _ _ _ hBs
          have hs3 : B < w3.heap.size := by have := hgrow3.size; simp at this; omega
          have HAT3 : Hid (At w3 B o m r) := ⟨HAT.out.1, fun i hi => by rw [World.cell?_of_block (w := wr) hb3]; exact HAT.out.2 i hi⟩
          clear hown3 hgrow3 hcat hb3
          go_wp2
          go_roundw
          case rel => exact ⟨j + 1, v3, o + n, m - n, cp - n, ps ++ [T], r.drop n, by omega, by go_num, rfl, rfl, by omega, by omega, HC3, HAT3.out.drop n hnm2, HO3, HB3, hs3⟩
          case measure => simp [intOf]; omega
      · have hcr : cutL (l.take (j + 1)) s.data.toList = none := by
          rw [HM.out, cutL_snoc, HC.out]
          simp only
          rw [if_neg (by rw [HAT.out.1]; omega)]
        have HR : Hid (cutR s l = ([], ⟨#[]⟩, 21)) := by
          show cutR s l = _
          have h3 := cutL_none (l.take (j + 1)) (l.drop (j + 1)) _ hcr
          rw [List.take_append_drop] at h3
          unfold cutR; rw [h3]
        have hcases : n < 0 ∨ (0 ≤ n ∧ (m : Int) < n) := by omega
        clear hcr hf
        rcases hcases with h | ⟨h, h'⟩
        all_goals
          go_wp2
          go_ret3
          unfold CutPost
          rw [HR.out]
          exact ⟨_, rfl, own_nil _ _ _ _, HB.out⟩
    · obtain rfl : j = l.length := by omega
      have HR : Hid (cutR s l = (ps, ⟨r.toArray⟩, 0)) := by
        show cutR s l = _
        have := HC.out
        rw [List.take_length] at this
        unfold cutR; rw [this]
      have hpl : ps.length = l.length := by
        have := HC.out
        rw [List.take_length] at this
        exact (cutL_len _ _ _ this).1
      have HPL := Lib.hid hpl
      have hback : ∀ nq, (convert 42 9 (.slice (some ⟨B, o, none⟩) m cp)).run Try.prog (wr.drewN nq) = .ok (.string ⟨r.toArray⟩) (wr.drewN nq) := by
        intro nq
        have h2 : At (wr.drewN nq) B o m r := HAT.out.below (below_drewN (Below.refl _ _) nq)
        have := h2.str m cp (Nat.le_refl _)
        rwa [List.take_of_length_le (Nat.le_of_eq HAT.out.1)] at this
      clear HC HAT hpl
      go_wp2_with fail
      go_quiet (fail)
      go_wp2
      go_ret3
      unfold CutPost
      rw [HR.out]
      refine ⟨_, rfl, ?_, below_drewN HB.out nq⟩
      rw [HPL.out]
      exact own_weaken (own_move HO.out (fun q hq => rfl)) (by have := HBE.out; omega)
end Go.Proofs.Ytmieddopajbdnaa
