/- slices.Index and slices.Contains at []int; dag.Before. -/
import Derived.Test.YtjkindoedkjnbaaDagLongA
import Derived.Deep.QuietTactic
import Derived.BigQuiet
set_option linter.unusedVariables false
set_option linter.unusedSimpArgs false
namespace Go.Proofs.Ytjkindoedkjnbaa
open Go.RowKit Go.Sort
open Go.Proofs.YtjkindoedkjnbaaW.PrintWords
open DagPlain

def IdxIPost (w : World) (es : List Int) (x : Int) (e : Ending) (w' : World) : Prop := ∃ i : Int, e = .returned (.int .i64 i) ∧ (0 ≤ i ↔ es.contains x = true) ∧ -1 ≤ i ∧ Below w.heap.size w w'
set_option maxHeartbeats 1000000 in
theorem idxI_any (B : Option Addr) (c : Nat) (es : List Int) (x : Int) (w : World) (hE : ReadsInt w .i64 B es.length es) (hlen : es.length ≤ 1000) :
    Calls Try.prog 50 #[.slice B es.length c, .int .i64 x] w (IdxIPost w es x) := by
  have HE := Lib.hid hE
  clear hE
  go_enter Try.func50, Try.ntmps50
  go_wp2
  go_loopw [8] (fun i wr => ∃ k : Nat, k ≤ es.length ∧ i = .int .i64 k ∧ Hid (∀ j, j < k → es.getD j 0 ≠ x) ∧ Hid (Below w.heap.size w wr)) (fun i _ => es.length - (intOf i).toNat)
  case atStart => exact ⟨0, Nat.zero_le _, rfl, by show ∀ j, j < 0 → _; omega, Below.refl _ _⟩
  case round =>
    obtain ⟨k, hk, rfl, HN, HBW⟩ := hrel
    by_cases hlt : k < es.length
    · obtain ⟨ad, rfl, hcs⟩ := (HE.out.below HBW.out).2.2 (by omega)
      have hr1 := hcs k hlt
      have hmem : es.getD k 0 ∈ es := by rw [List.getD_eq_getElem?_getD, List.getElem?_eq_getElem hlt]; exact List.getElem_mem hlt
      obtain ⟨f, hft⟩ : ∃ p, p = es.getD k 0 := ⟨_, rfl⟩
      rw [← hft] at hr1 hmem
      have HM := Lib.hid hmem
      have HFT := Lib.hid hft
      clear hcs hmem hft
      by_cases he : x = f
      · subst he
        have HC : Hid (es.contains x = true) := by show es.contains x = true; rw [List.contains_iff_mem]; exact HM.out
        go_wp2
        go_ret
        exact ⟨_, rfl, ⟨fun _ => HC.out, fun _ => by omega⟩, by omega, HBW.out⟩
      · have HN2 : Hid (∀ j, j < k + 1 → es.getD j 0 ≠ x) := by
          show ∀ j, j < k + 1 → _
          intro j hj
          by_cases e : j = k
          · rw [e, ← HFT.out]; intro h; exact he h.symm
          · exact HN.out j (by omega)
        go_wp2
        go_roundw
        case rel => exact ⟨k + 1, by omega, by go_num, HN2, HBW.out⟩
        case measure => simp [intOf]; omega
    · obtain rfl : k = es.length := by omega
      have HC : Hid (¬ es.contains x = true) := by
        show ¬ _
        rw [List.contains_iff_mem]
        intro hm
        obtain ⟨j, hj, e⟩ := List.getElem_of_mem hm
        have := HN.out j hj
        rw [List.getD_eq_getElem?_getD, List.getElem?_eq_getElem hj] at this
        exact this e
      clear HN
      go_wp2
      go_ret
      exact ⟨_, rfl, ⟨fun h => by omega, fun h => absurd h HC.out⟩, by omega, HBW.out⟩

set_option maxHeartbeats 400000 in
theorem contI_any (B : Option Addr) (c : Nat) (es : List Int) (x : Int) (w : World) (hE : ReadsInt w .i64 B es.length es) (hlen : es.length ≤ 1000) :
    Calls Try.prog 42 #[.slice B es.length c, .int .i64 x] w fun e w' => e = .returned (.bool (es.contains x)) ∧ Below w.heap.size w w' := by
  have C := Lib.hid (fun w1 h => idxI_any B c es x w1 h hlen)
  have HE := Lib.hid hE
  clear hE
  cases ho : es.contains x with
  | true =>
    have HO := Lib.hid ho
    clear ho
    go_enter Try.func42, Try.ntmps42
    go_wp2_with fail
    refine (C.out _ HE.out).mono ?_
    rintro e w1 ⟨i, rfl, h1, h2, hb⟩
    have h0 : 0 ≤ i := h1.2 HO.out
    have HB := Lib.hid hb
    clear h1 hb
    go_wp2
    go_ret
    exact ⟨by simp [h0], HB.out⟩
  | false =>
    have HO : Hid (¬ es.contains x = true) := by rw [ho]; show ¬ _; simp
    clear ho
    go_enter Try.func42, Try.ntmps42
    go_wp2_with fail
    refine (C.out _ HE.out).mono ?_
    rintro e w1 ⟨i, rfl, h1, h2, hb⟩
    have h0 : ¬ 0 ≤ i := fun h => HO.out (h1.1 h)
    have HB := Lib.hid hb
    clear h1 hb
    go_wp2
    go_ret
    exact ⟨by simp [h0], HB.out⟩

def beforeGo (es : List (Int × Int)) (b : Int) : List Int → List Int → Bool
  | [], _ => false
  | n :: r, fr => if (predL n es).any (fun p => fr.contains p) = true then if n = b then true else beforeGo es b r (fr ++ [n]) else beforeGo es b r fr
def beforeL (l : List Int) (es : List (Int × Int)) (a b : Int) : Bool := beforeGo es b (ordL l es) [a]
theorem drop_cons (l : List Int) (k : Nat) (h : k < l.length) : l.drop k = l.getD k 0 :: l.drop (k + 1) := by
  rw [List.getD_eq_getElem?_getD, List.getElem?_eq_getElem h]; exact List.drop_eq_getElem_cons h

/-- A row that is read, in another block than the own row's. -/
def RB (v0 : Value) (wr : World) (A : Option Addr) (r : List Int) : Prop := ReadsInt wr .i64 A r.length r ∧ (0 < r.length → ∀ a, A = some a → some a.block ≠ v0.ownBlock ∧ a.block < wr.heap.size)
theorem RB.below {v0 : Value} {wr wr' : World} {A : Option Addr} {r : List Int} (h : RB v0 wr A r) (hb : Below wr.heap.size wr wr') : RB v0 wr' A r := ⟨h.1.below hb, fun h0 a ha => ⟨(h.2 h0 a ha).1, by have := (h.2 h0 a ha).2; have := hb.size; omega⟩⟩
theorem RB.grown {v0 v1 : Value} {wr wr' : World} {A : Option Addr} {r : List Int} (h : RB v0 wr A r) (hg : wr.grownBy wr' v0.ownBlock) (hv : v1.ownBlock = v0.ownBlock ∨ ∃ b, v1.ownBlock = some b ∧ wr.heap.size ≤ b) : RB v1 wr' A r := by
  refine ⟨⟨h.1.1, h.1.2.1, fun h0 => ?_⟩, fun h0 a ha => ?_⟩
  · obtain ⟨ad, rfl, hc⟩ := h.1.2.2 h0
    obtain ⟨h1, h2⟩ := h.2 h0 ad rfl
    refine ⟨ad, rfl, fun j hj => ?_⟩
    have hbk : (ad.add j).block = ad.block := by unfold Addr.add; split <;> rfl
    rw [World.cell?_of_block (w := wr) (by rw [hbk]; exact hg.block _ h2 h1)]
    exact hc j hj
  · obtain ⟨h1, h2⟩ := h.2 h0 a ha
    refine ⟨?_, by have := hg.size; omega⟩
    rcases hv with e | ⟨b, e, hb⟩
    · rw [e]; exact h1
    · rw [e]; intro e2; injection e2 with e2; omega
theorem RB.of {w w' : World} {v v0 : Value} {r : List Int} (h : w'.ownsRow w.heap.size 3 1 v r.length (encs (Value.int .i64) r)) (hg : ∀ b, v0.ownBlock = some b → b < w.heap.size) : ∃ A c, v = .slice A r.length c ∧ RB v0 w' A r := by
  obtain ⟨A, c, rfl, hr⟩ := own_reads (k := .i64) h
  refine ⟨A, c, rfl, hr, fun h0 a ha => ⟨?_, own_lt h a.block (by rw [ha]; rfl)⟩⟩
  have h1 := own_base h a.block (by rw [ha]; rfl)
  intro e
  have := hg a.block e.symm
  omega

set_option maxHeartbeats 2000000 in
theorem Before_any (A : Option Addr) (c : Nat) (l : List Int) (B : Option Addr) (d : Nat) (es : List (Int × Int)) (a b : Int) (w : World) (hl : ReadsInt w .i64 A l.length l) (hn1 : l.length ≤ 1000) (hm1 : es.length ≤ 1000) (hE : EdR w B es) (hcd : es.length ≤ d) :
    Calls Try.prog 22 #[.agg #[.slice A l.length c, .slice B es.length d], .int .i64 a, .int .i64 b] w fun e w' => e = .returned (.bool (beforeL l es a b)) ∧ Below w.heap.size w w' := by
  have C1 := Lib.hid (fun w1 h1 h2 => Order_any A c l B d es w1 h1 hn1 hm1 h2 hcd)
  have C2 := Lib.hid (fun x w1 h => preds_any A l.length c B d es x w1 hm1 h)
  have HE := Lib.hid hE
  have HL := Lib.hid hl
  have HIN : Hid (ordL l es ≠ [] → _) := @ordL_in l es
  have HR : Hid (beforeL l es a b = beforeGo es b (ordL l es) [a]) := rfl
  obtain ⟨j0, ki, kz0, kz1, kz2⟩ := info_parts info3'
  clear hE hl
  go_enter Try.func22, Try.ntmps22
  go_wp2_with fail
  obtain ⟨W0, hW0⟩ : ∃ W0, W0 = ((w.alloc (Obj.cells #[.slice A l.length c, .slice B es.length d] 25)).alloc (Obj.cells #[.int .i64 a] 3)) := ⟨_, rfl⟩
  have HB0 : Hid (Below w.heap.size w W0) := by show Below w.heap.size w W0; rw [hW0]; exact ((Below.refl _ _).alloc (Nat.le_refl _) _).alloc (by simp) _
  have HCC : Hid (W0.cell? ⟨w.heap.size, 0, none⟩ = some (.slice A l.length c) ∧ W0.cell? ⟨w.heap.size, 1, none⟩ = some (.slice B es.length d)) := by
    show _ ∧ _
    rw [hW0]; exact ⟨by simp, by simp⟩
  have HO0 : Hid (W0.ownsRow (w.heap.size + 1) 3 1 (.slice (some ⟨w.heap.size + 1, 0, none⟩) 1 1) [a].length (encs (Value.int .i64) [a])) := by
    show W0.ownsRow _ _ _ _ _ _
    have := own_lit (w.alloc (Obj.cells #[.slice A l.length c, .slice B es.length d] 25)) (w.heap.size + 1) 3 .i64 [a] (by simp) (by simp)
    rw [World.size_alloc] at this
    rw [hW0]
    exact this
  have hsz : W0.heap.size = w.heap.size + 2 := by rw [hW0]; simp
  rw [← hW0]
  clear hW0
  refine (C1.out _ (HL.out.below HB0.out) (HE.out.below HB0.out)).mono ?_
  generalize ordL l es = ol at *
  rintro e w2 ⟨v, rfl, hown, hb⟩
  obtain ⟨A1, c1, rfl, hrx⟩ := RB.of (v0 := .slice (some ⟨w.heap.size + 1, 0, none⟩) 1 1) hown (by intro q hq; simp [Value.ownBlock] at hq; omega)
  have HX2 := Lib.hid hrx
  have HB2 : Hid (Below (w.heap.size + 1) W0 w2) := hb.mono (by omega)
  have HO2 : Hid (w2.ownsRow (w.heap.size + 1) 3 1 (.slice (some ⟨w.heap.size + 1, 0, none⟩) 1 1) [a].length (encs (Value.int .i64) [a])) := own_move HO0.out (fun q hq => hb.block q (own_lt HO0.out q hq))
  have HSZ : Hid (W0.heap.size = w.heap.size + 2) := hsz
  clear hown hb hrx HO0 hsz
  go_wp2_with fail
  go_loopw [7, 17] (fun v i wr => ∃ (k : Nat) (fr : List Int) (v0 : Value), v0 = v ∧ k ≤ ol.length ∧ i = .int .i64 k ∧ fr.length ≤ k + 1 ∧ Hid (beforeGo es b (ol.drop k) fr = beforeL l es a b) ∧ Hid (Below (w.heap.size + 1) W0 wr) ∧ Hid (wr.ownsRow (w.heap.size + 1) 3 1 v0 fr.length (encs (Value.int .i64) fr)) ∧ Hid (RB v0 wr A1 ol)) (fun _ i _ => ol.length - (intOf i).toNat)
  case atStart => exact ⟨0, [a], _, rfl, Nat.zero_le _, rfl, by simp, by show beforeGo es b (ol.drop 0) [a] = _; rw [List.drop_zero]; exact HR.out.symm, HB2, HO2, HX2⟩
  case round =>
    clear HX2 HB2 HO2
    obtain ⟨k, fr, v0, rfl, hk, rfl, hfl, HG, HBW, HO, HX⟩ := hrel
    by_cases hlt : k < ol.length
    · obtain ⟨i1, i2, i3, -⟩ := HIN.out (by intro h; rw [h] at hlt; simp at hlt)
      obtain ⟨ad, rfl, hcs⟩ := HX.out.1.2.2 (by omega)
      have hxk := hcs k hlt
      have HG2 := HG.out
      rw [drop_cons ol k hlt] at HG2
      obtain ⟨x, hx⟩ : ∃ x, x = ol.getD k 0 := ⟨_, rfl⟩
      rw [← hx] at hxk HG2
      have HGX := Lib.hid HG2
      have HLEN : Hid (fr.length ≤ 65) := by show fr.length ≤ 65; omega
      have hpl : (predL x es).length ≤ 1000 := by have := pred_len x es; unfold predL; rw [sortL_len]; omega
      have hbw : Below w.heap.size w wr := HB0.out.trans (HBW.out.mono (by omega))
      have hc0 : wr.cell? ⟨w.heap.size, 0, none⟩ = some (.slice A l.length c) := by rw [HBW.out.cell (by show w.heap.size < _; omega)]; exact HCC.out.1
      have hc1 : wr.cell? ⟨w.heap.size, 1, none⟩ = some (.slice B es.length d) := by rw [HBW.out.cell (by show w.heap.size < _; omega)]; exact HCC.out.2
      have HBB := Lib.hid hbw
      clear hx hcs i1 i3 HG2 hbw HG
      go_wp2_with fail
      refine (C2.out _ _ (HE.out.below HBB.out)).mono ?_
      have HGY : Hid (∀ z, beforeGo es b (x :: ol.drop (k + 1)) fr = z → (if (predL x es).any (fun p => fr.contains p) = true then if x = b then true else beforeGo es b (ol.drop (k + 1)) (fr ++ [x]) else beforeGo es b (ol.drop (k + 1)) fr) = z) := fun z h => h
      generalize predL x es = pl at *
      rintro e w3 ⟨v, rfl, hown, hb⟩
      obtain ⟨A2, c2, rfl, hry⟩ := RB.of (v0 := v0) hown (own_lt HO.out)
      have HY3 := Lib.hid hry
      have HX3 := Lib.hid (HX.out.below hb)
      have HO3 : Hid (w3.ownsRow (w.heap.size + 1) 3 1 v0 fr.length (encs (Value.int .i64) fr)) := own_move HO.out (fun q hq => hb.block q (own_lt HO.out q hq))
      have HB3 : Hid (Below (w.heap.size + 1) W0 w3) := HBW.out.trans (hb.mono (by have := HBW.out.size; have := HSZ.out; omega))
      clear hown hb hry hc0 hc1 HO HX HBW hxk HBB
      obtain ⟨A3, c3, rfl, -⟩ := own_reads (k := .i64) HO3.out
      go_wp2_with fail
      go_loopw [7, 25] (fun v i wr => ∃ (q : Nat), .slice A3 fr.length c3 = v ∧ q ≤ pl.length ∧ i = .int .i64 q ∧ Hid (∀ j, j < q → fr.contains (pl.getD j 0) = false) ∧ Hid (Below (w.heap.size + 1) W0 wr) ∧ Hid (wr.ownsRow (w.heap.size + 1) 3 1 (.slice A3 fr.length c3) fr.length (encs (Value.int .i64) fr)) ∧ Hid (RB (.slice A3 fr.length c3) wr (some ad) ol) ∧ Hid (RB (.slice A3 fr.length c3) wr A2 pl)) (fun _ i _ => pl.length - (intOf i).toNat)
      case atStart => exact ⟨0, rfl, Nat.zero_le _, rfl, by show ∀ j, j < 0 → _; omega, HB3, HO3, HX3, HY3⟩
      case round =>
        clear HB3 HO3 HX3 HY3
        obtain ⟨q, rfl, hq, rfl, HN, HBW, HO, HX, HY⟩ := hrel
        by_cases hlq : q < pl.length
        · obtain ⟨pd, rfl, hcs⟩ := HY.out.1.2.2 (by omega)
          have hpk := hcs q hlq
          have CC := Lib.hid (fun p w1 h => contI_any A3 c3 fr p w1 h (by have := HLEN.out; omega))
          have hmem : pl.getD q 0 ∈ pl := by rw [List.getD_eq_getElem?_getD, List.getElem?_eq_getElem hlq]; exact List.getElem_mem hlq
          obtain ⟨p, hp⟩ : ∃ p, p = pl.getD q 0 := ⟨_, rfl⟩
          rw [← hp] at hpk hmem
          have HP := Lib.hid hp
          have hrd : ReadsInt wr .i64 A3 fr.length fr := own_reads' HO.out
          have HRD := Lib.hid hrd
          have HM := Lib.hid hmem
          clear hcs hp hrd hmem
          cases hcn : fr.contains p with
          | true =>
            have HANY : Hid (pl.any (fun p => fr.contains p) = true) := List.any_eq_true.2 ⟨p, HM.out, hcn⟩
            have HW := Lib.hid (HGY.out _ HGX.out)
            rw [HANY.out, if_pos rfl] at HW
            by_cases hxb : x = b
            · have HR2 : Hid (beforeL l es a b = true) := by have := HW.out; rw [if_pos hxb] at this; exact this.symm
              have HCN := Lib.hid hcn
              clear hcn HW HR HGY HGX
              go_wp2_with fail
              refine (CC.out p wr HRD.out).mono ?_
              rw [HCN.out]
              rintro e w4 ⟨rfl, hb⟩
              have HB : Hid (Below w.heap.size w w4) := HB0.out.trans ((HBW.out.mono (by omega)).trans (hb.mono (by have := HBW.out.size; have := HSZ.out; omega)))
              clear hb
              go_wp2_with fail
              go_ret
              exact ⟨by rw [HR2.out]; rfl, HB.out⟩
            · have HR2 : Hid (beforeGo es b (ol.drop (k + 1)) (fr ++ [x]) = beforeL l es a b) := by have := HW.out; rw [if_neg hxb] at this; exact this
              have HCN := Lib.hid hcn
              clear hcn HW HGY HGX
              go_wp2_with fail
              refine (CC.out p wr HRD.out).mono ?_
              rw [HCN.out]
              rintro e w4 ⟨rfl, hb⟩
              have HB4 : Hid (Below (w.heap.size + 1) W0 w4) := HBW.out.trans (hb.mono (by have := HBW.out.size; have := HSZ.out; omega))
              have HX4 := Lib.hid (HX.out.below hb)
              have HO4 : Hid (w4.ownsRow (w.heap.size + 1) 3 1 (.slice A3 fr.length c3) fr.length (encs (Value.int .i64) fr)) := own_move HO.out (fun q hq => hb.block q (own_lt HO.out q hq))
              clear hb
              have hs4 : w.heap.size + 1 ≤ w4.heap.size := by have := HB4.out.size; have := HSZ.out; omega
              go_wp2_with (at_builtin; refine print_append_of (w0 := W0) (Value.int .i64) (w.heap.size + 1) rfl _ _ 22 3 (.int .i64 0) 8 rfl Try.underlying22 info3' rfl (by decide) (.slice A3 fr.length c3) fr x rfl rfl rfl HO4.out HB4.out hs4 (by omega) ?_)
              intro v1 w5 hown5 hb5 hgr hdis
              have HO5 := Lib.hid hown5
              have HB5 := Lib.hid hb5
              have HX5 := Lib.hid (HX4.out.grown hgr hdis)
              clear hown5 hb5 hgr hdis hs4
              go_wp2_with fail
              go_roundw
              case rel => exact ⟨k + 1, fr ++ [x], v1, rfl, by omega, by go_num, by simp; omega, HR2, HB5, by rw [List.length_append]; exact HO5, HX5⟩
              case measure => simp [intOf]; omega
          | false =>
            have HN2 : Hid (∀ j, j < q + 1 → fr.contains (pl.getD j 0) = false) := by
              show ∀ j, j < q + 1 → _
              intro j hj
              by_cases e : j = q
              · rw [e, ← HP.out]; exact hcn
              · exact HN.out j (by omega)
            have HCN := Lib.hid hcn
            clear hcn
            go_wp2_with fail
            refine (CC.out p wr HRD.out).mono ?_
            rw [HCN.out]
            rintro e w4 ⟨rfl, hb⟩
            have HB4 : Hid (Below (w.heap.size + 1) W0 w4) := HBW.out.trans (hb.mono (by have := HBW.out.size; have := HSZ.out; omega))
            have HX4 := Lib.hid (HX.out.below hb)
            have HY4 := Lib.hid (HY.out.below hb)
            have HO4 : Hid (w4.ownsRow (w.heap.size + 1) 3 1 (.slice A3 fr.length c3) fr.length (encs (Value.int .i64) fr)) := own_move HO.out (fun q hq => hb.block q (own_lt HO.out q hq))
            clear hb
            go_wp2_with fail
            go_roundw
            case rel => exact ⟨q + 1, rfl, by omega, by go_num, HN2, HB4, HO4, HX4, HY4⟩
            case measure => simp [intOf]; omega
        · obtain rfl : q = pl.length := by omega
          have HANY : Hid (¬ pl.any (fun p => fr.contains p) = true) := by
            show ¬ _
            rw [List.any_eq_true]
            rintro ⟨p, hp, hc⟩
            obtain ⟨j, hj, rfl⟩ := List.getElem_of_mem hp
            have := HN.out j hj
            rw [List.getD_eq_getElem?_getD, List.getElem?_eq_getElem hj] at this
            simp only [Option.getD_some] at this
            rw [this] at hc
            cases hc
          have HR2 : Hid (beforeGo es b (ol.drop (k + 1)) fr = beforeL l es a b) := by
            have := HGY.out _ HGX.out
            rw [if_neg HANY.out] at this
            exact this
          clear HANY HN HGY HGX
          go_wp2_with fail
          go_roundw
          case rel => exact ⟨k + 1, fr, _, rfl, by omega, by go_num, by omega, HR2, HBW, HO, HX⟩
          case measure => simp [intOf]; omega
    · obtain rfl : k = ol.length := by omega
      have HR2 : Hid (beforeL l es a b = false) := by show _ = false; rw [← HG.out, List.drop_length]; rfl
      have HB : Hid (Below w.heap.size w wr) := HB0.out.trans (HBW.out.mono (by omega))
      clear HG HR
      go_wp2_with fail
      go_ret
      exact ⟨by rw [HR2.out]; rfl, HB.out⟩
end Go.Proofs.Ytjkindoedkjnbaa
