/- dag.Long. -/
import Derived.Test.YtjkindoedkjnbaaDagLongA
set_option linter.unusedVariables false
set_option linter.unusedSimpArgs false
namespace Go.Proofs.Ytjkindoedkjnbaa
open Go.RowKit Go.Sort
open Go.Proofs.YtjkindoedkjnbaaW.PrintWords
open DagPlain

set_option maxHeartbeats 2000000 in
theorem Long_any (A : Option Addr) (c : Nat) (l : List Int) (B : Option Addr) (d : Nat) (es : List (Int × Int)) (w : World) (hl : ReadsInt w .i64 A l.length l) (hn1 : l.length ≤ 1000) (hm1 : es.length ≤ 1000) (hE : EdR w B es) (hcd : es.length ≤ d) :
    Calls Try.prog 19 #[.agg #[.slice A l.length c, .slice B es.length d]] w fun e w' => e = .returned (.int .i64 (longL l es)) ∧ Below w.heap.size w w' := by
  have C1 := Lib.hid (fun w1 h1 h2 => Order_any A c l B d es w1 h1 hn1 hm1 h2 hcd)
  have C2 := Lib.hid (fun x w1 h => preds_any A l.length c B d es x w1 hm1 h)
  have HE := Lib.hid hE
  have HL := Lib.hid hl
  have HIN : Hid (ordL l es ≠ [] → _) := @ordL_in l es
  have HR : Hid (longL l es = ((ordL l es).foldl (stepN l es) (List.replicate l.length 0, 0)).2) := rfl
  obtain ⟨j0, ki, kz0, kz1, kz2⟩ := info_parts info3'
  clear hE hl
  go_enter Try.func19, Try.ntmps19
  go_wp2_with (at_make; refine wpList_make_full _ rfl _ _ 22 rfl w.heap.size 3 j0 (.int .i64 0) 1 Try.underlying22 ki kz0 kz1 _ _ _ _ l.length rfl rfl rfl rfl (by rw [kz2]; omega) (by unfold maxLen; omega) (by simp) ?_)
  intro w1 hown hgrow
  have HS := Lib.hid (LS.start hown hgrow)
  obtain ⟨hb1, hb2, hc0, hc1, -⟩ := HS.out
  have HB1 := Lib.hid hb1
  clear hown hgrow hb1 hb2
  generalize ordL l es = ol at *
  go_wp2_with fail
  refine (C1.out _ (HL.out.below HB1.out) (HE.out.below HB1.out)).mono ?_
  rintro e w2 ⟨v, rfl, hown, hb⟩
  have HS2 := Lib.hid (HS.out.below hb)
  obtain ⟨A1, c1, rfl, hrx⟩ := RX.of (g := w.heap.size + 1) hown HS.out.2.1
  have HX := Lib.hid hrx
  clear hown hb hrx hc0 hc1 HS HB1
  go_wp2_with fail
  go_loopw [4, 16] (fun mo i wr => ∃ (k : Nat) (F : List Int) (m : Int), k ≤ ol.length ∧ i = .int .i64 k ∧ mo = .int .i64 m ∧ 0 ≤ m ∧ m ≤ 1000 * k ∧ Hid (∀ i : Nat, 0 ≤ F.getD i 0 ∧ F.getD i 0 ≤ 1000 * k) ∧ Hid ((ol.take k).foldl (stepN l es) (List.replicate l.length 0, 0) = (F, m)) ∧ Hid (LS w A l.length c B es.length d F wr) ∧ Hid (RX (w.heap.size + 1) wr A1 ol)) (fun _ i _ => ol.length - (intOf i).toNat)
  case atStart =>
    refine ⟨0, List.replicate l.length 0, 0, Nat.zero_le _, rfl, rfl, by omega, by omega, ?_, rfl, HS2, HX⟩
    show ∀ i : Nat, _
    intro i
    have : (List.replicate l.length (0 : Int)).getD i 0 = 0 := by simp [List.getD_eq_getElem?_getD, List.getElem?_replicate]; split <;> rfl
    rw [this]
    omega
  case round =>
    clear HS2 HX
    obtain ⟨k, F, m, hk, rfl, rfl, hm0, hm2, HF, HFO, HS, HX⟩ := hrel
    by_cases hlt : k < ol.length
    · obtain ⟨i1, i2, i3, i4⟩ := HIN.out (by intro h; rw [h] at hlt; simp at hlt)
      obtain ⟨ad, rfl, hcs⟩ := HX.out.1.2.2 (by omega)
      have hxk := hcs k hlt
      have hmem : ol.getD k 0 ∈ ol := by rw [List.getD_eq_getElem?_getD, List.getElem?_eq_getElem hlt]; exact List.getElem_mem hlt
      have hxb := i1 _ hmem
      have HSN := Lib.hid (foldl_snoc (stepN l es) (List.replicate l.length 0, 0) ol k hlt)
      rw [HFO.out] at HSN
      obtain ⟨x, hx⟩ : ∃ x, x = ol.getD k 0 := ⟨_, rfl⟩
      rw [← hx] at hxk hxb HSN
      obtain ⟨nx, rfl⟩ : ∃ nx : Nat, x = (nx : Int) := ⟨x.toNat, by omega⟩
      have hnx : nx < l.length := by omega
      have HI3 := Lib.hid (i3 (nx : Int))
      have HI4 := Lib.hid (i4 nx)
      have hpl : (predL (nx : Int) es).length ≤ 1000 := by have := pred_len (nx : Int) es; unfold predL; rw [sortL_len]; omega
      obtain ⟨hb1, hb2, hc0, hc1, -⟩ := HS.out
      have HB1 := Lib.hid hb1
      have HSF : Hid (∀ G, (predL (nx : Int) es).foldl (stepP (nx : Int)) F = G → stepN l es (F, m) (nx : Int) = (G.set nx (G.getD nx 0 + l.getD nx 0), max m ((G.set nx (G.getD nx 0 + l.getD nx 0)).getD nx 0))) := by
        show ∀ G, _
        rintro G rfl
        rfl
      clear hx hmem hcs i1 i3 i4 hb1
      go_wp2_with fail
      refine (C2.out _ _ (HE.out.below HB1.out)).mono ?_
      generalize predL (nx : Int) es = pl at *
      rintro e w3 ⟨v, rfl, hown, hb⟩
      have HS3 := Lib.hid (HS.out.below hb)
      have HX3 := Lib.hid (HX.out.below hb)
      obtain ⟨A2, c2, rfl, hrx⟩ := RX.of (g := w.heap.size + 1) hown hb2
      have HY := Lib.hid hrx
      clear hown hb hrx hc0 hc1 HS HX HB1 hxk hb2
      go_wp2_with fail
      go_loopw [24] (fun i wr => ∃ (q : Nat) (G : List Int), q ≤ pl.length ∧ i = .int .i64 q ∧ Hid (∀ i : Nat, 0 ≤ G.getD i 0 ∧ G.getD i 0 ≤ 1000 * k) ∧ Hid ((pl.take q).foldl (stepP (nx : Int)) F = G) ∧ Hid (LS w A l.length c B es.length d G wr) ∧ Hid (RX (w.heap.size + 1) wr (some ad) ol) ∧ Hid (RX (w.heap.size + 1) wr A2 pl)) (fun i _ => pl.length - (intOf i).toNat)
      case atStart => exact ⟨0, F, Nat.zero_le _, rfl, HF, rfl, HS3, HX3, HY⟩
      case round =>
        clear HS3 HX3 HY HF HFO
        obtain ⟨q, G, hq, rfl, HG, HGO, HS, HX, HY⟩ := hrel
        by_cases hlq : q < pl.length
        · obtain ⟨pd, rfl, hcs⟩ := HY.out.1.2.2 (by omega)
          have hpk := hcs q hlq
          have hmem : pl.getD q 0 ∈ pl := by rw [List.getD_eq_getElem?_getD, List.getElem?_eq_getElem hlq]; exact List.getElem_mem hlq
          have hpb := HI3.out _ hmem
          have HSN2 := Lib.hid (foldl_snoc (stepP (nx : Int)) F pl q hlq)
          rw [HGO.out] at HSN2
          obtain ⟨p, hp⟩ : ∃ p, p = pl.getD q 0 := ⟨_, rfl⟩
          rw [← hp] at hpk hpb HSN2
          obtain ⟨np, rfl⟩ : ∃ np : Nat, p = (np : Int) := ⟨p.toNat, by omega⟩
          have hnp : np < l.length := by omega
          have hgn := HS.out.at_ nx hnx
          have hgp := HS.out.at_ np hnp
          clear hp hmem hcs
          go_wp2_with fail
          obtain ⟨hgn1, hgn2⟩ := hgn
          obtain ⟨hgp1, -⟩ := hgp
          have HG1 : Hid (∀ i : Nat, 0 ≤ (stepP (nx : Int) G (np : Int)).getD i 0 ∧ (stepP (nx : Int) G (np : Int)).getD i 0 ≤ 1000 * k) := by
            show ∀ i : Nat, _
            intro i
            have h1 := HG.out i
            have h2 := HG.out nx
            have h3 := HG.out np
            unfold stepP
            rw [getD_set]
            simp only [Int.toNat_natCast]
            split <;> omega
          have HSP : Hid (stepP (nx : Int) G (np : Int) = G.set nx (max (G.getD nx 0) (G.getD np 0))) := rfl
          obtain ⟨a, ha⟩ : ∃ a, a = G.getD nx 0 := ⟨_, rfl⟩
          obtain ⟨b, hb⟩ : ∃ b, b = G.getD np 0 := ⟨_, rfl⟩
          rw [← ha] at hgn1 HSP
          rw [← hb] at hgp1 HSP
          clear ha hb
          have HS2 := Lib.hid ((HS.out.set nx (max a b)).drew)
          have HX2 := Lib.hid ((HX.out.set nx (.int .i64 (max a b))).drew)
          have HY2 := Lib.hid ((HY.out.set nx (.int .i64 (max a b))).drew)
          go_region
          go_wp2_with fail
          go_roundw
          case rel => exact ⟨q + 1, stepP (nx : Int) G (np : Int), by omega, by go_num, HG1, HSN2, by rw [HSP.out]; exact HS2, HX2, HY2⟩
          case measure => simp [intOf]; omega
        · obtain rfl : q = pl.length := by omega
          have hfin := HGO.out
          rw [List.take_length] at hfin
          have HST := HSF.out G hfin
          rw [HST] at HSN
          clear HST hfin HGO HSF
          have hgn := HS.out.at_ nx hnx
          obtain ⟨hgn1, hgn2⟩ := hgn
          obtain ⟨hb1, hb2, hc0, hc1, -⟩ := HS.out
          obtain ⟨wd, rfl, hws⟩ := (HL.out.below hb1).2.2 (by omega)
          have hwn := hws nx hnx
          have hg0 := HG.out nx
          have hl0 := HI4.out
          have HG1 : Hid (∀ i : Nat, 0 ≤ (G.set nx (G.getD nx 0 + l.getD nx 0)).getD i 0 ∧ (G.set nx (G.getD nx 0 + l.getD nx 0)).getD i 0 ≤ 1000 * ((k + 1 : Nat) : Int)) := by
            show ∀ i : Nat, _
            intro i
            have h1 := HG.out i
            rw [getD_set]
            split <;> omega
          have hgs : (G.set nx (G.getD nx 0 + l.getD nx 0)).getD nx 0 = G.getD nx 0 + l.getD nx 0 := by rw [getD_set, if_pos ⟨rfl, by rw [HS.out.size]; exact hnx⟩]
          rw [hgs] at HSN
          have HGS := Lib.hid hgs
          have HS2 := Lib.hid ((HS.out.set nx (G.getD nx 0 + l.getD nx 0)).drew)
          have HX2 := Lib.hid ((HX.out.set nx (.int .i64 (G.getD nx 0 + l.getD nx 0))).drew)
          generalize G.set nx (G.getD nx 0 + l.getD nx 0) = G2 at *
          generalize G.getD nx 0 = a at *
          generalize l.getD nx 0 = b at *
          clear hws hgs hb1 hb2
          go_wp2_with fail
          go_region
          generalize (wr.setCell ⟨w.heap.size + 1, nx, none⟩ (.int .i64 (a + b))).drew = w5 at *
          obtain ⟨hh1, -⟩ := HS2.out.at_ nx hnx
          rw [HGS.out] at hh1
          clear hgn1 hgn2 hc0 hc1 hwn
          go_wp2_with fail
          have hmx0 : 0 ≤ max m (a + b) := by omega
          have hmx1 : max m (a + b) ≤ 1000 * ((k + 1 : Nat) : Int) := by omega
          go_roundw
          case rel => exact ⟨k + 1, G2, max m (a + b), by omega, by go_num, rfl, hmx0, hmx1, HG1, HSN, HS2, HX2⟩
          case measure => simp [intOf]; omega
    · obtain rfl : k = ol.length := by omega
      have HR2 : Hid (longL l es = m) := by show longL l es = m; rw [HR.out]; have := HFO.out; rw [List.take_length] at this; rw [this]
      have HB := Lib.hid HS.out.1
      clear HR HFO HF
      go_wp2_with fail
      go_ret
      exact ⟨by rw [HR2.out]; rfl, HB.out⟩
end Go.Proofs.Ytjkindoedkjnbaa
