/- DagLess, walked: the way on which an edge is taken out. -/
import Derived.Test.YtjkindoedkjnbaaDagLessB
import Derived.Deep.RegionLaw
import Derived.Deep.RegionHeld3
import Derived.IntWalk
set_option linter.unusedVariables false
set_option linter.unusedSimpArgs false
namespace Go.Proofs.Ytjkindoedkjnbaa
open Go.RowKit Go.Sort
open Go.Proofs.YtjkindoedkjnbaaW.PrintWords
open DagPlain

theorem info40' : (Try.prog.info? 40).map (fun i => (i.zero, i.size, i.bytes)) = some (some (.agg #[.int .i64 0, .int .i64 0]), 2, 16) := by kernel_rfl
theorem EW.shape {base : Nat} {w : World} {B : Option Addr} {d n : Nat} (h : EW base w B d n) (hn : 0 < n) : ∃ g, B = some ⟨g, 0, none⟩ ∧ base ≤ g ∧ g < w.heap.size ∧ ∀ o, w.frozen? ⟨g, o, none⟩ = false := by
  obtain ⟨inner, h⟩ := h
  have h' := h
  obtain ⟨hl, ⟨h1, h2⟩ | ⟨g, cap, cur, e, hg1, hg2, hg3, hg4, hg5, hg6⟩⟩ := h
  · omega
  · injection e with e1 e2 e3
    subst e1
    exact ⟨g, rfl, hg1, own_lt h' g rfl, fun o => h'.frozenAt o⟩
set_option maxHeartbeats 4000000 in
theorem lessw_main (A : Option Addr) (c : Nat) (l : List Int) (B : Option Addr) (d : Nat) (es : List (Int × Int)) (k : Nat) (w : World) (hg : GR w A c l B d es) (hf : l.length ≤ 70 ∧ es.length ≤ 300) (hz : checkL l es = 0) (hk : k < es.length) :
    Calls Try.prog 9 #[.agg #[.slice A l.length c, .slice B es.length d], .int .i64 (k : Int)] w fun e w' => e = .returned (.bool true) ∧ Below w.heap.size w w' := by
  have CF := Lib.hid (few_call A c l B d es)
  have CO := Lib.hid (fun A' c' B' d' w1 h => own_call A' c' l B' d' es w1 h (by omega) (by omega))
  have CC := Lib.hid (fun A' c' B' d' w1 (h : GR w1 A' c' l B' d' es) => check_any A' c' l B' d' es w1 h.1.2 (by omega) (by omega) h.2.2 h.2.1)
  have HG := Lib.hid hg
  have HZ := Lib.hid hz
  rw [decide_eq_true hf] at CF
  rw [hz] at CC
  have hle : es.length ≤ 300 := hf.2
  have hf1 : l.length ≤ 70 := hf.1
  clear hf hg hz
  obtain ⟨i0, hi0, hz0, hz1, hz2⟩ := info_parts info40'
  go_enter Try.func9, Try.ntmps9
  go_wp2_with fail
  have HS0 := Lib.hid (DS.start w A l.length c B es.length d 25)
  refine (awake_any _).mono ?_
  rintro e w1 ⟨rfl, hb⟩
  have HS1 := Lib.hid (HS0.out.below hb)
  obtain ⟨-, hx0, hx1⟩ := HS1.out
  clear hb HS0
  go_wp2_with fail
  refine (CF.out _).mono ?_
  rintro e w2 ⟨rfl, hb⟩
  have HS2 := Lib.hid (HS1.out.below hb)
  clear hb HS1 hx0 hx1
  obtain ⟨-, hx0, hx1⟩ := HS2.out
  go_wp2_with fail
  refine (CO.out _ _ _ _ _ (HG.out.below HS2.out.1)).mono ?_
  rintro e w3 ⟨A1, c1, B1, d1, rfl, hg1, -, -, hb⟩
  have HG1 := Lib.hid hg1
  have HS3 := Lib.hid (HS2.out.below hb)
  clear hb HS2 hx0 hx1 hg1
  obtain ⟨-, hx0, hx1⟩ := HS3.out
  go_wp2_with fail
  refine (CC.out _ _ _ _ _ HG1.out).mono ?_
  rintro e w4 ⟨rfl, hb⟩
  have HS4 := Lib.hid (HS3.out.below hb)
  clear hb HS3 hx0 hx1 HG1
  obtain ⟨-, hx0, hx1⟩ := HS4.out
  have hwb : w.heap.size < w4.heap.size := block_lt_of_cell hx0
  have hk0 : ¬ ((k : Int) < 0) := by omega
  have hk1 : ¬ ((k : Int) ≥ (es.length : Int)) := by omega
  go_wp2_with fail
  refine (CO.out _ _ _ _ _ (HG.out.below HS4.out.1)).mono ?_
  rintro e w5 ⟨A2, c2, B2, d2, rfl, hg2, hew, hap, hb⟩
  have HS5 := Lib.hid (HS4.out.below hb)
  clear hb HS4 hx0 hx1
  obtain ⟨g, rfl, hgb, hgs, hfr⟩ := hew.shape (by omega)
  clear hew
  obtain ⟨-, hx0, hx1⟩ := HS5.out
  go_wp2_with fail
  have HS6 := Lib.hid (HS5.out.below (below_alloc w5 (.cells #[.slice A2 l.length c2, .slice (some ⟨g, 0, none⟩) es.length d2] 25)))
  have HX6 := Lib.hid (DS.start w5 A2 l.length c2 (some ⟨g, 0, none⟩) es.length d2 25)
  have HG6 := Lib.hid (hg2.below (below_alloc w5 (.cells #[.slice A2 l.length c2, .slice (some ⟨g, 0, none⟩) es.length d2] 25)))
  have hfr6 : ∀ o, (w5.alloc (.cells #[.slice A2 l.length c2, .slice (some ⟨g, 0, none⟩) es.length d2] 25)).frozen? ⟨g, o, none⟩ = false := fun o => ((below_alloc w5 _).frozen (p := ⟨g, o, none⟩) hgs).trans (hfr o)
  have hne : w5.heap.size ≠ g := by omega
  have hfx6 : (w5.alloc (.cells #[.slice A2 l.length c2, .slice (some ⟨g, 0, none⟩) es.length d2] 25)).frozen? ⟨w5.heap.size, 1, none⟩ = false := by simp
  generalize (w5.alloc (.cells #[.slice A2 l.length c2, .slice (some ⟨g, 0, none⟩) es.length d2] 25)) = w6 at *
  have hA2 := Lib.hid (fun (h0 : 0 < l.length) a (ha : A2 = some a) => (show a.block ≠ g ∧ a.block ≠ w5.heap.size from ⟨hap a _ ha rfl, by
    obtain ⟨ad, e, hc⟩ := hg2.1.2.2.2 h0
    have := block_lt_of_cell (hc 0 h0)
    rw [ha] at e
    cases e
    have hq : (a.add 0).block = a.block := rfl
    omega⟩))
  have hw5 : w.heap.size < w5.heap.size := block_lt_of_cell hx0
  clear hx0 hx1 hg2 hgs hfr HS5
  obtain ⟨-, hx0, hx1⟩ := HX6.out
  have hcd : es.length ≤ d2 := HG6.out.2.1
  have HE := Lib.hid HG6.out.2.2
  obtain ⟨AD, hA, hnews⟩ : ∃ A : Addr, (if d2 = k + 1 then some (⟨g, 0, none⟩ : Addr) else some ⟨g, (k + 1) * 2, none⟩) = some A ∧ Hid (∀ j u, (edgeCells (es.drop (k + 1)))[j]? = some u → w6.drew.cell? (A.add j) = some u) := by
    by_cases h : d2 = k + 1
    · refine ⟨⟨g, 0, none⟩, by simp [h], fun j u hu => ?_⟩
      obtain ⟨i, hi, -⟩ := edgeCells_get hu
      rw [List.length_drop] at hi
      omega
    · refine ⟨⟨g, (k + 1) * 2, none⟩, by simp [h], fun j u hu => ?_⟩
      obtain ⟨i, hi, hu⟩ := edgeCells_get hu
      rw [List.length_drop] at hi
      obtain ⟨e1, e2⟩ := HE.out.cellAt (k + 1 + i) (by omega)
      have q : (es.drop (k + 1)).getD i (0, 0) = es.getD (k + 1 + i) (0, 0) := by rw [List.getD_eq_getElem?_getD, List.getElem?_drop, List.getD_eq_getElem?_getD]
      rw [q] at hu
      rw [Addr.add_lit]
      rcases hu with ⟨rfl, rfl⟩ | ⟨rfl, rfl⟩
      · rw [show (k + 1) * 2 + i * 2 = (k + 1 + i) * 2 by omega]; exact e1
      · rw [show (k + 1) * 2 + (i * 2 + 1) = (k + 1 + i) * 2 + 1 by omega]; exact e2
  have s1 : Hid ((edgeCells (es.drop (k + 1))).length = (es.length - (k + 1)) * 2) := by show _ = _; rw [edgeCells_len, List.length_drop]
  have s2 : Hid (∀ u ∈ edgeCells (es.drop (k + 1)), u.oneCell' = true) := edgeCells_one _
  have s3 : Hid (∀ j, j < (edgeCells (es.drop (k + 1))).length → (w6.drew.cell? ⟨g, 0 + k * 2 + j, none⟩).isSome = true ∧ w6.drew.frozen? ⟨g, 0 + k * 2 + j, none⟩ = false) := by
    intro j hj
    have hj2 : j < (es.length - (k + 1)) * 2 := by rw [← s1.out]; exact hj
    obtain ⟨e1, e2⟩ := HE.out.cellAt (k + j / 2) (by omega)
    refine ⟨?_, hfr6 _⟩
    rw [Nat.zero_add]
    rcases Nat.mod_two_eq_zero_or_one j with e | e
    · rw [show k * 2 + j = (k + j / 2) * 2 by omega]; show (w6.cell? _).isSome = true; rw [e1]; rfl
    · rw [show k * 2 + j = (k + j / 2) * 2 + 1 by omega]; show (w6.cell? _).isSome = true; rw [e2]; rfl
  have hic : k ≤ d2 := by omega
  have hwr : IntKind.i64.wrap ((k : Int) + 1) = (k : Int) + 1 := by rw [IntKind.wrap_i64]; omega
  have hp0 : (0 : Int) ≤ (k : Int) + 1 := by omega
  have hp1 : (k : Int) + 1 ≤ (es.length : Int) := by omega
  have hp2 : ((k : Int) + 1).toNat = k + 1 := by omega
  have k1 : (w6.drew.setCells g (k * 2) (edgeCells (es.drop (k + 1)))).cell? ⟨w5.heap.size, 1, none⟩ = some (.slice (some ⟨g, 0, none⟩) es.length d2) := (World.cell?_setCells_out g _ _ _ _ (fun h => absurd h hne)).trans hx1
  have e1 : (w6.drew.setCells g (k * 2) (edgeCells (es.drop (k + 1)))).frozen? ⟨w5.heap.size, 1, none⟩ = false := (World.frozen?_setCells g _ _ _ _).trans hfx6
  have hm : k + (es.length - (k + 1)) ≤ d2 := by omega
  have HT := Lib.hid (two_less w6 g w5.heap.size (k * 2) 1 (edgeCells (es.drop (k + 1))) (.slice (some ⟨g, 0, none⟩) (k + (es.length - (k + 1))) d2))
  have hlx : (lessE es k).length ≤ 300 := by rw [lessE_len es k hk]; omega
  have hln := hf1
  have hll : k + (es.length - (k + 1)) = (lessE es k).length := by rw [lessE_len es k hk]; omega
  have HE7 : Hid (EdR ((w6.drew.setCells g (k * 2) (edgeCells (es.drop (k + 1)))).setCell ⟨w5.heap.size, 1, none⟩ (.slice (some ⟨g, 0, none⟩) (k + (es.length - (k + 1))) d2)) (some ⟨g, 0, none⟩) (lessE es k)) :=
    EdR.far (EdR.less (w := w6.drew) (fun h0 => HE.out h0) k hk) (Below.heap_setCell _ _ _ _ (Ne.symm hne))
  have HG7 : Hid (GR ((w6.drew.setCells g (k * 2) (edgeCells (es.drop (k + 1)))).setCell ⟨w5.heap.size, 1, none⟩ (.slice (some ⟨g, 0, none⟩) (k + (es.length - (k + 1))) d2)) A2 c2 l (some ⟨g, 0, none⟩) d2 (lessE es k)) :=
    ⟨⟨HG6.out.1.1, ReadsInt.two HG6.out.1.2 HT.out hA2.out⟩, by rw [← hll]; exact hm, HE7.out⟩
  have HS7 : Hid (DS w w.heap.size A l.length c B es.length d ((w6.drew.setCells g (k * 2) (edgeCells (es.drop (k + 1)))).setCell ⟨w5.heap.size, 1, none⟩ (.slice (some ⟨g, 0, none⟩) (k + (es.length - (k + 1))) d2))) :=
    ⟨HS6.out.1.trans ((HT.out.below (by omega) (by omega))), (HT.out.cell _ _ (by omega) (by omega)).trans HS6.out.2.1, (HT.out.cell _ _ (by omega) (by omega)).trans HS6.out.2.2⟩
  have HX7 : Hid (DS ((w6.drew.setCells g (k * 2) (edgeCells (es.drop (k + 1)))).setCell ⟨w5.heap.size, 1, none⟩ (.slice (some ⟨g, 0, none⟩) (k + (es.length - (k + 1))) d2)) w5.heap.size A2 l.length c2 (some ⟨g, 0, none⟩) (k + (es.length - (k + 1))) d2 ((w6.drew.setCells g (k * 2) (edgeCells (es.drop (k + 1)))).setCell ⟨w5.heap.size, 1, none⟩ (.slice (some ⟨g, 0, none⟩) (k + (es.length - (k + 1))) d2))) :=
    ⟨Below.refl _ _, by
      rw [World.cell?_setCell_other _ _ _ _ (by intro e; have := congrArg Addr.off e; simp at this)]
      exact (World.cell?_setCells_out g _ _ _ _ (fun h => absurd h hne)).trans hx0, World.cell?_setCell_same _ _ _ k1⟩
  have HLL := Lib.hid hll
  clear HE7 hll
  go_region_law (refine step_append_room rfl (.tmp 36) (.tmp 41) 23 rfl 40 i0 2 Try.underlying23 hi0 hz1 g 0 k d2 (by simp [Act.eval, Act.put]) AD (es.length - (k + 1)) (d2 - (k + 1)) (edgeCells (es.drop (k + 1))) (by simp [Act.eval, Act.put]) s1.out hnews.out s2.out hm s3.out ?_)
  all_goals
    rw [HLL.out] at HX7 HS7 HG7 ⊢
    clear hnews s1 s2 s3 k1 e1 hx0 hx1 HT HE HX6 HS6 HG6 hfr6 hfx6 hA hwr hp0 hp1 hp2 hm hic hk0 hk1 hA2
    generalize ((w6.drew.setCells g (k * 2) (edgeCells (es.drop (k + 1)))).setCell ⟨w5.heap.size, 1, none⟩ (.slice (some ⟨g, 0, none⟩) (lessE es k).length d2)) = w7 at *
    have HSd := Lib.hid (HS7.out.below (W' := w7.drew) ⟨rfl, rfl, rfl, Nat.le_refl _, fun _ _ => rfl⟩)
    have HXd := Lib.hid (HX7.out.below (W' := w7.drew) ⟨rfl, rfl, rfl, Nat.le_refl _, fun _ _ => rfl⟩)
    have HGd := Lib.hid (HG7.out.below (w' := w7.drew) ⟨rfl, rfl, rfl, Nat.le_refl _, fun _ _ => rfl⟩)
    clear HS7 HX7 HG7
    have CX := Lib.hid (fun A' c' B' d' w1 h => own_call A' c' l B' d' (lessE es k) w1 h (by omega) (by omega))
    have CK := Lib.hid (fun A' c' B' d' w1 (h : GR w1 A' c' l B' d' (lessE es k)) => check_any A' c' l B' d' (lessE es k) w1 h.1.2 (by omega) (by omega) h.2.2 h.2.1)
    have CLx := Lib.hid (fun A' c' B' d' w1 (h : GR w1 A' c' l B' d' (lessE es k)) => Long_any A' c' l B' d' (lessE es k) w1 h.1.2 (by omega) (by omega) h.2.2 h.2.1)
    have CLd := Lib.hid (fun A' c' B' d' w1 (h : GR w1 A' c' l B' d' es) => Long_any A' c' l B' d' es w1 h.1.2 (by omega) (by omega) h.2.2 h.2.1)
    have CTx := Lib.hid (fun A' c' B' d' w1 (h : GR w1 A' c' l B' d' (lessE es k)) => Total_any A' c' l B' d' (lessE es k) w1 h.1.2 (by omega) (by omega) h.2.2 h.2.1)
    have CTd := Lib.hid (fun A' c' B' d' w1 (h : GR w1 A' c' l B' d' es) => Total_any A' c' l B' d' es w1 h.1.2 (by omega) (by omega) h.2.2 h.2.1)
    have CS := Lib.hid (fun w1 (h : GR w1 A2 c2 l (some ⟨g, 0, none⟩) d2 (lessE es k)) (h' : GR w1 A c l B d es) => Same_any A2 (some ⟨g, 0, none⟩) A B c2 d2 c d l l (lessE es k) es w1 h.1.2 h'.1.2 h.2.2 h'.2.2 (by omega) (by omega) (by omega) (by omega))
    rw [less_check HZ.out k] at CK
    rw [less_total HZ.out k] at CTx
    rw [decide_eq_false (fun h => less_ne hk h.2)] at CS
    have hL := less_long HZ.out k
    generalize totL l es = tt at *
    generalize longL l (lessE es k) = t1 at *
    generalize longL l es = t2 at *
    clear hap hne hwb hcd hgb hw5 hlx HLL
    have T1 : True := trivial
    go_wp2_with fail
    go_region_held3 (fun w' => w'.cell? ⟨w5.heap.size, 0, none⟩ = some (.slice A2 l.length c2) ∧ w'.cell? ⟨w5.heap.size, 1, none⟩ = some (.slice (some ⟨g, 0, none⟩) (lessE es k).length d2) ∧ w'.cell? ⟨w.heap.size, 0, none⟩ = some (.slice A l.length c) ∧ w'.cell? ⟨w.heap.size, 1, none⟩ = some (.slice B es.length d))
      (exact ⟨HXd.out.2.1, HXd.out.2.2, HSd.out.2.1, HSd.out.2.2⟩)
      (first
        | (have _t := T1; go_at_call 13; refine (CX.out _ _ _ _ _ HGd.out).mono ?_; rintro e v1 ⟨A11, c11, B11, d11, rfl, hg1, -, -, hb1⟩; have HO := Lib.hid hg1; replace HSd := Lib.hid (HSd.out.below hb1); replace HXd := Lib.hid (HXd.out.below hb1); replace HGd := Lib.hid (HGd.out.below hb1); clear hb1 hg1 T1; have T2 : True := trivial)
        | (have _t := T2; go_at_call 12; refine (CK.out _ _ _ _ _ HO.out).mono ?_; rintro e v2 ⟨rfl, hb2⟩; replace HSd := Lib.hid (HSd.out.below hb2); replace HXd := Lib.hid (HXd.out.below hb2); replace HGd := Lib.hid (HGd.out.below hb2); clear hb2 HO T2; have T3 : True := trivial)
        | (have _t := T3; go_at_call 13; refine (CX.out _ _ _ _ _ HGd.out).mono ?_; rintro e v3 ⟨A13, c13, B13, d13, rfl, hg3, -, -, hb3⟩; have HO := Lib.hid hg3; replace HSd := Lib.hid (HSd.out.below hb3); replace HXd := Lib.hid (HXd.out.below hb3); replace HGd := Lib.hid (HGd.out.below hb3); clear hb3 hg3 T3; have T4 : True := trivial)
        | (have _t := T4; go_at_call 19; refine (CLx.out _ _ _ _ _ HO.out).mono ?_; rintro e v4 ⟨rfl, hb4⟩; replace HSd := Lib.hid (HSd.out.below hb4); replace HXd := Lib.hid (HXd.out.below hb4); replace HGd := Lib.hid (HGd.out.below hb4); clear hb4 HO T4; have T5 : True := trivial)
        | (have _t := T5; go_at_call 13; refine (CO.out _ _ _ _ _ (HG.out.below HSd.out.1)).mono ?_; rintro e v5 ⟨A15, c15, B15, d15, rfl, hg5, -, -, hb5⟩; have HO := Lib.hid hg5; replace HSd := Lib.hid (HSd.out.below hb5); replace HXd := Lib.hid (HXd.out.below hb5); replace HGd := Lib.hid (HGd.out.below hb5); clear hb5 hg5 T5; have T6 : True := trivial)
        | (have _t := T6; go_at_call 19; refine (CLd.out _ _ _ _ _ HO.out).mono ?_; rintro e v6 ⟨rfl, hb6⟩; replace HSd := Lib.hid (HSd.out.below hb6); replace HXd := Lib.hid (HXd.out.below hb6); replace HGd := Lib.hid (HGd.out.below hb6); clear hb6 HO T6; have T7 : True := trivial)
        | (have _t := T7; go_at_call 13; refine (CX.out _ _ _ _ _ HGd.out).mono ?_; rintro e v7 ⟨A17, c17, B17, d17, rfl, hg7, -, -, hb7⟩; have HO := Lib.hid hg7; replace HSd := Lib.hid (HSd.out.below hb7); replace HXd := Lib.hid (HXd.out.below hb7); replace HGd := Lib.hid (HGd.out.below hb7); clear hb7 hg7 T7; have T8 : True := trivial)
        | (have _t := T8; go_at_call 18; refine (CTx.out _ _ _ _ _ HO.out).mono ?_; rintro e v8 ⟨rfl, hb8⟩; replace HSd := Lib.hid (HSd.out.below hb8); replace HXd := Lib.hid (HXd.out.below hb8); replace HGd := Lib.hid (HGd.out.below hb8); clear hb8 HO T8; have T9 : True := trivial)
        | (have _t := T9; go_at_call 13; refine (CO.out _ _ _ _ _ (HG.out.below HSd.out.1)).mono ?_; rintro e v9 ⟨A19, c19, B19, d19, rfl, hg9, -, -, hb9⟩; have HO := Lib.hid hg9; replace HSd := Lib.hid (HSd.out.below hb9); replace HXd := Lib.hid (HXd.out.below hb9); replace HGd := Lib.hid (HGd.out.below hb9); clear hb9 hg9 T9; have T10 : True := trivial)
        | (have _t := T10; go_at_call 18; refine (CTd.out _ _ _ _ _ HO.out).mono ?_; rintro e v10 ⟨rfl, hb10⟩; replace HSd := Lib.hid (HSd.out.below hb10); replace HXd := Lib.hid (HXd.out.below hb10); replace HGd := Lib.hid (HGd.out.below hb10); clear hb10 HO T10; have T11 : True := trivial)
        | (have _t := T11; go_at_call 15; refine (CS.out _ HGd.out (HG.out.below HSd.out.1)).mono ?_; rintro e v11 ⟨rfl, hb11⟩; replace HSd := Lib.hid (HSd.out.below hb11); replace HXd := Lib.hid (HXd.out.below hb11); replace HGd := Lib.hid (HGd.out.below hb11); clear hb11 T11))
    go_wp2_with fail
    go_ret
    exact ⟨rfl, HSd.out.1⟩
end Go.Proofs.Ytjkindoedkjnbaa
