/- SchedCuts, walked. -/
import Derived.Test.YtnnbgfjokbaepaaMSchC
import Derived.Test.YtnnbgfjokbaepaaMSchD
import Derived.Deep.QuietTactic
import Derived.BigQuiet
import Derived.Deep.RegionHeld3
set_option linter.unusedVariables false
set_option linter.unusedSimpArgs false
namespace Go.Proofs.Ytnnbgfjokbaepaa
open Go.RowKit Go.Sort
open DagPlain SchPlain
open Go.Proofs.YtnnbgfjokbaepaaW.PrintWords

set_option maxRecDepth 100000 in
set_option maxHeartbeats 4000000 in
theorem scuts_few (A : Option Addr) (c : Nat) (l : List Int) (B : Option Addr) (d : Nat) (es : List (Int × Int)) (D : Option Addr) (dc : Nat) (need : List Int) (cores : Int) (T : Option Addr) (tc : Nat) (ts : List (List Int)) (a : Int) (w : World) (hg : GR w A c l B d es) (hn : ReadsInt w .i64 D need.length need) (hnd : need.length ≤ dc) (hT : TrR w T ts) (htm : ts.length ≤ maxLen) (htc : ts.length ≤ tc) (hf : (decide (l.length ≤ 70 ∧ es.length ≤ 300)) = false ∨ ((decide (l.length ≤ 70 ∧ es.length ≤ 300)) = true ∧ fewB need ts = false)) :
    Calls Try.prog 7 #[.agg #[.slice A l.length c, .slice B es.length d], .slice D need.length dc, .int .i64 cores, .slice T ts.length tc, .int .i64 a] w fun e w' => e = .returned (.bool true) ∧ Below w.heap.size w w' := by
  have HG := Lib.hid hg
  have HN := Lib.hid hn
  have HC := Lib.hid (hT.C htm)
  have CF := Lib.hid (few_call A c l B d es)
  clear hg hn hT
  rcases hf with hf | ⟨hf, hf2⟩
  · rw [hf] at CF
    clear hf
    go_enter Try.func7, Try.ntmps7
    go_wp2_with fail
    have HS := Lib.hid (DS.start w A l.length c B es.length d 25)
    obtain ⟨-, hx0, hx1⟩ := HS.out
    refine (awake10_any _).mono ?_
    rintro e v1 ⟨rfl, hb⟩
    replace HS := Lib.hid (HS.out.below hb)
    clear hb hx0 hx1
    obtain ⟨-, hx0, hx1⟩ := HS.out
    go_wp2_with fail
    refine (CF.out _).mono ?_
    rintro e v2 ⟨rfl, hb⟩
    replace HS := Lib.hid (HS.out.below hb)
    clear hb hx0 hx1
    obtain ⟨-, hx0, hx1⟩ := HS.out
    go_wp2_with fail
    refine (awake10_any _).mono ?_
    rintro e v3 ⟨rfl, hb⟩
    replace HS := Lib.hid (HS.out.below hb)
    clear hb hx0 hx1
    obtain ⟨-, hx0, hx1⟩ := HS.out
    go_wp2_with fail
    go_ret
    exact ⟨rfl, HS.out.1⟩
  · rw [hf] at CF
    have C10 := Lib.hid (fun w1 (hb : Below w.heap.size w w1) => few10_call D dc need T tc ts w1 (ReadsInt.below HN.out hb) hnd (Kd.C_below HC.out hb) htc)
    rw [hf2] at C10
    clear hf hf2
    go_enter Try.func7, Try.ntmps7
    go_wp2_with fail
    have HS := Lib.hid (DS.start w A l.length c B es.length d 25)
    obtain ⟨-, hx0, hx1⟩ := HS.out
    refine (awake10_any _).mono ?_
    rintro e v1 ⟨rfl, hb⟩
    replace HS := Lib.hid (HS.out.below hb)
    clear hb hx0 hx1
    obtain ⟨-, hx0, hx1⟩ := HS.out
    go_wp2_with fail
    refine (CF.out _).mono ?_
    rintro e v2 ⟨rfl, hb⟩
    replace HS := Lib.hid (HS.out.below hb)
    clear hb hx0 hx1
    obtain ⟨-, hx0, hx1⟩ := HS.out
    go_wp2_with fail
    refine (C10.out _ HS.out.1).mono ?_
    rintro e v3 ⟨rfl, hb⟩
    replace HS := Lib.hid (HS.out.below hb)
    clear hb hx0 hx1
    obtain ⟨-, hx0, hx1⟩ := HS.out
    go_wp2_with fail
    refine (awake10_any _).mono ?_
    rintro e v4 ⟨rfl, hb⟩
    replace HS := Lib.hid (HS.out.below hb)
    clear hb hx0 hx1
    obtain ⟨-, hx0, hx1⟩ := HS.out
    go_wp2_with fail
    go_ret
    exact ⟨rfl, HS.out.1⟩
set_option maxRecDepth 100000 in
set_option maxHeartbeats 4000000 in
theorem scuts_at (A : Option Addr) (c : Nat) (l : List Int) (B : Option Addr) (d : Nat) (es : List (Int × Int)) (D : Option Addr) (dc : Nat) (need : List Int) (cores : Int) (T : Option Addr) (tc : Nat) (ts : List (List Int)) (a : Int) (w : World) (hg : GR w A c l B d es) (hn : ReadsInt w .i64 D need.length need) (hnd : need.length ≤ dc) (hT : TrR w T ts) (htm : ts.length ≤ maxLen) (htc : ts.length ≤ tc) (hfd : l.length ≤ 70 ∧ es.length ≤ 300) (hf2 : fewB need ts = true) (ha : a < 0 ∨ (0 ≤ a ∧ (ts.length : Int) < a)) :
    Calls Try.prog 7 #[.agg #[.slice A l.length c, .slice B es.length d], .slice D need.length dc, .int .i64 cores, .slice T ts.length tc, .int .i64 a] w fun e w' => e = .returned (.bool true) ∧ Below w.heap.size w w' := by
  obtain ⟨hl70, hes300⟩ := hfd
  obtain ⟨hn70, ht120, hrl⟩ := few_in hf2
  have C10 := Lib.hid (fun w1 (hb : Below w.heap.size w w1) => few10_call D dc need T tc ts w1 (ReadsInt.below hn hb) hnd (Kd.C_below (hT.C htm) hb) htc)
  rw [hf2] at C10
  have CF := Lib.hid (few_call A c l B d es)
  rw [decide_eq_true ⟨hl70, hes300⟩] at CF
  clear hg hn hT hf2
  rcases ha with ha | ⟨ha, ha2⟩
  all_goals
    go_enter Try.func7, Try.ntmps7
    go_wp2_with fail
    have HS := Lib.hid (DS.start w A l.length c B es.length d 25)
    obtain ⟨-, hx0, hx1⟩ := HS.out
    refine (awake10_any _).mono ?_
    rintro e v1 ⟨rfl, hb⟩
    replace HS := Lib.hid (HS.out.below hb)
    clear hb hx0 hx1
    obtain ⟨-, hx0, hx1⟩ := HS.out
    go_wp2_with fail
    refine (CF.out _).mono ?_
    rintro e v2 ⟨rfl, hb⟩
    replace HS := Lib.hid (HS.out.below hb)
    clear hb hx0 hx1
    obtain ⟨-, hx0, hx1⟩ := HS.out
    go_wp2_with fail
    refine (C10.out _ HS.out.1).mono ?_
    rintro e v3 ⟨rfl, hb⟩
    replace HS := Lib.hid (HS.out.below hb)
    clear hb hx0 hx1
    obtain ⟨-, hx0, hx1⟩ := HS.out
    go_wp2_with fail
    refine (awake10_any _).mono ?_
    rintro e v4 ⟨rfl, hb⟩
    replace HS := Lib.hid (HS.out.below hb)
    clear hb hx0 hx1
    obtain ⟨-, hx0, hx1⟩ := HS.out
    go_wp2_with fail
    go_ret
    exact ⟨rfl, HS.out.1⟩
set_option maxRecDepth 100000 in
set_option maxHeartbeats 4000000 in
theorem scuts_no (A : Option Addr) (c : Nat) (l : List Int) (B : Option Addr) (d : Nat) (es : List (Int × Int)) (D : Option Addr) (dc : Nat) (need : List Int) (cores : Int) (T : Option Addr) (tc : Nat) (ts : List (List Int)) (a : Int) (w : World) (hg : GR w A c l B d es) (hn : ReadsInt w .i64 D need.length need) (hnd : need.length ≤ dc) (hT : TrR w T ts) (htm : ts.length ≤ maxLen) (htc : ts.length ≤ tc) (hfd : l.length ≤ 70 ∧ es.length ≤ 300) (hf2 : fewB need ts = true) (ha : 0 ≤ a) (ha2 : a ≤ (ts.length : Int)) (hz : (lookR l es need cores ts != 0) = true) :
    Calls Try.prog 7 #[.agg #[.slice A l.length c, .slice B es.length d], .slice D need.length dc, .int .i64 cores, .slice T ts.length tc, .int .i64 a] w fun e w' => e = .returned (.bool true) ∧ Below w.heap.size w w' := by
  obtain ⟨hl70, hes300⟩ := hfd
  obtain ⟨hn70, ht120, hrl⟩ := few_in hf2
  have C10 := Lib.hid (fun w1 (hb : Below w.heap.size w w1) => few10_call D dc need T tc ts w1 (ReadsInt.below hn hb) hnd (Kd.C_below (hT.C htm) hb) htc)
  rw [hf2] at C10
  have CF := Lib.hid (few_call A c l B d es)
  rw [decide_eq_true ⟨hl70, hes300⟩] at CF
  have HG := Lib.hid hg
  have HN := Lib.hid hn
  have HT := Lib.hid hT
  have CO := Lib.hid (fun A' c' B' d' w1 h => own_call A' c' l B' d' es w1 h (by omega) (by omega))
  have CI := Lib.hid (fun D' dc' w1 h hd => ints_call D' dc' need w1 h hd (by omega))
  have CT := Lib.hid (fun T' tc' w1 h hc => ownT_call T' tc' ts w1 h hc (by omega) (fun r hr => by have := hrl r hr; omega))
  generalize hlr : lookR l es need cores ts = er at *
  have HLR := Lib.hid hlr
  clear hlr hg hn hT hf2
  go_enter Try.func7, Try.ntmps7
  go_wp2_with fail
  have HS := Lib.hid (DS.start w A l.length c B es.length d 25)
  obtain ⟨-, hx0, hx1⟩ := HS.out
  refine (awake10_any _).mono ?_
  rintro e v1 ⟨rfl, hb⟩
  replace HS := Lib.hid (HS.out.below hb)
  clear hb hx0 hx1
  obtain ⟨-, hx0, hx1⟩ := HS.out
  go_wp2_with fail
  refine (CF.out _).mono ?_
  rintro e v2 ⟨rfl, hb⟩
  replace HS := Lib.hid (HS.out.below hb)
  clear hb hx0 hx1
  obtain ⟨-, hx0, hx1⟩ := HS.out
  go_wp2_with fail
  refine (C10.out _ HS.out.1).mono ?_
  rintro e v3 ⟨rfl, hb⟩
  replace HS := Lib.hid (HS.out.below hb)
  clear hb hx0 hx1
  obtain ⟨-, hx0, hx1⟩ := HS.out
  go_wp2_with fail
  refine (CO.out _ _ _ _ _ (HG.out.below HS.out.1)).mono ?_
  rintro e v4 ⟨A4, c4, B4, d4, rfl, hgo, -, -, hb⟩
  have HGo := Lib.hid hgo
  clear hgo
  replace HS := Lib.hid (HS.out.below hb)
  clear hb hx0 hx1
  obtain ⟨-, hx0, hx1⟩ := HS.out
  go_wp2_with fail
  refine (CI.out _ _ _ (ReadsInt.below HN.out HS.out.1) hnd).mono ?_
  rintro e v5 ⟨D5, dc5, rfl, -, hdo, hb⟩
  have HDo := Lib.hid hdo
  clear hdo
  replace HS := Lib.hid (HS.out.below hb)
  replace HGo := Lib.hid (HGo.out.below hb)
  clear hb hx0 hx1
  obtain ⟨-, hx0, hx1⟩ := HS.out
  go_wp2_with fail
  refine (CT.out _ _ _ (HT.out.below HS.out.1) htc).mono ?_
  rintro e v6 ⟨T6, tc6, rfl, -, hto, hb⟩
  have HTo := Lib.hid hto
  clear hto
  replace HS := Lib.hid (HS.out.below hb)
  replace HGo := Lib.hid (HGo.out.below hb)
  replace HDo := Lib.hid (ReadsInt.below HDo.out hb)
  clear hb hx0 hx1
  obtain ⟨-, hx0, hx1⟩ := HS.out
  go_wp2_with fail
  refine (sCheck_any _ _ l _ _ es _ _ need cores _ _ ts _ ⟨HGo.out, ⟨by omega, by omega⟩, HDo.out, by omega, HTo.out, by omega⟩).mono ?_
  rw [HLR.out]
  rintro e v7 ⟨rfl, hb⟩
  clear HGo HDo HTo
  replace HS := Lib.hid (HS.out.below hb)
  clear hb hx0 hx1
  obtain ⟨-, hx0, hx1⟩ := HS.out
  go_wp2_with fail
  refine (awake10_any _).mono ?_
  rintro e v8 ⟨rfl, hb⟩
  replace HS := Lib.hid (HS.out.below hb)
  clear hb hx0 hx1
  obtain ⟨-, hx0, hx1⟩ := HS.out
  go_wp2_with fail
  go_ret
  exact ⟨rfl, HS.out.1⟩
set_option maxRecDepth 100000 in
set_option maxHeartbeats 8000000 in
theorem scuts_main (A : Option Addr) (c : Nat) (l : List Int) (B : Option Addr) (d : Nat) (es : List (Int × Int)) (D : Option Addr) (dc : Nat) (need : List Int) (cores : Int) (ta : Addr) (tc : Nat) (ts : List (List Int)) (a : Nat) (w : World) (hg : GR w A c l B d es) (hn : ReadsInt w .i64 D need.length need) (hnd : need.length ≤ dc) (hT : TrR w (some ta) ts) (htm : ts.length ≤ maxLen) (htc : ts.length ≤ tc) (hfd : l.length ≤ 70 ∧ es.length ≤ 300) (hf2 : fewB need ts = true) (ha : a ≤ ts.length) (hz : lookR l es need cores ts = 0) :
    Calls Try.prog 7 #[.agg #[.slice A l.length c, .slice B es.length d], .slice D need.length dc, .int .i64 cores, .slice (some ta) ts.length tc, .int .i64 (a : Int)] w fun e w' => e = .returned (.bool true) ∧ Below w.heap.size w w' := by
  obtain ⟨hl70, hes300⟩ := hfd
  obtain ⟨hn70, ht120, hrl⟩ := few_in hf2
  have C10 := Lib.hid (fun w1 (hb : Below w.heap.size w w1) => few10_call D dc need (some ta) tc ts w1 (ReadsInt.below hn hb) hnd (Kd.C_below (hT.C htm) hb) htc)
  rw [hf2] at C10
  have CF := Lib.hid (few_call A c l B d es)
  rw [decide_eq_true ⟨hl70, hes300⟩] at CF
  have hv := valid_of hz
  have hvx := valid_take hv a ha
  have hel := ends_len hv
  have hex := ends_len hvx
  have hlx : (ts.take a).length = a := by rw [List.length_take]; omega
  have HZX := Lib.hid (valid_zero hvx)
  have HLR := Lib.hid hz
  have HGX := Lib.hid (greedy_take hv a ha)
  have HFE : Hid (∀ i, i < need.length → (0 ≤ (endsL l es need cores (ts.take a)).getD i 0 → (endsL l es need cores ts).getD i 0 = (endsL l es need cores (ts.take a)).getD i 0) ∧ ((endsL l es need cores (ts.take a)).getD i 0 < 0 → 0 ≤ (endsL l es need cores ts).getD i 0 → (a : Int) < (endsL l es need cores ts).getD i 0)) := by
    show ∀ i, _
    intro i hi
    rw [ends_take hv a ha, ends_eq hv]
    refine ⟨fun h0 => fin_later hv ha (Nat.le_refl _) hi h0, fun h0 h1 => ?_⟩
    rcases Int.lt_or_le (a : Int) ((stAt need ts ts.length).fin.getD i 0) with h2 | h2
    · exact h2
    · have := fin_early hv ha (Nat.le_refl _) hi h1 h2
      omega
  have HG := Lib.hid hg
  have HN := Lib.hid hn
  have HT := Lib.hid hT
  have CO := Lib.hid (fun A' c' B' d' w1 h => own_call A' c' l B' d' es w1 h (by omega) (by omega))
  have CI := Lib.hid (fun D' dc' w1 h hd => ints_call D' dc' need w1 h hd (by omega))
  have CT := Lib.hid (fun T' tc' w1 h hc => ownT_call T' tc' ts w1 h hc (by omega) (fun r hr => by have := hrl r hr; omega))
  have CTX := Lib.hid (fun T' tc' w1 h hc => ownT_call T' tc' (ts.take a) w1 h hc (by omega) (fun r hr => by have := hrl r (List.mem_of_mem_take hr); omega))
  rw [hlx] at CTX
  have hal : (a : Int) ≤ (ts.length : Int) := by omega
  have ha0 : (0 : Int) ≤ (a : Int) := by omega
  have HLX := Lib.hid hlx
  clear hg hn hT hf2 hz hv hvx hlx
  go_enter Try.func7, Try.ntmps7
  go_wp2_with fail
  have HS := Lib.hid (DS.start w A l.length c B es.length d 25)
  obtain ⟨-, hx0, hx1⟩ := HS.out
  refine (awake10_any _).mono ?_
  rintro e v1 ⟨rfl, hb⟩
  replace HS := Lib.hid (HS.out.below hb)
  clear hb hx0 hx1
  obtain ⟨-, hx0, hx1⟩ := HS.out
  go_wp2_with fail
  refine (CF.out _).mono ?_
  rintro e v2 ⟨rfl, hb⟩
  replace HS := Lib.hid (HS.out.below hb)
  clear hb hx0 hx1
  obtain ⟨-, hx0, hx1⟩ := HS.out
  go_wp2_with fail
  refine (C10.out _ HS.out.1).mono ?_
  rintro e v3 ⟨rfl, hb⟩
  replace HS := Lib.hid (HS.out.below hb)
  clear hb hx0 hx1
  obtain ⟨-, hx0, hx1⟩ := HS.out
  go_wp2_with fail
  refine (CO.out _ _ _ _ _ (HG.out.below HS.out.1)).mono ?_
  rintro e v4 ⟨A4, c4, B4, d4, rfl, hgo, -, -, hb⟩
  have HGo := Lib.hid hgo
  clear hgo
  replace HS := Lib.hid (HS.out.below hb)
  clear hb hx0 hx1
  obtain ⟨-, hx0, hx1⟩ := HS.out
  go_wp2_with fail
  refine (CI.out _ _ _ (ReadsInt.below HN.out HS.out.1) hnd).mono ?_
  rintro e v5 ⟨D5, dc5, rfl, -, hdo, hb⟩
  have HDo := Lib.hid hdo
  clear hdo
  replace HS := Lib.hid (HS.out.below hb)
  replace HGo := Lib.hid (HGo.out.below hb)
  clear hb hx0 hx1
  obtain ⟨-, hx0, hx1⟩ := HS.out
  go_wp2_with fail
  refine (CT.out _ _ _ (HT.out.below HS.out.1) htc).mono ?_
  rintro e v6 ⟨T6, tc6, rfl, -, hto, hb⟩
  have HTo := Lib.hid hto
  clear hto
  replace HS := Lib.hid (HS.out.below hb)
  replace HGo := Lib.hid (HGo.out.below hb)
  replace HDo := Lib.hid (ReadsInt.below HDo.out hb)
  clear hb hx0 hx1
  obtain ⟨-, hx0, hx1⟩ := HS.out
  go_wp2_with fail
  refine (sCheck_any _ _ l _ _ es _ _ need cores _ _ ts _ ⟨HGo.out, ⟨by omega, by omega⟩, HDo.out, by omega, HTo.out, by omega⟩).mono ?_
  rw [HLR.out]
  rintro e v7 ⟨rfl, hb⟩
  clear HGo HDo HTo
  replace HS := Lib.hid (HS.out.below hb)
  clear hb hx0 hx1
  obtain ⟨-, hx0, hx1⟩ := HS.out
  go_wp2_with fail
  refine (CTX.out _ _ _ (trR_take (HT.out.below HS.out.1) a ha) (by omega)).mono ?_
  rintro e v8 ⟨TX, tcX, rfl, htx, hto, hb⟩
  have HX := Lib.hid hto
  rw [HLX.out] at htx
  clear hto
  replace HS := Lib.hid (HS.out.below hb)
  clear hb hx0 hx1
  obtain ⟨-, hx0, hx1⟩ := HS.out
  generalize hfs : endsL l es need cores ts = fs at *
  generalize hms : endsL l es need cores (ts.take a) = ms at *
  have HFS := Lib.hid hfs
  have HMS := Lib.hid hms
  clear hfs hms
  go_wp2_with fail
  have hwd : Below v8.heap.size v8 v8.drew := ⟨rfl, rfl, rfl, Nat.le_refl _, fun _ _ => rfl⟩
  replace HS := Lib.hid (HS.out.below hwd)
  replace HX := Lib.hid (HX.out.below hwd)
  clear hwd hx0 hx1
  have K1 : True := trivial
  go_region_held3 (fun w' => w'.cell? ⟨w.heap.size, 0, none⟩ = some (.slice A l.length c) ∧ w'.cell? ⟨w.heap.size, 1, none⟩ = some (.slice B es.length d))
    (exact HS.out.2)
    (first
      | (have _t := K1; go_at_call 15; refine (CO.out _ _ _ _ _ (HG.out.below HS.out.1)).mono ?_; rintro e v9 ⟨A9, c9, B9, d9, rfl, hgo, -, -, hb⟩; have HGo := Lib.hid hgo; clear hgo; replace HS := Lib.hid (HS.out.below hb); replace HX := Lib.hid (HX.out.below hb); clear hb K1; have K2 : True := trivial)
      | (have _t := K2; go_at_call 16; refine (CI.out _ _ _ (ReadsInt.below HN.out HS.out.1) hnd).mono ?_; rintro e v10 ⟨D10, dc10, rfl, -, hdo, hb⟩; have HDo := Lib.hid hdo; clear hdo; replace HS := Lib.hid (HS.out.below hb); replace HGo := Lib.hid (HGo.out.below hb); replace HX := Lib.hid (HX.out.below hb); clear hb K2; have K3 : True := trivial)
      | (have _t := K3; go_at_call 17; refine (CT.out _ _ _ (HT.out.below HS.out.1) htc).mono ?_; rintro e v11 ⟨T11, tc11, rfl, -, hto, hb⟩; have HTo := Lib.hid hto; clear hto; replace HS := Lib.hid (HS.out.below hb); replace HGo := Lib.hid (HGo.out.below hb); replace HDo := Lib.hid (ReadsInt.below HDo.out hb); replace HX := Lib.hid (HX.out.below hb); clear hb K3; have K4 : True := trivial)
      | (have _t := K4; go_at_call 18; refine (sEndsW _ _ l _ _ es _ _ need cores _ _ ts _ rfl ⟨HGo.out, ⟨by omega, by omega⟩, HDo.out, by omega, HTo.out, by omega⟩ HFS.out hel).mono ?_; rintro e v12 ⟨E1a, E1c, rfl, heo, hb⟩; have HE1 := Lib.hid heo; clear heo HGo HDo HTo; replace HS := Lib.hid (HS.out.below hb); replace HX := Lib.hid (HX.out.below hb); clear hb K4; have K5 : True := trivial)
      | (have _t := K5; go_at_call 15; refine (CO.out _ _ _ _ _ (HG.out.below HS.out.1)).mono ?_; rintro e v13 ⟨A13, c13, B13, d13, rfl, hgo, -, -, hb⟩; have HGo := Lib.hid hgo; clear hgo; replace HS := Lib.hid (HS.out.below hb); replace HX := Lib.hid (HX.out.below hb); replace HE1 := Lib.hid (ReadsInt.below HE1.out hb); clear hb K5; have K6 : True := trivial)
      | (have _t := K6; go_at_call 16; refine (CI.out _ _ _ (ReadsInt.below HN.out HS.out.1) hnd).mono ?_; rintro e v14 ⟨D14, dc14, rfl, -, hdo, hb⟩; have HDo := Lib.hid hdo; clear hdo; replace HS := Lib.hid (HS.out.below hb); replace HGo := Lib.hid (HGo.out.below hb); replace HX := Lib.hid (HX.out.below hb); replace HE1 := Lib.hid (ReadsInt.below HE1.out hb); clear hb K6; have K7 : True := trivial)
      | (have _t := K7; go_at_call 17; refine (CTX.out _ _ _ (HX.out) (by omega)).mono ?_; rintro e v15 ⟨T15, tc15, rfl, -, hto, hb⟩; have HTo := Lib.hid hto; clear hto; replace HS := Lib.hid (HS.out.below hb); replace HGo := Lib.hid (HGo.out.below hb); replace HDo := Lib.hid (ReadsInt.below HDo.out hb); replace HX := Lib.hid (HX.out.below hb); replace HE1 := Lib.hid (ReadsInt.below HE1.out hb); clear hb K7; have K8 : True := trivial)
      | (have _t := K8; go_at_call 18; refine (sEndsW _ _ l _ _ es _ _ need cores _ _ (ts.take a) _ HLX.out ⟨HGo.out, ⟨by omega, by omega⟩, HDo.out, by omega, HTo.out, by rw [HLX.out]; omega⟩ HMS.out hex).mono ?_; rintro e v16 ⟨E2a, E2c, rfl, heo, hb⟩; have HE2 := Lib.hid heo; clear heo HGo HDo HTo; replace HS := Lib.hid (HS.out.below hb); replace HX := Lib.hid (HX.out.below hb); replace HE1 := Lib.hid (ReadsInt.below HE1.out hb); clear hb K8; have K9 : True := trivial))
  clear K9
  obtain ⟨-, hx0, hx1⟩ := HS.out
  go_wp2_with fail
  clear hx0 hx1
  generalize hw0 : v16 = u0 at *
  clear hw0
  go_loopw [14] (fun iv wr => ∃ k : Nat, k ≤ need.length ∧ iv = .int .i64 k ∧ Hid (DS w w.heap.size A l.length c B es.length d wr) ∧ Hid (TrR wr TX (ts.take a)) ∧ Hid (ReadsInt wr .i64 E1a need.length fs) ∧ Hid (ReadsInt wr .i64 E2a need.length ms)) (fun iv _ => need.length - (intOf iv).toNat)
  case atStart => exact ⟨0, Nat.zero_le _, rfl, HS, HX, HE1, HE2⟩
  case round =>
    clear HS HX HE1 HE2
    obtain ⟨k, hk, rfl, HS, HX, HE1, HE2⟩ := hrel
    by_cases hlt : k < need.length
    · obtain ⟨e1, he1, hc1⟩ := HE1.out.2.2 (by omega)
      obtain ⟨e2, he2, hc2⟩ := HE2.out.2.2 (by omega)
      subst he1 he2
      have hx1 := hc1 k hlt
      have hx2 := hc2 k hlt
      obtain ⟨q1, q2⟩ := HFE.out k hlt
      have hk0 : (0 : Int) ≤ (k : Int) := by omega
      have hkn : (k : Int) < (need.length : Int) := by omega
      clear hc1 hc2
      generalize fs.getD k 0 = y at *
      generalize ms.getD k 0 = x at *
      have hbd := fun nq => below_drewN (Below.refl wr.heap.size wr) nq
      have HBD := Lib.hid hbd
      clear hbd
      by_cases hx : 0 ≤ x
      · have hyx : y = x := q1 hx
        subst hyx
        have d1 : decide (0 ≤ y) = true := decide_eq_true (by omega)
        have d2 : decide (y < 0) = false := decide_eq_false (by omega)
        clear q1 q2
        go_wp2_with fail
        go_quiet (fail)
        go_wp2_with fail
        go_roundw
        case rel => exact ⟨k + 1, by omega, by go_num, HS.out.below (HBD.out nq), HX.out.below (HBD.out nq), ReadsInt.below HE1.out (HBD.out nq), ReadsInt.below HE2.out (HBD.out nq)⟩
        case measure => simp [intOf]; omega
      · by_cases hy : 0 ≤ y
        · have hay := q2 (by omega) hy
          have d1 : decide (0 ≤ x) = false := decide_eq_false (by omega)
          have d2 : decide (x < 0) = true := decide_eq_true (by omega)
          have d3 : decide (0 ≤ y) = true := decide_eq_true (by omega)
          have d4 : decide (y ≤ (a : Int)) = false := decide_eq_false (by omega)
          clear q1 q2
          go_wp2_with fail
          go_quiet (fail)
          go_wp2_with fail
          go_roundw
          case rel => exact ⟨k + 1, by omega, by go_num, HS.out.below (HBD.out nq), HX.out.below (HBD.out nq), ReadsInt.below HE1.out (HBD.out nq), ReadsInt.below HE2.out (HBD.out nq)⟩
          case measure => simp [intOf]; omega
        · have d1 : decide (0 ≤ x) = false := decide_eq_false (by omega)
          have d2 : decide (x < 0) = true := decide_eq_true (by omega)
          have d3 : decide (0 ≤ y) = false := decide_eq_false (by omega)
          clear q1 q2
          go_wp2_with fail
          go_quiet (fail)
          go_wp2_with fail
          go_roundw
          case rel => exact ⟨k + 1, by omega, by go_num, HS.out.below (HBD.out nq), HX.out.below (HBD.out nq), ReadsInt.below HE1.out (HBD.out nq), ReadsInt.below HE2.out (HBD.out nq)⟩
          case measure => simp [intOf]; omega
    · obtain rfl : k = need.length := by omega
      have hlen2 : ¬ ((need.length : Int) < (need.length : Int)) := by omega
      obtain ⟨-, hx0, hx1⟩ := HS.out
      clear HE1 HE2 HFE
      go_wp2_with fail
      refine (CO.out _ _ _ _ _ (HG.out.below HS.out.1)).mono ?_
      rintro e v17 ⟨A17, c17, B17, d17, rfl, hgo, -, -, hb⟩
      have HGo := Lib.hid hgo
      clear hgo
      replace HS := Lib.hid (HS.out.below hb)
      replace HX := Lib.hid (HX.out.below hb)
      clear hb hx0 hx1
      obtain ⟨-, hx0, hx1⟩ := HS.out
      go_wp2_with fail
      refine (CI.out _ _ _ (ReadsInt.below HN.out HS.out.1) hnd).mono ?_
      rintro e v18 ⟨D18, dc18, rfl, -, hdo, hb⟩
      have HDo := Lib.hid hdo
      clear hdo
      replace HS := Lib.hid (HS.out.below hb)
      replace HGo := Lib.hid (HGo.out.below hb)
      replace HX := Lib.hid (HX.out.below hb)
      clear hb hx0 hx1
      obtain ⟨-, hx0, hx1⟩ := HS.out
      go_wp2_with fail
      refine (CTX.out _ _ _ (HX.out) (by omega)).mono ?_
      rintro e v19 ⟨T19, tc19, rfl, -, hto, hb⟩
      have HTo := Lib.hid hto
      clear hto
      replace HS := Lib.hid (HS.out.below hb)
      replace HGo := Lib.hid (HGo.out.below hb)
      replace HDo := Lib.hid (ReadsInt.below HDo.out hb)
      replace HX := Lib.hid (HX.out.below hb)
      clear hb hx0 hx1
      obtain ⟨-, hx0, hx1⟩ := HS.out
      go_wp2_with fail
      refine (sCheckW _ _ l _ _ es _ _ need cores _ _ (ts.take a) _ HLX.out ⟨HGo.out, ⟨by omega, by omega⟩, HDo.out, by omega, HTo.out, by rw [HLX.out]; omega⟩ HZX.out).mono ?_
      rintro e v20 ⟨rfl, hb⟩
      clear HGo HDo HTo
      replace HS := Lib.hid (HS.out.below hb)
      replace HX := Lib.hid (HX.out.below hb)
      clear hb hx0 hx1
      obtain ⟨-, hx0, hx1⟩ := HS.out
      go_wp2_with fail
      cases hg1 : greedyL l es need cores ts with
      | false =>
        have HG1 := Lib.hid hg1
        clear hg1
        refine (CO.out _ _ _ _ _ (HG.out.below HS.out.1)).mono ?_
        rintro e v21 ⟨A21, c21, B21, d21, rfl, hgo, -, -, hb⟩
        have HGo := Lib.hid hgo
        clear hgo
        replace HS := Lib.hid (HS.out.below hb)
        replace HX := Lib.hid (HX.out.below hb)
        clear hb hx0 hx1
        obtain ⟨-, hx0, hx1⟩ := HS.out
        go_wp2_with fail
        refine (CI.out _ _ _ (ReadsInt.below HN.out HS.out.1) hnd).mono ?_
        rintro e v22 ⟨D22, dc22, rfl, -, hdo, hb⟩
        have HDo := Lib.hid hdo
        clear hdo
        replace HS := Lib.hid (HS.out.below hb)
        replace HGo := Lib.hid (HGo.out.below hb)
        replace HX := Lib.hid (HX.out.below hb)
        clear hb hx0 hx1
        obtain ⟨-, hx0, hx1⟩ := HS.out
        go_wp2_with fail
        refine (CT.out _ _ _ (HT.out.below HS.out.1) htc).mono ?_
        rintro e v23 ⟨T23, tc23, rfl, -, hto, hb⟩
        have HTo := Lib.hid hto
        clear hto
        replace HS := Lib.hid (HS.out.below hb)
        replace HGo := Lib.hid (HGo.out.below hb)
        replace HDo := Lib.hid (ReadsInt.below HDo.out hb)
        replace HX := Lib.hid (HX.out.below hb)
        clear hb hx0 hx1
        obtain ⟨-, hx0, hx1⟩ := HS.out
        go_wp2_with fail
        refine (sGreedyW _ _ l _ _ es _ _ need cores _ _ ts _ rfl ⟨HGo.out, ⟨by omega, by omega⟩, HDo.out, by omega, HTo.out, by omega⟩ HG1.out).mono ?_
        rintro e v24 ⟨rfl, hb⟩
        clear HGo HDo HTo
        replace HS := Lib.hid (HS.out.below hb)
        replace HX := Lib.hid (HX.out.below hb)
        clear hb hx0 hx1
        obtain ⟨-, hx0, hx1⟩ := HS.out
        go_wp2_with fail
        go_ret
        exact ⟨rfl, HS.out.1⟩
      | true =>
        have HG1 := Lib.hid hg1
        clear hg1
        refine (CO.out _ _ _ _ _ (HG.out.below HS.out.1)).mono ?_
        rintro e v21 ⟨A21, c21, B21, d21, rfl, hgo, -, -, hb⟩
        have HGo := Lib.hid hgo
        clear hgo
        replace HS := Lib.hid (HS.out.below hb)
        replace HX := Lib.hid (HX.out.below hb)
        clear hb hx0 hx1
        obtain ⟨-, hx0, hx1⟩ := HS.out
        go_wp2_with fail
        refine (CI.out _ _ _ (ReadsInt.below HN.out HS.out.1) hnd).mono ?_
        rintro e v22 ⟨D22, dc22, rfl, -, hdo, hb⟩
        have HDo := Lib.hid hdo
        clear hdo
        replace HS := Lib.hid (HS.out.below hb)
        replace HGo := Lib.hid (HGo.out.below hb)
        replace HX := Lib.hid (HX.out.below hb)
        clear hb hx0 hx1
        obtain ⟨-, hx0, hx1⟩ := HS.out
        go_wp2_with fail
        refine (CT.out _ _ _ (HT.out.below HS.out.1) htc).mono ?_
        rintro e v23 ⟨T23, tc23, rfl, -, hto, hb⟩
        have HTo := Lib.hid hto
        clear hto
        replace HS := Lib.hid (HS.out.below hb)
        replace HGo := Lib.hid (HGo.out.below hb)
        replace HDo := Lib.hid (ReadsInt.below HDo.out hb)
        replace HX := Lib.hid (HX.out.below hb)
        clear hb hx0 hx1
        obtain ⟨-, hx0, hx1⟩ := HS.out
        go_wp2_with fail
        refine (sGreedyW _ _ l _ _ es _ _ need cores _ _ ts _ rfl ⟨HGo.out, ⟨by omega, by omega⟩, HDo.out, by omega, HTo.out, by omega⟩ HG1.out).mono ?_
        rintro e v24 ⟨rfl, hb⟩
        clear HGo HDo HTo
        replace HS := Lib.hid (HS.out.below hb)
        replace HX := Lib.hid (HX.out.below hb)
        clear hb hx0 hx1
        obtain ⟨-, hx0, hx1⟩ := HS.out
        go_wp2_with fail
        refine (CO.out _ _ _ _ _ (HG.out.below HS.out.1)).mono ?_
        rintro e v25 ⟨A25, c25, B25, d25, rfl, hgo, -, -, hb⟩
        have HGo := Lib.hid hgo
        clear hgo
        replace HS := Lib.hid (HS.out.below hb)
        replace HX := Lib.hid (HX.out.below hb)
        clear hb hx0 hx1
        obtain ⟨-, hx0, hx1⟩ := HS.out
        go_wp2_with fail
        refine (CI.out _ _ _ (ReadsInt.below HN.out HS.out.1) hnd).mono ?_
        rintro e v26 ⟨D26, dc26, rfl, -, hdo, hb⟩
        have HDo := Lib.hid hdo
        clear hdo
        replace HS := Lib.hid (HS.out.below hb)
        replace HGo := Lib.hid (HGo.out.below hb)
        replace HX := Lib.hid (HX.out.below hb)
        clear hb hx0 hx1
        obtain ⟨-, hx0, hx1⟩ := HS.out
        go_wp2_with fail
        refine (CTX.out _ _ _ (HX.out) (by omega)).mono ?_
        rintro e v27 ⟨T27, tc27, rfl, -, hto, hb⟩
        have HTo := Lib.hid hto
        clear hto
        replace HS := Lib.hid (HS.out.below hb)
        replace HGo := Lib.hid (HGo.out.below hb)
        replace HDo := Lib.hid (ReadsInt.below HDo.out hb)
        replace HX := Lib.hid (HX.out.below hb)
        clear hb hx0 hx1
        obtain ⟨-, hx0, hx1⟩ := HS.out
        go_wp2_with fail
        refine (sGreedyW _ _ l _ _ es _ _ need cores _ _ (ts.take a) _ HLX.out ⟨HGo.out, ⟨by omega, by omega⟩, HDo.out, by omega, HTo.out, by rw [HLX.out]; omega⟩ (HGX.out HG1.out)).mono ?_
        rintro e v28 ⟨rfl, hb⟩
        clear HGo HDo HTo
        replace HS := Lib.hid (HS.out.below hb)
        replace HX := Lib.hid (HX.out.below hb)
        clear hb hx0 hx1
        obtain ⟨-, hx0, hx1⟩ := HS.out
        go_wp2_with fail
        go_ret
        exact ⟨rfl, HS.out.1⟩

set_option maxRecDepth 100000 in
set_option maxHeartbeats 8000000 in
theorem scuts_main0 (A : Option Addr) (c : Nat) (l : List Int) (B : Option Addr) (d : Nat) (es : List (Int × Int)) (D : Option Addr) (dc : Nat) (need : List Int) (cores : Int) (tc : Nat) (ts : List (List Int)) (a : Nat) (w : World) (hg : GR w A c l B d es) (hn : ReadsInt w .i64 D need.length need) (hnd : need.length ≤ dc) (hT : TrR w none ts) (htm : ts.length ≤ maxLen) (htc : ts.length ≤ tc) (hfd : l.length ≤ 70 ∧ es.length ≤ 300) (hf2 : fewB need ts = true) (ha : a ≤ ts.length) (hz : lookR l es need cores ts = 0) (htn : tc = 0) :
    Calls Try.prog 7 #[.agg #[.slice A l.length c, .slice B es.length d], .slice D need.length dc, .int .i64 cores, .slice none ts.length tc, .int .i64 (a : Int)] w fun e w' => e = .returned (.bool true) ∧ Below w.heap.size w w' := by
  obtain ⟨hl70, hes300⟩ := hfd
  obtain ⟨hn70, ht120, hrl⟩ := few_in hf2
  have C10 := Lib.hid (fun w1 (hb : Below w.heap.size w w1) => few10_call D dc need none tc ts w1 (ReadsInt.below hn hb) hnd (Kd.C_below (hT.C htm) hb) htc)
  rw [hf2] at C10
  have CF := Lib.hid (few_call A c l B d es)
  rw [decide_eq_true ⟨hl70, hes300⟩] at CF
  have hv := valid_of hz
  have hvx := valid_take hv a ha
  have hel := ends_len hv
  have hex := ends_len hvx
  have hlx : (ts.take a).length = a := by rw [List.length_take]; omega
  have HZX := Lib.hid (valid_zero hvx)
  have HLR := Lib.hid hz
  have HGX := Lib.hid (greedy_take hv a ha)
  have HFE : Hid (∀ i, i < need.length → (0 ≤ (endsL l es need cores (ts.take a)).getD i 0 → (endsL l es need cores ts).getD i 0 = (endsL l es need cores (ts.take a)).getD i 0) ∧ ((endsL l es need cores (ts.take a)).getD i 0 < 0 → 0 ≤ (endsL l es need cores ts).getD i 0 → (a : Int) < (endsL l es need cores ts).getD i 0)) := by
    show ∀ i, _
    intro i hi
    rw [ends_take hv a ha, ends_eq hv]
    refine ⟨fun h0 => fin_later hv ha (Nat.le_refl _) hi h0, fun h0 h1 => ?_⟩
    rcases Int.lt_or_le (a : Int) ((stAt need ts ts.length).fin.getD i 0) with h2 | h2
    · exact h2
    · have := fin_early hv ha (Nat.le_refl _) hi h1 h2
      omega
  have HG := Lib.hid hg
  have HN := Lib.hid hn
  have HT := Lib.hid hT
  have CO := Lib.hid (fun A' c' B' d' w1 h => own_call A' c' l B' d' es w1 h (by omega) (by omega))
  have CI := Lib.hid (fun D' dc' w1 h hd => ints_call D' dc' need w1 h hd (by omega))
  have CT := Lib.hid (fun T' tc' w1 h hc => ownT_call T' tc' ts w1 h hc (by omega) (fun r hr => by have := hrl r hr; omega))
  have CTX := Lib.hid (fun T' tc' w1 h hc => ownT_call T' tc' (ts.take a) w1 h hc (by omega) (fun r hr => by have := hrl r (List.mem_of_mem_take hr); omega))
  rw [hlx] at CTX
  have hal : (a : Int) ≤ (ts.length : Int) := by omega
  have ha0 : (0 : Int) ≤ (a : Int) := by omega
  have HLX := Lib.hid hlx
  clear hg hn hT hf2 hz hv hvx hlx
  obtain rfl : a = 0 := by omega
  subst htn
  go_enter Try.func7, Try.ntmps7
  go_wp2_with fail
  have HS := Lib.hid (DS.start w A l.length c B es.length d 25)
  obtain ⟨-, hx0, hx1⟩ := HS.out
  refine (awake10_any _).mono ?_
  rintro e v1 ⟨rfl, hb⟩
  replace HS := Lib.hid (HS.out.below hb)
  clear hb hx0 hx1
  obtain ⟨-, hx0, hx1⟩ := HS.out
  go_wp2_with fail
  refine (CF.out _).mono ?_
  rintro e v2 ⟨rfl, hb⟩
  replace HS := Lib.hid (HS.out.below hb)
  clear hb hx0 hx1
  obtain ⟨-, hx0, hx1⟩ := HS.out
  go_wp2_with fail
  refine (C10.out _ HS.out.1).mono ?_
  rintro e v3 ⟨rfl, hb⟩
  replace HS := Lib.hid (HS.out.below hb)
  clear hb hx0 hx1
  obtain ⟨-, hx0, hx1⟩ := HS.out
  go_wp2_with fail
  refine (CO.out _ _ _ _ _ (HG.out.below HS.out.1)).mono ?_
  rintro e v4 ⟨A4, c4, B4, d4, rfl, hgo, -, -, hb⟩
  have HGo := Lib.hid hgo
  clear hgo
  replace HS := Lib.hid (HS.out.below hb)
  clear hb hx0 hx1
  obtain ⟨-, hx0, hx1⟩ := HS.out
  go_wp2_with fail
  refine (CI.out _ _ _ (ReadsInt.below HN.out HS.out.1) hnd).mono ?_
  rintro e v5 ⟨D5, dc5, rfl, -, hdo, hb⟩
  have HDo := Lib.hid hdo
  clear hdo
  replace HS := Lib.hid (HS.out.below hb)
  replace HGo := Lib.hid (HGo.out.below hb)
  clear hb hx0 hx1
  obtain ⟨-, hx0, hx1⟩ := HS.out
  go_wp2_with fail
  refine (CT.out _ _ _ (HT.out.below HS.out.1) htc).mono ?_
  rintro e v6 ⟨T6, tc6, rfl, -, hto, hb⟩
  have HTo := Lib.hid hto
  clear hto
  replace HS := Lib.hid (HS.out.below hb)
  replace HGo := Lib.hid (HGo.out.below hb)
  replace HDo := Lib.hid (ReadsInt.below HDo.out hb)
  clear hb hx0 hx1
  obtain ⟨-, hx0, hx1⟩ := HS.out
  go_wp2_with fail
  refine (sCheck_any _ _ l _ _ es _ _ need cores _ _ ts _ ⟨HGo.out, ⟨by omega, by omega⟩, HDo.out, by omega, HTo.out, by omega⟩).mono ?_
  rw [HLR.out]
  rintro e v7 ⟨rfl, hb⟩
  clear HGo HDo HTo
  replace HS := Lib.hid (HS.out.below hb)
  clear hb hx0 hx1
  obtain ⟨-, hx0, hx1⟩ := HS.out
  go_wp2_with fail
  refine (CTX.out _ _ _ (trR_take (HT.out.below HS.out.1) 0 ha) (by omega)).mono ?_
  rintro e v8 ⟨TX, tcX, rfl, htx, hto, hb⟩
  have HX := Lib.hid hto
  rw [HLX.out] at htx
  clear hto
  replace HS := Lib.hid (HS.out.below hb)
  clear hb hx0 hx1
  obtain ⟨-, hx0, hx1⟩ := HS.out
  generalize hfs : endsL l es need cores ts = fs at *
  generalize hms : endsL l es need cores (ts.take 0) = ms at *
  have HFS := Lib.hid hfs
  have HMS := Lib.hid hms
  clear hfs hms
  go_wp2_with fail
  have hwd : Below v8.heap.size v8 v8.drew := ⟨rfl, rfl, rfl, Nat.le_refl _, fun _ _ => rfl⟩
  replace HS := Lib.hid (HS.out.below hwd)
  replace HX := Lib.hid (HX.out.below hwd)
  clear hwd hx0 hx1
  have K1 : True := trivial
  go_region_held3 (fun w' => w'.cell? ⟨w.heap.size, 0, none⟩ = some (.slice A l.length c) ∧ w'.cell? ⟨w.heap.size, 1, none⟩ = some (.slice B es.length d))
    (exact HS.out.2)
    (first
      | (have _t := K1; go_at_call 15; refine (CO.out _ _ _ _ _ (HG.out.below HS.out.1)).mono ?_; rintro e v9 ⟨A9, c9, B9, d9, rfl, hgo, -, -, hb⟩; have HGo := Lib.hid hgo; clear hgo; replace HS := Lib.hid (HS.out.below hb); replace HX := Lib.hid (HX.out.below hb); clear hb K1; have K2 : True := trivial)
      | (have _t := K2; go_at_call 16; refine (CI.out _ _ _ (ReadsInt.below HN.out HS.out.1) hnd).mono ?_; rintro e v10 ⟨D10, dc10, rfl, -, hdo, hb⟩; have HDo := Lib.hid hdo; clear hdo; replace HS := Lib.hid (HS.out.below hb); replace HGo := Lib.hid (HGo.out.below hb); replace HX := Lib.hid (HX.out.below hb); clear hb K2; have K3 : True := trivial)
      | (have _t := K3; go_at_call 17; refine (CT.out _ _ _ (HT.out.below HS.out.1) htc).mono ?_; rintro e v11 ⟨T11, tc11, rfl, -, hto, hb⟩; have HTo := Lib.hid hto; clear hto; replace HS := Lib.hid (HS.out.below hb); replace HGo := Lib.hid (HGo.out.below hb); replace HDo := Lib.hid (ReadsInt.below HDo.out hb); replace HX := Lib.hid (HX.out.below hb); clear hb K3; have K4 : True := trivial)
      | (have _t := K4; go_at_call 18; refine (sEndsW _ _ l _ _ es _ _ need cores _ _ ts _ rfl ⟨HGo.out, ⟨by omega, by omega⟩, HDo.out, by omega, HTo.out, by omega⟩ HFS.out hel).mono ?_; rintro e v12 ⟨E1a, E1c, rfl, heo, hb⟩; have HE1 := Lib.hid heo; clear heo HGo HDo HTo; replace HS := Lib.hid (HS.out.below hb); replace HX := Lib.hid (HX.out.below hb); clear hb K4; have K5 : True := trivial)
      | (have _t := K5; go_at_call 15; refine (CO.out _ _ _ _ _ (HG.out.below HS.out.1)).mono ?_; rintro e v13 ⟨A13, c13, B13, d13, rfl, hgo, -, -, hb⟩; have HGo := Lib.hid hgo; clear hgo; replace HS := Lib.hid (HS.out.below hb); replace HX := Lib.hid (HX.out.below hb); replace HE1 := Lib.hid (ReadsInt.below HE1.out hb); clear hb K5; have K6 : True := trivial)
      | (have _t := K6; go_at_call 16; refine (CI.out _ _ _ (ReadsInt.below HN.out HS.out.1) hnd).mono ?_; rintro e v14 ⟨D14, dc14, rfl, -, hdo, hb⟩; have HDo := Lib.hid hdo; clear hdo; replace HS := Lib.hid (HS.out.below hb); replace HGo := Lib.hid (HGo.out.below hb); replace HX := Lib.hid (HX.out.below hb); replace HE1 := Lib.hid (ReadsInt.below HE1.out hb); clear hb K6; have K7 : True := trivial)
      | (have _t := K7; go_at_call 17; refine (CTX.out _ _ _ (HX.out) (by omega)).mono ?_; rintro e v15 ⟨T15, tc15, rfl, -, hto, hb⟩; have HTo := Lib.hid hto; clear hto; replace HS := Lib.hid (HS.out.below hb); replace HGo := Lib.hid (HGo.out.below hb); replace HDo := Lib.hid (ReadsInt.below HDo.out hb); replace HX := Lib.hid (HX.out.below hb); replace HE1 := Lib.hid (ReadsInt.below HE1.out hb); clear hb K7; have K8 : True := trivial)
      | (have _t := K8; go_at_call 18; refine (sEndsW _ _ l _ _ es _ _ need cores _ _ (ts.take 0) _ HLX.out ⟨HGo.out, ⟨by omega, by omega⟩, HDo.out, by omega, HTo.out, by rw [HLX.out]; omega⟩ HMS.out hex).mono ?_; rintro e v16 ⟨E2a, E2c, rfl, heo, hb⟩; have HE2 := Lib.hid heo; clear heo HGo HDo HTo; replace HS := Lib.hid (HS.out.below hb); replace HX := Lib.hid (HX.out.below hb); replace HE1 := Lib.hid (ReadsInt.below HE1.out hb); clear hb K8; have K9 : True := trivial))
  clear K9
  obtain ⟨-, hx0, hx1⟩ := HS.out
  go_wp2_with fail
  clear hx0 hx1
  generalize hw0 : v16 = u0 at *
  clear hw0
  go_loopw [14] (fun iv wr => ∃ k : Nat, k ≤ need.length ∧ iv = .int .i64 k ∧ Hid (DS w w.heap.size A l.length c B es.length d wr) ∧ Hid (TrR wr TX (ts.take 0)) ∧ Hid (ReadsInt wr .i64 E1a need.length fs) ∧ Hid (ReadsInt wr .i64 E2a need.length ms)) (fun iv _ => need.length - (intOf iv).toNat)
  case atStart => exact ⟨0, Nat.zero_le _, rfl, HS, HX, HE1, HE2⟩
  case round =>
    clear HS HX HE1 HE2
    obtain ⟨k, hk, rfl, HS, HX, HE1, HE2⟩ := hrel
    by_cases hlt : k < need.length
    · obtain ⟨e1, he1, hc1⟩ := HE1.out.2.2 (by omega)
      obtain ⟨e2, he2, hc2⟩ := HE2.out.2.2 (by omega)
      subst he1 he2
      have hx1 := hc1 k hlt
      have hx2 := hc2 k hlt
      obtain ⟨q1, q2⟩ := HFE.out k hlt
      have hk0 : (0 : Int) ≤ (k : Int) := by omega
      have hkn : (k : Int) < (need.length : Int) := by omega
      clear hc1 hc2
      generalize fs.getD k 0 = y at *
      generalize ms.getD k 0 = x at *
      have hbd := fun nq => below_drewN (Below.refl wr.heap.size wr) nq
      have HBD := Lib.hid hbd
      clear hbd
      by_cases hx : 0 ≤ x
      · have hyx : y = x := q1 hx
        subst hyx
        have d1 : decide (0 ≤ y) = true := decide_eq_true (by omega)
        have d2 : decide (y < 0) = false := decide_eq_false (by omega)
        clear q1 q2
        go_wp2_with fail
        go_quiet (fail)
        go_wp2_with fail
        go_roundw
        case rel => exact ⟨k + 1, by omega, by go_num, HS.out.below (HBD.out nq), HX.out.below (HBD.out nq), ReadsInt.below HE1.out (HBD.out nq), ReadsInt.below HE2.out (HBD.out nq)⟩
        case measure => simp [intOf]; omega
      · by_cases hy : 0 ≤ y
        · have hay := q2 (by omega) hy
          have d1 : decide (0 ≤ x) = false := decide_eq_false (by omega)
          have d2 : decide (x < 0) = true := decide_eq_true (by omega)
          have d3 : decide (0 ≤ y) = true := decide_eq_true (by omega)
          have d4 : decide (y ≤ (0 : Int)) = false := decide_eq_false (by omega)
          clear q1 q2
          go_wp2_with fail
          go_quiet (fail)
          go_wp2_with fail
          go_roundw
          case rel => exact ⟨k + 1, by omega, by go_num, HS.out.below (HBD.out nq), HX.out.below (HBD.out nq), ReadsInt.below HE1.out (HBD.out nq), ReadsInt.below HE2.out (HBD.out nq)⟩
          case measure => simp [intOf]; omega
        · have d1 : decide (0 ≤ x) = false := decide_eq_false (by omega)
          have d2 : decide (x < 0) = true := decide_eq_true (by omega)
          have d3 : decide (0 ≤ y) = false := decide_eq_false (by omega)
          clear q1 q2
          go_wp2_with fail
          go_quiet (fail)
          go_wp2_with fail
          go_roundw
          case rel => exact ⟨k + 1, by omega, by go_num, HS.out.below (HBD.out nq), HX.out.below (HBD.out nq), ReadsInt.below HE1.out (HBD.out nq), ReadsInt.below HE2.out (HBD.out nq)⟩
          case measure => simp [intOf]; omega
    · obtain rfl : k = need.length := by omega
      have hlen2 : ¬ ((need.length : Int) < (need.length : Int)) := by omega
      obtain ⟨-, hx0, hx1⟩ := HS.out
      clear HE1 HE2 HFE
      go_wp2_with fail
      refine (CO.out _ _ _ _ _ (HG.out.below HS.out.1)).mono ?_
      rintro e v17 ⟨A17, c17, B17, d17, rfl, hgo, -, -, hb⟩
      have HGo := Lib.hid hgo
      clear hgo
      replace HS := Lib.hid (HS.out.below hb)
      replace HX := Lib.hid (HX.out.below hb)
      clear hb hx0 hx1
      obtain ⟨-, hx0, hx1⟩ := HS.out
      go_wp2_with fail
      refine (CI.out _ _ _ (ReadsInt.below HN.out HS.out.1) hnd).mono ?_
      rintro e v18 ⟨D18, dc18, rfl, -, hdo, hb⟩
      have HDo := Lib.hid hdo
      clear hdo
      replace HS := Lib.hid (HS.out.below hb)
      replace HGo := Lib.hid (HGo.out.below hb)
      replace HX := Lib.hid (HX.out.below hb)
      clear hb hx0 hx1
      obtain ⟨-, hx0, hx1⟩ := HS.out
      go_wp2_with fail
      refine (CTX.out _ _ _ (HX.out) (by omega)).mono ?_
      rintro e v19 ⟨T19, tc19, rfl, -, hto, hb⟩
      have HTo := Lib.hid hto
      clear hto
      replace HS := Lib.hid (HS.out.below hb)
      replace HGo := Lib.hid (HGo.out.below hb)
      replace HDo := Lib.hid (ReadsInt.below HDo.out hb)
      replace HX := Lib.hid (HX.out.below hb)
      clear hb hx0 hx1
      obtain ⟨-, hx0, hx1⟩ := HS.out
      go_wp2_with fail
      refine (sCheckW _ _ l _ _ es _ _ need cores _ _ (ts.take 0) _ HLX.out ⟨HGo.out, ⟨by omega, by omega⟩, HDo.out, by omega, HTo.out, by rw [HLX.out]; omega⟩ HZX.out).mono ?_
      rintro e v20 ⟨rfl, hb⟩
      clear HGo HDo HTo
      replace HS := Lib.hid (HS.out.below hb)
      replace HX := Lib.hid (HX.out.below hb)
      clear hb hx0 hx1
      obtain ⟨-, hx0, hx1⟩ := HS.out
      go_wp2_with fail
      cases hg1 : greedyL l es need cores ts with
      | false =>
        have HG1 := Lib.hid hg1
        clear hg1
        refine (CO.out _ _ _ _ _ (HG.out.below HS.out.1)).mono ?_
        rintro e v21 ⟨A21, c21, B21, d21, rfl, hgo, -, -, hb⟩
        have HGo := Lib.hid hgo
        clear hgo
        replace HS := Lib.hid (HS.out.below hb)
        replace HX := Lib.hid (HX.out.below hb)
        clear hb hx0 hx1
        obtain ⟨-, hx0, hx1⟩ := HS.out
        go_wp2_with fail
        refine (CI.out _ _ _ (ReadsInt.below HN.out HS.out.1) hnd).mono ?_
        rintro e v22 ⟨D22, dc22, rfl, -, hdo, hb⟩
        have HDo := Lib.hid hdo
        clear hdo
        replace HS := Lib.hid (HS.out.below hb)
        replace HGo := Lib.hid (HGo.out.below hb)
        replace HX := Lib.hid (HX.out.below hb)
        clear hb hx0 hx1
        obtain ⟨-, hx0, hx1⟩ := HS.out
        go_wp2_with fail
        refine (CT.out _ _ _ (HT.out.below HS.out.1) htc).mono ?_
        rintro e v23 ⟨T23, tc23, rfl, -, hto, hb⟩
        have HTo := Lib.hid hto
        clear hto
        replace HS := Lib.hid (HS.out.below hb)
        replace HGo := Lib.hid (HGo.out.below hb)
        replace HDo := Lib.hid (ReadsInt.below HDo.out hb)
        replace HX := Lib.hid (HX.out.below hb)
        clear hb hx0 hx1
        obtain ⟨-, hx0, hx1⟩ := HS.out
        go_wp2_with fail
        refine (sGreedyW _ _ l _ _ es _ _ need cores _ _ ts _ rfl ⟨HGo.out, ⟨by omega, by omega⟩, HDo.out, by omega, HTo.out, by omega⟩ HG1.out).mono ?_
        rintro e v24 ⟨rfl, hb⟩
        clear HGo HDo HTo
        replace HS := Lib.hid (HS.out.below hb)
        replace HX := Lib.hid (HX.out.below hb)
        clear hb hx0 hx1
        obtain ⟨-, hx0, hx1⟩ := HS.out
        go_wp2_with fail
        go_ret
        exact ⟨rfl, HS.out.1⟩
      | true =>
        have HG1 := Lib.hid hg1
        clear hg1
        refine (CO.out _ _ _ _ _ (HG.out.below HS.out.1)).mono ?_
        rintro e v21 ⟨A21, c21, B21, d21, rfl, hgo, -, -, hb⟩
        have HGo := Lib.hid hgo
        clear hgo
        replace HS := Lib.hid (HS.out.below hb)
        replace HX := Lib.hid (HX.out.below hb)
        clear hb hx0 hx1
        obtain ⟨-, hx0, hx1⟩ := HS.out
        go_wp2_with fail
        refine (CI.out _ _ _ (ReadsInt.below HN.out HS.out.1) hnd).mono ?_
        rintro e v22 ⟨D22, dc22, rfl, -, hdo, hb⟩
        have HDo := Lib.hid hdo
        clear hdo
        replace HS := Lib.hid (HS.out.below hb)
        replace HGo := Lib.hid (HGo.out.below hb)
        replace HX := Lib.hid (HX.out.below hb)
        clear hb hx0 hx1
        obtain ⟨-, hx0, hx1⟩ := HS.out
        go_wp2_with fail
        refine (CT.out _ _ _ (HT.out.below HS.out.1) htc).mono ?_
        rintro e v23 ⟨T23, tc23, rfl, -, hto, hb⟩
        have HTo := Lib.hid hto
        clear hto
        replace HS := Lib.hid (HS.out.below hb)
        replace HGo := Lib.hid (HGo.out.below hb)
        replace HDo := Lib.hid (ReadsInt.below HDo.out hb)
        replace HX := Lib.hid (HX.out.below hb)
        clear hb hx0 hx1
        obtain ⟨-, hx0, hx1⟩ := HS.out
        go_wp2_with fail
        refine (sGreedyW _ _ l _ _ es _ _ need cores _ _ ts _ rfl ⟨HGo.out, ⟨by omega, by omega⟩, HDo.out, by omega, HTo.out, by omega⟩ HG1.out).mono ?_
        rintro e v24 ⟨rfl, hb⟩
        clear HGo HDo HTo
        replace HS := Lib.hid (HS.out.below hb)
        replace HX := Lib.hid (HX.out.below hb)
        clear hb hx0 hx1
        obtain ⟨-, hx0, hx1⟩ := HS.out
        go_wp2_with fail
        refine (CO.out _ _ _ _ _ (HG.out.below HS.out.1)).mono ?_
        rintro e v25 ⟨A25, c25, B25, d25, rfl, hgo, -, -, hb⟩
        have HGo := Lib.hid hgo
        clear hgo
        replace HS := Lib.hid (HS.out.below hb)
        replace HX := Lib.hid (HX.out.below hb)
        clear hb hx0 hx1
        obtain ⟨-, hx0, hx1⟩ := HS.out
        go_wp2_with fail
        refine (CI.out _ _ _ (ReadsInt.below HN.out HS.out.1) hnd).mono ?_
        rintro e v26 ⟨D26, dc26, rfl, -, hdo, hb⟩
        have HDo := Lib.hid hdo
        clear hdo
        replace HS := Lib.hid (HS.out.below hb)
        replace HGo := Lib.hid (HGo.out.below hb)
        replace HX := Lib.hid (HX.out.below hb)
        clear hb hx0 hx1
        obtain ⟨-, hx0, hx1⟩ := HS.out
        go_wp2_with fail
        refine (CTX.out _ _ _ (HX.out) (by omega)).mono ?_
        rintro e v27 ⟨T27, tc27, rfl, -, hto, hb⟩
        have HTo := Lib.hid hto
        clear hto
        replace HS := Lib.hid (HS.out.below hb)
        replace HGo := Lib.hid (HGo.out.below hb)
        replace HDo := Lib.hid (ReadsInt.below HDo.out hb)
        replace HX := Lib.hid (HX.out.below hb)
        clear hb hx0 hx1
        obtain ⟨-, hx0, hx1⟩ := HS.out
        go_wp2_with fail
        refine (sGreedyW _ _ l _ _ es _ _ need cores _ _ (ts.take 0) _ HLX.out ⟨HGo.out, ⟨by omega, by omega⟩, HDo.out, by omega, HTo.out, by rw [HLX.out]; omega⟩ (HGX.out HG1.out)).mono ?_
        rintro e v28 ⟨rfl, hb⟩
        clear HGo HDo HTo
        replace HS := Lib.hid (HS.out.below hb)
        replace HX := Lib.hid (HX.out.below hb)
        clear hb hx0 hx1
        obtain ⟨-, hx0, hx1⟩ := HS.out
        go_wp2_with fail
        go_ret
        exact ⟨rfl, HS.out.1⟩

theorem SchedCuts_walk (A : Option Addr) (c : Nat) (l : List Int) (B : Option Addr) (d : Nat) (es : List (Int × Int)) (D : Option Addr) (dc : Nat) (need : List Int) (cores : Int) (T : Option Addr) (tc : Nat) (ts : List (List Int)) (a : Int) (w : World) (h0 : DagIn w A c l B d es) (h1 : NeedIn w D dc need) (h2 : (Lit.int .i64 cores).wf = true) (h3 : TrIn w T tc ts) (h4 : (Lit.int .i64 a).wf = true) :
    Calls Try.prog 7 #[.agg #[.slice A l.length c, .slice B es.length d], .slice D need.length dc, .int .i64 cores, .slice T ts.length tc, .int .i64 a] w fun e w' => e = .returned (.bool true) ∧ Below w.heap.size w w' := by
  by_cases hf : l.length ≤ 70 ∧ es.length ≤ 300
  · by_cases hf2 : fewB need ts = true
    · by_cases ha : a < 0
      · exact scuts_at A c l B d es D dc need cores T tc ts a w (gr_in h0) h1.2.1 h1.1 h3.2.2.1 h3.2.1 h3.1 hf hf2 (.inl ha)
      · by_cases ha2 : (ts.length : Int) < a
        · exact scuts_at A c l B d es D dc need cores T tc ts a w (gr_in h0) h1.2.1 h1.1 h3.2.2.1 h3.2.1 h3.1 hf hf2 (.inr ⟨by omega, ha2⟩)
        · by_cases hz : lookR l es need cores ts = 0
          · obtain ⟨k, rfl⟩ : ∃ k : Nat, a = (k : Int) := ⟨a.toNat, by omega⟩
            cases T with
            | none =>
              have h5 : ts.length = 0 := by have := h3.1; have := h3.2.2.2 rfl; omega
              exact scuts_main0 A c l B d es D dc need cores tc ts k w (gr_in h0) h1.2.1 h1.1 h3.2.2.1 h3.2.1 h3.1 hf hf2 (by omega) hz (h3.2.2.2 rfl)
            | some ta => exact scuts_main A c l B d es D dc need cores ta tc ts k w (gr_in h0) h1.2.1 h1.1 h3.2.2.1 h3.2.1 h3.1 hf hf2 (by omega) hz
          · exact scuts_no A c l B d es D dc need cores T tc ts a w (gr_in h0) h1.2.1 h1.1 h3.2.2.1 h3.2.1 h3.1 hf hf2 (by omega) (by omega) (by simpa using hz)
    · exact scuts_few A c l B d es D dc need cores T tc ts a w (gr_in h0) h1.2.1 h1.1 h3.2.2.1 h3.2.1 h3.1 (.inr ⟨decide_eq_true hf, by simpa using hf2⟩)
  · exact scuts_few A c l B d es D dc need cores T tc ts a w (gr_in h0) h1.2.1 h1.1 h3.2.2.1 h3.2.1 h3.1 (.inl (decide_eq_false hf))
end Go.Proofs.Ytnnbgfjokbaepaa
