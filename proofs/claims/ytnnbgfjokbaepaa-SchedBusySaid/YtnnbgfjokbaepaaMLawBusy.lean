/- SchedBusy, walked. -/
import Derived.Test.YtnnbgfjokbaepaaMSchC
set_option linter.unusedVariables false
set_option linter.unusedSimpArgs false
namespace Go.Proofs.Ytnnbgfjokbaepaa
open Go.RowKit Go.Sort
open DagPlain SchPlain
open Go.Proofs.YtnnbgfjokbaepaaW.PrintWords

set_option maxRecDepth 100000 in
set_option maxHeartbeats 4000000 in
theorem sbusy_few (A : Option Addr) (c : Nat) (l : List Int) (B : Option Addr) (d : Nat) (es : List (Int × Int)) (D : Option Addr) (dc : Nat) (need : List Int) (cores : Int) (T : Option Addr) (tc : Nat) (ts : List (List Int)) (w : World) (hg : GR w A c l B d es) (hn : ReadsInt w .i64 D need.length need) (hnd : need.length ≤ dc) (hT : TrR w T ts) (htm : ts.length ≤ maxLen) (htc : ts.length ≤ tc) (hf : (decide (l.length ≤ 70 ∧ es.length ≤ 300)) = false ∨ ((decide (l.length ≤ 70 ∧ es.length ≤ 300)) = true ∧ fewB need ts = false)) :
    Calls Try.prog 8 #[.agg #[.slice A l.length c, .slice B es.length d], .slice D need.length dc, .int .i64 cores, .slice T ts.length tc] w fun e w' => e = .returned (.bool true) ∧ Below w.heap.size w w' := by
  have HG := Lib.hid hg
  have HN := Lib.hid hn
  have HC := Lib.hid (hT.C htm)
  have CF := Lib.hid (few_call A c l B d es)
  clear hg hn hT
  rcases hf with hf | ⟨hf, hf2⟩
  · rw [hf] at CF
    clear hf
    go_enter Try.func8, Try.ntmps8
    go_wp2_with fail
    have HS := Lib.hid (DS.start w A l.length c B es.length d 25)
    obtain ⟨-, hx0, hx1⟩ := HS.out
    refine (awake10_any _).mono ?_
    rintro e v1 ⟨rfl, hb⟩
    replace HS := Lib.hid (HS.out.below hb)
    clear hb hx0 hx1
    obtain ⟨-, hx0, hx1⟩ := HS.out
    go_wp2_with fail
    refine (CF.out _).mono ?_
    rintro e v2 ⟨rfl, hb⟩
    replace HS := Lib.hid (HS.out.below hb)
    clear hb hx0 hx1
    obtain ⟨-, hx0, hx1⟩ := HS.out
    go_wp2_with fail
    refine (awake10_any _).mono ?_
    rintro e v3 ⟨rfl, hb⟩
    replace HS := Lib.hid (HS.out.below hb)
    clear hb hx0 hx1
    obtain ⟨-, hx0, hx1⟩ := HS.out
    go_wp2_with fail
    go_ret
    exact ⟨rfl, HS.out.1⟩
  · rw [hf] at CF
    have C10 := Lib.hid (fun w1 (hb : Below w.heap.size w w1) => few10_call D dc need T tc ts w1 (ReadsInt.below HN.out hb) hnd (Kd.C_below HC.out hb) htc)
    rw [hf2] at C10
    clear hf hf2
    go_enter Try.func8, Try.ntmps8
    go_wp2_with fail
    have HS := Lib.hid (DS.start w A l.length c B es.length d 25)
    obtain ⟨-, hx0, hx1⟩ := HS.out
    refine (awake10_any _).mono ?_
    rintro e v1 ⟨rfl, hb⟩
    replace HS := Lib.hid (HS.out.below hb)
    clear hb hx0 hx1
    obtain ⟨-, hx0, hx1⟩ := HS.out
    go_wp2_with fail
    refine (CF.out _).mono ?_
    rintro e v2 ⟨rfl, hb⟩
    replace HS := Lib.hid (HS.out.below hb)
    clear hb hx0 hx1
    obtain ⟨-, hx0, hx1⟩ := HS.out
    go_wp2_with fail
    refine (C10.out _ HS.out.1).mono ?_
    rintro e v3 ⟨rfl, hb⟩
    replace HS := Lib.hid (HS.out.below hb)
    clear hb hx0 hx1
    obtain ⟨-, hx0, hx1⟩ := HS.out
    go_wp2_with fail
    refine (awake10_any _).mono ?_
    rintro e v4 ⟨rfl, hb⟩
    replace HS := Lib.hid (HS.out.below hb)
    clear hb hx0 hx1
    obtain ⟨-, hx0, hx1⟩ := HS.out
    go_wp2_with fail
    go_ret
    exact ⟨rfl, HS.out.1⟩
theorem few_in {need : List Int} {ts : List (List Int)} (h : fewB need ts = true) : need.length ≤ 70 ∧ ts.length ≤ 120 ∧ ∀ r ∈ ts, r.length ≤ 12 := by
  unfold fewB at h
  simp only [Bool.and_eq_true, decide_eq_true_eq, List.all_eq_true] at h
  refine ⟨h.1.2, h.2, fun r hr => ?_⟩
  have := h.1.1 r (by rw [List.take_of_length_le (by omega)]; exact hr)
  exact this
theorem sum_in {need : List Int} (h : ∀ n : Nat, n < need.length → 1 ≤ need.getD n 0 ∧ need.getD n 0 ≤ 1000) : ∀ k, k ≤ need.length → 0 ≤ (need.take k).sum ∧ (need.take k).sum ≤ 1000 * k
  | 0, _ => by simp
  | k + 1, hk => by
    rw [sum_snoc need k (by omega)]
    have := sum_in h k (by omega)
    have := h k (by omega)
    omega
set_option maxRecDepth 100000 in
set_option maxHeartbeats 4000000 in
theorem sbusy_no (A : Option Addr) (c : Nat) (l : List Int) (B : Option Addr) (d : Nat) (es : List (Int × Int)) (D : Option Addr) (dc : Nat) (need : List Int) (cores : Int) (T : Option Addr) (tc : Nat) (ts : List (List Int)) (w : World) (hg : GR w A c l B d es) (hn : ReadsInt w .i64 D need.length need) (hnd : need.length ≤ dc) (hT : TrR w T ts) (htm : ts.length ≤ maxLen) (htc : ts.length ≤ tc) (hfd : l.length ≤ 70 ∧ es.length ≤ 300) (hf2 : fewB need ts = true) (hz : (lookR l es need cores ts != 0) = true) :
    Calls Try.prog 8 #[.agg #[.slice A l.length c, .slice B es.length d], .slice D need.length dc, .int .i64 cores, .slice T ts.length tc] w fun e w' => e = .returned (.bool true) ∧ Below w.heap.size w w' := by
  obtain ⟨hl70, hes300⟩ := hfd
  obtain ⟨hn70, ht120, hrl⟩ := few_in hf2
  have C10 := Lib.hid (fun w1 (hb : Below w.heap.size w w1) => few10_call D dc need T tc ts w1 (ReadsInt.below hn hb) hnd (Kd.C_below (hT.C htm) hb) htc)
  rw [hf2] at C10
  have CF := Lib.hid (few_call A c l B d es)
  rw [decide_eq_true ⟨hl70, hes300⟩] at CF
  have HG := Lib.hid hg
  have HN := Lib.hid hn
  have HT := Lib.hid hT
  have CO := Lib.hid (fun A' c' B' d' w1 h => own_call A' c' l B' d' es w1 h (by omega) (by omega))
  have CI := Lib.hid (fun D' dc' w1 h hd => ints_call D' dc' need w1 h hd (by omega))
  have CT := Lib.hid (fun T' tc' w1 h hc => ownT_call T' tc' ts w1 h hc (by omega) (fun r hr => by have := hrl r hr; omega))
  generalize hlr : lookR l es need cores ts = er at *
  have HLR := Lib.hid hlr
  clear hlr hg hn hT hf2
  go_enter Try.func8, Try.ntmps8
  go_wp2_with fail
  have HS := Lib.hid (DS.start w A l.length c B es.length d 25)
  obtain ⟨-, hx0, hx1⟩ := HS.out
  refine (awake10_any _).mono ?_
  rintro e v1 ⟨rfl, hb⟩
  replace HS := Lib.hid (HS.out.below hb)
  clear hb hx0 hx1
  obtain ⟨-, hx0, hx1⟩ := HS.out
  go_wp2_with fail
  refine (CF.out _).mono ?_
  rintro e v2 ⟨rfl, hb⟩
  replace HS := Lib.hid (HS.out.below hb)
  clear hb hx0 hx1
  obtain ⟨-, hx0, hx1⟩ := HS.out
  go_wp2_with fail
  refine (C10.out _ HS.out.1).mono ?_
  rintro e v3 ⟨rfl, hb⟩
  replace HS := Lib.hid (HS.out.below hb)
  clear hb hx0 hx1
  obtain ⟨-, hx0, hx1⟩ := HS.out
  go_wp2_with fail
  refine (CO.out _ _ _ _ _ (HG.out.below HS.out.1)).mono ?_
  rintro e v4 ⟨A4, c4, B4, d4, rfl, hgo, -, -, hb⟩
  have HGo := Lib.hid hgo
  clear hgo
  replace HS := Lib.hid (HS.out.below hb)
  clear hb hx0 hx1
  obtain ⟨-, hx0, hx1⟩ := HS.out
  go_wp2_with fail
  refine (CI.out _ _ _ (ReadsInt.below HN.out HS.out.1) hnd).mono ?_
  rintro e v5 ⟨D5, dc5, rfl, -, hdo, hb⟩
  have HDo := Lib.hid hdo
  clear hdo
  replace HS := Lib.hid (HS.out.below hb)
  replace HGo := Lib.hid (HGo.out.below hb)
  clear hb hx0 hx1
  obtain ⟨-, hx0, hx1⟩ := HS.out
  go_wp2_with fail
  refine (CT.out _ _ _ (HT.out.below HS.out.1) htc).mono ?_
  rintro e v6 ⟨T6, tc6, rfl, -, hto, hb⟩
  have HTo := Lib.hid hto
  clear hto
  replace HS := Lib.hid (HS.out.below hb)
  replace HGo := Lib.hid (HGo.out.below hb)
  replace HDo := Lib.hid (ReadsInt.below HDo.out hb)
  clear hb hx0 hx1
  obtain ⟨-, hx0, hx1⟩ := HS.out
  go_wp2_with fail
  refine (sCheck_any _ _ l _ _ es _ _ need cores _ _ ts _ ⟨HGo.out, ⟨by omega, by omega⟩, HDo.out, by omega, HTo.out, by omega⟩).mono ?_
  rw [HLR.out]
  rintro e v7 ⟨rfl, hb⟩
  clear HGo HDo HTo
  replace HS := Lib.hid (HS.out.below hb)
  clear hb hx0 hx1
  obtain ⟨-, hx0, hx1⟩ := HS.out
  go_wp2_with fail
  refine (awake10_any _).mono ?_
  rintro e v8 ⟨rfl, hb⟩
  replace HS := Lib.hid (HS.out.below hb)
  clear hb hx0 hx1
  obtain ⟨-, hx0, hx1⟩ := HS.out
  go_wp2_with fail
  go_ret
  exact ⟨rfl, HS.out.1⟩
set_option maxRecDepth 100000 in
set_option maxHeartbeats 8000000 in
theorem sbusy_main (A : Option Addr) (c : Nat) (l : List Int) (B : Option Addr) (d : Nat) (es : List (Int × Int)) (D : Option Addr) (dc : Nat) (need : List Int) (cores : Int) (T : Option Addr) (tc : Nat) (ts : List (List Int)) (w : World) (hg : GR w A c l B d es) (hn : ReadsInt w .i64 D need.length need) (hnd : need.length ≤ dc) (hT : TrR w T ts) (htm : ts.length ≤ maxLen) (htc : ts.length ≤ tc) (hfd : l.length ≤ 70 ∧ es.length ≤ 300) (hf2 : fewB need ts = true) (hz : lookR l es need cores ts = 0) :
    Calls Try.prog 8 #[.agg #[.slice A l.length c, .slice B es.length d], .slice D need.length dc, .int .i64 cores, .slice T ts.length tc] w fun e w' => e = .returned (.bool true) ∧ Below w.heap.size w w' := by
  obtain ⟨hl70, hes300⟩ := hfd
  obtain ⟨hn70, ht120, hrl⟩ := few_in hf2
  have C10 := Lib.hid (fun w1 (hb : Below w.heap.size w w1) => few10_call D dc need T tc ts w1 (ReadsInt.below hn hb) hnd (Kd.C_below (hT.C htm) hb) htc)
  rw [hf2] at C10
  have CF := Lib.hid (few_call A c l B d es)
  rw [decide_eq_true ⟨hl70, hes300⟩] at CF
  have hv := valid_of hz
  have hba := busy_all hv
  have hel := ends_len hv
  have HPS := Lib.hid hv.pos
  obtain ⟨⟨hc1, hc8⟩, -, -⟩ := right_cores hv.rb
  have HLR := Lib.hid hz
  have HG := Lib.hid hg
  have HN := Lib.hid hn
  have HT := Lib.hid hT
  have CO := Lib.hid (fun A' c' B' d' w1 h => own_call A' c' l B' d' es w1 h (by omega) (by omega))
  have CI := Lib.hid (fun D' dc' w1 h hd => ints_call D' dc' need w1 h hd (by omega))
  have CT := Lib.hid (fun T' tc' w1 h hc => ownT_call T' tc' ts w1 h hc (by omega) (fun r hr => by have := hrl r hr; omega))
  clear hg hn hT hf2 hz hv
  go_enter Try.func8, Try.ntmps8
  go_wp2_with fail
  have HS := Lib.hid (DS.start w A l.length c B es.length d 25)
  obtain ⟨-, hx0, hx1⟩ := HS.out
  refine (awake10_any _).mono ?_
  rintro e v1 ⟨rfl, hb⟩
  replace HS := Lib.hid (HS.out.below hb)
  clear hb hx0 hx1
  obtain ⟨-, hx0, hx1⟩ := HS.out
  go_wp2_with fail
  refine (CF.out _).mono ?_
  rintro e v2 ⟨rfl, hb⟩
  replace HS := Lib.hid (HS.out.below hb)
  clear hb hx0 hx1
  obtain ⟨-, hx0, hx1⟩ := HS.out
  go_wp2_with fail
  refine (C10.out _ HS.out.1).mono ?_
  rintro e v3 ⟨rfl, hb⟩
  replace HS := Lib.hid (HS.out.below hb)
  clear hb hx0 hx1
  obtain ⟨-, hx0, hx1⟩ := HS.out
  go_wp2_with fail
  refine (CO.out _ _ _ _ _ (HG.out.below HS.out.1)).mono ?_
  rintro e v4 ⟨A4, c4, B4, d4, rfl, hgo, -, -, hb⟩
  have HGo := Lib.hid hgo
  clear hgo
  replace HS := Lib.hid (HS.out.below hb)
  clear hb hx0 hx1
  obtain ⟨-, hx0, hx1⟩ := HS.out
  go_wp2_with fail
  refine (CI.out _ _ _ (ReadsInt.below HN.out HS.out.1) hnd).mono ?_
  rintro e v5 ⟨D5, dc5, rfl, -, hdo, hb⟩
  have HDo := Lib.hid hdo
  clear hdo
  replace HS := Lib.hid (HS.out.below hb)
  replace HGo := Lib.hid (HGo.out.below hb)
  clear hb hx0 hx1
  obtain ⟨-, hx0, hx1⟩ := HS.out
  go_wp2_with fail
  refine (CT.out _ _ _ (HT.out.below HS.out.1) htc).mono ?_
  rintro e v6 ⟨T6, tc6, rfl, -, hto, hb⟩
  have HTo := Lib.hid hto
  clear hto
  replace HS := Lib.hid (HS.out.below hb)
  replace HGo := Lib.hid (HGo.out.below hb)
  replace HDo := Lib.hid (ReadsInt.below HDo.out hb)
  clear hb hx0 hx1
  obtain ⟨-, hx0, hx1⟩ := HS.out
  go_wp2_with fail
  refine (sCheck_any _ _ l _ _ es _ _ need cores _ _ ts _ ⟨HGo.out, ⟨by omega, by omega⟩, HDo.out, by omega, HTo.out, by omega⟩).mono ?_
  rw [HLR.out]
  rintro e v7 ⟨rfl, hb⟩
  clear HGo HDo HTo
  replace HS := Lib.hid (HS.out.below hb)
  clear hb hx0 hx1
  obtain ⟨-, hx0, hx1⟩ := HS.out
  go_wp2_with fail
  refine (CO.out _ _ _ _ _ (HG.out.below HS.out.1)).mono ?_
  rintro e v8 ⟨A8, c8, B8, d8, rfl, hgo, -, -, hb⟩
  have HGo := Lib.hid hgo
  clear hgo
  replace HS := Lib.hid (HS.out.below hb)
  clear hb hx0 hx1
  obtain ⟨-, hx0, hx1⟩ := HS.out
  go_wp2_with fail
  refine (CI.out _ _ _ (ReadsInt.below HN.out HS.out.1) hnd).mono ?_
  rintro e v9 ⟨D9, dc9, rfl, -, hdo, hb⟩
  have HDo := Lib.hid hdo
  clear hdo
  replace HS := Lib.hid (HS.out.below hb)
  replace HGo := Lib.hid (HGo.out.below hb)
  clear hb hx0 hx1
  obtain ⟨-, hx0, hx1⟩ := HS.out
  go_wp2_with fail
  refine (CT.out _ _ _ (HT.out.below HS.out.1) htc).mono ?_
  rintro e v10 ⟨T10, tc10, rfl, -, hto, hb⟩
  have HTo := Lib.hid hto
  clear hto
  replace HS := Lib.hid (HS.out.below hb)
  replace HGo := Lib.hid (HGo.out.below hb)
  replace HDo := Lib.hid (ReadsInt.below HDo.out hb)
  clear hb hx0 hx1
  obtain ⟨-, hx0, hx1⟩ := HS.out
  go_wp2_with fail
  refine (sEnds_any _ _ l _ _ es _ _ need cores _ _ ts _ ⟨HGo.out, ⟨by omega, by omega⟩, HDo.out, by omega, HTo.out, by omega⟩).mono ?_
  rintro e v11 ⟨E11, ec11, rfl, hec, heo, hb⟩
  have HEo := Lib.hid heo
  clear heo hec HGo HDo HTo
  replace HS := Lib.hid (HS.out.below hb)
  clear hb hx0 hx1
  obtain ⟨-, hx0, hx1⟩ := HS.out
  go_wp2_with fail
  clear HG CO CI C10 CF
  have HBA := Lib.hid hba
  have HEL := Lib.hid hel
  have HST := Lib.hid (fun k (hk : k ≤ need.length) => sum_in HPS.out k hk)
  generalize endsL l es need cores ts = fs at *
  clear hba hel
  go_loop [10, 11, 12] (fun sv wv iv => ∃ k : Nat, k ≤ need.length ∧ iv = .int .i64 k ∧ sv = .int .i64 (need.take k).sum ∧ wv = .bool ((fs.take k).all (fun x => decide (0 ≤ x)))) (fun _ _ iv => need.length - (intOf iv).toNat)
  case atStart => exact ⟨0, Nat.zero_le _, rfl, by simp, by simp⟩
  case round =>
    obtain ⟨k, hk, rfl, rfl, rfl⟩ := hrel
    by_cases hlt : k < need.length
    · obtain ⟨na, hna, hnc⟩ := (ReadsInt.below HN.out HS.out.1).2.2 (by omega)
      subst hna
      have hnx := hnc k hlt
      obtain ⟨ea, hea, hec⟩ := HEo.out.2.2 (by have := HEL.out; omega)
      subst hea
      have hex := hec k (by have := HEL.out; omega)
      have HSN := Lib.hid (sum_snoc need k hlt)
      have HAT := Lib.hid (all_take fs k (by have := HEL.out; omega))
      have hst := HST.out k (by omega)
      have hpk := HPS.out k hlt
      clear hnc hec
      have hlen1 : (k : Int) < (need.length : Int) := by omega
      have hkk : (0 : Int) ≤ (k : Int) := by omega
      generalize (need.take k).sum = sm at *
      generalize need.getD k 0 = x at *
      generalize fs.getD k 0 = y at *
      generalize (fs.take k).all (fun x => decide (0 ≤ x)) = al at *
      cases al with
      | false =>
        go_wp2_with fail
        go_round
        case rel => exact ⟨k + 1, by omega, by go_num, by rw [HSN.out], by rw [HAT.out]; simp⟩
        case measure => simp [intOf]; omega
      | true =>
        by_cases hy : 0 ≤ y
        · go_wp2_with fail
          go_round
          case rel => exact ⟨k + 1, by omega, by go_num, by rw [HSN.out], by rw [HAT.out]; simp [hy]⟩
          case measure => simp [intOf]; omega
        · go_wp2_with fail
          go_round
          case rel => exact ⟨k + 1, by omega, by go_num, by rw [HSN.out], by rw [HAT.out]; simp [hy]⟩
          case measure => simp [intOf]; omega
    · obtain rfl : k = need.length := by omega
      have hlen2 : ¬ ((need.length : Int) < (need.length : Int)) := by omega
      have HS1 : Hid ((need.take need.length).sum = need.sum) := by show _ = _; rw [List.take_length]
      have HS2 : Hid ((fs.take need.length).all (fun x => decide (0 ≤ x)) = fs.all (fun x => decide (0 ≤ x))) := by show _ = _; rw [List.take_of_length_le (by have := HEL.out; omega)]
      rw [HS1.out, HS2.out]
      clear HEo HS1 HS2 HST HPS HN HEL
      have hmul0 : 0 ≤ cores * (ts.length : Int) := Int.mul_nonneg (by omega) (by omega)
      have hmul1 : cores * (ts.length : Int) ≤ 8 * 120 := Int.mul_le_mul hc8 (by omega) (by omega) (by omega)
      have hmw : wrap64 (cores * (ts.length : Int)) = cores * (ts.length : Int) := by unfold wrap64; omega
      obtain ⟨⟨hba0, hba1⟩, hba2, hba3⟩ := HBA.out
      generalize hbn : busyL ts = n at *
      have HBN := Lib.hid hbn
      generalize need.sum = sm at *
      generalize fs.all (fun x => decide (0 ≤ x)) = al at *
      have HWH := Lib.hid hba2
      have HMW := Lib.hid hmw
      clear hbn hba2 HBA hmw
      go_wp2_with fail
      refine (CT.out _ _ _ (HT.out.below HS.out.1) htc).mono ?_
      rintro e u1 ⟨T1, tc1, rfl, -, hto, hb⟩
      have HTo := Lib.hid hto
      replace HS := Lib.hid (HS.out.below hb)
      clear hto hb hx0 hx1
      go_wp2_with fail
      refine (sBusy_any _ _ ts _ HTo.out (by omega) (fun r hr => by have := hrl r hr; omega)).mono ?_
      rw [HBN.out]
      rintro e u2 ⟨rfl, rfl⟩
      by_cases hns : n = sm
      · have hal : al = true := by rw [← HWH.out]; simpa using hns
        subst hal
        subst hns
        have hmw := HMW.out
        clear HWH HBN HMW
        go_wp2_with fail
        go_ret
        exact ⟨by first | rfl | simp [hba3], HS.out.1⟩
      · have hal : al = false := by rw [← HWH.out]; simpa using hns
        subst hal
        have hnb : (n == sm) = false := by simpa using hns
        have hmw := HMW.out
        clear HWH HBN HMW hns
        go_wp2_with fail
        go_ret
        exact ⟨by first | rfl | simp [hba3], HS.out.1⟩
theorem SchedBusy_walk (A : Option Addr) (c : Nat) (l : List Int) (B : Option Addr) (d : Nat) (es : List (Int × Int)) (D : Option Addr) (dc : Nat) (need : List Int) (cores : Int) (T : Option Addr) (tc : Nat) (ts : List (List Int)) (w : World) (h0 : DagIn w A c l B d es) (h1 : NeedIn w D dc need) (h2 : (Lit.int .i64 cores).wf = true) (h3 : TrIn w T tc ts) :
    Calls Try.prog 8 #[.agg #[.slice A l.length c, .slice B es.length d], .slice D need.length dc, .int .i64 cores, .slice T ts.length tc] w fun e w' => e = .returned (.bool true) ∧ Below w.heap.size w w' := by
  by_cases hf : l.length ≤ 70 ∧ es.length ≤ 300
  · by_cases hf2 : fewB need ts = true
    · by_cases hz : lookR l es need cores ts = 0
      · exact sbusy_main A c l B d es D dc need cores T tc ts w (gr_in h0) h1.2.1 h1.1 h3.2.2 h3.2.1 h3.1 hf hf2 hz
      · exact sbusy_no A c l B d es D dc need cores T tc ts w (gr_in h0) h1.2.1 h1.1 h3.2.2 h3.2.1 h3.1 hf hf2 (by simpa using hz)
    · exact sbusy_few A c l B d es D dc need cores T tc ts w (gr_in h0) h1.2.1 h1.1 h3.2.2 h3.2.1 h3.1 (.inr ⟨decide_eq_true hf, by simpa using hf2⟩)
  · exact sbusy_few A c l B d es D dc need cores T tc ts w (gr_in h0) h1.2.1 h1.1 h3.2.2 h3.2.1 h3.1 (.inl (decide_eq_false hf))
end Go.Proofs.Ytnnbgfjokbaepaa
