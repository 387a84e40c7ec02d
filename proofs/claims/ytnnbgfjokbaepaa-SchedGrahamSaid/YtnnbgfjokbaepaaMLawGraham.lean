/- SchedGraham, walked. -/
import Derived.Test.YtnnbgfjokbaepaaMSchC
import Derived.Test.YtnnbgfjokbaepaaMSchD
import Derived.Deep.RegionHeld3
set_option linter.unusedVariables false
set_option linter.unusedSimpArgs false
namespace Go.Proofs.Ytnnbgfjokbaepaa
open Go.RowKit Go.Sort
open DagPlain SchPlain
open Go.Proofs.YtnnbgfjokbaepaaW.PrintWords

set_option maxRecDepth 100000 in
set_option maxHeartbeats 4000000 in
theorem sgra_few (A : Option Addr) (c : Nat) (l : List Int) (B : Option Addr) (d : Nat) (es : List (Int × Int)) (D : Option Addr) (dc : Nat) (need : List Int) (cores : Int) (T : Option Addr) (tc : Nat) (ts : List (List Int)) (w : World) (hg : GR w A c l B d es) (hn : ReadsInt w .i64 D need.length need) (hnd : need.length ≤ dc) (hT : TrR w T ts) (htm : ts.length ≤ maxLen) (htc : ts.length ≤ tc) (hf : (decide (l.length ≤ 70 ∧ es.length ≤ 300)) = false ∨ ((decide (l.length ≤ 70 ∧ es.length ≤ 300)) = true ∧ fewB need ts = false)) :
    Calls Try.prog 5 #[.agg #[.slice A l.length c, .slice B es.length d], .slice D need.length dc, .int .i64 cores, .slice T ts.length tc] w fun e w' => e = .returned (.bool true) ∧ Below w.heap.size w w' := by
  have HG := Lib.hid hg
  have HN := Lib.hid hn
  have HC := Lib.hid (hT.C htm)
  have CF := Lib.hid (few_call A c l B d es)
  clear hg hn hT
  rcases hf with hf | ⟨hf, hf2⟩
  · rw [hf] at CF
    clear hf
    go_enter Try.func5, Try.ntmps5
    go_wp2_with fail
    have HS := Lib.hid (DS.start w A l.length c B es.length d 25)
    obtain ⟨-, hx0, hx1⟩ := HS.out
    refine (awake10_any _).mono ?_
    rintro e v1 ⟨rfl, hb⟩
    replace HS := Lib.hid (HS.out.below hb)
    clear hb hx0 hx1
    obtain ⟨-, hx0, hx1⟩ := HS.out
    go_wp2_with fail
    refine (CF.out _).mono ?_
    rintro e v2 ⟨rfl, hb⟩
    replace HS := Lib.hid (HS.out.below hb)
    clear hb hx0 hx1
    obtain ⟨-, hx0, hx1⟩ := HS.out
    go_wp2_with fail
    refine (awake10_any _).mono ?_
    rintro e v3 ⟨rfl, hb⟩
    replace HS := Lib.hid (HS.out.below hb)
    clear hb hx0 hx1
    obtain ⟨-, hx0, hx1⟩ := HS.out
    go_wp2_with fail
    go_ret
    exact ⟨rfl, HS.out.1⟩
  · rw [hf] at CF
    have C10 := Lib.hid (fun w1 (hb : Below w.heap.size w w1) => few10_call D dc need T tc ts w1 (ReadsInt.below HN.out hb) hnd (Kd.C_below HC.out hb) htc)
    rw [hf2] at C10
    clear hf hf2
    go_enter Try.func5, Try.ntmps5
    go_wp2_with fail
    have HS := Lib.hid (DS.start w A l.length c B es.length d 25)
    obtain ⟨-, hx0, hx1⟩ := HS.out
    refine (awake10_any _).mono ?_
    rintro e v1 ⟨rfl, hb⟩
    replace HS := Lib.hid (HS.out.below hb)
    clear hb hx0 hx1
    obtain ⟨-, hx0, hx1⟩ := HS.out
    go_wp2_with fail
    refine (CF.out _).mono ?_
    rintro e v2 ⟨rfl, hb⟩
    replace HS := Lib.hid (HS.out.below hb)
    clear hb hx0 hx1
    obtain ⟨-, hx0, hx1⟩ := HS.out
    go_wp2_with fail
    refine (C10.out _ HS.out.1).mono ?_
    rintro e v3 ⟨rfl, hb⟩
    replace HS := Lib.hid (HS.out.below hb)
    clear hb hx0 hx1
    obtain ⟨-, hx0, hx1⟩ := HS.out
    go_wp2_with fail
    refine (awake10_any _).mono ?_
    rintro e v4 ⟨rfl, hb⟩
    replace HS := Lib.hid (HS.out.below hb)
    clear hb hx0 hx1
    obtain ⟨-, hx0, hx1⟩ := HS.out
    go_wp2_with fail
    go_ret
    exact ⟨rfl, HS.out.1⟩
set_option maxRecDepth 100000 in
set_option maxHeartbeats 4000000 in
theorem sgra_no (A : Option Addr) (c : Nat) (l : List Int) (B : Option Addr) (d : Nat) (es : List (Int × Int)) (D : Option Addr) (dc : Nat) (need : List Int) (cores : Int) (T : Option Addr) (tc : Nat) (ts : List (List Int)) (w : World) (hg : GR w A c l B d es) (hn : ReadsInt w .i64 D need.length need) (hnd : need.length ≤ dc) (hT : TrR w T ts) (htm : ts.length ≤ maxLen) (htc : ts.length ≤ tc) (hfd : l.length ≤ 70 ∧ es.length ≤ 300) (hf2 : fewB need ts = true) (hz : greedyL l es need cores ts = false) :
    Calls Try.prog 5 #[.agg #[.slice A l.length c, .slice B es.length d], .slice D need.length dc, .int .i64 cores, .slice T ts.length tc] w fun e w' => e = .returned (.bool true) ∧ Below w.heap.size w w' := by
  obtain ⟨hl70, hes300⟩ := hfd
  obtain ⟨hn70, ht120, hrl⟩ := few_in hf2
  have C10 := Lib.hid (fun w1 (hb : Below w.heap.size w w1) => few10_call D dc need T tc ts w1 (ReadsInt.below hn hb) hnd (Kd.C_below (hT.C htm) hb) htc)
  rw [hf2] at C10
  have CF := Lib.hid (few_call A c l B d es)
  rw [decide_eq_true ⟨hl70, hes300⟩] at CF
  have HG := Lib.hid hg
  have HN := Lib.hid hn
  have HT := Lib.hid hT
  have CO := Lib.hid (fun A' c' B' d' w1 h => own_call A' c' l B' d' es w1 h (by omega) (by omega))
  have CI := Lib.hid (fun D' dc' w1 h hd => ints_call D' dc' need w1 h hd (by omega))
  have CT := Lib.hid (fun T' tc' w1 h hc => ownT_call T' tc' ts w1 h hc (by omega) (fun r hr => by have := hrl r hr; omega))
  have HLR := Lib.hid hz
  clear hz hg hn hT hf2
  go_enter Try.func5, Try.ntmps5
  go_wp2_with fail
  have HS := Lib.hid (DS.start w A l.length c B es.length d 25)
  obtain ⟨-, hx0, hx1⟩ := HS.out
  refine (awake10_any _).mono ?_
  rintro e v1 ⟨rfl, hb⟩
  replace HS := Lib.hid (HS.out.below hb)
  clear hb hx0 hx1
  obtain ⟨-, hx0, hx1⟩ := HS.out
  go_wp2_with fail
  refine (CF.out _).mono ?_
  rintro e v2 ⟨rfl, hb⟩
  replace HS := Lib.hid (HS.out.below hb)
  clear hb hx0 hx1
  obtain ⟨-, hx0, hx1⟩ := HS.out
  go_wp2_with fail
  refine (C10.out _ HS.out.1).mono ?_
  rintro e v3 ⟨rfl, hb⟩
  replace HS := Lib.hid (HS.out.below hb)
  clear hb hx0 hx1
  obtain ⟨-, hx0, hx1⟩ := HS.out
  go_wp2_with fail
  refine (CO.out _ _ _ _ _ (HG.out.below HS.out.1)).mono ?_
  rintro e v4 ⟨A4, c4, B4, d4, rfl, hgo, -, -, hb⟩
  have HGo := Lib.hid hgo
  clear hgo
  replace HS := Lib.hid (HS.out.below hb)
  clear hb hx0 hx1
  obtain ⟨-, hx0, hx1⟩ := HS.out
  go_wp2_with fail
  refine (CI.out _ _ _ (ReadsInt.below HN.out HS.out.1) hnd).mono ?_
  rintro e v5 ⟨D5, dc5, rfl, -, hdo, hb⟩
  have HDo := Lib.hid hdo
  clear hdo
  replace HS := Lib.hid (HS.out.below hb)
  replace HGo := Lib.hid (HGo.out.below hb)
  clear hb hx0 hx1
  obtain ⟨-, hx0, hx1⟩ := HS.out
  go_wp2_with fail
  refine (CT.out _ _ _ (HT.out.below HS.out.1) htc).mono ?_
  rintro e v6 ⟨T6, tc6, rfl, -, hto, hb⟩
  have HTo := Lib.hid hto
  clear hto
  replace HS := Lib.hid (HS.out.below hb)
  replace HGo := Lib.hid (HGo.out.below hb)
  replace HDo := Lib.hid (ReadsInt.below HDo.out hb)
  clear hb hx0 hx1
  obtain ⟨-, hx0, hx1⟩ := HS.out
  go_wp2_with fail
  refine (sGreedy_any _ _ l _ _ es _ _ need cores _ _ ts _ ⟨HGo.out, ⟨by omega, by omega⟩, HDo.out, by omega, HTo.out, by omega⟩).mono ?_
  rw [HLR.out]
  rintro e v7 ⟨rfl, hb⟩
  clear HGo HDo HTo
  replace HS := Lib.hid (HS.out.below hb)
  clear hb hx0 hx1
  obtain ⟨-, hx0, hx1⟩ := HS.out
  go_wp2_with fail
  refine (awake10_any _).mono ?_
  rintro e v8 ⟨rfl, hb⟩
  replace HS := Lib.hid (HS.out.below hb)
  clear hb hx0 hx1
  obtain ⟨-, hx0, hx1⟩ := HS.out
  go_wp2_with fail
  go_ret
  exact ⟨rfl, HS.out.1⟩
def MaxOf (fs : List Int) (k : Nat) (m : Int) : Prop := 0 ≤ m ∧ (∀ j, j < k → 0 ≤ fs.getD j 0 ∧ fs.getD j 0 ≤ m) ∧ (m = 0 ∨ ∃ j, j < k ∧ m = fs.getD j 0)
theorem MaxOf.next {fs : List Int} {k : Nat} {m : Int} (h : MaxOf fs k m) (h0 : 0 ≤ fs.getD k 0) : MaxOf fs (k + 1) (max m (fs.getD k 0)) := by
  obtain ⟨h1, h2, h3⟩ := h
  refine ⟨by omega, fun j hj => ?_, ?_⟩
  · by_cases e : j = k
    · subst e; omega
    · have := h2 j (by omega); omega
  · by_cases e : m ≤ fs.getD k 0
    · exact .inr ⟨k, by omega, by omega⟩
    · rcases h3 with h3 | ⟨j, h4, h5⟩
      · exact .inl (by omega)
      · exact .inr ⟨j, by omega, by omega⟩
set_option maxRecDepth 100000 in
set_option maxHeartbeats 8000000 in
theorem sgra_main (A : Option Addr) (c : Nat) (l : List Int) (B : Option Addr) (d : Nat) (es : List (Int × Int)) (D : Option Addr) (dc : Nat) (need : List Int) (cores : Int) (T : Option Addr) (tc : Nat) (ts : List (List Int)) (w : World) (hg : GR w A c l B d es) (hn : ReadsInt w .i64 D need.length need) (hnd : need.length ≤ dc) (hT : TrR w T ts) (htm : ts.length ≤ maxLen) (htc : ts.length ≤ tc) (hfd : l.length ≤ 70 ∧ es.length ≤ 300) (hf2 : fewB need ts = true) (hz : greedyL l es need cores ts = true) :
    Calls Try.prog 5 #[.agg #[.slice A l.length c, .slice B es.length d], .slice D need.length dc, .int .i64 cores, .slice T ts.length tc] w fun e w' => e = .returned (.bool true) ∧ Below w.heap.size w w' := by
  obtain ⟨hl70, hes300⟩ := hfd
  obtain ⟨hn70, ht120, hrl⟩ := few_in hf2
  have C10 := Lib.hid (fun w1 (hb : Below w.heap.size w w1) => few10_call D dc need T tc ts w1 (ReadsInt.below hn hb) hnd (Kd.C_below (hT.C htm) hb) htc)
  rw [hf2] at C10
  have CF := Lib.hid (few_call A c l B d es)
  rw [decide_eq_true ⟨hl70, hes300⟩] at CF
  have hv := valid_of (greedy_look hz)
  have hel := ends_len hv
  obtain ⟨⟨hc1, hc8⟩, -, -⟩ := right_cores hv.rb
  have hbi := bound_in (check_need hv.zd hv.rb)
  have HBD : Hid (boundL l es need cores = (totL need es + (cores - 1) * longL need es) / cores) := by
    show _ = _
    unfold boundL rightR
    rw [hv.zd, hv.rb]; rfl
  have HGR : Hid (∀ m, MaxOf (endsL l es need cores ts) need.length m → (cores * m ≤ totL need es + (cores - 1) * longL need es ∧ longL need es ≤ m) ∧ m ≤ 120) := by
    show ∀ m, _
    intro m hm
    rw [ends_eq hv] at hm
    obtain ⟨m1, m2, m3⟩ := hm
    refine ⟨graham hv hz (fun n hn => (m2 n hn).1) (fun n hn => (m2 n hn).2) m3, ?_⟩
    rcases m3 with m3 | ⟨j, h4, h5⟩
    · omega
    · have := (ran_fin hv _ (Nat.le_refl _) j h4).2.2.2.1
      omega
  have HLR := Lib.hid hz
  have HG := Lib.hid hg
  have HN := Lib.hid hn
  have HT := Lib.hid hT
  have CO := Lib.hid (fun A' c' B' d' w1 h => own_call A' c' l B' d' es w1 h (by omega) (by omega))
  have CI := Lib.hid (fun D' dc' w1 h hd => ints_call D' dc' need w1 h hd (by omega))
  have CT := Lib.hid (fun T' tc' w1 h hc => ownT_call T' tc' ts w1 h hc (by omega) (fun r hr => by have := hrl r hr; omega))
  have CTo := Lib.hid (fun w1 h1 h2 => Total_any D dc need B d es w1 h1 (by omega) (by omega) h2 hg.2.1)
  have CLo := Lib.hid (fun w1 h1 h2 => Long_any D dc need B d es w1 h1 (by omega) (by omega) h2 hg.2.1)
  have CB := Lib.hid (fun A' c' B' d' D' dc' w1 (h1 : GR w1 A' c' l B' d' es) h2 => sBound_any A' c' l B' d' es D' dc' need cores w1 h1 (by omega) (by omega) h2 (by omega))
  clear hg hn hT hf2 hz hv
  go_enter Try.func5, Try.ntmps5
  go_wp2_with fail
  have HS := Lib.hid (DS.start w A l.length c B es.length d 25)
  obtain ⟨-, hx0, hx1⟩ := HS.out
  refine (awake10_any _).mono ?_
  rintro e v1 ⟨rfl, hb⟩
  replace HS := Lib.hid (HS.out.below hb)
  clear hb hx0 hx1
  obtain ⟨-, hx0, hx1⟩ := HS.out
  go_wp2_with fail
  refine (CF.out _).mono ?_
  rintro e v2 ⟨rfl, hb⟩
  replace HS := Lib.hid (HS.out.below hb)
  clear hb hx0 hx1
  obtain ⟨-, hx0, hx1⟩ := HS.out
  go_wp2_with fail
  refine (C10.out _ HS.out.1).mono ?_
  rintro e v3 ⟨rfl, hb⟩
  replace HS := Lib.hid (HS.out.below hb)
  clear hb hx0 hx1
  obtain ⟨-, hx0, hx1⟩ := HS.out
  go_wp2_with fail
  refine (CO.out _ _ _ _ _ (HG.out.below HS.out.1)).mono ?_
  rintro e v4 ⟨A4, c4, B4, d4, rfl, hgo, -, -, hb⟩
  have HGo := Lib.hid hgo
  clear hgo
  replace HS := Lib.hid (HS.out.below hb)
  clear hb hx0 hx1
  obtain ⟨-, hx0, hx1⟩ := HS.out
  go_wp2_with fail
  refine (CI.out _ _ _ (ReadsInt.below HN.out HS.out.1) hnd).mono ?_
  rintro e v5 ⟨D5, dc5, rfl, -, hdo, hb⟩
  have HDo := Lib.hid hdo
  clear hdo
  replace HS := Lib.hid (HS.out.below hb)
  replace HGo := Lib.hid (HGo.out.below hb)
  clear hb hx0 hx1
  obtain ⟨-, hx0, hx1⟩ := HS.out
  go_wp2_with fail
  refine (CT.out _ _ _ (HT.out.below HS.out.1) htc).mono ?_
  rintro e v6 ⟨T6, tc6, rfl, -, hto, hb⟩
  have HTo := Lib.hid hto
  clear hto
  replace HS := Lib.hid (HS.out.below hb)
  replace HGo := Lib.hid (HGo.out.below hb)
  replace HDo := Lib.hid (ReadsInt.below HDo.out hb)
  clear hb hx0 hx1
  obtain ⟨-, hx0, hx1⟩ := HS.out
  go_wp2_with fail
  refine (sGreedy_any _ _ l _ _ es _ _ need cores _ _ ts _ ⟨HGo.out, ⟨by omega, by omega⟩, HDo.out, by omega, HTo.out, by omega⟩).mono ?_
  rw [HLR.out]
  rintro e v7 ⟨rfl, hb⟩
  clear HGo HDo HTo
  replace HS := Lib.hid (HS.out.below hb)
  clear hb hx0 hx1
  obtain ⟨-, hx0, hx1⟩ := HS.out
  go_wp2_with fail
  refine (CO.out _ _ _ _ _ (HG.out.below HS.out.1)).mono ?_
  rintro e v8 ⟨A8, c8, B8, d8, rfl, hgo, -, -, hb⟩
  have HGo := Lib.hid hgo
  clear hgo
  replace HS := Lib.hid (HS.out.below hb)
  clear hb hx0 hx1
  obtain ⟨-, hx0, hx1⟩ := HS.out
  go_wp2_with fail
  refine (CI.out _ _ _ (ReadsInt.below HN.out HS.out.1) hnd).mono ?_
  rintro e v9 ⟨D9, dc9, rfl, -, hdo, hb⟩
  have HDo := Lib.hid hdo
  clear hdo
  replace HS := Lib.hid (HS.out.below hb)
  replace HGo := Lib.hid (HGo.out.below hb)
  clear hb hx0 hx1
  obtain ⟨-, hx0, hx1⟩ := HS.out
  go_wp2_with fail
  refine (CT.out _ _ _ (HT.out.below HS.out.1) htc).mono ?_
  rintro e v10 ⟨T10, tc10, rfl, -, hto, hb⟩
  have HTo := Lib.hid hto
  clear hto
  replace HS := Lib.hid (HS.out.below hb)
  replace HGo := Lib.hid (HGo.out.below hb)
  replace HDo := Lib.hid (ReadsInt.below HDo.out hb)
  clear hb hx0 hx1
  obtain ⟨-, hx0, hx1⟩ := HS.out
  go_wp2_with fail
  refine (sEnds_any _ _ l _ _ es _ _ need cores _ _ ts _ ⟨HGo.out, ⟨by omega, by omega⟩, HDo.out, by omega, HTo.out, by omega⟩).mono ?_
  rintro e v11 ⟨E11, ec11, rfl, hec, heo, hb⟩
  have HEo := Lib.hid heo
  clear heo hec HGo HDo HTo
  replace HS := Lib.hid (HS.out.below hb)
  clear hb hx0 hx1
  obtain ⟨-, hx0, hx1⟩ := HS.out
  go_wp2_with fail
  have HEL := Lib.hid hel
  have HE : Hid (ReadsInt v11 .i64 E11 need.length (endsL l es need cores ts)) := by
    have := HEo.out
    rw [HEL.out] at this
    exact this
  generalize endsL l es need cores ts = fs at *
  generalize boundL l es need cores = bd at *
  generalize totL need es = tt at *
  generalize longL need es = tl at *
  obtain ⟨⟨ht1, ht2⟩, ht3, ht4⟩ := hbi
  clear hel HEo C10 CF CT HT HLR
  go_loop [10, 11] (fun mv iv => ∃ (k : Nat) (m : Int), k ≤ need.length ∧ iv = .int .i64 k ∧ mv = .int .i64 m ∧ Hid (MaxOf fs k m)) (fun _ iv => need.length - (intOf iv).toNat)
  case atStart => exact ⟨0, 0, Nat.zero_le _, rfl, rfl, ⟨Int.le_refl _, fun j hj => absurd hj (by omega), .inl rfl⟩⟩
  case round =>
    obtain ⟨k, m, hk, rfl, rfl, HM⟩ := hrel
    by_cases hlt : k < need.length
    · obtain ⟨ea, hea, hec⟩ := HE.out.2.2 (by omega)
      subst hea
      have hex := hec k hlt
      have HMN := Lib.hid HM.out.next
      have hkk : (0 : Int) ≤ (k : Int) := by omega
      have hkn : (k : Int) < (need.length : Int) := by omega
      clear hec
      generalize fs.getD k 0 = y at *
      by_cases hy : 0 ≤ y
      · have HM2 := Lib.hid (HMN.out hy)
        clear HMN HM
        go_wp2_with fail
        go_round
        case rel => exact ⟨k + 1, max m y, by omega, by go_num, rfl, HM2⟩
        case measure => simp [intOf]; omega
      · have hy2 : y < 0 := by omega
        clear HMN HM
        go_wp2_with fail
        go_ret
        exact ⟨rfl, HS.out.1⟩
    · obtain rfl : k = need.length := by omega
      obtain ⟨⟨hg1, hg2⟩, hm120⟩ := HGR.out m HM.out
      have hm0 : 0 ≤ m := HM.out.1
      have hlen2 : ¬ ((need.length : Int) < (need.length : Int)) := by omega
      have hp0 : 0 ≤ (cores - 1) * tl := Int.mul_nonneg (by omega) ht3
      have hp1 : (cores - 1) * tl ≤ 7 * 64000 := Int.mul_le_mul (by omega) ht4 ht3 (by omega)
      have hp2 : 0 ≤ cores * m := Int.mul_nonneg (by omega) hm0
      have hbd : m ≤ bd := by rw [HBD.out]; exact Int.le_ediv_of_mul_le (by omega) (by rw [Int.mul_comm]; exact hg1)
      clear HM HGR HE HEL
      go_wp2_with fail
      have hw2 : wrap64 ((cores - 1) * tl) = (cores - 1) * tl := by unfold wrap64; omega
      have hw3 : wrap64 (tt + (cores - 1) * tl) = tt + (cores - 1) * tl := by unfold wrap64; omega
      have hw1 : wrap64 (cores * m) = cores * m := by unfold wrap64; omega
      have HW := Lib.hid (And.intro hw1 (And.intro hw2 hw3))
      have hwd : Below v11.heap.size v11 v11.drew := ⟨rfl, rfl, rfl, Nat.le_refl _, fun _ _ => rfl⟩
      replace HS := Lib.hid (HS.out.below hwd)
      clear hwd hx0 hx1 hw1 hw2 hw3
      have K1 : True := trivial
      go_region_held3 (fun w' => w'.cell? ⟨w.heap.size, 0, none⟩ = some (.slice A l.length c) ∧ w'.cell? ⟨w.heap.size, 1, none⟩ = some (.slice B es.length d))
        (exact HS.out.2)
        (first
          | (have _t := K1; go_at_call 26; refine (CTo.out _ (ReadsInt.below HN.out HS.out.1) (HG.out.2.2.below HS.out.1)).mono ?_; rintro e u1 ⟨rfl, hb⟩; replace HS := Lib.hid (HS.out.below hb); clear hb K1; have K2 : True := trivial)
          | (have _t := K2; go_at_call 27; refine (CLo.out _ (ReadsInt.below HN.out HS.out.1) (HG.out.2.2.below HS.out.1)).mono ?_; rintro e u2 ⟨rfl, hb⟩; replace HS := Lib.hid (HS.out.below hb); clear hb K2; have K3 : True := trivial))
      clear K3
      obtain ⟨-, hx0, hx1⟩ := HS.out
      go_wp2_with fail
      refine (CO.out _ _ _ _ _ (HG.out.below HS.out.1)).mono ?_
      rintro e v12 ⟨A12, c12, B12, d12, rfl, hgo, -, -, hb⟩
      have HGo := Lib.hid hgo
      clear hgo
      replace HS := Lib.hid (HS.out.below hb)
      clear hb hx0 hx1
      obtain ⟨-, hx0, hx1⟩ := HS.out
      go_wp2_with fail
      refine (CI.out _ _ _ (ReadsInt.below HN.out HS.out.1) hnd).mono ?_
      rintro e v13 ⟨D13, dc13, rfl, -, hdo, hb⟩
      have HDo := Lib.hid hdo
      clear hdo
      replace HS := Lib.hid (HS.out.below hb)
      replace HGo := Lib.hid (HGo.out.below hb)
      clear hb hx0 hx1
      obtain ⟨-, hx0, hx1⟩ := HS.out
      go_wp2_with fail
      refine (CB.out _ _ _ _ _ _ _ HGo.out HDo.out).mono ?_
      rintro e u3 ⟨rfl, hb⟩
      replace HS := Lib.hid (HS.out.below hb)
      clear hb hx0 hx1 HGo HDo
      obtain ⟨hw1, hw2, hw3⟩ := HW.out
      go_wp2_with fail
      go_ret
      exact ⟨by first | rfl | simp [hg1, hg2, hbd], HS.out.1⟩

theorem SchedGraham_walk (A : Option Addr) (c : Nat) (l : List Int) (B : Option Addr) (d : Nat) (es : List (Int × Int)) (D : Option Addr) (dc : Nat) (need : List Int) (cores : Int) (T : Option Addr) (tc : Nat) (ts : List (List Int)) (w : World) (h0 : DagIn w A c l B d es) (h1 : NeedIn w D dc need) (h2 : (Lit.int .i64 cores).wf = true) (h3 : TrIn w T tc ts) :
    Calls Try.prog 5 #[.agg #[.slice A l.length c, .slice B es.length d], .slice D need.length dc, .int .i64 cores, .slice T ts.length tc] w fun e w' => e = .returned (.bool true) ∧ Below w.heap.size w w' := by
  by_cases hf : l.length ≤ 70 ∧ es.length ≤ 300
  · by_cases hf2 : fewB need ts = true
    · cases hz : greedyL l es need cores ts with
      | true => exact sgra_main A c l B d es D dc need cores T tc ts w (gr_in h0) h1.2.1 h1.1 h3.2.2.1 h3.2.1 h3.1 hf hf2 hz
      | false => exact sgra_no A c l B d es D dc need cores T tc ts w (gr_in h0) h1.2.1 h1.1 h3.2.2.1 h3.2.1 h3.1 hf hf2 hz
    · exact sgra_few A c l B d es D dc need cores T tc ts w (gr_in h0) h1.2.1 h1.1 h3.2.2.1 h3.2.1 h3.1 (.inr ⟨decide_eq_true hf, by simpa using hf2⟩)
  · exact sgra_few A c l B d es D dc need cores T tc ts w (gr_in h0) h1.2.1 h1.1 h3.2.2.1 h3.2.1 h3.1 (.inl (decide_eq_false hf))
end Go.Proofs.Ytnnbgfjokbaepaa
