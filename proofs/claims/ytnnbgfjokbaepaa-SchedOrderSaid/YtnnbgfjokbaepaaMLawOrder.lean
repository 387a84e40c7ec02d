/- SchedOrder, walked. -/
import Derived.Test.YtnnbgfjokbaepaaMSchC
import Derived.Test.YtnnbgfjokbaepaaMSchD
import Derived.Deep.QuietTactic
import Derived.BigQuiet
import Derived.IntWalk
set_option linter.unusedVariables false
set_option linter.unusedSimpArgs false
namespace Go.Proofs.Ytnnbgfjokbaepaa
open Go.RowKit Go.Sort
open DagPlain SchPlain
open Go.Proofs.YtnnbgfjokbaepaaW.PrintWords

set_option maxRecDepth 100000 in
set_option maxHeartbeats 4000000 in
theorem sord_few (A : Option Addr) (c : Nat) (l : List Int) (B : Option Addr) (d : Nat) (es : List (Int × Int)) (D : Option Addr) (dc : Nat) (need : List Int) (cores : Int) (T : Option Addr) (tc : Nat) (ts : List (List Int)) (w : World) (hg : GR w A c l B d es) (hn : ReadsInt w .i64 D need.length need) (hnd : need.length ≤ dc) (hT : TrR w T ts) (htm : ts.length ≤ maxLen) (htc : ts.length ≤ tc) (hf : (decide (l.length ≤ 70 ∧ es.length ≤ 300)) = false ∨ ((decide (l.length ≤ 70 ∧ es.length ≤ 300)) = true ∧ fewB need ts = false)) :
    Calls Try.prog 6 #[.agg #[.slice A l.length c, .slice B es.length d], .slice D need.length dc, .int .i64 cores, .slice T ts.length tc] w fun e w' => e = .returned (.bool true) ∧ Below w.heap.size w w' := by
  have HG := Lib.hid hg
  have HN := Lib.hid hn
  have HC := Lib.hid (hT.C htm)
  have CF := Lib.hid (few_call A c l B d es)
  clear hg hn hT
  rcases hf with hf | ⟨hf, hf2⟩
  · rw [hf] at CF
    clear hf
    go_enter Try.func6, Try.ntmps6
    go_wp2_with fail
    have HS := Lib.hid (DS.start w A l.length c B es.length d 25)
    obtain ⟨-, hx0, hx1⟩ := HS.out
    refine (awake10_any _).mono ?_
    rintro e v1 ⟨rfl, hb⟩
    replace HS := Lib.hid (HS.out.below hb)
    clear hb hx0 hx1
    obtain ⟨-, hx0, hx1⟩ := HS.out
    go_wp2_with fail
    refine (CF.out _).mono ?_
    rintro e v2 ⟨rfl, hb⟩
    replace HS := Lib.hid (HS.out.below hb)
    clear hb hx0 hx1
    obtain ⟨-, hx0, hx1⟩ := HS.out
    go_wp2_with fail
    refine (awake10_any _).mono ?_
    rintro e v3 ⟨rfl, hb⟩
    replace HS := Lib.hid (HS.out.below hb)
    clear hb hx0 hx1
    obtain ⟨-, hx0, hx1⟩ := HS.out
    go_wp2_with fail
    go_ret
    exact ⟨rfl, HS.out.1⟩
  · rw [hf] at CF
    have C10 := Lib.hid (fun w1 (hb : Below w.heap.size w w1) => few10_call D dc need T tc ts w1 (ReadsInt.below HN.out hb) hnd (Kd.C_below HC.out hb) htc)
    rw [hf2] at C10
    clear hf hf2
    go_enter Try.func6, Try.ntmps6
    go_wp2_with fail
    have HS := Lib.hid (DS.start w A l.length c B es.length d 25)
    obtain ⟨-, hx0, hx1⟩ := HS.out
    refine (awake10_any _).mono ?_
    rintro e v1 ⟨rfl, hb⟩
    replace HS := Lib.hid (HS.out.below hb)
    clear hb hx0 hx1
    obtain ⟨-, hx0, hx1⟩ := HS.out
    go_wp2_with fail
    refine (CF.out _).mono ?_
    rintro e v2 ⟨rfl, hb⟩
    replace HS := Lib.hid (HS.out.below hb)
    clear hb hx0 hx1
    obtain ⟨-, hx0, hx1⟩ := HS.out
    go_wp2_with fail
    refine (C10.out _ HS.out.1).mono ?_
    rintro e v3 ⟨rfl, hb⟩
    replace HS := Lib.hid (HS.out.below hb)
    clear hb hx0 hx1
    obtain ⟨-, hx0, hx1⟩ := HS.out
    go_wp2_with fail
    refine (awake10_any _).mono ?_
    rintro e v4 ⟨rfl, hb⟩
    replace HS := Lib.hid (HS.out.below hb)
    clear hb hx0 hx1
    obtain ⟨-, hx0, hx1⟩ := HS.out
    go_wp2_with fail
    go_ret
    exact ⟨rfl, HS.out.1⟩
set_option maxRecDepth 100000 in
set_option maxHeartbeats 4000000 in
theorem sord_no (A : Option Addr) (c : Nat) (l : List Int) (B : Option Addr) (d : Nat) (es : List (Int × Int)) (D : Option Addr) (dc : Nat) (need : List Int) (cores : Int) (T : Option Addr) (tc : Nat) (ts : List (List Int)) (w : World) (hg : GR w A c l B d es) (hn : ReadsInt w .i64 D need.length need) (hnd : need.length ≤ dc) (hT : TrR w T ts) (htm : ts.length ≤ maxLen) (htc : ts.length ≤ tc) (hfd : l.length ≤ 70 ∧ es.length ≤ 300) (hf2 : fewB need ts = true) (hz : (lookR l es need cores ts != 0) = true) :
    Calls Try.prog 6 #[.agg #[.slice A l.length c, .slice B es.length d], .slice D need.length dc, .int .i64 cores, .slice T ts.length tc] w fun e w' => e = .returned (.bool true) ∧ Below w.heap.size w w' := by
  obtain ⟨hl70, hes300⟩ := hfd
  obtain ⟨hn70, ht120, hrl⟩ := few_in hf2
  have C10 := Lib.hid (fun w1 (hb : Below w.heap.size w w1) => few10_call D dc need T tc ts w1 (ReadsInt.below hn hb) hnd (Kd.C_below (hT.C htm) hb) htc)
  rw [hf2] at C10
  have CF := Lib.hid (few_call A c l B d es)
  rw [decide_eq_true ⟨hl70, hes300⟩] at CF
  have HG := Lib.hid hg
  have HN := Lib.hid hn
  have HT := Lib.hid hT
  have CO := Lib.hid (fun A' c' B' d' w1 h => own_call A' c' l B' d' es w1 h (by omega) (by omega))
  have CI := Lib.hid (fun D' dc' w1 h hd => ints_call D' dc' need w1 h hd (by omega))
  have CT := Lib.hid (fun T' tc' w1 h hc => ownT_call T' tc' ts w1 h hc (by omega) (fun r hr => by have := hrl r hr; omega))
  generalize hlr : lookR l es need cores ts = er at *
  have HLR := Lib.hid hlr
  clear hlr hg hn hT hf2
  go_enter Try.func6, Try.ntmps6
  go_wp2_with fail
  have HS := Lib.hid (DS.start w A l.length c B es.length d 25)
  obtain ⟨-, hx0, hx1⟩ := HS.out
  refine (awake10_any _).mono ?_
  rintro e v1 ⟨rfl, hb⟩
  replace HS := Lib.hid (HS.out.below hb)
  clear hb hx0 hx1
  obtain ⟨-, hx0, hx1⟩ := HS.out
  go_wp2_with fail
  refine (CF.out _).mono ?_
  rintro e v2 ⟨rfl, hb⟩
  replace HS := Lib.hid (HS.out.below hb)
  clear hb hx0 hx1
  obtain ⟨-, hx0, hx1⟩ := HS.out
  go_wp2_with fail
  refine (C10.out _ HS.out.1).mono ?_
  rintro e v3 ⟨rfl, hb⟩
  replace HS := Lib.hid (HS.out.below hb)
  clear hb hx0 hx1
  obtain ⟨-, hx0, hx1⟩ := HS.out
  go_wp2_with fail
  refine (CO.out _ _ _ _ _ (HG.out.below HS.out.1)).mono ?_
  rintro e v4 ⟨A4, c4, B4, d4, rfl, hgo, -, -, hb⟩
  have HGo := Lib.hid hgo
  clear hgo
  replace HS := Lib.hid (HS.out.below hb)
  clear hb hx0 hx1
  obtain ⟨-, hx0, hx1⟩ := HS.out
  go_wp2_with fail
  refine (CI.out _ _ _ (ReadsInt.below HN.out HS.out.1) hnd).mono ?_
  rintro e v5 ⟨D5, dc5, rfl, -, hdo, hb⟩
  have HDo := Lib.hid hdo
  clear hdo
  replace HS := Lib.hid (HS.out.below hb)
  replace HGo := Lib.hid (HGo.out.below hb)
  clear hb hx0 hx1
  obtain ⟨-, hx0, hx1⟩ := HS.out
  go_wp2_with fail
  refine (CT.out _ _ _ (HT.out.below HS.out.1) htc).mono ?_
  rintro e v6 ⟨T6, tc6, rfl, -, hto, hb⟩
  have HTo := Lib.hid hto
  clear hto
  replace HS := Lib.hid (HS.out.below hb)
  replace HGo := Lib.hid (HGo.out.below hb)
  replace HDo := Lib.hid (ReadsInt.below HDo.out hb)
  clear hb hx0 hx1
  obtain ⟨-, hx0, hx1⟩ := HS.out
  go_wp2_with fail
  refine (sCheck_any _ _ l _ _ es _ _ need cores _ _ ts _ ⟨HGo.out, ⟨by omega, by omega⟩, HDo.out, by omega, HTo.out, by omega⟩).mono ?_
  rw [HLR.out]
  rintro e v7 ⟨rfl, hb⟩
  clear HGo HDo HTo
  replace HS := Lib.hid (HS.out.below hb)
  clear hb hx0 hx1
  obtain ⟨-, hx0, hx1⟩ := HS.out
  go_wp2_with fail
  refine (awake10_any _).mono ?_
  rintro e v8 ⟨rfl, hb⟩
  replace HS := Lib.hid (HS.out.below hb)
  clear hb hx0 hx1
  obtain ⟨-, hx0, hx1⟩ := HS.out
  go_wp2_with fail
  go_ret
  exact ⟨rfl, HS.out.1⟩
theorem scan_start (o : Option (Nat × Nat × Nat)) : scanSt o 0 = (-1, 0, -1) := by
  unfold scanSt
  split
  · rfl
  · rw [if_pos (by omega)]
theorem trip {a b c a' b' c' : Int} (h : (a, b, c) = (a', b', c')) : a = a' ∧ b = b' ∧ c = c' := by
  simp only [Prod.mk.injEq] at h
  exact h
set_option maxRecDepth 100000 in
set_option maxHeartbeats 16000000 in
theorem sord_main (A : Option Addr) (c : Nat) (l : List Int) (B : Option Addr) (d : Nat) (es : List (Int × Int)) (D : Option Addr) (dc : Nat) (need : List Int) (cores : Int) (T : Option Addr) (tc : Nat) (ts : List (List Int)) (w : World) (hg : GR w A c l B d es) (hn : ReadsInt w .i64 D need.length need) (hnd : need.length ≤ dc) (hT : TrR w T ts) (htm : ts.length ≤ maxLen) (htc : ts.length ≤ tc) (hfd : l.length ≤ 70 ∧ es.length ≤ 300) (hf2 : fewB need ts = true) (hz : lookR l es need cores ts = 0) :
    Calls Try.prog 6 #[.agg #[.slice A l.length c, .slice B es.length d], .slice D need.length dc, .int .i64 cores, .slice T ts.length tc] w fun e w' => e = .returned (.bool true) ∧ Below w.heap.size w w' := by
  obtain ⟨hl70, hes300⟩ := hfd
  obtain ⟨hn70, ht120, hrl⟩ := few_in hf2
  have C10 := Lib.hid (fun w1 (hb : Below w.heap.size w w1) => few10_call D dc need T tc ts w1 (ReadsInt.below hn hb) hnd (Kd.C_below (hT.C htm) hb) htc)
  rw [hf2] at C10
  have CF := Lib.hid (few_call A c l B d es)
  rw [decide_eq_true ⟨hl70, hes300⟩] at CF
  have hv := valid_of hz
  have hel := ends_len hv
  have HPS := Lib.hid hv.pos
  have HND := Lib.hid (fun n hn => node_at hv (n := n) hn)
  have HIN := Lib.hid (look_in hv.zd hv.rb)
  have HLR := Lib.hid hz
  have HG := Lib.hid hg
  have HN := Lib.hid hn
  have HT := Lib.hid hT
  have CO := Lib.hid (fun A' c' B' d' w1 h => own_call A' c' l B' d' es w1 h (by omega) (by omega))
  have CI := Lib.hid (fun D' dc' w1 h hd => ints_call D' dc' need w1 h hd (by omega))
  have CT := Lib.hid (fun T' tc' w1 h hc => ownT_call T' tc' ts w1 h hc (by omega) (fun r hr => by have := hrl r hr; omega))
  clear hg hn hT hf2 hz hv
  go_enter Try.func6, Try.ntmps6
  go_wp2_with fail
  have HS := Lib.hid (DS.start w A l.length c B es.length d 25)
  obtain ⟨-, hx0, hx1⟩ := HS.out
  refine (awake10_any _).mono ?_
  rintro e v1 ⟨rfl, hb⟩
  replace HS := Lib.hid (HS.out.below hb)
  clear hb hx0 hx1
  obtain ⟨-, hx0, hx1⟩ := HS.out
  go_wp2_with fail
  refine (CF.out _).mono ?_
  rintro e v2 ⟨rfl, hb⟩
  replace HS := Lib.hid (HS.out.below hb)
  clear hb hx0 hx1
  obtain ⟨-, hx0, hx1⟩ := HS.out
  go_wp2_with fail
  refine (C10.out _ HS.out.1).mono ?_
  rintro e v3 ⟨rfl, hb⟩
  replace HS := Lib.hid (HS.out.below hb)
  clear hb hx0 hx1
  obtain ⟨-, hx0, hx1⟩ := HS.out
  go_wp2_with fail
  refine (CO.out _ _ _ _ _ (HG.out.below HS.out.1)).mono ?_
  rintro e v4 ⟨A4, c4, B4, d4, rfl, hgo, -, -, hb⟩
  have HGo := Lib.hid hgo
  clear hgo
  replace HS := Lib.hid (HS.out.below hb)
  clear hb hx0 hx1
  obtain ⟨-, hx0, hx1⟩ := HS.out
  go_wp2_with fail
  refine (CI.out _ _ _ (ReadsInt.below HN.out HS.out.1) hnd).mono ?_
  rintro e v5 ⟨D5, dc5, rfl, -, hdo, hb⟩
  have HDo := Lib.hid hdo
  clear hdo
  replace HS := Lib.hid (HS.out.below hb)
  replace HGo := Lib.hid (HGo.out.below hb)
  clear hb hx0 hx1
  obtain ⟨-, hx0, hx1⟩ := HS.out
  go_wp2_with fail
  refine (CT.out _ _ _ (HT.out.below HS.out.1) htc).mono ?_
  rintro e v6 ⟨T6, tc6, rfl, -, hto, hb⟩
  have HTo := Lib.hid hto
  clear hto
  replace HS := Lib.hid (HS.out.below hb)
  replace HGo := Lib.hid (HGo.out.below hb)
  replace HDo := Lib.hid (ReadsInt.below HDo.out hb)
  clear hb hx0 hx1
  obtain ⟨-, hx0, hx1⟩ := HS.out
  go_wp2_with fail
  refine (sCheck_any _ _ l _ _ es _ _ need cores _ _ ts _ ⟨HGo.out, ⟨by omega, by omega⟩, HDo.out, by omega, HTo.out, by omega⟩).mono ?_
  rw [HLR.out]
  rintro e v7 ⟨rfl, hb⟩
  clear HGo HDo HTo
  replace HS := Lib.hid (HS.out.below hb)
  clear hb hx0 hx1
  obtain ⟨-, hx0, hx1⟩ := HS.out
  go_wp2_with fail
  refine (CO.out _ _ _ _ _ (HG.out.below HS.out.1)).mono ?_
  rintro e v8 ⟨A8, c8, B8, d8, rfl, hgo, -, -, hb⟩
  have HGo := Lib.hid hgo
  clear hgo
  replace HS := Lib.hid (HS.out.below hb)
  clear hb hx0 hx1
  obtain ⟨-, hx0, hx1⟩ := HS.out
  go_wp2_with fail
  refine (CI.out _ _ _ (ReadsInt.below HN.out HS.out.1) hnd).mono ?_
  rintro e v9 ⟨D9, dc9, rfl, -, hdo, hb⟩
  have HDo := Lib.hid hdo
  clear hdo
  replace HS := Lib.hid (HS.out.below hb)
  replace HGo := Lib.hid (HGo.out.below hb)
  clear hb hx0 hx1
  obtain ⟨-, hx0, hx1⟩ := HS.out
  go_wp2_with fail
  refine (CT.out _ _ _ (HT.out.below HS.out.1) htc).mono ?_
  rintro e v10 ⟨T10, tc10, rfl, -, hto, hb⟩
  have HTo := Lib.hid hto
  clear hto
  replace HS := Lib.hid (HS.out.below hb)
  replace HGo := Lib.hid (HGo.out.below hb)
  replace HDo := Lib.hid (ReadsInt.below HDo.out hb)
  clear hb hx0 hx1
  obtain ⟨-, hx0, hx1⟩ := HS.out
  go_wp2_with fail
  refine (sEnds_any _ _ l _ _ es _ _ need cores _ _ ts _ ⟨HGo.out, ⟨by omega, by omega⟩, HDo.out, by omega, HTo.out, by omega⟩).mono ?_
  rintro e v11 ⟨E11, ec11, rfl, hec, heo, hb⟩
  have HEo := Lib.hid heo
  clear heo hec HGo HDo HTo
  replace HS := Lib.hid (HS.out.below hb)
  clear hb hx0 hx1
  obtain ⟨-, hx0, hx1⟩ := HS.out
  go_wp2_with fail
  have HEL := Lib.hid hel
  have HE : Hid (ReadsInt v11 .i64 E11 need.length (endsL l es need cores ts)) := by
    have := HEo.out
    rw [HEL.out] at this
    exact this
  generalize endsL l es need cores ts = fs at *
  generalize v11 = u0 at *
  clear hel HEo CO CI C10 CF CT HLR hx0 hx1
  go_loopw [10] (fun nv wr => ∃ n : Nat, n ≤ need.length ∧ nv = .int .i64 n ∧ Hid (DS w w.heap.size A l.length c B es.length d wr) ∧ Hid (ReadsInt wr .i64 E11 need.length fs)) (fun nv _ => need.length - (intOf nv).toNat)
  case atStart => exact ⟨0, Nat.zero_le _, rfl, HS, HE⟩
  case round =>
    clear HS HE
    obtain ⟨n, hn, rfl, HS, HE⟩ := hrel
    by_cases hlt : n < need.length
    · obtain ⟨o, hna⟩ := HND.out n hlt
      have HNA := Lib.hid hna
      have hp := HPS.out n hlt
      obtain ⟨first, many, att, hse, hm0, hm1, hiff, hsum, hfb, hpre⟩ := scan_end hna hp.1
      have HSE := Lib.hid hse
      have HIF := Lib.hid hiff
      have HSM := Lib.hid hsum
      have HPR := Lib.hid hpre
      have hn0 : (0 : Int) ≤ (n : Int) := by omega
      have hnn : (n : Int) < (need.length : Int) := by omega
      clear hna hse hiff hsum hpre
      go_wp2_with fail
      go_loop [11, 12, 13, 14] (fun fv mv av iv => ∃ (i : Nat) (x y z : Int), i ≤ ts.length ∧ iv = .int .i64 i ∧ fv = .int .i64 x ∧ mv = .int .i64 y ∧ av = .int .i64 z ∧ Hid (scanSt o i = (x, y, z))) (fun _ _ _ iv => ts.length - (intOf iv).toNat)
      case atStart => exact ⟨0, -1, 0, -1, Nat.zero_le _, rfl, rfl, rfl, rfl, scan_start o⟩
      case round =>
        obtain ⟨i, x, y, z, hi, rfl, rfl, rfl, rfl, HQ⟩ := hrel
        by_cases hit : i < ts.length
        · obtain ⟨ta, hta, hcs⟩ := (HT.out.below HS.out.1) (by omega)
          subst hta
          obtain ⟨R, rc, hrc, hrl2, hrr⟩ := hcs i hit
          have HRR := Lib.hid hrr
          have hr12 := hrl _ (mem_getDL hit)
          have HMISS := Lib.hid (fun j hj hx => rowSt_miss HNA.out (i := i) (j := j) hit hj hx)
          have HHIT := Lib.hid (fun j hj hx => rowSt_hit HNA.out (i := i) (j := j) hit hj hx)
          have HEND := Lib.hid (rowSt_end HNA.out (i := i) hit)
          have HQ0 : Hid (rowSt o i 0 = (x, y, z)) := by show _ = _; rw [rowSt_start]; exact HQ.out
          have hii : (i : Int) < (ts.length : Int) := by omega
          have hi0 : (0 : Int) ≤ (i : Int) := by omega
          generalize ts.getD i [] = row at *
          clear hcs hrr HQ
          go_wp2_with fail
          go_loop [11, 12, 13, 15] (fun fv mv av cv => ∃ (j : Nat) (x y z : Int), j ≤ row.length ∧ cv = .int .i64 j ∧ fv = .int .i64 x ∧ mv = .int .i64 y ∧ av = .int .i64 z ∧ Hid (rowSt o i j = (x, y, z))) (fun _ _ _ cv => row.length - (intOf cv).toNat)
          case atStart => exact ⟨0, x, y, z, Nat.zero_le _, rfl, rfl, rfl, rfl, HQ0⟩
          case round =>
            clear HQ0
            obtain ⟨j, x, y, z, hj, rfl, rfl, rfl, rfl, HQ⟩ := hrel
            by_cases hjl : j < row.length
            · obtain ⟨ra, hra, hrs⟩ := HRR.out.2.2 (by omega)
              subst hra
              have hrx := hrs j hjl
              have hjj : (j : Int) < (row.length : Int) := by omega
              have hj0 : (0 : Int) ≤ (j : Int) := by omega
              clear hrs
              by_cases hx : row.getD j 0 = (n : Int)
              · rw [hx] at hrx
                rcases HHIT.out j hjl hx with ⟨h1, h2⟩ | ⟨f, hf, h1, h2⟩
                · obtain ⟨e1, e2, e3⟩ := trip (HQ.out.symm.trans h1)
                  subst e1 e2 e3
                  have HQ2 := Lib.hid h2
                  clear h1 h2 hx HQ
                  go_wp2_with fail
                  go_round
                  case rel => exact ⟨j + 1, _, _, _, by omega, by go_num, rfl, rfl, rfl, HQ2⟩
                  case measure => simp [intOf]; omega
                · obtain ⟨e1, e2, e3⟩ := trip (HQ.out.symm.trans h1)
                  subst e1 e2 e3
                  have HQ2 := Lib.hid h2
                  have hf0 : (0 : Int) ≤ (f : Int) := by omega
                  have hfi : (f : Int) < (i : Int) := by omega
                  clear h1 h2 hx HQ
                  go_wp2_with fail
                  go_round
                  case rel => exact ⟨j + 1, _, _, _, by omega, by go_num, rfl, rfl, rfl, HQ2⟩
                  case measure => simp [intOf]; omega
              · have HQ2 : Hid (rowSt o i (j + 1) = (x, y, z)) := by show _ = _; rw [HMISS.out j hjl hx]; exact HQ.out
                have hxb : (row.getD j 0 != (n : Int)) = true := by simpa using hx
                clear hx HQ
                generalize row.getD j 0 = xv at *
                go_wp2_with fail
                go_round
                case rel => exact ⟨j + 1, x, y, z, by omega, by go_num, rfl, rfl, rfl, HQ2⟩
                case measure => simp [intOf]; omega
            · obtain rfl : j = row.length := by omega
              have HQ2 : Hid (scanSt o (i + 1) = (x, y, z)) := by show _ = _; rw [← HEND.out]; exact HQ.out
              have hjn : ¬ ((row.length : Int) < (row.length : Int)) := by omega
              clear HQ
              go_wp2_with fail
              go_round
              case rel => exact ⟨i + 1, x, y, z, by omega, by go_num, rfl, rfl, rfl, HQ2⟩
              case measure => simp [intOf]; omega
        · obtain rfl : i = ts.length := by omega
          obtain ⟨e1, e2, e3⟩ := trip (HQ.out.symm.trans HSE.out)
          subst e1 e2 e3
          have hin : ¬ ((ts.length : Int) < (ts.length : Int)) := by omega
          obtain ⟨ea, hea, hec⟩ := HE.out.2.2 (by omega)
          subst hea
          have hey := hec n hlt
          obtain ⟨na, hna, hnc⟩ := (ReadsInt.below HN.out HS.out.1).2.2 (by omega)
          subst hna
          have hnq := hnc n hlt
          have HBD := Lib.hid (fun nq => below_drewN (Below.refl wr.heap.size wr) nq)
          have a1 : IntKind.i64.wrap (x + need.getD n 0) = x + need.getD n 0 := by rw [IntKind.wrap_i64]; omega
          have A1 := Lib.hid a1
          clear hec hnc HQ HSE a1
          generalize hqv : need.getD n 0 = qv at *
          generalize hyv : fs.getD n 0 = yv at *
          clear hqv hyv
          by_cases hy : 0 ≤ yv
          · have hmq : y = qv := HIF.out.1 hy
            have hys : yv = x + qv := HSM.out hy
            subst hmq
            subst hys
            have a1 := A1.out
            have d1 : decide (0 ≤ x + y) = true := decide_eq_true hy
            clear HIF HSM A1
            go_wp2_with fail
            go_quiet (fail)
            have HS2 := Lib.hid (HS.out.below (HBD.out nq))
            have HE2 := Lib.hid (ReadsInt.below HE.out (HBD.out nq))
            clear HS HE
            generalize wr.drewN nq = w2 at *
            obtain ⟨-, hx0, hx1⟩ := HS2.out
            go_wp2_with fail
            clear hx0 hx1
            clear hey hnq HBD
            go_loop [16] (fun kv => ∃ k : Nat, k ≤ es.length ∧ kv = .int .i64 k) (fun kv => es.length - (intOf kv).toNat)
            case atStart => exact ⟨0, Nat.zero_le _, rfl⟩
            case round =>
              obtain ⟨k, hk, rfl⟩ := hrel
              obtain ⟨-, hx0, hx1⟩ := HS2.out
              have hk0 : (0 : Int) ≤ (k : Int) := by omega
              by_cases hfi : 0 ≤ x
              · by_cases hkl : k < es.length
                · obtain ⟨ba, hba, hbc⟩ := (HG.out.2.2.below HS2.out.1) (by omega)
                  subst hba
                  obtain ⟨hb1, hb2⟩ := hbc k hkl
                  have hmem : es.getD k (0, 0) ∈ es := by rw [List.getD_eq_getElem?_getD, List.getElem?_eq_getElem hkl]; exact List.getElem_mem hkl
                  have hin := HIN.out _ hmem
                  have hpr := HPR.out hfi _ hmem
                  have hkk : (k : Int) < (es.length : Int) := by omega
                  clear hbc hmem
                  obtain ⟨⟨e1, e2⟩, he12⟩ : ∃ e, e = es.getD k (0, 0) := ⟨_, rfl⟩
                  rw [← he12] at hb1 hb2 hin hpr
                  dsimp only at hb1 hb2 hin hpr
                  clear he12
                  obtain ⟨fr, rfl⟩ : ∃ fr : Nat, e1 = (fr : Int) := ⟨e1.toNat, by omega⟩
                  obtain ⟨ea2, hea2, hec2⟩ := HE2.out.2.2 (by omega)
                  cases hea2
                  have hef := hec2 fr (by omega)
                  rw [Int.toNat_natCast] at hpr
                  have hfr1 : (fr : Int) < (need.length : Int) := by omega
                  have hfr0 : (0 : Int) ≤ (fr : Int) := by omega
                  clear hec2 hin
                  generalize fs.getD fr 0 = pv at *
                  by_cases hto : e2 = (n : Int)
                  · obtain ⟨hp1, hp2⟩ := hpr hto
                    subst hto
                    clear hpr
                    go_wp2_with fail
                    go_round
                    case rel => exact ⟨k + 1, by omega, by go_num⟩
                    case measure => simp [intOf]; omega
                  · have htb : (e2 == (n : Int)) = false := by simpa using hto
                    clear hpr hto
                    go_wp2_with fail
                    go_round
                    case rel => exact ⟨k + 1, by omega, by go_num⟩
                    case measure => simp [intOf]; omega
                · obtain rfl : k = es.length := by omega
                  have hkn : ¬ ((es.length : Int) < (es.length : Int)) := by omega
                  go_wp2_with fail
                  go_roundw
                  case rel => exact ⟨n + 1, by omega, by go_num, HS2, HE2⟩
                  case measure => simp [intOf]; omega
              · have hfneg : ¬ (0 ≤ x) := hfi
                by_cases hkl : k < es.length
                · have hkk : (k : Int) < (es.length : Int) := by omega
                  go_wp2_with fail
                  go_roundw
                  case rel => exact ⟨n + 1, by omega, by go_num, HS2, HE2⟩
                  case measure => simp [intOf]; omega
                · have hkn : ¬ ((k : Int) < (es.length : Int)) := by omega
                  go_wp2_with fail
                  go_roundw
                  case rel => exact ⟨n + 1, by omega, by go_num, HS2, HE2⟩
                  case measure => simp [intOf]; omega
          · have hmq : ¬ y = qv := fun h => hy (HIF.out.2 h)
            have hmb : (y == qv) = false := by simpa using hmq
            have d1 : decide (0 ≤ yv) = false := decide_eq_false hy
            have d2 : decide (qv < y) = false := decide_eq_false (by omega)
            clear HIF HSM A1 hmq
            go_wp2_with fail
            go_quiet (fail)
            have HS2 := Lib.hid (HS.out.below (HBD.out nq))
            have HE2 := Lib.hid (ReadsInt.below HE.out (HBD.out nq))
            clear HS HE
            generalize wr.drewN nq = w2 at *
            obtain ⟨-, hx0, hx1⟩ := HS2.out
            go_wp2_with fail
            clear hx0 hx1
            clear hey hnq HBD
            go_loop [16] (fun kv => ∃ k : Nat, k ≤ es.length ∧ kv = .int .i64 k) (fun kv => es.length - (intOf kv).toNat)
            case atStart => exact ⟨0, Nat.zero_le _, rfl⟩
            case round =>
              obtain ⟨k, hk, rfl⟩ := hrel
              obtain ⟨-, hx0, hx1⟩ := HS2.out
              have hk0 : (0 : Int) ≤ (k : Int) := by omega
              by_cases hfi : 0 ≤ x
              · by_cases hkl : k < es.length
                · obtain ⟨ba, hba, hbc⟩ := (HG.out.2.2.below HS2.out.1) (by omega)
                  subst hba
                  obtain ⟨hb1, hb2⟩ := hbc k hkl
                  have hmem : es.getD k (0, 0) ∈ es := by rw [List.getD_eq_getElem?_getD, List.getElem?_eq_getElem hkl]; exact List.getElem_mem hkl
                  have hin := HIN.out _ hmem
                  have hpr := HPR.out hfi _ hmem
                  have hkk : (k : Int) < (es.length : Int) := by omega
                  clear hbc hmem
                  obtain ⟨⟨e1, e2⟩, he12⟩ : ∃ e, e = es.getD k (0, 0) := ⟨_, rfl⟩
                  rw [← he12] at hb1 hb2 hin hpr
                  dsimp only at hb1 hb2 hin hpr
                  clear he12
                  obtain ⟨fr, rfl⟩ : ∃ fr : Nat, e1 = (fr : Int) := ⟨e1.toNat, by omega⟩
                  obtain ⟨ea2, hea2, hec2⟩ := HE2.out.2.2 (by omega)
                  cases hea2
                  have hef := hec2 fr (by omega)
                  rw [Int.toNat_natCast] at hpr
                  have hfr1 : (fr : Int) < (need.length : Int) := by omega
                  have hfr0 : (0 : Int) ≤ (fr : Int) := by omega
                  clear hec2 hin
                  generalize fs.getD fr 0 = pv at *
                  by_cases hto : e2 = (n : Int)
                  · obtain ⟨hp1, hp2⟩ := hpr hto
                    subst hto
                    clear hpr
                    go_wp2_with fail
                    go_round
                    case rel => exact ⟨k + 1, by omega, by go_num⟩
                    case measure => simp [intOf]; omega
                  · have htb : (e2 == (n : Int)) = false := by simpa using hto
                    clear hpr hto
                    go_wp2_with fail
                    go_round
                    case rel => exact ⟨k + 1, by omega, by go_num⟩
                    case measure => simp [intOf]; omega
                · obtain rfl : k = es.length := by omega
                  have hkn : ¬ ((es.length : Int) < (es.length : Int)) := by omega
                  go_wp2_with fail
                  go_roundw
                  case rel => exact ⟨n + 1, by omega, by go_num, HS2, HE2⟩
                  case measure => simp [intOf]; omega
              · have hfneg : ¬ (0 ≤ x) := hfi
                by_cases hkl : k < es.length
                · have hkk : (k : Int) < (es.length : Int) := by omega
                  go_wp2_with fail
                  go_roundw
                  case rel => exact ⟨n + 1, by omega, by go_num, HS2, HE2⟩
                  case measure => simp [intOf]; omega
                · have hkn : ¬ ((k : Int) < (es.length : Int)) := by omega
                  go_wp2_with fail
                  go_roundw
                  case rel => exact ⟨n + 1, by omega, by go_num, HS2, HE2⟩
                  case measure => simp [intOf]; omega
    · obtain rfl : n = need.length := by omega
      have hn2 : ¬ ((need.length : Int) < (need.length : Int)) := by omega
      go_wp2_with fail
      go_ret
      exact ⟨rfl, HS.out.1⟩
theorem SchedOrder_walk (A : Option Addr) (c : Nat) (l : List Int) (B : Option Addr) (d : Nat) (es : List (Int × Int)) (D : Option Addr) (dc : Nat) (need : List Int) (cores : Int) (T : Option Addr) (tc : Nat) (ts : List (List Int)) (w : World) (h0 : DagIn w A c l B d es) (h1 : NeedIn w D dc need) (h2 : (Lit.int .i64 cores).wf = true) (h3 : TrIn w T tc ts) :
    Calls Try.prog 6 #[.agg #[.slice A l.length c, .slice B es.length d], .slice D need.length dc, .int .i64 cores, .slice T ts.length tc] w fun e w' => e = .returned (.bool true) ∧ Below w.heap.size w w' := by
  by_cases hf : l.length ≤ 70 ∧ es.length ≤ 300
  · by_cases hf2 : fewB need ts = true
    · by_cases hz : lookR l es need cores ts = 0
      · exact sord_main A c l B d es D dc need cores T tc ts w (gr_in h0) h1.2.1 h1.1 h3.2.2.1 h3.2.1 h3.1 hf hf2 hz
      · exact sord_no A c l B d es D dc need cores T tc ts w (gr_in h0) h1.2.1 h1.1 h3.2.2.1 h3.2.1 h3.1 hf hf2 (by simpa using hz)
    · exact sord_few A c l B d es D dc need cores T tc ts w (gr_in h0) h1.2.1 h1.1 h3.2.2.1 h3.2.1 h3.1 (.inr ⟨decide_eq_true hf, by simpa using hf2⟩)
  · exact sord_few A c l B d es D dc need cores T tc ts w (gr_in h0) h1.2.1 h1.1 h3.2.2.1 h3.2.1 h3.1 (.inl (decide_eq_false hf))
end Go.Proofs.Ytnnbgfjokbaepaa
