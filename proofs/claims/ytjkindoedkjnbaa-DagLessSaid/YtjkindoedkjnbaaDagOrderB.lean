/- dag.order: the walk. -/
import Derived.Test.YtjkindoedkjnbaaDagOrderA
set_option linter.unusedVariables false
set_option linter.unusedSimpArgs false
namespace Go.Proofs.Ytjkindoedkjnbaa
open Go.RowKit Go.Sort
open Go.Proofs.YtjkindoedkjnbaaW.PrintWords
open DagPlain

set_option maxHeartbeats 4000000 in
theorem order_any (A : Option Addr) (c n : Nat) (B : Option Addr) (d : Nat) (es : List (Int × Int)) (w : World) (hn : n ≤ 64) (hm : es.length ≤ 256) (hE : EdR w B es) (hin : ∀ e ∈ es, (0 ≤ e.1 ∧ e.1 < n) ∧ 0 ≤ e.2 ∧ e.2 < n) :
    Calls Try.prog 35 #[.agg #[.slice A n c, .slice B es.length d]] w (OrderPost w (orderL n es)) := by
  obtain ⟨i0, hi, hz0, hz1, hz2⟩ := info_parts info4'
  obtain ⟨j0, ki, kz0, kz1, kz2⟩ := info_parts info3'
  have HE := Lib.hid hE
  have HIN := Lib.hid hin
  clear hE hin
  go_enter Try.func35, Try.ntmps35
  go_wp2
  go_step3
  go_wp2_with (at_make; refine wpList_make_full _ rfl _ _ 36 rfl w.heap.size 4 i0 (.bool false) 1 Try.underlying36 hi hz0 hz1 _ _ _ _ n rfl rfl rfl rfl (by rw [hz2]; omega) (by unfold maxLen; omega) (by simp) ?_)
  intro w1 hown hgrow
  have HS0 : Hid (OS w A n c B es.length d [] (.slice none 0 0) w1) := OS.start hown hgrow
  clear hown hgrow
  go_wp2
  go_step3
  go_wp2
  go_loopg [4] n (fun g v wr => ∃ (out : List Int) (v0 : Value), v0 = v ∧ out.length + g = n ∧ Hid (OS w A n c B es.length d out v0 wr) ∧ Hid (orderGo n es g out = orderL n es))
  case atStart => exact ⟨[], _, rfl, by simp, HS0, rfl⟩
  case round =>
    clear HS0
    obtain ⟨out, v0, rfl, hg, HS, HR⟩ := hrel
    obtain ⟨A', c', rfl⟩ := HS.out.shape
    obtain ⟨hb1, hb2, hc0, hc1, -, -, -⟩ := HS.out
    clear hb1
    cases gk with
    | zero =>
      have hlt : (out.length : Int) = (n : Int) := by omega
      go_wp2_with fail
      rw [Exit.noGoto_ret]; go_ret2
      have HZ : orderL n es = some out := HR.out.symm
      rw [HZ]
      obtain ⟨hb1, -, -, -, -, -, h7⟩ := HS.out
      exact ⟨_, rfl, own_weaken h7 (by omega), hb1⟩
    | succ g =>
      have hlt : (out.length : Int) < (n : Int) := by omega
      go_wp2_with fail
      go_step3
      go_wp2_with fail
      go_step3
      go_wp2_with fail
      go_loopg [4, 22] n (fun g2 v i wr => ∃ (j : Nat), .slice A' out.length c' = v ∧ i = .int .i64 j ∧ j + g2 = n ∧ Hid (OS w A n c B es.length d out (.slice A' out.length c') wr) ∧ Hid (∀ i : Nat, i < j → free es out i = false))
      case atStart => exact ⟨0, rfl, rfl, by omega, HS, by show ∀ i, i < 0 → _; omega⟩
      case round =>
        clear HS hc0 hc1 hb2
        obtain ⟨j, rfl, rfl, hj, HS, HF⟩ := hrel
        cases gk with
        | zero =>
          have hjn : (j : Int) = (n : Int) := by omega
          have HZ : Hid (orderL n es = none) := by
            show orderL n es = none
            rw [← HR.out]
            exact next_none fun i hi => HF.out i (by omega)
          clear HR HF
          go_wp2_with fail
          rw [Exit.noGoto_ret]
          go_wp2_with fail
          rw [Exit.noGoto_ret]
          go_ret2
          rw [HZ.out]
          exact ⟨_, rfl, own_nil _ _ _ _, HS.out.1⟩
        | succ g2 =>
          have hlt : (j : Int) < (n : Int) := by omega
          obtain ⟨hb1, hb2, hc0, hc1, hdn, hfz, -⟩ := HS.out
          have hdj := hdn j (by omega)
          clear hb1 hdn hfz
          cases ho : out.contains (j : Int) with
          | true =>
            rw [ho] at hdj
            have HF2 : Hid (∀ i : Nat, i < j + 1 → free es out i = false) := by
              show ∀ i : Nat, i < j + 1 → _
              intro i hi
              by_cases e : i = j
              · rw [e]; exact free_in ho
              · exact HF.out i (by omega)
            clear ho
            go_wp2_with fail
            go_roundg g2
            case rel => exact ⟨j + 1, rfl, by go_num, by omega, HS, HF2⟩
            case measure => omega
          | false =>
            rw [ho] at hdj
            have HOJ := Lib.hid ho
            clear ho
            go_wp2_with fail
            go_loopg [32] es.length (fun g3 i wr => ∃ (k : Nat), i = .int .i64 k ∧ k + g3 = es.length ∧ Hid (OS w A n c B es.length d out (.slice A' out.length c') wr) ∧ Hid (∀ i : Nat, i < k → ((es.getD i (0, 0)).2 != (j : Int) || out.contains (es.getD i (0, 0)).1) = true))
            case atStart => exact ⟨0, rfl, by omega, HS, by show ∀ i, i < 0 → _; omega⟩
            case round =>
              clear HS hc0 hc1 hb2 hdj
              obtain ⟨k, rfl, hk, HS, HG⟩ := hrel
              cases gk with
              | zero =>
                have hkn : (k : Int) = (es.length : Int) := by omega
                obtain ⟨hb1, hb2, hc0, hc1, hdn, hfz, -⟩ := HS.out
                have hdj := hdn j (by omega)
                have hfj := hfz j (by omega)
                clear hb1 hdn hfz
                have hlo : out.length < n := by omega
                go_wp2_with (at_builtin; refine wpList_append_own _ rfl _ _ 22 rfl (w.heap.size + 2) 3 j0 (.int .i64 0) 1 8 Try.underlying22 ki kz0 kz1 kz2 rfl (by decide) _ out.length _ rfl (HS.out.row j _) ⟨wr.heap.size, 0, none⟩ 1 1 [.int .i64 (j : Int)] rfl rfl (by have := cell_one_new (wr.setCell ⟨w.heap.size + 1, j, none⟩ (.bool true)) (.int .i64 (j : Int)) 3; simpa using this) (by simp [Value.oneCell']) (by unfold maxLen; omega) (by omega) (by simp; omega) ?_)
                intro v3 w3 hown3 hgrow3 _
                have HS3 : Hid (OS w A n c B es.length d (out ++ [(j : Int)]) v3 w3) := HS.out.push j (by omega) _ hown3 hgrow3
                have HR3 : Hid (orderGo n es g (out ++ [(j : Int)]) = orderL n es) := by
                  show _ = _
                  rw [← HR.out]
                  exact (next_some (by omega) (free_yes HOJ.out fun k' hk' => HG.out k' (by omega)) HF.out).symm
                clear hown3 hgrow3 HS HR
                go_wp2_with fail
                rw [Exit.noGoto_exit]
                go_wp2_with fail
                go_roundg g
                case rel => exact ⟨out ++ [(j : Int)], v3, rfl, by simp; omega, HS3, HR3⟩
                case measure => omega
              | succ g3 =>
                have hlt3 : (k : Int) < (es.length : Int) := by omega
                obtain ⟨ad, rfl, hcs⟩ := HE.out (by omega)
                obtain ⟨hr1, hr2⟩ := hcs k (by omega)
                have hi1 := HIN.out (es.getD k (0, 0)) (by rw [List.getD_eq_getElem?_getD, List.getElem?_eq_getElem (by omega)]; exact List.getElem_mem _)
                have hi1' := hi1
                obtain ⟨⟨hf0, hf1⟩, ht0, ht1⟩ := hi1'
                obtain ⟨f, hf⟩ : ∃ f : Nat, (f : Int) = (es.getD k (0, 0)).1 := ⟨(es.getD k (0, 0)).1.toNat, by omega⟩
                obtain ⟨t, ht⟩ : ∃ t : Nat, (t : Int) = (es.getD k (0, 0)).2 := ⟨(es.getD k (0, 0)).2.toNat, by omega⟩
                rw [← hf] at hr1 hf0 hf1
                rw [← ht] at hr2 ht0 ht1
                have HFT : Hid ((es.getD k (0, 0)).1 = (f : Int) ∧ (es.getD k (0, 0)).2 = (t : Int)) := ⟨hf.symm, ht.symm⟩
                obtain ⟨hb1, hb2, hc0, hc1, hdn, hfz, -⟩ := HS.out
                have hb1s := hb1.size
                have hrr1 : wr.cell? (ad.add (k * 2)) = some (.int .i64 (f : Int)) := by rw [hb1.cell (block_lt_of_cell hr1)]; exact hr1
                have hrr2 : wr.cell? ⟨(ad.add (k * 2)).block, (ad.add (k * 2)).off + 1, none⟩ = some (.int .i64 (t : Int)) := by rw [hb1.cell (block_lt_of_cell hr2)]; exact hr2
                have hdf := hdn f (by omega)
                have HB := Lib.hid hb1
                clear hb1 hdn hfz hcs hr1 hr2 hi1 hf ht
                by_cases htj : t = j
                · subst htj
                  cases hof : out.contains (f : Int) with
                  | true =>
                    rw [hof] at hdf
                    have HG2 : Hid (∀ i : Nat, i < k + 1 → ((es.getD i (0, 0)).2 != (t : Int) || out.contains (es.getD i (0, 0)).1) = true) := by
                      show ∀ i : Nat, i < k + 1 → _
                      intro i hi
                      by_cases e : i = k
                      · rw [e, HFT.out.1, HFT.out.2, hof]; simp
                      · exact HG.out i (by omega)
                    clear hof
                    go_wp2_with fail
                    go_roundg g3
                    case rel => exact ⟨k + 1, by go_num, by omega, HS.out.alloc _, HG2⟩
                    case measure => omega
                  | false =>
                    rw [hof] at hdf
                    have HF2 : Hid (∀ i : Nat, i < t + 1 → free es out i = false) := by
                      show ∀ i : Nat, i < t + 1 → _
                      intro i hi
                      by_cases e : i = t
                      · rw [e]; exact free_not (k := k) (by omega) HFT.out.2 (by rw [HFT.out.1]; exact hof)
                      · exact HF.out i (by omega)
                    clear hof
                    go_wp2_with fail
                    go_roundg g2
                    case rel => exact ⟨t + 1, rfl, by go_num, by omega, HS.out.alloc _, HF2⟩
                    case measure => omega
                · have htj' : ¬ (t : Int) = (j : Int) := by omega
                  have HG2 : Hid (∀ i : Nat, i < k + 1 → ((es.getD i (0, 0)).2 != (j : Int) || out.contains (es.getD i (0, 0)).1) = true) := by
                    show ∀ i : Nat, i < k + 1 → _
                    intro i hi
                    by_cases e : i = k
                    · rw [e, HFT.out.1, HFT.out.2, show ((t : Int) != (j : Int)) = true from bne_iff_ne.2 htj']; rfl
                    · exact HG.out i (by omega)
                  clear hdf
                  go_wp2_with fail
                  go_roundg g3
                  case rel => exact ⟨k + 1, by go_num, by omega, HS.out.alloc _, HG2⟩
                  case measure => omega
end Go.Proofs.Ytjkindoedkjnbaa
