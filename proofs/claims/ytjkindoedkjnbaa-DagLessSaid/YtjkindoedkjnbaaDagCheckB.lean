/- dag.Check. -/
import Derived.Test.YtjkindoedkjnbaaDagOrderB
import Derived.Test.YtjkindoedkjnbaaDagCheckA
import Derived.Deep.QuietTactic
import Derived.BigQuiet
import Derived.Lib.QuietBelow
set_option linter.unusedVariables false
set_option linter.unusedSimpArgs false
namespace Go.Proofs.Ytjkindoedkjnbaa
open Go.RowKit Go.Sort
open Go.Proofs.YtjkindoedkjnbaaW.PrintWords
open DagPlain

theorem regrown_calls {P : Program} {f : FuncId} {args : Array Value} {w : World} {v : Value} (h : ∀ W, Below w.heap.size w W → Calls P f args W fun e w' => e = .returned v ∧ Below W.heap.size W w') (d : Nat) (os : Array Obj) :
    Calls P f args (grow (redrawn w d) os) fun e w'' => e = .returned v ∧ ∃ p : Regrown, w'' = grow (redrawn w p.d) p.os := Calls.regrown_of (h _ (below_regrown w d os))
def CheckPost (w : World) (r : Int) (e : Ending) (w' : World) : Prop := e = .returned (.int .i64 r) ∧ Below w.heap.size w w'
set_option maxHeartbeats 1000000 in
theorem check_any (A : Option Addr) (c : Nat) (l : List Int) (B : Option Addr) (d : Nat) (es : List (Int × Int)) (w : World) (hl : ReadsInt w .i64 A l.length l) (hn1 : l.length ≤ 1000) (hm1 : es.length ≤ 1000) (hE : EdR w B es) (hcd : es.length ≤ d) :
    Calls Try.prog 12 #[.agg #[.slice A l.length c, .slice B es.length d]] w (CheckPost w (checkL l es)) := by
  have HE := Lib.hid hE
  have HL := Lib.hid hl
  clear hE hl
  by_cases hn : l.length ≤ 64
  · by_cases hm : es.length ≤ 256
    · have hnI : (l.length : Int) ≤ 64 := by omega
      have hmI : (es.length : Int) ≤ 256 := by omega
      have C1 := Lib.hid (fun w1 h => cont_any A c l w1 h hn1)
      cases ho : l.any oddW with
      | true =>
        have HR : Hid (checkL l es = 41) := by show checkL l es = 41; unfold checkL; rw [if_neg (by omega), if_pos ho]
        have HO := Lib.hid ho
        clear ho
        go_enter Try.func12, Try.ntmps12
        go_wp2_with fail
        refine (C1.out _ (HL.out.below ((Below.refl _ _).alloc (Nat.le_refl _) _))).mono ?_
        rintro e w1 ⟨rfl, rfl⟩
        rw [HO.out]
        go_wp2_with fail
        go_ret
        exact ⟨by rw [HR.out]; rfl, (Below.refl _ _).alloc (Nat.le_refl _) _⟩
      | false =>
        have HO := Lib.hid ho
        go_enter Try.func12, Try.ntmps12
        go_wp2_with fail
        refine (C1.out _ (HL.out.below ((Below.refl _ _).alloc (Nat.le_refl _) _))).mono ?_
        rintro e w1 ⟨rfl, rfl⟩
        rw [HO.out]
        clear ho
        go_wp2_with fail
        obtain ⟨w0, hw0⟩ : ∃ w0, w0 = w.alloc (Obj.cells #[.slice A l.length c, .slice B es.length d] 25) := ⟨_, rfl⟩
        have hb0 : Below w.heap.size w w0 := by rw [hw0]; exact (Below.refl _ _).alloc (Nat.le_refl _) _
        have hx0 : w0.cell? ⟨w.heap.size, 0, none⟩ = some (.slice A l.length c) := by rw [hw0]; simp
        have hy0 : w0.cell? ⟨w.heap.size, 1, none⟩ = some (.slice B es.length d) := by rw [hw0]; simp
        rw [← hw0]
        clear hw0
        have HB0 := Lib.hid hb0
        have HX0 : Hid (w0.cell? ⟨w.heap.size, 0, none⟩ = some (.slice A l.length c) ∧ w0.cell? ⟨w.heap.size, 1, none⟩ = some (.slice B es.length d)) := ⟨hx0, hy0⟩
        clear hb0 hx0 hy0
        go_loopw [25] (fun i wr => ∃ k : Nat, k ≤ es.length ∧ i = .int .i64 k ∧ Hid (∀ j, j < k → oddE l.length es j = false) ∧ Hid (Below w0.heap.size w0 wr)) (fun i _ => es.length - (intOf i).toNat)
        case atStart => exact ⟨0, Nat.zero_le _, rfl, by show ∀ j, j < 0 → _; omega, Below.refl _ _⟩
        case round =>
          obtain ⟨k, hk, rfl, HN, HBW⟩ := hrel
          by_cases hlt : k < es.length
          · obtain ⟨ad, rfl, hcs⟩ := HE.out (by omega)
            obtain ⟨hr1, hr2⟩ := hcs k (by omega)
            obtain ⟨⟨f, t⟩, hft⟩ : ∃ p, p = es.getD k (0, 0) := ⟨_, rfl⟩
            rw [← hft] at hr1 hr2
            dsimp only at hr1 hr2
            have hbw : Below w.heap.size w wr := HB0.out.trans (HBW.out.mono HB0.out.size)
            have hrr1 : wr.cell? (ad.add (k * 2)) = some (.int .i64 f) := by rw [hbw.cell (block_lt_of_cell hr1)]; exact hr1
            have hrr2 : wr.cell? ⟨(ad.add (k * 2)).block, (ad.add (k * 2)).off + 1, none⟩ = some (.int .i64 t) := by rw [hbw.cell (block_lt_of_cell hr2)]; exact hr2
            have HBW2 := Lib.hid hbw
            have HFT := Lib.hid hft
            have hltI : (k : Int) < (es.length : Int) := by omega
            have hkd : (k : Int) ≤ (d : Int) := by omega
            have hkd' : k ≤ d := by omega
            clear hcs hft hr1 hr2 hbw
            go_wp2_with fail
            obtain ⟨W, hW⟩ : ∃ W, W = wr.alloc (Obj.cells #[.int .i64 f, .int .i64 t] 40) := ⟨_, rfl⟩
            have hbW : Below wr.heap.size wr W := by rw [hW]; exact (Below.refl _ _).alloc (Nat.le_refl _) _
            have hf0 : W.cell? ⟨wr.heap.size, 0, none⟩ = some (.int .i64 f) := by rw [hW]; simp
            have ht0 : W.cell? ⟨wr.heap.size, 1, none⟩ = some (.int .i64 t) := by rw [hW]; simp
            rw [← hW]
            clear hW
            have hbW0 : Below w0.heap.size w0 W := HBW.out.trans (hbW.mono HBW.out.size)
            have hA0 : W.cell? ⟨w.heap.size, 0, none⟩ = some (.slice A l.length c) := by rw [hbW0.cell (block_lt_of_cell HX0.out.1)]; exact HX0.out.1
            have hA1 : W.cell? ⟨w.heap.size, 1, none⟩ = some (.slice (some ad) es.length d) := by rw [hbW0.cell (block_lt_of_cell HX0.out.2)]; exact HX0.out.2
            have hbwW : Below w.heap.size w W := HBW2.out.trans (hbW.mono HBW2.out.size)
            have CT : ∀ x d' os', _ := fun x => regrown_calls (w := W) (fun W2 hB => (thereC_any ⟨w.heap.size, 0, none⟩ A l.length c x W2 (by rw [hB.cell (block_lt_of_cell hA0)]; exact hA0) hn1).mono fun e w' ⟨he, hw⟩ => ⟨he, by subst hw; exact Below.refl _ _⟩)
            have CE : ∀ d' os', Calls Try.prog 34 #[.slice (some ad) k d, .agg #[.int .i64 f, .int .i64 t]] (grow (redrawn W d') os') _ := regrown_calls (w := W) (fun W2 hB => by
              have := contE_any (some ad) d (es.take k) f t W2 ((HE.out.take k).below (hbwW.trans (hB.mono hbwW.size))) (by rw [List.length_take]; omega)
              rw [List.length_take, Nat.min_eq_left hk] at this
              exact this)
            have CF := CT f
            have CT := CT t
            have HF0 := fun d' os' => cell_regrown hf0 d' os'
            have HT0 := fun d' os' => cell_regrown ht0 d' os'
            have HA1 := fun d' os' => cell_regrown hA1 d' os'
            have HBW3 := Lib.hid hbW0
            clear hbW hf0 ht0 hA0 hA1 hbwW hrr1 hrr2 hbW0
            cases hb1 : thereB l.length f with
            | false =>
              rw [hb1] at CF
              have HR : Hid (checkL l es = 42) := by
                show checkL l es = 42
                unfold checkL
                rw [if_neg (by omega), if_neg (by rw [HO.out]; simp), if_pos (oddEs_yes hlt (by unfold oddE; rw [← HFT.out]; rw [hb1]; rfl))]
              clear hb1
              refine wp_region_quiet_below (by kernel_rfl) (by kernel_rfl) ?_
              repeat (any_goals (first | go_big_quiet_step ((with_reducible (first | exact CF _ _ | exact CT _ _ | exact CE _ _))) | quiet_step ((with_reducible (first | exact CF _ _ | exact CT _ _ | exact CE _ _)))))
              refine wpQuiet_nil ?_
              rintro _ ⟨⟨dq, osq⟩, rfl⟩
              have HB3 := Lib.hid (HBW3.out.trans ((below_regrown W dq osq).mono HBW3.out.size))
              clear CF CT CE HF0 HT0 HA1
              generalize grow (redrawn W dq) osq = w4 at *
              go_wp2_with fail
              go_ret
              exact ⟨by rw [HR.out]; rfl, HB0.out.trans (HB3.out.mono HB0.out.size)⟩
            | true =>
              rw [hb1] at CF
              cases hb2 : thereB l.length t with
              | false =>
                rw [hb2] at CT
                have HR : Hid (checkL l es = 42) := by
                  show checkL l es = 42
                  unfold checkL
                  rw [if_neg (by omega), if_neg (by rw [HO.out]; simp), if_pos (oddEs_yes hlt (by unfold oddE; rw [← HFT.out]; rw [hb2]; simp))]
                clear hb1 hb2
                refine wp_region_quiet_below (by kernel_rfl) (by kernel_rfl) ?_
                repeat (any_goals (first | go_big_quiet_step ((with_reducible (first | exact CF _ _ | exact CT _ _ | exact CE _ _))) | quiet_step ((with_reducible (first | exact CF _ _ | exact CT _ _ | exact CE _ _)))))
                refine wpQuiet_nil ?_
                rintro _ ⟨⟨dq, osq⟩, rfl⟩
                have HB3 := Lib.hid (HBW3.out.trans ((below_regrown W dq osq).mono HBW3.out.size))
                clear CF CT CE HF0 HT0 HA1
                generalize grow (redrawn W dq) osq = w4 at *
                go_wp2_with fail
                go_ret
                exact ⟨by rw [HR.out]; rfl, HB0.out.trans (HB3.out.mono HB0.out.size)⟩
              | true =>
                rw [hb2] at CT
                by_cases hft2 : f = t
                · subst hft2
                  have HR : Hid (checkL l es = 42) := by
                    show checkL l es = 42
                    unfold checkL
                    rw [if_neg (by omega), if_neg (by rw [HO.out]; simp), if_pos (oddEs_yes hlt (by unfold oddE; rw [← HFT.out]; simp))]
                  clear hb1 hb2
                  refine wp_region_quiet_below (by kernel_rfl) (by kernel_rfl) ?_
                  repeat (any_goals (first | go_big_quiet_step ((with_reducible (first | exact CF _ _ | exact CT _ _ | exact CE _ _))) | quiet_step ((with_reducible (first | exact CF _ _ | exact CT _ _ | exact CE _ _)))))
                  refine wpQuiet_nil ?_
                  rintro _ ⟨⟨dq, osq⟩, rfl⟩
                  have HB3 := Lib.hid (HBW3.out.trans ((below_regrown W dq osq).mono HBW3.out.size))
                  clear CF CT CE HF0 HT0 HA1
                  generalize grow (redrawn W dq) osq = w4 at *
                  go_wp2_with fail
                  go_ret
                  exact ⟨by rw [HR.out]; rfl, HB0.out.trans (HB3.out.mono HB0.out.size)⟩
                · have hft3 : decide (f = t) = false := by simpa using hft2
                  cases hc : (es.take k).contains (f, t) with
                  | true =>
                    rw [hc] at CE
                    have HR : Hid (checkL l es = 42) := by
                      show checkL l es = 42
                      unfold checkL
                      rw [if_neg (by omega), if_neg (by rw [HO.out]; simp), if_pos (oddEs_yes hlt (by unfold oddE; rw [← HFT.out]; rw [hc]; simp))]
                    clear hb1 hb2 hc hft3
                    refine wp_region_quiet_below (by kernel_rfl) (by kernel_rfl) ?_
                    repeat (any_goals (first | go_big_quiet_step ((with_reducible (first | exact CF _ _ | exact CT _ _ | exact CE _ _))) | quiet_step ((with_reducible (first | exact CF _ _ | exact CT _ _ | exact CE _ _)))))
                    refine wpQuiet_nil ?_
                    rintro _ ⟨⟨dq, osq⟩, rfl⟩
                    have HB3 := Lib.hid (HBW3.out.trans ((below_regrown W dq osq).mono HBW3.out.size))
                    clear CF CT CE HF0 HT0 HA1
                    generalize grow (redrawn W dq) osq = w4 at *
                    go_wp2_with fail
                    go_ret
                    exact ⟨by rw [HR.out]; rfl, HB0.out.trans (HB3.out.mono HB0.out.size)⟩
                  | false =>
                    rw [hc] at CE
                    have HN2 : Hid (∀ j, j < k + 1 → oddE l.length es j = false) := by
                      show ∀ j, j < k + 1 → _
                      intro j hj
                      by_cases e : j = k
                      · rw [e]; unfold oddE; rw [← HFT.out]; dsimp only; rw [hb1, hb2, hft3, hc]; rfl
                      · exact HN.out j (by omega)
                    clear hb1 hb2 hc hft3
                    refine wp_region_quiet_below (by kernel_rfl) (by kernel_rfl) ?_
                    repeat (any_goals (first | go_big_quiet_step ((with_reducible (first | exact CF _ _ | exact CT _ _ | exact CE _ _))) | quiet_step ((with_reducible (first | exact CF _ _ | exact CT _ _ | exact CE _ _)))))
                    refine wpQuiet_nil ?_
                    rintro _ ⟨⟨dq, osq⟩, rfl⟩
                    have HB3 := Lib.hid (HBW3.out.trans ((below_regrown W dq osq).mono HBW3.out.size))
                    clear CF CT CE HF0 HT0 HA1
                    generalize grow (redrawn W dq) osq = w4 at *
                    go_wp2_with fail
                    go_roundw
                    case rel => exact ⟨k + 1, by omega, by go_num, HN2, HB3⟩
                    case measure => simp [intOf]; omega
          · obtain rfl : k = es.length := by omega
            have hOE : oddEs l.length es = false := oddEs_no HN.out
            have C2 := Lib.hid (fun w1 h => order_any A c l.length B d es w1 hn hm h (oddEs_in hOE))
            have hw1 : wr.cell? ⟨w.heap.size, 0, none⟩ = some (.slice A l.length c) := by rw [HBW.out.cell (block_lt_of_cell HX0.out.1)]; exact HX0.out.1
            have hw2 : wr.cell? ⟨w.heap.size, 1, none⟩ = some (.slice B es.length d) := by rw [HBW.out.cell (block_lt_of_cell HX0.out.2)]; exact HX0.out.2
            have HR : Hid (checkL l es = if (orderL l.length es).isSome = true then 0 else 43) := by
              show checkL l es = _
              unfold checkL
              rw [if_neg (by omega), if_neg (by rw [HO.out]; simp), if_neg (by rw [hOE]; simp)]
            have HBW2 : Hid (Below w.heap.size w wr) := HB0.out.trans (HBW.out.mono HB0.out.size)
            clear HN hOE
            go_wp2_with fail
            refine (C2.out _ (HE.out.below HBW2.out)).mono ?_
            rintro e w2 ⟨v, rfl, hown, hb⟩
            have HB2 : Hid (Below w.heap.size w w2) := HBW2.out.trans (hb.mono HBW2.out.size)
            clear hown hb
            cases hos : (orderL l.length es).isSome with
            | true =>
              have HR2 : Hid (checkL l es = 0) := by show checkL l es = 0; rw [HR.out, hos]; rfl
              clear hos HR
              go_wp2_with fail
              go_ret
              exact ⟨by rw [HR2.out]; rfl, HB2.out⟩
            | false =>
              have HR2 : Hid (checkL l es = 43) := by show checkL l es = 43; rw [HR.out, hos]; rfl
              clear hos HR
              go_wp2_with fail
              go_ret
              exact ⟨by rw [HR2.out]; rfl, HB2.out⟩
    · have HR : Hid (checkL l es = 40) := by show checkL l es = 40; unfold checkL; rw [if_pos (by omega)]
      have hnI : (l.length : Int) ≤ 64 := by omega
      have hmI : (256 : Int) < es.length := by omega
      go_enter Try.func12, Try.ntmps12
      go_wp2_with fail
      go_ret
      exact ⟨by rw [HR.out]; rfl, (Below.refl _ _).alloc (Nat.le_refl _) _⟩
  · have HR : Hid (checkL l es = 40) := by show checkL l es = 40; unfold checkL; rw [if_pos (by omega)]
    have hnI : (64 : Int) < l.length := by omega
    go_enter Try.func12, Try.ntmps12
    go_wp2_with fail
    go_ret
    exact ⟨by rw [HR.out]; rfl, (Below.refl _ _).alloc (Nat.le_refl _) _⟩
end Go.Proofs.Ytjkindoedkjnbaa
