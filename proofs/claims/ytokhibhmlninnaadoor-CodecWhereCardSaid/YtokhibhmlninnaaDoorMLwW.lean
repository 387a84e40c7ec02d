/- Texts of this work, put into one: LawWhere. -/
import Derived.Test.YtokhibhmlninnaaDoorMAwk
set_option linter.unusedVariables false
set_option linter.unusedSimpArgs false
namespace Go.Proofs.YtokhibhmlninnaaDoor
open Go.RowKit Go.Proofs.YtokhibhmlninnaaDoorW.PrintWords
set_option maxRecDepth 100000 in
set_option maxHeartbeats 4000000 in
theorem where_walk (s : ByteArray) (w : World) (hl : s.size ≤ maxLen) (hd : DbAt w) (ht : TabAt w) (he : ErAt w) : Calls Tryd.prog 4 #[.string s] w fun e w' => e = .returned (.bool true) ∧ Below w.heap.size w w' := by
  unfold maxLen at hl
  have CA := Lib.hid (fun w1 h1 h2 h3 => awake_any w1 h1 h2 h3)
  have HD := Lib.hid hd
  have HT := Lib.hid ht
  have HE := Lib.hid he
  clear hd ht he
  by_cases hbig : 700 < s.size
  · have hbI : 700 < (s.size : Int) := by omega
    go_enter Tryd.func4, Tryd.ntmps4
    go_wp2_with fail
    refine (CA.out w HD.out HT.out HE.out).mono ?_
    rintro e w1 ⟨rfl, hb⟩
    have HB1 := Lib.hid hb
    clear hb
    go_wp2_with fail
    refine (CA.out w1 (HD.out.below HB1.out) (HT.out.below HB1.out) (HE.out.below HB1.out)).mono ?_
    rintro e w2 ⟨rfl, hb⟩
    have HB2 := Lib.hid (HB1.out.trans (hb.mono HB1.out.size))
    clear hb
    go_wp2_with fail
    go_ret
    exact ⟨rfl, HB2.out⟩
  · have hbI : ¬ 700 < (s.size : Int) := by omega
    have CW := Lib.hid (fun w1 h1 h2 h3 => Why_any s w1 (by omega) h1 h2 h3)
    obtain ⟨g1, g2, g3, g4⟩ := dec_where s
    unfold WhyPost at CW
    obtain ⟨q, hq⟩ : ∃ q, decOf s = q := ⟨_, rfl⟩
    rw [hq] at CW g1 g2 g3 g4
    obtain ⟨d, qa, qb, qe⟩ := q
    dsimp only at CW g1 g2 g3 g4
    clear hq
    have hs0 : ∀ w1, (binOp .eql 39 (.agg #[.int .i64 0, .int .i64 0]) (.agg #[.int .i64 0, .int .i64 0])).run Tryd.prog w1 = .ok (.bool true) w1 := fun _ => by kernel_rfl
    by_cases hq : qe = 0
    · obtain ⟨rfl, rfl⟩ := g4 hq
      subst hq
      have hdz : decide ((0 : Int) ≠ 0) = false := by decide
      rw [hdz] at CW
      clear hdz
      go_enter Tryd.func4, Tryd.ntmps4
      go_wp2_with fail
      refine (CA.out w HD.out HT.out HE.out).mono ?_
      rintro e w1 ⟨rfl, hb⟩
      have HB1 := Lib.hid hb
      clear hb
      go_wp2_with fail
      refine (CW.out w1 (HD.out.below HB1.out) (HT.out.below HB1.out) (HE.out.below HB1.out)).mono ?_
      rintro e w2 ⟨rfl, hb⟩
      have HB2 := Lib.hid (HB1.out.trans (hb.mono HB1.out.size))
      clear hb
      go_wp2_with fail
      go_ret
      exact ⟨rfl, HB2.out.alloc HB2.out.size _⟩
    · have hdz : decide (qe ≠ 0) = true := decide_eq_true hq
      have hqb : (qe != 0) = true := by simpa using hq
      rw [hdz] at CW
      clear hdz g4
      go_enter Tryd.func4, Tryd.ntmps4
      go_wp2_with fail
      refine (CA.out w HD.out HT.out HE.out).mono ?_
      rintro e w1 ⟨rfl, hb⟩
      have HB1 := Lib.hid hb
      clear hb
      go_wp2_with fail
      refine (CW.out w1 (HD.out.below HB1.out) (HT.out.below HB1.out) (HE.out.below HB1.out)).mono ?_
      rintro e w2 ⟨rfl, hb⟩
      have HB2 := Lib.hid (HB1.out.trans (hb.mono HB1.out.size))
      clear hb
      go_wp2_with fail
      go_ret
      exact ⟨rfl, HB2.out.alloc HB2.out.size _⟩
end Go.Proofs.YtokhibhmlninnaaDoor
