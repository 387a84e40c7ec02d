/- The laws CrcSums, CrcOpens, CrcMore and CrcBack return true for all arguments, wherever the table holds its sixteen numbers. -/
import Derived.Test.YtcofafiaedhgjaaDoorCrcWalksC
import Derived.Deep.RegionWith
import Derived.Deep.DeepMust
import Derived.Deep.QuietTactic
import Derived.BigQuiet
import Derived.WalkSmall
import Derived.Lib.QuietBelow
namespace Go.Proofs.YtcofafiaedhgjaaDoor
open Go.RowKit Go.Sort

theorem rg {P : Program} {f : FuncId} {args : Array Value} {w : World} {v : Value} (h : ∀ W, Below w.heap.size w W → Calls P f args W fun e w' => e = .returned v ∧ Below W.heap.size W w') :
    ∀ d os, Calls P f args (grow (redrawn w d) os) fun e w'' => e = .returned v ∧ ∃ p : Regrown, w'' = grow (redrawn w p.d) p.os := fun d os => Calls.regrown_of (h _ (below_regrown w d os))
theorem same_below {P : Program} {f : FuncId} {args : Array Value} {w : World} {v : Value} (h : Calls P f args w fun e w' => e = .returned v ∧ w = w') : Calls P f args w fun e w' => e = .returned v ∧ Below w.heap.size w w' :=
  h.mono fun _ _ ⟨he, hw⟩ => ⟨he, by subst hw; exact Below.refl _ _⟩

theorem bt {w w1 w2 : World} (h : Below w.heap.size w w1) (k : Below w1.heap.size w1 w2) : Below w.heap.size w w2 := h.trans (k.mono h.size)

set_option maxHeartbeats 400000 in
theorem sums_walk (s : ByteArray) (w : World) (hl : s.size ≤ maxLen) (ht : TabAt w) :
    Calls Tryd.prog 3 #[.string s] w fun e w' => e = .returned (.bool true) ∧ Below w.heap.size w w' := by
  unfold maxLen at hl
  have CA := Lib.hid (awake_any w ht)
  by_cases h3 : 300 < s.size
  · have CB := Lib.hid (fun (w1 : World) (h : TabAt w1) => awake_any w1 h)
    have HT := Lib.hid ht; clear ht
    go_enter Tryd.func3, Tryd.ntmps3
    go_wp2_with fail
    refine CA.out.mono ?_
    rintro e w1 ⟨rfl, hb1⟩
    have t1 := Lib.hid (HT.out.below hb1)
    go_wp2_with fail
    refine (CB.out w1 t1.out).mono ?_
    rintro e w2 ⟨rfl, hb2⟩
    go_wp2
    go_ret
    exact ⟨rfl, bt hb1 hb2⟩
  · have C1 := Lib.hid (fun (w1 : World) (h : TabAt w1) => sum_any s w1 (by unfold maxLen; omega) h)
    have C2 := Lib.hid (fun (w1 : World) => refsum_any s w1 (by omega))
    have C3 := Lib.hid (fun (w1 : World) (h : TabAt w1) => seal_any s w1 (by omega) h)
    have C4 := Lib.hid (fun (w1 : World) => tail_any (sumB s) (CrcPlain.sum_lt _) w1)
    have HS : Hid (sealB s = s ++ tailB (sumB s)) := by show sealB s = s ++ tailB (sumB s); rfl
    have HT := Lib.hid ht; clear ht
    have hts : (tailB (sumB s)).size ≤ 4 := Nat.le_refl _
    go_enter Tryd.func3, Tryd.ntmps3
    go_wp2_with fail
    refine CA.out.mono ?_
    rintro e w1 ⟨rfl, hb1⟩
    have t1 := Lib.hid (HT.out.below hb1)
    go_wp2_with fail
    refine (C1.out w1 t1.out).mono ?_
    rintro e w2 ⟨rfl, rfl⟩
    go_wp2_with fail
    refine (C2.out w1).mono ?_
    rintro e w2 ⟨rfl, rfl⟩
    rw [show CrcPlain.sum s.data.toList = sumB s from rfl]
    go_wp2_with fail
    refine (C3.out w1 t1.out).mono ?_
    rintro e w2 ⟨rfl, hb2⟩
    go_wp2_with fail
    refine (C2.out w2).mono ?_
    rintro e w3 ⟨rfl, rfl⟩
    go_wp2_with fail
    refine (C4.out w2).mono ?_
    rintro e w3 ⟨rfl, hb3⟩
    rw [HS.out]
    generalize tailB (sumB s) = T at *
    go_wp2
    go_ret
    exact ⟨rfl, bt (bt hb1 hb2) hb3⟩

theorem refopen_eq (s : ByteArray) : (sealB (s.extract 0 (s.size - 4)) = s) ↔ s.extract (s.size - 4) s.size = tailB (sumB (s.extract 0 (s.size - 4))) := by
  have hsplit : s = s.extract 0 (s.size - 4) ++ s.extract (s.size - 4) s.size := by
    apply ByteArray.ext
    simp
  unfold sealB
  generalize s.extract 0 (s.size - 4) = P at *
  generalize s.extract (s.size - 4) s.size = Q at *
  constructor
  · intro h
    rw [hsplit] at h
    have := congrArg (fun x : ByteArray => x.data.toList) h
    simp at this
    exact (ByteArray.ext (by simpa using this)).symm
  · intro h
    rw [hsplit, h]

set_option maxHeartbeats 400000 in
theorem refopen_any (s : ByteArray) (w : World) (hl : s.size ≤ 1000) :
    Calls Tryd.prog 15 #[.string s] w fun e w' => e = .returned (.tuple #[.string (openB s).1, .bool (openB s).2]) ∧ Below w.heap.size w w' := by
  by_cases h4 : s.size < 4
  · have he : openB s = (⟨#[]⟩, false) := by unfold openB; rw [if_pos h4]
    rw [he]
    clear he
    go_enter Tryd.func15, Tryd.ntmps15
    go_wp2_with fail
    have hd : (decide ((s.size : Int) - 4 < 0)) = true := by simp; omega
    go_quiet (fail)
    go_wp2
    go_ret2
    exact ⟨rfl, below_drewN (Below.refl _ _) _⟩
  · have hp : (s.extract 0 (s.size - 4)).size ≤ 1000 := by simp; omega
    have C1 := Lib.hid (rg (w := w) (fun W _ => same_below (refsum_any (s.extract 0 (s.size - 4)) W hp)))
    have C2 := Lib.hid (rg (w := w) (fun W _ => tail_any (sumB (s.extract 0 (s.size - 4))) (CrcPlain.sum_lt _) W))
    have he := refopen_eq s
    by_cases hq : sealB (s.extract 0 (s.size - 4)) = s
    · have h2 : openB s = (s.extract 0 (s.size - 4), true) := by unfold openB; rw [if_neg h4, if_pos hq]
      rw [h2]
      have HQ : ((s.extract (s.size - 4) s.size).toList == (tailB (sumB (s.extract 0 (s.size - 4)))).toList) = true := by rw [he.1 hq]; simp
      clear he hq h2
      have hd : (decide ((s.size : Int) - 4 < 0)) = false := by simp; omega
      go_enter Tryd.func15, Tryd.ntmps15
      go_wp2_with fail
      refine wp_region_quiet_below (by kernel_rfl) (by kernel_rfl) ?_
      repeat (any_goals (first | go_big_quiet_step ((first | exact C1.out _ _ | exact C2.out _ _)) | quiet_step ((first | exact C1.out _ _ | exact C2.out _ _))))
      refine wpQuiet_nil ?_
      rintro _ ⟨⟨dq, osq⟩, rfl⟩
      have hbq := below_regrown w dq osq
      generalize grow (redrawn w dq) osq = w1 at *
      go_wp2
      go_ret2
      exact ⟨rfl, hbq⟩
    · have h2 : openB s = (⟨#[]⟩, false) := by unfold openB; rw [if_neg h4, if_neg hq]
      rw [h2]
      have HQ := str_ne (fun h => hq (he.2 h))
      clear he hq h2
      have hd : (decide ((s.size : Int) - 4 < 0)) = false := by simp; omega
      go_enter Tryd.func15, Tryd.ntmps15
      go_wp2_with fail
      refine wp_region_quiet_below (by kernel_rfl) (by kernel_rfl) ?_
      repeat (any_goals (first | go_big_quiet_step ((first | exact C1.out _ _ | exact C2.out _ _)) | quiet_step ((first | exact C1.out _ _ | exact C2.out _ _))))
      refine wpQuiet_nil ?_
      rintro _ ⟨⟨dq, osq⟩, rfl⟩
      have hbq := below_regrown w dq osq
      generalize grow (redrawn w dq) osq = w1 at *
      go_wp2
      go_ret2
      exact ⟨rfl, hbq⟩

set_option maxHeartbeats 400000 in
theorem opens_walk (s : ByteArray) (w : World) (hl : s.size ≤ maxLen) (ht : TabAt w) :
    Calls Tryd.prog 4 #[.string s] w fun e w' => e = .returned (.bool true) ∧ Below w.heap.size w w' := by
  unfold maxLen at hl
  have CA := Lib.hid (awake_any w ht)
  by_cases h3 : 300 < s.size
  · have CB := Lib.hid (fun (w1 : World) (h : TabAt w1) => awake_any w1 h)
    have HT := Lib.hid ht; clear ht
    go_enter Tryd.func4, Tryd.ntmps4
    go_wp2_with fail
    refine CA.out.mono ?_
    rintro e w1 ⟨rfl, hb1⟩
    have t1 := Lib.hid (HT.out.below hb1)
    go_wp2_with fail
    refine (CB.out w1 t1.out).mono ?_
    rintro e w2 ⟨rfl, hb2⟩
    go_wp2
    go_ret
    exact ⟨rfl, bt hb1 hb2⟩
  · have C1 := Lib.hid (fun (w1 : World) (h : TabAt w1) => open_any s w1 (by omega) h)
    have C2 := Lib.hid (fun (w1 : World) => refopen_any s w1 (by omega))
    have HT := Lib.hid ht; clear ht
    go_enter Tryd.func4, Tryd.ntmps4
    go_wp2_with fail
    refine CA.out.mono ?_
    rintro e w1 ⟨rfl, hb1⟩
    have t1 := Lib.hid (HT.out.below hb1)
    go_wp2_with fail
    refine (C1.out w1 t1.out).mono ?_
    rintro e w2 ⟨rfl, hb2⟩
    go_wp2_with fail
    refine (C2.out w2).mono ?_
    rintro e w3 ⟨rfl, hb3⟩
    generalize openB s = o at *
    obtain ⟨a, b⟩ := o
    cases b <;> go_wp2 <;> go_ret <;> exact ⟨rfl, bt (bt hb1 hb2) hb3⟩

set_option maxHeartbeats 400000 in
theorem more_walk (a b c : ByteArray) (w : World) (hla : a.size ≤ maxLen) (hlb : b.size ≤ maxLen) (hlc : c.size ≤ maxLen) (ht : TabAt w) :
    Calls Tryd.prog 5 #[.string a, .string b, .string c] w fun e w' => e = .returned (.bool true) ∧ Below w.heap.size w w' := by
  unfold maxLen at hla hlb hlc
  have CA := Lib.hid (awake_any w ht)
  by_cases hbig : 100 < a.size ∨ 100 < b.size ∨ 100 < c.size
  · have CB := Lib.hid (fun (w1 : World) (h : TabAt w1) => awake_any w1 h)
    have HT := Lib.hid ht; clear ht
    have hcases : 100 < a.size ∨ (¬ 100 < a.size ∧ 100 < b.size) ∨ (¬ 100 < a.size ∧ ¬ 100 < b.size ∧ 100 < c.size) := by omega
    clear hbig
    rcases hcases with h | ⟨h, h'⟩ | ⟨h, h', h''⟩
    all_goals
      go_enter Tryd.func5, Tryd.ntmps5
      go_wp2_with fail
      refine CA.out.mono ?_
      rintro e w1 ⟨rfl, hb1⟩
      have t1 := Lib.hid (HT.out.below hb1)
      go_wp2_with fail
      refine (CB.out w1 t1.out).mono ?_
      rintro e w2 ⟨rfl, hb2⟩
      go_wp2
      go_ret
      exact ⟨rfl, bt hb1 hb2⟩
  · have h1 : a.size ≤ 100 := by omega
    have h2 : b.size ≤ 100 := by omega
    have h3 : c.size ≤ 100 := by omega
    clear hbig hla hlb hlc
    have C1 := Lib.hid (fun (w1 : World) (h : TabAt w1) => sum_any a w1 (by unfold maxLen; omega) h)
    have C2 := Lib.hid (fun (w1 : World) (h : TabAt w1) => more_any (CrcPlain.sum a.data.toList) b w1 (CrcPlain.sum_lt _) (by unfold maxLen; omega) h)
    have C3 := Lib.hid (fun (w1 : World) (h : TabAt w1) => more_any (CrcPlain.more (CrcPlain.sum a.data.toList) b.data.toList) c w1 (CrcPlain.more_lt (CrcPlain.sum_lt _) _) (by unfold maxLen; omega) h)
    have C4 := Lib.hid (fun (w1 : World) (h : TabAt w1) => sum_any (a ++ b ++ c) w1 (by unfold maxLen; simp; omega) h)
    have C5 := Lib.hid (fun (w1 : World) (h : TabAt w1) => more_any (CrcPlain.sum a.data.toList) ⟨#[]⟩ w1 (CrcPlain.sum_lt _) (by unfold maxLen; show 0 ≤ _; omega) h)
    have H1 : Hid (CrcPlain.sum (a ++ b ++ c).data.toList = CrcPlain.more (CrcPlain.more (CrcPlain.sum a.data.toList) b.data.toList) c.data.toList) := by
      show CrcPlain.sum (a ++ b ++ c).data.toList = _
      rw [CrcPlain.more_more]
      unfold CrcPlain.sum
      rw [CrcPlain.more_more]
      simp
    have H2 : Hid (CrcPlain.more (CrcPlain.sum a.data.toList) (⟨#[]⟩ : ByteArray).data.toList = CrcPlain.sum a.data.toList) := CrcPlain.more_nil _
    have HT := Lib.hid ht; clear ht
    go_enter Tryd.func5, Tryd.ntmps5
    go_wp2_with fail
    refine CA.out.mono ?_
    rintro e w1 ⟨rfl, hb1⟩
    have t1 := Lib.hid (HT.out.below hb1)
    go_wp2_with fail
    refine (C1.out w1 t1.out).mono ?_
    rintro e w2 ⟨rfl, rfl⟩
    go_wp2_with fail
    refine (C2.out w1 t1.out).mono ?_
    rintro e w2 ⟨rfl, rfl⟩
    go_wp2_with fail
    refine (C3.out w1 t1.out).mono ?_
    rintro e w2 ⟨rfl, rfl⟩
    go_wp2_with fail
    refine (C4.out w1 t1.out).mono ?_
    rintro e w2 ⟨rfl, rfl⟩
    rw [H1.out]
    go_wp2_with fail
    refine (C1.out w1 t1.out).mono ?_
    rintro e w2 ⟨rfl, rfl⟩
    go_wp2_with fail
    refine (C5.out w1 t1.out).mono ?_
    rintro e w2 ⟨rfl, rfl⟩
    rw [H2.out]
    go_wp2_with fail
    refine (C1.out w1 t1.out).mono ?_
    rintro e w2 ⟨rfl, rfl⟩
    go_wp2
    go_ret
    exact ⟨rfl, hb1⟩

theorem openB_seal (s : ByteArray) : openB (sealB s) = (s, true) := by
  have hsz := sealB_size s
  have he : (sealB s).extract 0 ((sealB s).size - 4) = s := by
    rw [hsz]
    unfold sealB
    apply ByteArray.ext
    simp
  unfold openB
  rw [if_neg (by omega), he, if_pos rfl]
theorem sealB_inj {s t : ByteArray} (h : sealB s = sealB t) : s = t := by
  have := openB_seal s
  rw [h, openB_seal t] at this
  exact (Prod.mk.inj this).1.symm
theorem openB_cases (t : ByteArray) : (∃ b, openB t = (b, true) ∧ sealB b = t ∧ b.size ≤ t.size) ∨ openB t = (⟨#[]⟩, false) := by
  unfold openB
  split
  · exact .inr rfl
  · split
    · rename_i h1 h2
      exact .inl ⟨_, rfl, h2, by simp⟩
    · exact .inr rfl

set_option maxHeartbeats 400000 in
theorem back_walk (s t : ByteArray) (w : World) (hl : s.size ≤ maxLen) (hlt : t.size ≤ maxLen) (ht : TabAt w) :
    Calls Tryd.prog 7 #[.string s, .string t] w fun e w' => e = .returned (.bool true) ∧ Below w.heap.size w w' := by
  unfold maxLen at hl hlt
  have CA := Lib.hid (awake_any w ht)
  by_cases hbig : 300 < s.size ∨ 300 < t.size
  · have CB := Lib.hid (fun (w1 : World) (h : TabAt w1) => awake_any w1 h)
    have HT := Lib.hid ht; clear ht
    have hcases : 300 < s.size ∨ (¬ 300 < s.size ∧ 300 < t.size) := by omega
    clear hbig
    rcases hcases with h | ⟨h, h'⟩
    all_goals
      go_enter Tryd.func7, Tryd.ntmps7
      go_wp2_with fail
      refine CA.out.mono ?_
      rintro e w1 ⟨rfl, hb1⟩
      have t1 := Lib.hid (HT.out.below hb1)
      go_wp2_with fail
      refine (CB.out w1 t1.out).mono ?_
      rintro e w2 ⟨rfl, hb2⟩
      go_wp2
      go_ret
      exact ⟨rfl, bt hb1 hb2⟩
  · have h1 : s.size ≤ 300 := by omega
    have h2 : t.size ≤ 300 := by omega
    clear hbig hl hlt
    have C1 := Lib.hid (fun (w1 : World) (h : TabAt w1) => seal_any s w1 (by omega) h)
    have C2 := Lib.hid (fun (w1 : World) (h : TabAt w1) => open_any (sealB s) w1 (by rw [sealB_size]; omega) h)
    have H2 := Lib.hid (openB_seal s)
    have C3 := Lib.hid (fun (w1 : World) (h : TabAt w1) => open_any t w1 (by omega) h)
    have C4 := Lib.hid (fun (w1 : World) (h : TabAt w1) => seal_any t w1 (by omega) h)
    have HT := Lib.hid ht; clear ht
    have hs : (∃ _ : s = t, True) ∨ ((sealB s).toList == (sealB t).toList) = false ∧ (s.toList == t.toList) = false := by
      by_cases e : s = t
      · exact .inl ⟨e, trivial⟩
      · exact .inr ⟨str_ne (fun h => e (sealB_inj h)), str_ne e⟩
    rcases openB_cases t with ⟨b, ho, hsb, hsz⟩ | ho
    · have C5 := Lib.hid (fun (w1 : World) (h : TabAt w1) => seal_any b w1 (by omega) h)
      rw [hsb] at C5
      have HO := Lib.hid ho
      clear ho hsb
      rcases hs with ⟨rfl, _⟩ | ⟨hs1, hs2⟩
      all_goals
        go_enter Tryd.func7, Tryd.ntmps7
        go_wp2_with fail
        refine CA.out.mono ?_
        rintro e w1 ⟨rfl, hb1⟩
        have t1 := Lib.hid (HT.out.below hb1)
        go_wp2_with fail
        refine (C1.out w1 t1.out).mono ?_
        rintro e w2 ⟨rfl, hb2⟩
        have t2 := Lib.hid (t1.out.below hb2)
        have hb12 := bt hb1 hb2
        go_wp2_with fail
        refine (C2.out w2 t2.out).mono ?_
        rintro e w3 ⟨rfl, hb3⟩
        rw [H2.out]
        have t3 := Lib.hid (t2.out.below hb3)
        have hb13 := bt hb12 hb3
        go_wp2_with fail
        refine (C3.out w3 t3.out).mono ?_
        rintro e w4 ⟨rfl, hb4⟩
        rw [HO.out]
        have t4 := Lib.hid (t3.out.below hb4)
        have hb14 := bt hb13 hb4
        go_wp2_with fail
        refine (C1.out w4 t4.out).mono ?_
        rintro e w5 ⟨rfl, hb5⟩
        have t5 := Lib.hid (t4.out.below hb5)
        have hb15 := bt hb14 hb5
        go_wp2_with fail
        refine (C4.out w5 t5.out).mono ?_
        rintro e w6 ⟨rfl, hb6⟩
        have t6 := Lib.hid (t5.out.below hb6)
        have hb16 := bt hb15 hb6
        go_wp2_with fail
        refine (C5.out w6 t6.out).mono ?_
        rintro e w7 ⟨rfl, hb7⟩
        have hb17 := bt hb16 hb7
        go_wp2
        go_ret
        exact ⟨rfl, hb17⟩
    · have HO := Lib.hid ho
      clear ho
      rcases hs with ⟨rfl, _⟩ | ⟨hs1, hs2⟩
      all_goals
        go_enter Tryd.func7, Tryd.ntmps7
        go_wp2_with fail
        refine CA.out.mono ?_
        rintro e w1 ⟨rfl, hb1⟩
        have t1 := Lib.hid (HT.out.below hb1)
        go_wp2_with fail
        refine (C1.out w1 t1.out).mono ?_
        rintro e w2 ⟨rfl, hb2⟩
        have t2 := Lib.hid (t1.out.below hb2)
        have hb12 := bt hb1 hb2
        go_wp2_with fail
        refine (C2.out w2 t2.out).mono ?_
        rintro e w3 ⟨rfl, hb3⟩
        rw [H2.out]
        have t3 := Lib.hid (t2.out.below hb3)
        have hb13 := bt hb12 hb3
        go_wp2_with fail
        refine (C3.out w3 t3.out).mono ?_
        rintro e w4 ⟨rfl, hb4⟩
        rw [HO.out]
        have t4 := Lib.hid (t3.out.below hb4)
        have hb14 := bt hb13 hb4
        go_wp2_with fail
        refine (C1.out w4 t4.out).mono ?_
        rintro e w5 ⟨rfl, hb5⟩
        have t5 := Lib.hid (t4.out.below hb5)
        have hb15 := bt hb14 hb5
        go_wp2_with fail
        refine (C4.out w5 t5.out).mono ?_
        rintro e w6 ⟨rfl, hb6⟩
        have hb16 := bt hb15 hb6
        go_wp2
        go_ret
        exact ⟨rfl, hb16⟩
end Go.Proofs.YtcofafiaedhgjaaDoor
