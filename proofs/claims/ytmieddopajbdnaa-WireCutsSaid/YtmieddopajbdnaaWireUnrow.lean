/- wire.Unrow hands back the numbers, the place behind them and the error. -/
import Derived.Test.YtmieddopajbdnaaWireRow
namespace Go.Proofs.Ytmieddopajbdnaa
open Go.RowKit Go.Sort
open WirePlain
open Go.Proofs.YtmieddopajbdnaaW.PrintWords

theorem info3' : (Try.prog.info? 3).map (fun i => (i.zero, i.size, i.bytes)) = some (some (.int .i64 0), 1, 8) := by kernel_rfl
def numsL (s : ByteArray) (at_ k : Int) (n : Nat) : List Int := (List.range n).map fun (i : Nat) => ((num s (at_ + i * k) k : Nat) : Int)
def unrowR (s : ByteArray) (at_ : Int) (many : Nat) (k : Int) : List Int × Int × Int :=
  if Wide k then if (many : Int) ≤ s.size ∧ There s.size at_ (many * k) then if ∀ i, i < many → num s (at_ + (i : Nat) * k) k ≤ 9223372036854775807 then (numsL s at_ k many, at_ + many * k, 0) else ([], 0, 20) else ([], 0, 21) else ([], 0, 22)
def UnrowPost (w : World) (r : List Int × Int × Int) (e : Ending) (w' : World) : Prop :=
  ∃ v, e = .returned (.tuple #[v, .int .i64 r.2.1, .int .i64 r.2.2]) ∧ w'.ownsRow w.heap.size 3 1 v r.1.length (encs (Value.int .i64) r.1) ∧ Below w.heap.size w w'
theorem numsL_len (s : ByteArray) (a k : Int) (n : Nat) : (numsL s a k n).length = n := by simp [numsL]
theorem numsL_snoc (s : ByteArray) (a k : Int) (n : Nat) : numsL s a k (n + 1) = numsL s a k n ++ [((num s (a + n * k) k : Nat) : Int)] := by simp [numsL, List.range_succ]

set_option maxHeartbeats 1000000 in
theorem unrow_any (s : ByteArray) (a : Int) (many : Nat) (k : Int) (w : World) (hs : s.size ≤ 100000) (ha : -9223372036854775808 ≤ a ∧ a ≤ 9223372036854775807) (hm : many ≤ 100000) :
    Calls Try.prog 15 #[.string s, .int .i64 a, .int .i64 (many : Int), .int .i64 k] w (UnrowPost w (unrowR s a many k)) := by
  by_cases hk : Wide k
  · have hk8 : 1 ≤ k ∧ k ≤ 8 := by rcases hk with h | h | h | h <;> omega
    have C1 := Lib.hid (fun w1 => wide_yes k w1 hk)
    obtain ⟨P, hP⟩ : ∃ P : Nat, (many : Int) * k = P := ⟨many * k.toNat, by rw [Int.natCast_mul]; congr 1; omega⟩
    have hPb : P ≤ 800000 := by
      have h1 : (many : Int) * k ≤ (many : Int) * 8 := Int.mul_le_mul_of_nonneg_left hk8.2 (by omega)
      omega
    by_cases hlen : (s.size : Int) < (many : Int)
    · have HR : unrowR s a many k = ([], 0, 21) := by unfold unrowR; rw [if_pos hk, if_neg (by omega)]
      rw [HR]
      clear hk HR hP
      go_enter Try.func15, Try.ntmps15
      go_wp2_with fail
      refine (C1.out _).mono ?_
      rintro e w1 ⟨rfl, rfl⟩
      go_wp2
      go_ret3
      exact ⟨_, rfl, own_nil _ _ _ _, Below.refl _ _⟩
    · by_cases ht : There s.size a P
      · obtain ⟨h1, h2, h3, h4⟩ := ht
        have C2 := Lib.hid (fun w1 => there_yes s a P w1 (by unfold maxLen; omega) ⟨h1, h2, h3, h4⟩)
        have CG := Lib.hid (fun q w1 => get_any s q k w1 (by unfold maxLen; omega))
        obtain ⟨i0, hi, hz0, hz1, hz2⟩ := info_parts info3'
        have HR := Lib.hid (show unrowR s a many k = if ∀ i, i < many → num s (a + (i : Nat) * k) k ≤ 9223372036854775807 then (numsL s a k many, a + many * k, 0) else ([], 0, 20) by
          unfold unrowR; rw [if_pos hk, if_pos ⟨by omega, by rw [hP]; exact ⟨h1, h2, h3, h4⟩⟩])
        have HP := Lib.hid hP
        have HK := Lib.hid hk
        clear hk
        go_enter Try.func15, Try.ntmps15
        go_wp2_with fail
        refine (C1.out _).mono ?_
        rintro e w1 ⟨rfl, rfl⟩
        go_wp2_with fail
        refine (C2.out _).mono ?_
        rintro e w1 ⟨rfl, rfl⟩
        clear hP
        go_wp2_with (at_make; refine wpList_make_own _ rfl _ _ 31 rfl w.heap.size 3 i0 (.int .i64 0) 1 Try.underlying31 hi hz0 hz1 _ _ _ many rfl rfl rfl (by rw [hz2]; omega) (by unfold maxLen; omega) (Nat.le_refl _) ?_)
        intro w1 hown hgrow
        have HB0 : Hid (Below w.heap.size w w1) := (Below.refl _ _).grown hgrow (Nat.le_refl _) (fun k h => by cases h)
        have HO0 : Hid (w1.ownsRow w.heap.size 3 1 (.slice (some ⟨w.heap.size, 0, none⟩) 0 many) 0 (encs (Value.int .i64) (numsL s a k 0))) := hown
        clear hown hgrow
        go_wp2
        go_loopw [1, 11, 33] (fun p v i wr => ∃ (j : Nat) (v0 : Value) (q : Int), j ≤ many ∧ i = .int .i64 j ∧ v0 = v ∧ p = .int .i64 q ∧ a ≤ q ∧ q ≤ a + P ∧ Hid (q = a + j * k) ∧ Hid (wr.ownsRow w.heap.size 3 1 v0 j (encs (Value.int .i64) (numsL s a k j))) ∧ Hid (∀ i, i < j → num s (a + (i : Nat) * k) k ≤ 9223372036854775807) ∧ Hid (Below w.heap.size w wr)) (fun _ _ i _ => many - (intOf i).toNat)
        case atStart => exact ⟨0, _, a, Nat.zero_le _, rfl, rfl, rfl, by omega, by omega, by show a = a + ((0 : Nat) : Int) * k; simp, HO0, by show ∀ i, i < 0 → _; omega, HB0⟩
        case round =>
          clear HO0 HB0
          obtain ⟨j, v0, q, hj, rfl, rfl, rfl, hq1, hq2, HQ, HO, HN, HB⟩ := hrel
          by_cases hlt : j < many
          · have hqk : q + k ≤ a + P := by
              have h5 : ((j : Int) + 1) * k ≤ (many : Int) * k := Int.mul_le_mul_of_nonneg_right (by omega) (by omega)
              rw [HP.out] at h5
              have h6 := HQ.out
              rw [Int.add_mul, Int.one_mul] at h5
              omega
            have hth : There s.size q k := ⟨by omega, by omega, by omega, by omega⟩
            by_cases hn : num s q k ≤ 9223372036854775807
            · have hg : getR s q k = (((num s q k : Nat) : Int), 0) := by unfold getR; rw [if_pos HK.out, if_pos hth, if_pos hn]
              have HG := Lib.hid hg
              have HNQ := Lib.hid (show num s q k = num s (a + (j : Nat) * k) k by rw [HQ.out])
              generalize num s q k = M at *
              clear hg hth
              go_wp2_with fail
              refine (CG.out q _).mono ?_
              rw [HG.out]
              rintro e w2 ⟨rfl, hb2⟩
              have HB2 : Hid (Below w.heap.size w w2) := HB.out.trans (hb2.mono HB.out.size)
              have HO2 : Hid (w2.ownsRow w.heap.size 3 1 v0 j (encs (Value.int .i64) (numsL s a k j))) := own_move HO.out (fun q hq => hb2.block q (own_lt HO.out q hq))
              clear hb2
              go_wp2_with (at_builtin; refine wpList_append_own _ rfl _ _ 31 rfl w.heap.size 3 i0 (.int .i64 0) 1 8 Try.underlying31 hi hz0 hz1 hz2 rfl (by decide) v0 j _ rfl (HO2.out.alloc _) ⟨w2.heap.size, 0, none⟩ 1 1 [.int .i64 (M : Int)] rfl rfl (cell_one_new _ _ _) (by simp [Value.oneCell']) (by unfold maxLen; omega) (by omega) (by have := HB2.out.size; simp; omega) ?_)
              intro v3 w3 hown3 hgrow3 _
              have hcat : encs (Value.int .i64) (numsL s a k j) ++ [Value.int .i64 (M : Int)] = encs (Value.int .i64) (numsL s a k (j + 1)) := by
                rw [numsL_snoc, ← HNQ.out]; simp [encs]
              rw [hcat] at hown3
              have HO3 := Lib.hid hown3
              have HB3 : Hid (Below w.heap.size w w3) := (HB2.out.alloc HB2.out.size _).grown hgrow3 (by have := HB2.out.size; simp; omega) (fun q hq => own_base HO2.out q hq)
              have HN3 : Hid (∀ i, i < j + 1 → num s (a + (i : Nat) * k) k ≤ 9223372036854775807) := by
                show ∀ i, i < j + 1 → _
                intro i hi
                by_cases e : i = j
                · rw [e, ← HNQ.out]; exact hn
                · exact HN.out i (by omega)
              have HQ3 : Hid (q + k = a + ((j + 1 : Nat) : Int) * k) := by
                show q + k = a + ((j + 1 : Nat) : Int) * k
                rw [HQ.out, Int.natCast_add, Int.add_mul]; simp; omega
              clear hown3 hgrow3 hcat hn
              go_wp2
              go_roundw
              case rel => exact ⟨j + 1, v3, q + k, by omega, by go_num, rfl, rfl, by omega, by omega, HQ3, HO3, HN3, HB3⟩
              case measure => simp [intOf]; omega
            · have hg : getR s q k = (0, 20) := by unfold getR; rw [if_pos HK.out, if_pos hth, if_neg hn]
              have HG := Lib.hid hg
              have HR2 : Hid (unrowR s a many k = ([], 0, 20)) := by
                show unrowR s a many k = _
                rw [HR.out, if_neg]
                intro h
                have := h j hlt
                rw [← HQ.out] at this
                exact hn this
              clear hg hth hn
              go_wp2_with fail
              refine (CG.out q _).mono ?_
              rw [HG.out]
              rintro e w2 ⟨rfl, hb2⟩
              have HB2 : Hid (Below w.heap.size w w2) := HB.out.trans (hb2.mono HB.out.size)
              go_wp2
              go_ret3
              unfold UnrowPost
              rw [HR2.out]
              exact ⟨_, rfl, own_nil _ _ _ _, HB2.out⟩
          · obtain rfl : j = many := by omega
            have HR2 : Hid (unrowR s a j k = (numsL s a k j, a + j * k, 0)) := by
              show unrowR s a j k = _
              rw [HR.out, if_pos HN.out]
            clear HN HR
            go_wp2
            go_ret3
            unfold UnrowPost
            rw [HR2.out]
            refine ⟨_, by rw [← HQ.out]; rfl, ?_, HB.out⟩
            have := HO.out
            rw [numsL_len]; exact this
      · have HR : unrowR s a many k = ([], 0, 21) := by unfold unrowR; rw [if_pos hk, if_neg (fun h => ht (by rw [hP] at h; exact h.2))]
        rw [HR]
        have C2 := Lib.hid (fun w1 => there_no s a P w1 (by unfold maxLen; omega) ht)
        clear hk HR ht
        go_enter Try.func15, Try.ntmps15
        go_wp2_with fail
        refine (C1.out _).mono ?_
        rintro e w1 ⟨rfl, rfl⟩
        go_wp2_with fail
        refine (C2.out _).mono ?_
        rintro e w1 ⟨rfl, rfl⟩
        go_wp2
        go_ret3
        exact ⟨_, rfl, own_nil _ _ _ _, Below.refl _ _⟩
  · have HR : unrowR s a many k = ([], 0, 22) := by unfold unrowR; rw [if_neg hk]
    rw [HR]
    have C1 := Lib.hid (fun w1 => wide_no k w1 hk)
    clear hk HR
    go_enter Try.func15, Try.ntmps15
    go_wp2_with fail
    refine (C1.out _).mono ?_
    rintro e w1 ⟨rfl, rfl⟩
    go_wp2
    go_ret3
    exact ⟨_, rfl, own_nil _ _ _ _, Below.refl _ _⟩
end Go.Proofs.Ytmieddopajbdnaa
