/- wire.wide, wire.there, wire.Put and wire.Get hand back what the plain functions say. -/
import Derived.Test.YtmieddopajbdnaaWirePut
import Derived.OrdersHeld
namespace Go.Proofs.Ytmieddopajbdnaa
open Go.RowKit Go.Sort
open WirePlain

set_option maxHeartbeats 400000 in
theorem wide_yes (k : Int) (w : World) (h : Wide k) : Calls Try.prog 19 #[.int .i64 k] w fun e w' => e = .returned (.bool true) ∧ w = w' := by
  rcases h with rfl | rfl | rfl | rfl
  all_goals
    go_enter Try.func19, Try.ntmps19
    go_wp2
    go_ret
    exact ⟨rfl, rfl⟩
set_option maxHeartbeats 400000 in
theorem wide_no (k : Int) (w : World) (h : ¬ Wide k) : Calls Try.prog 19 #[.int .i64 k] w fun e w' => e = .returned (.bool false) ∧ w = w' := by
  unfold Wide at h
  have h1 : (k == 1) = false := by rw [beq_eq_false_iff_ne]; omega
  have h2 : (k == 2) = false := by rw [beq_eq_false_iff_ne]; omega
  have h3 : (k == 4) = false := by rw [beq_eq_false_iff_ne]; omega
  have h4 : (k == 8) = false := by rw [beq_eq_false_iff_ne]; omega
  clear h
  go_enter Try.func19, Try.ntmps19
  go_wp2
  go_ret
  exact ⟨rfl, rfl⟩
set_option maxHeartbeats 400000 in
theorem there_yes (s : ByteArray) (a m : Int) (w : World) (hs : s.size ≤ maxLen) (h : There s.size a m) : Calls Try.prog 21 #[.string s, .int .i64 a, .int .i64 m] w fun e w' => e = .returned (.bool true) ∧ w = w' := by
  obtain ⟨h1, h2, h3, h4⟩ := h
  unfold maxLen at hs
  go_enter Try.func21, Try.ntmps21
  go_wp2
  go_ret
  exact ⟨by simp, rfl⟩
set_option maxHeartbeats 400000 in
theorem there_no (s : ByteArray) (a m : Int) (w : World) (hs : s.size ≤ maxLen) (h : ¬ There s.size a m) : Calls Try.prog 21 #[.string s, .int .i64 a, .int .i64 m] w fun e w' => e = .returned (.bool false) ∧ w = w' := by
  unfold There at h
  unfold maxLen at hs
  have hc : a < 0 ∨ (0 ≤ a ∧ m < 0) ∨ (0 ≤ a ∧ 0 ≤ m ∧ (s.size : Int) < a) ∨ (0 ≤ a ∧ 0 ≤ m ∧ a ≤ (s.size : Int) ∧ (s.size : Int) - a < m) := by omega
  clear h
  rcases hc with h | ⟨h, h'⟩ | ⟨h, h', h''⟩ | ⟨h, h', h'', h3⟩
  all_goals
    go_enter Try.func21, Try.ntmps21
    go_wp2
    go_ret
    exact ⟨by simp <;> omega, rfl⟩

set_option maxHeartbeats 400000 in
theorem put_any (n k : Int) (w : World) (hn : -9223372036854775808 ≤ n ∧ n ≤ 9223372036854775807) :
    Calls Try.prog 10 #[.int .i64 n, .int .i64 k] w fun e w' => e = .returned (.tuple #[.string (putR n k).1, .int .i64 (putR n k).2]) ∧ Below w.heap.size w w' := by
  unfold putR
  by_cases hk : Wide k
  · rw [if_pos hk]
    by_cases hf : fits n k
    · rw [if_pos hf]
      obtain ⟨h0, h1⟩ := hf
      obtain ⟨m, rfl⟩ : ∃ m : Nat, n = m := ⟨n.toNat, by omega⟩
      rcases hk with rfl | rfl | rfl | rfl
      · exact put1 m w (by have := h1 (by decide); simp at this; omega)
      · exact put2 m w (by have := h1 (by decide); simp at this; omega)
      · exact put4 m w (by have := h1 (by decide); simp at this; omega)
      · exact put8 m w (by omega)
    · rw [if_neg hf]
      unfold fits at hf
      by_cases h0 : n < 0
      · rcases hk with rfl | rfl | rfl | rfl
        all_goals
          clear hf
          go_enter Try.func10, Try.ntmps10
          go_wp2
          go_ret2
          exact ⟨rfl, Below.refl _ _⟩
      · have h0' : 0 ≤ n := by omega
        rcases hk with rfl | rfl | rfl | rfl
        · have hd : (n / 256 != 0) = true := by rw [bne_iff_ne]; simp at hf; omega
          clear hf h0
          go_enter Try.func10, Try.ntmps10
          go_wp2
          go_ret2
          exact ⟨rfl, Below.refl _ _⟩
        · have hd : (n / 65536 != 0) = true := by rw [bne_iff_ne]; simp at hf; omega
          clear hf h0
          go_enter Try.func10, Try.ntmps10
          go_wp2
          go_ret2
          exact ⟨rfl, Below.refl _ _⟩
        · have hd : (n / 4294967296 != 0) = true := by rw [bne_iff_ne]; simp at hf; omega
          clear hf h0
          go_enter Try.func10, Try.ntmps10
          go_wp2
          go_ret2
          exact ⟨rfl, Below.refl _ _⟩
        · exact absurd ⟨h0', fun h => absurd h (by decide)⟩ hf
  · rw [if_neg hk]
    have C := Lib.hid (wide_no k w hk)
    clear hk
    go_enter Try.func10, Try.ntmps10
    go_wp2_with fail
    refine C.out.mono ?_
    rintro e w1 ⟨rfl, rfl⟩
    go_wp2
    go_ret2
    exact ⟨rfl, Below.refl _ _⟩

/-- copy(b[:k], s[at:]): the first k bytes. -/
theorem copy_str (w1 : World) (t : TypeId) (cur : Array Value) (k c : Nat) (S : ByteArray) (hk : k ≤ S.size) (hc : k ≤ cur.size) (cs : List Value) (hcs : cs = (S.data.toList.take k).map fun b => Value.int .u8 (b.toNat : Int)) :
    (Builtin.copy_ #[42, 9] 3 #[.slice (some ⟨w1.heap.size, 0, none⟩) k c, .string S]).run Try.prog ((w1.alloc (.cells cur t)).drew) =
      .ok (goInt k) ((w1.alloc (.cells (cs ++ cur.toList.drop k).toArray t)).drew) := by
  have hg : ((w1.alloc (.cells cur t)).drew).heap[w1.heap.size]? = some (.cells cur t (0, 0)) := by show (w1.heap.push _)[w1.heap.size]? = _; simp
  have hlen : cs.length = k := by rw [hcs]; simp; exact Nat.min_eq_left hk
  have hst := run_storeCells_at Try.prog w1.heap.size 0 t cs 0 cur _ hg (by rw [hlen]; omega) (by
    intro v hv
    rw [hcs] at hv
    obtain ⟨x, _, rfl⟩ := List.mem_map.1 hv
    rfl)
  rw [hlen] at hst
  simp only [Nat.add_zero, Nat.zero_add, List.take_zero, List.nil_append] at hst
  have hmin : Nat.min S.size k = k := Nat.min_eq_right hk
  have hd : (World.setRow ((w1.alloc (.cells cur t)).drew) w1.heap.size (cs ++ cur.toList.drop k).toArray) = ((w1.alloc (.cells (cs ++ cur.toList.drop k).toArray t)).drew) := by
    have := setRow_last w1 cur (cs ++ cur.toList.drop k).toArray t (0, 0)
    have h2 := congrArg World.drew this
    exact h2
  have he : (Try.prog.info? 5).map (·.size) = some 1 := by kernel_rfl
  have hfc : (Builtin.firstCells 1 k (.string S)).run Try.prog ((w1.alloc (.cells cur t)).drew) = .ok cs.toArray ((w1.alloc (.cells cur t)).drew) := by
    simp only [Builtin.firstCells]
    have : (S.extract 0 k).data.map (fun b => Value.int .u8 (b.toNat : Int)) = cs.toArray := by
      rw [hcs]
      apply Array.ext'
      simp
    rw [this]; rfl
  clear hcs
  cases hq : Try.prog.info? 5 with
  | none => simp [hq] at he
  | some i =>
    have hi : i.size = 1 := by simpa [hq] using he
    simp [Builtin.copy_, run_underlying Try.underlying42, Builtin.lenOf, sizeOf, typeInfo, hq, hi, hmin]
    rw [hfc]
    simp only [Result.andThen_ok]
    rw [hst]
    simp only [Result.andThen_ok]
    rw [hd]

theorem or_byte (N c : Nat) (hN : N < 72057594037927936) (hc : c < 256) : bits BinOp.or IntKind.u64 (IntKind.u64.wrap ((N : Int) * 256)) (c : Int) = ((N * 256 + c : Nat) : Int) := by
  have h1 : IntKind.u64.wrap ((N : Int) * 256) = ((N * 256 : Nat) : Int) := by rw [IntKind.wrap_u64]; omega
  rw [h1, u64_or_nat (N * 256) c (by omega) (by omega)]
  congr 1
  have := Nat.two_pow_add_eq_or_of_lt (i := 8) (b := c) (by omega) N
  rw [Nat.mul_comm] at this
  exact this.symm

/-- The number that the bytes from place j on are, of eight. -/
theorem le_drop (b : List UInt8) (j : Nat) (h : j < b.length) : le (b.drop j) = le (b.drop (j + 1)) * 256 + (b.getD j 0).toNat := by
  rw [List.drop_eq_getElem_cons h, List.getD_eq_getElem?_getD, List.getElem?_eq_getElem h]
  simp only [le, Option.getD_some]
  omega

set_option maxHeartbeats 1000000 in
/-- What Get comes to behind its tests: k bytes from place a on. -/
theorem get_core (s : ByteArray) (a k : Nat) (w : World) (hs : s.size ≤ maxLen) (hk : Wide k) (ha : a + k ≤ s.size) :
    Calls Try.prog 12 #[.string s, .int .i64 (a : Int), .int .i64 (k : Int)] w fun e w' => e = .returned (.tuple #[.int .i64 (getR s a k).1, .int .i64 (getR s a k).2]) ∧ Below w.heap.size w w' := by
  have hgr : getR s a k = if num s a k ≤ 9223372036854775807 then ((num s a k : Int), 0) else (0, 20) := by
    unfold getR
    rw [if_pos hk, if_pos (show There s.size a k from ⟨by omega, by omega, by omega, by omega⟩)]
  have HG := Lib.hid hgr
  clear hgr
  have C1 := Lib.hid (fun w1 => wide_yes k w1 hk)
  have C2 := Lib.hid (fun w1 => there_yes s a k w1 hs ⟨by omega, by omega, by omega, by omega⟩)
  unfold maxLen at hs
  have hk8 : k ≤ 8 := by rcases hk with h | h | h | h <;> omega
  obtain ⟨b, hb⟩ : ∃ b : List UInt8, b = (s.data.toList.drop a).take k ++ List.replicate (8 - k) 0 := ⟨_, rfl⟩
  have hlen : b.length = 8 := by rw [hb]; simp; have : s.data.toList.length = s.size := rfl; simp at this; omega
  have hnum : num s a k = le b := by rw [hb, le_zeros]; simp [num]
  have HN := Lib.hid hnum
  obtain ⟨cells, hcells⟩ : ∃ cells : Array Value, cells = (((s.extract a s.size).data.toList.take k).map (fun b => Value.int .u8 (b.toNat : Int)) ++ (#[.int .u8 0, .int .u8 0, .int .u8 0, .int .u8 0, .int .u8 0, .int .u8 0, .int .u8 0, .int .u8 0] : Array Value).toList.drop k).toArray := ⟨_, rfl⟩
  have hcp := copy_str w 45 #[.int .u8 0, .int .u8 0, .int .u8 0, .int .u8 0, .int .u8 0, .int .u8 0, .int .u8 0, .int .u8 0] k 8 (s.extract a s.size) (by simp; omega) (by simpa using hk8) _ rfl
  rw [← hcells] at hcp
  have hcl : cells = (b.map fun b => Value.int .u8 (b.toNat : Int)).toArray := by
    rw [hcells, hb]
    congr 1
    rw [List.map_append]
    congr 1
    · have hx : (s.extract a s.size).data.toList = s.data.toList.drop a := by
        simp
        rw [List.take_of_length_le (by simp)]
      rw [hx]
    · rw [List.map_replicate]
      rcases hk with h | h | h | h <;> (obtain rfl : k = _ := by exact_mod_cast h) <;> rfl
  have hcell : ∀ i, i < 8 → ((w.alloc (.cells cells 45)).drew).cell? ⟨w.heap.size, i, none⟩ = some (.int .u8 ((b.getD i 0).toNat : Int)) := by
    intro i hi
    show (w.alloc (.cells cells 45)).cell? ⟨w.heap.size, i, none⟩ = _
    rw [World.cell?_alloc_mark, hcl]
    simp [List.getD_eq_getElem?_getD, hlen, hi]
  have HC := Lib.hid hcell
  have HL : Hid (b.length = 8) := hlen
  clear hcell hcl hcells hnum hb hlen hk
  go_enter Try.func12, Try.ntmps12
  go_wp2_with fail
  refine (C1.out _).mono ?_
  rintro e w1 ⟨rfl, rfl⟩
  go_wp2_with fail
  refine (C2.out _).mono ?_
  rintro e w1 ⟨rfl, rfl⟩
  have hk8i : (k : Int) ≤ 8 := by omega
  have hai : (a : Int) ≤ (s.size : Int) := by omega
  go_wp2
  go_region
  go_wp2
  go_loop [9, 10] (fun n i => ∃ j N : Nat, j ≤ 8 ∧ N = le (b.drop j) ∧ i = .int .i64 ((j : Int) - 1) ∧ n = .int .u64 (N : Int)) (fun _ i => (intOf i + 1).toNat)
  case atStart => exact ⟨8, 0, Nat.le_refl _, by rw [List.drop_eq_nil_iff.2 (Nat.le_of_eq HL.out)]; rfl, rfl, rfl⟩
  case round =>
    obtain ⟨j, N, hj, hN, rfl, rfl⟩ := hrel
    have HN2 := Lib.hid hN
    clear hN
    cases j with
    | zero =>
      have hlt : N < 18446744073709551616 := by
        rw [HN2.out]; have := le_lt b; rw [HL.out] at this; exact this
      have hnn : num s a k = N := by rw [HN.out, HN2.out]; rfl
      clear HN HN2
      by_cases hbig : N ≤ 9223372036854775807
      · have hg : ¬ (9223372036854775807 : Int) < (N : Int) := by omega
        have HR : Hid (getR s a k = ((N : Int), 0)) := by show getR s a k = _; rw [HG.out, hnn, if_pos hbig]
        clear hnn HG
        go_wp2
        go_ret2
        exact ⟨by rw [HR.out]; rfl, by go_grown⟩
      · have hg : (9223372036854775807 : Int) < (N : Int) := by omega
        have HR : Hid (getR s a k = (0, 20)) := by show getR s a k = _; rw [HG.out, hnn, if_neg hbig]
        clear hnn HG
        go_wp2
        go_ret2
        exact ⟨by rw [HR.out]; rfl, by go_grown⟩
    | succ i =>
      have hst := le_drop b i (by rw [HL.out]; omega)
      rw [← HN2.out] at hst
      have hNb : N < 72057594037927936 := by
        have := le_lt (b.drop (i + 1))
        rw [← HN2.out, List.length_drop, HL.out] at this
        have h2 : 256 ^ (8 - (i + 1)) ≤ 256 ^ 7 := Nat.pow_le_pow_right (by omega) (by omega)
        omega
      have hc := HC.out i (by omega)
      have hcl : (b.getD i 0).toNat < 256 := (b.getD i 0).toNat_lt
      obtain ⟨c, hcd⟩ : ∃ c, c = (b.getD i 0).toNat := ⟨_, rfl⟩
      rw [← hcd] at hc hcl hst
      have hor := or_byte N c hNb hcl
      rw [← hst] at hor
      obtain ⟨M, hM⟩ : ∃ M, M = le (b.drop i) := ⟨_, rfl⟩
      rw [← hM] at hor
      have HM := Lib.hid hM
      have hi8 : i < 8 := by omega
      have hidx : ((i + 1 : Nat) : Int) - 1 = (i : Int) := by omega
      rw [hidx]
      clear hM hst hcd hNb hidx
      go_wp2
      go_round
      case rel => exact ⟨i, M, by omega, HM.out, rfl, rfl⟩
      case measure => simp [intOf]

set_option maxHeartbeats 400000 in
theorem get_any (s : ByteArray) (a k : Int) (w : World) (hs : s.size ≤ maxLen) :
    Calls Try.prog 12 #[.string s, .int .i64 a, .int .i64 k] w fun e w' => e = .returned (.tuple #[.int .i64 (getR s a k).1, .int .i64 (getR s a k).2]) ∧ Below w.heap.size w w' := by
  by_cases hk : Wide k
  · by_cases ht : There s.size a k
    · obtain ⟨h1, h2, h3, h4⟩ := ht
      obtain ⟨a, rfl⟩ : ∃ n : Nat, a = n := ⟨a.toNat, by omega⟩
      obtain ⟨k, rfl⟩ : ∃ n : Nat, k = n := ⟨k.toNat, by omega⟩
      exact get_core s a k w hs hk (by omega)
    · have HR : getR s a k = (0, 21) := by unfold getR; rw [if_pos hk, if_neg ht]
      rw [HR]
      have C1 := Lib.hid (fun w1 => wide_yes k w1 hk)
      have C2 := Lib.hid (fun w1 => there_no s a k w1 hs ht)
      clear hk ht HR
      go_enter Try.func12, Try.ntmps12
      go_wp2_with fail
      refine (C1.out _).mono ?_
      rintro e w1 ⟨rfl, rfl⟩
      go_wp2_with fail
      refine (C2.out _).mono ?_
      rintro e w1 ⟨rfl, rfl⟩
      go_wp2
      go_ret2
      exact ⟨rfl, Below.refl _ _⟩
  · have HR : getR s a k = (0, 22) := by unfold getR; rw [if_neg hk]
    rw [HR]
    have C1 := Lib.hid (fun w1 => wide_no k w1 hk)
    clear hk HR
    go_enter Try.func12, Try.ntmps12
    go_wp2_with fail
    refine (C1.out _).mono ?_
    rintro e w1 ⟨rfl, rfl⟩
    go_wp2
    go_ret2
    exact ⟨rfl, Below.refl _ _⟩
end Go.Proofs.Ytmieddopajbdnaa
