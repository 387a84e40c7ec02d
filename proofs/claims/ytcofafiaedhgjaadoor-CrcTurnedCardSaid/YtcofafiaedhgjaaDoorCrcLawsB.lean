/- The laws CrcTurned and CrcOne return true for all arguments, wherever the table holds its sixteen numbers. -/
import Derived.Test.YtcofafiaedhgjaaDoorCrcLaws
import Derived.Test.YtcofafiaedhgjaaDoorCrcPlainB
import Derived.OpenShut
namespace Go.Proofs.YtcofafiaedhgjaaDoor
open Go.RowKit Go.Sort

/-- '[]byte(s)': a new block, its first cells the bytes. -/
theorem bytes_conv (w : World) (s : ByteArray) : ∃ cap W, (convert 9 32 (.string s)).run Tryd.prog w = .ok (.slice (some ⟨w.heap.size, 0, none⟩) s.size cap) W ∧ Below w.heap.size w W ∧ W.heap.size = w.heap.size + 1 ∧
    (∀ j, j < s.size → W.cell? ⟨w.heap.size, j, none⟩ = some (.int .u8 ((s.data.toList.getD j 0).toNat : Int))) ∧ ∀ j, j < s.size → W.frozen? ⟨w.heap.size, j, none⟩ = false := by
  refine ⟨_, _, run_bytes_of_string w 9 32 5 s Tryd.underlying9 Tryd.underlying32 Tryd.underlying5, ((Below.refl _ _).drew).alloc (Nat.le_refl _) _, by simp, ?_, ?_⟩
  · intro j hj
    rw [show w.heap.size = w.drew.heap.size from rfl, World.cell?_alloc_mark, bytesRow_at s _ j hj]
    simp [List.getD_eq_getElem?_getD, hj]
  · intro j hj
    rw [show w.heap.size = w.drew.heap.size from rfl, World.frozen?_alloc_mark]
    have : s.size ≤ (bytesRow s (grownCap w s.size 0 5)).size := by unfold bytesRow; simp
    have h2 : ¬ (bytesRow s (grownCap w s.size 0 5)).size ≤ j := by omega
    simp [h2]

/-- 'string(b)' where the cells are the bytes l. -/
theorem bytes_back (w : World) (B : Nat) (n cap : Nat) (l : List UInt8) (hn : l.length = n) (hc : ∀ j, j < n → w.cell? ⟨B, j, none⟩ = some (.int .u8 ((l.getD j 0).toNat : Int))) :
    (convert 32 9 (.slice (some ⟨B, 0, none⟩) n cap)).run Tryd.prog w = .ok (.string ⟨l.toArray⟩) w := by
  subst hn
  refine run_convert_bytes_back w 32 9 5 ⟨B, 0, none⟩ cap l Tryd.underlying32 Tryd.underlying5 Tryd.underlying9 ?_
  intro j hj
  have e : (⟨B, 0, none⟩ : Addr).add j = ⟨B, j, none⟩ := by simp [Addr.add, eq_comm]
  rw [e, hc j hj, List.getD_eq_getElem?_getD, List.getElem?_eq_getElem hj]
  rfl

theorem openB_one (s : ByteArray) (k : Nat) (d : UInt8) (hk : k < s.size + 4) (hd : d ≠ 0) : openB ⟨((sealB s).data.toList.set k ((sealB s).data.toList.getD k 0 ^^^ d)).toArray⟩ = (⟨#[]⟩, false) := by
  rcases openB_cases ⟨((sealB s).data.toList.set k ((sealB s).data.toList.getD k 0 ^^^ d)).toArray⟩ with ⟨b, _, hb, _⟩ | h
  · exfalso
    have e : ∀ t : ByteArray, (sealB t).data.toList = CrcPlain.sealed t.data.toList := by
      intro t; unfold sealB CrcPlain.sealed tailB sumB; simp
    have := congrArg (fun x : ByteArray => x.data.toList) hb
    simp only [e] at this
    refine CrcPlain.one_sealed s.data.toList b.data.toList k d ?_ hd this
    rw [CrcPlain.seal_len]; simpa using hk
  · exact h

set_option maxHeartbeats 1000000 in
theorem one_walk (s : ByteArray) (at_ by_ : Int) (w : World) (hl : s.size ≤ maxLen) (hat : (Lit.int .i64 at_).wf = true) (hby : (Lit.int .u8 by_).wf = true) (ht : TabAt w) :
    Calls Tryd.prog 8 #[.string s, .int .i64 at_, .int .u8 by_] w fun e w' => e = .returned (.bool true) ∧ Below w.heap.size w w' := by
  unfold maxLen at hl
  have hy := bounds_u8 hby
  have ha := bounds_i64 hat
  clear hat hby
  have CA := Lib.hid (awake_any w ht)
  by_cases hbig : 300 < s.size ∨ at_ < 0 ∨ (s.size : Int) + 4 ≤ at_ ∨ by_ = 0
  · have CB := Lib.hid (fun (w1 : World) (h : TabAt w1) => awake_any w1 h)
    have HT := Lib.hid ht; clear ht
    have hcases : 300 < s.size ∨ (¬ 300 < s.size ∧ at_ < 0) ∨ (¬ 300 < s.size ∧ ¬ at_ < 0 ∧ (s.size : Int) + 4 ≤ at_) ∨ (¬ 300 < s.size ∧ ¬ at_ < 0 ∧ ¬ (s.size : Int) + 4 ≤ at_ ∧ by_ = 0) := by omega
    clear hbig
    rcases hcases with h | ⟨h, h'⟩ | ⟨h, h', h''⟩ | ⟨h, h', h'', rfl⟩
    all_goals
      go_enter Tryd.func8, Tryd.ntmps8
      go_wp2_with fail
      refine CA.out.mono ?_
      rintro e w1 ⟨rfl, hb1⟩
      have t1 := Lib.hid (HT.out.below hb1)
      go_wp2_with fail
      refine (CB.out w1 t1.out).mono ?_
      rintro e w2 ⟨rfl, hb2⟩
      go_wp2
      go_ret
      exact ⟨rfl, bt hb1 hb2⟩
  · obtain ⟨a, rfl⟩ : ∃ a : Nat, at_ = a := ⟨at_.toNat, by omega⟩
    obtain ⟨d, rfl⟩ : ∃ d : UInt8, by_ = d.toNat := ⟨UInt8.ofNat by_.toNat, by simp; omega⟩
    have h1 : s.size ≤ 300 := by omega
    have h2 : a < s.size + 4 := by omega
    have hd0 : (((d.toNat : Nat) : Int) == 0) = false := by rw [beq_eq_false_iff_ne]; omega
    have hd : d ≠ 0 := by rintro rfl; simp at hd0
    clear hbig hl
    have C1 := Lib.hid (fun (w1 : World) (h : TabAt w1) => seal_any s w1 (by omega) h)
    have HP := Lib.hid (openB_one s a d h2 hd)
    have C2 := Lib.hid (fun (w1 : World) (h : TabAt w1) => open_any ⟨((sealB s).data.toList.set a ((sealB s).data.toList.getD a 0 ^^^ d)).toArray⟩ w1 (by
      have := sealB_size s
      show ((sealB s).data.toList.set a _).toArray.size ≤ 1000
      simp; omega) h)
    have HSZ := Lib.hid (sealB_size s)
    have HT := Lib.hid ht; clear ht hd
    go_enter Tryd.func8, Tryd.ntmps8
    go_wp2_with fail
    refine CA.out.mono ?_
    rintro e w1 ⟨rfl, hb1⟩
    have t1 := Lib.hid (HT.out.below hb1)
    go_wp2_with fail
    refine (C1.out w1 t1.out).mono ?_
    rintro e w2 ⟨rfl, hb2⟩
    have t2 := Lib.hid (t1.out.below hb2)
    have hb12 := bt hb1 hb2
    generalize hS : sealB s = S at *
    obtain ⟨cap, W, hconv, hbW, hszW, hcell, hfroz⟩ := bytes_conv w2 S
    rw [HSZ.out] at hconv hcell hfroz
    have hc := hcell a h2
    have hf := hfroz a h2
    have hx := u8_xor_nat (S.data.toList.getD a 0).toNat d.toNat (S.data.toList.getD a 0).toNat_lt d.toNat_lt
    rw [← UInt8.toNat_xor] at hx
    obtain ⟨c, hcd⟩ : ∃ c, c = S.data.toList.getD a 0 := ⟨_, rfl⟩
    rw [← hcd] at hc hx
    obtain ⟨x, hxd⟩ : ∃ x, x = c ^^^ d := ⟨_, rfl⟩
    rw [← hxd] at hx
    obtain ⟨T, hTd⟩ : ∃ T : ByteArray, T = ⟨(S.data.toList.set a x).toArray⟩ := ⟨_, rfl⟩
    have hback := bytes_back (W.setCell ⟨w2.heap.size, a, none⟩ (.int .u8 (x.toNat : Int))) w2.heap.size (s.size + 4) cap (S.data.toList.set a x) (by rw [List.length_set]; exact HSZ.out) (by
      intro j hj
      by_cases e : j = a
      · subst e
        rw [World.cell?_setCell_same _ _ _ (hcell j h2), List.getD_eq_getElem?_getD, List.getElem?_set_self (by rw [show S.data.toList.length = S.size from rfl, HSZ.out]; exact h2)]
        rfl
      · rw [World.cell?_setCell_other _ _ _ _ (by intro h; exact e (congrArg Addr.off h).symm), hcell j hj, List.getD_eq_getElem?_getD, List.getD_eq_getElem?_getD, List.getElem?_set_ne (by omega)])
    rw [← hTd] at hback
    have HC2 : ∀ w1 : World, TabAt w1 → Calls Tryd.prog 14 #[.string T] w1 fun e w' => e = .returned (.tuple #[.string ⟨#[]⟩, .bool false]) ∧ Below w1.heap.size w1 w' := by
      intro w3 h3
      have := C2.out w3 h3
      rw [← hcd, ← hxd, ← hTd] at this
      have h4 := HP.out
      rw [← hcd, ← hxd, ← hTd] at h4
      rw [h4] at this
      exact this
    have HC3 := Lib.hid HC2
    have hb3 : Below w2.heap.size w2 (W.setCell ⟨w2.heap.size, a, none⟩ (.int .u8 (x.toNat : Int))) := hbW.setCell (Nat.le_refl _) _
    have t3 := Lib.hid (t2.out.below hb3)
    have hb13 := bt hb12 hb3
    clear hcell hfroz hS HC2 hxd hcd hTd C2 HP HSZ
    go_wp2_with fail
    refine (HC3.out _ t3.out).mono ?_
    rintro e w4 ⟨rfl, hb4⟩
    have hb14 := bt hb13 hb4
    go_wp2
    go_ret
    exact ⟨rfl, hb14⟩

/-- What stands in the copied bytes after k rounds. -/
def Turned (s : ByteArray) (a D : Nat) (B : Nat) (w1 : World) (k : Nat) (wr : World) : Prop :=
  Below w1.heap.size w1 wr ∧ (∀ j, j < s.size → wr.cell? ⟨B, j, none⟩ = some (.int .u8 (((CrcPlain.tl s.data.toList a D k).getD j 0).toNat : Int))) ∧ ∀ j, j < s.size → wr.frozen? ⟨B, j, none⟩ = false

theorem Turned.next {s : ByteArray} {a D B : Nat} {w1 wr : World} {k : Nat} (h : Turned s a D B w1 k wr) (hB : w1.heap.size ≤ B) (hk : a + k < s.size) (x : Int)
    (hx : x = (((CrcPlain.tl s.data.toList a D k).getD (a + k) 0 ^^^ UInt8.ofNat (CrcPlain.byteOf D k)).toNat : Int)) :
    Turned s a D B w1 (k + 1) (wr.setCell ⟨B, a + k, none⟩ (.int .u8 x)) := by
  subst hx
  obtain ⟨h1, h2, h3⟩ := h
  refine ⟨h1.setCell hB _, fun j hj => ?_, fun j hj => by rw [World.frozen?_setCell]; exact h3 j hj⟩
  have hlen := CrcPlain.tl_len s.data.toList a D k
  by_cases e : j = a + k
  · subst e
    rw [World.cell?_setCell_same _ _ _ (h2 _ hj)]
    simp only [CrcPlain.tl, List.getD_eq_getElem?_getD]
    rw [List.getElem?_set_self (by rw [hlen]; exact hk)]
    rfl
  · rw [World.cell?_setCell_other _ _ _ _ (by intro h; exact e (congrArg Addr.off h).symm), h2 j hj]
    simp only [CrcPlain.tl, List.getD_eq_getElem?_getD]
    rw [List.getElem?_set_ne (by omega)]

/-- What round k reads and stores. -/
theorem Turned.reads {s : ByteArray} {a D B : Nat} {w1 wr : World} {k : Nat} (h : Turned s a D B w1 k wr) (hB : w1.heap.size ≤ B) (hk : a + k < s.size) : ∃ c x : Nat, c < 256 ∧
    wr.cell? ⟨B, a + k, none⟩ = some (.int .u8 (c : Int)) ∧ wr.frozen? ⟨B, a + k, none⟩ = false ∧ bits BinOp.xor IntKind.u8 (c : Int) ((CrcPlain.byteOf D k : Nat) : Int) = (x : Int) ∧
    Turned s a D B w1 (k + 1) (wr.setCell ⟨B, a + k, none⟩ (.int .u8 (x : Int))) := by
  have hb := CrcPlain.byteOf_lt D k
  refine ⟨((CrcPlain.tl s.data.toList a D k).getD (a + k) 0).toNat, ((CrcPlain.tl s.data.toList a D k).getD (a + k) 0 ^^^ UInt8.ofNat (CrcPlain.byteOf D k)).toNat, UInt8.toNat_lt _, h.2.1 _ hk, h.2.2 _ hk, ?_, h.next hB hk _ rfl⟩
  rw [CrcPlain.xor_byte _ _ hb]
  exact u8_xor_nat _ _ (UInt8.toNat_lt _) hb

set_option maxHeartbeats 2000000 in
theorem turned_walk (s : ByteArray) (at_ bits_ : Int) (w : World) (hl : s.size ≤ maxLen) (hat : (Lit.int .i64 at_).wf = true) (hby : (Lit.int .u32 bits_).wf = true) (ht : TabAt w) :
    Calls Tryd.prog 6 #[.string s, .int .i64 at_, .int .u32 bits_] w fun e w' => e = .returned (.bool true) ∧ Below w.heap.size w w' := by
  unfold maxLen at hl
  have hy := bounds_u32 hby
  have ha := bounds_i64 hat
  clear hat hby
  have CA := Lib.hid (awake_any w ht)
  by_cases hbig : s.size < 4 ∨ 300 < s.size ∨ at_ < 0 ∨ (s.size : Int) - 4 < at_
  · have CB := Lib.hid (fun (w1 : World) (h : TabAt w1) => awake_any w1 h)
    have HT := Lib.hid ht; clear ht
    have hcases : s.size < 4 ∨ (¬ s.size < 4 ∧ 300 < s.size) ∨ (¬ s.size < 4 ∧ ¬ 300 < s.size ∧ at_ < 0) ∨ (¬ s.size < 4 ∧ ¬ 300 < s.size ∧ ¬ at_ < 0 ∧ (s.size : Int) - 4 < at_) := by omega
    clear hbig
    rcases hcases with h | ⟨h, h'⟩ | ⟨h, h', h''⟩ | ⟨h, h', h'', h3⟩
    all_goals
      go_enter Tryd.func6, Tryd.ntmps6
      go_wp2_with fail
      refine CA.out.mono ?_
      rintro e w1 ⟨rfl, hb1⟩
      have t1 := Lib.hid (HT.out.below hb1)
      go_wp2_with fail
      refine (CB.out w1 t1.out).mono ?_
      rintro e w2 ⟨rfl, hb2⟩
      go_wp2
      go_ret
      exact ⟨rfl, bt hb1 hb2⟩
  · obtain ⟨a, rfl⟩ : ∃ a : Nat, at_ = a := ⟨at_.toNat, by omega⟩
    obtain ⟨D, rfl⟩ : ∃ D : Nat, bits_ = D := ⟨bits_.toNat, by omega⟩
    have hD : D < 4294967296 := by omega
    have h1 : s.size ≤ 300 := by omega
    have h4 : 4 ≤ s.size := by omega
    have h2 : a + 4 ≤ s.size := by omega
    clear hbig hl ha hy
    obtain ⟨T, hT⟩ : ∃ T : ByteArray, T = ⟨(CrcPlain.tl s.data.toList a D 4).toArray⟩ := ⟨_, rfl⟩
    have hTl : T.data.toList = CrcPlain.tl s.data.toList a D 4 := by rw [hT]
    have hTs : T.size = s.size := by
      have := CrcPlain.tl_len s.data.toList a D 4
      rw [hT]; show (CrcPlain.tl s.data.toList a D 4).toArray.size = s.size
      simpa using this
    have C1 := Lib.hid (fun (w1 : World) (h : TabAt w1) => sum_any T w1 (by unfold maxLen; omega) h)
    have C2 := Lib.hid (fun (w1 : World) (h : TabAt w1) => sum_any s w1 (by unfold maxLen; omega) h)
    have hfin : ((((CrcPlain.sum T.data.toList : Nat) : Int) == ((CrcPlain.sum s.data.toList : Nat) : Int)) = true ∧ ((D : Int) == 0) = true) ∨ ((((CrcPlain.sum T.data.toList : Nat) : Int) == ((CrcPlain.sum s.data.toList : Nat) : Int)) = false ∧ ((D : Int) == 0) = false) := by
      have := CrcPlain.turned_told s.data.toList a D (by simpa using h2) hD
      rw [← hTl] at this
      by_cases e : D = 0
      · left; refine ⟨?_, by simpa using e⟩
        rw [this.2 e]; simp
      · right; refine ⟨?_, by simpa using e⟩
        rw [beq_eq_false_iff_ne]; intro h; exact e (this.1 (by exact_mod_cast h))
    have HF := Lib.hid hfin
    have HTT := Lib.hid hT
    have HT := Lib.hid ht; clear ht hTl hTs hT hfin
    go_enter Tryd.func6, Tryd.ntmps6
    go_wp2_with fail
    refine CA.out.mono ?_
    rintro e w1 ⟨rfl, hb1⟩
    have t1 := Lib.hid (HT.out.below hb1)
    obtain ⟨cap, W, hconv, hbW, hszW, hcell, hfroz⟩ := bytes_conv w1 s
    obtain ⟨B, hB⟩ : ∃ B, B = w1.heap.size := ⟨_, rfl⟩
    rw [← hB] at hconv hcell hfroz
    have HR : Hid (Turned s a D B w1 0 W) := ⟨hbW, hcell, hfroz⟩
    have hBB : w1.heap.size ≤ B := Nat.le_of_eq hB.symm
    clear hcell hfroz hB hszW hbW
    go_wp2
    go_loopw [8] (fun i wr => ∃ k : Nat, k ≤ 4 ∧ i = .int .i64 k ∧ Hid (Turned s a D B w1 k wr)) (fun i _ => 4 - (intOf i).toNat)
    case atStart => exact ⟨0, by omega, rfl, HR⟩
    case round =>
      obtain ⟨k, hk, rfl, HK⟩ := hrel
      match k, hk, HK with
      | 0, _, HK =>
        obtain ⟨c, x, hc, hcell, hfr, hx, hnext⟩ := HK.out.reads hBB (by omega)
        rw [Nat.add_zero] at hcell hfr hnext
        have HN := Lib.hid hnext
        rw [show ((CrcPlain.byteOf D 0 : Nat) : Int) = (D : Int) % 256 by simp only [CrcPlain.byteOf]; omega] at hx
        clear hnext HK HR
        go_wp2
        go_roundw
        case rel => exact ⟨1, by omega, by go_num, HN⟩
        case measure => simp [intOf]
      | 1, _, HK =>
        obtain ⟨c, x, hc, hcell, hfr, hx, hnext⟩ := HK.out.reads hBB (by omega)
        have HN := Lib.hid hnext
        rw [show ((CrcPlain.byteOf D 1 : Nat) : Int) = (D : Int) / 256 % 256 by simp only [CrcPlain.byteOf]; omega] at hx
        clear hnext HK HR
        go_wp2
        go_roundw
        case rel => exact ⟨2, by omega, by go_num, HN⟩
        case measure => simp [intOf]
      | 2, _, HK =>
        obtain ⟨c, x, hc, hcell, hfr, hx, hnext⟩ := HK.out.reads hBB (by omega)
        have HN := Lib.hid hnext
        rw [show ((CrcPlain.byteOf D 2 : Nat) : Int) = (D : Int) / 65536 % 256 by simp only [CrcPlain.byteOf]; omega] at hx
        clear hnext HK HR
        go_wp2
        go_roundw
        case rel => exact ⟨3, by omega, by go_num, HN⟩
        case measure => simp [intOf]
      | 3, _, HK =>
        obtain ⟨c, x, hc, hcell, hfr, hx, hnext⟩ := HK.out.reads hBB (by omega)
        have HN := Lib.hid hnext
        rw [show ((CrcPlain.byteOf D 3 : Nat) : Int) = (D : Int) / 16777216 by simp only [CrcPlain.byteOf]; omega] at hx
        clear hnext HK HR
        go_wp2
        go_roundw
        case rel => exact ⟨4, by omega, by go_num, HN⟩
        case measure => simp [intOf]
      | 4, _, HK =>
        have hback := bytes_back wr B s.size cap (CrcPlain.tl s.data.toList a D 4) (CrcPlain.tl_len _ _ _ 4) (HK.out.2.1)
        rw [← HTT.out] at hback
        have tr := Lib.hid (t1.out.below HK.out.1)
        have hbr := bt hb1 HK.out.1
        clear HK HR
        go_wp2_with fail
        refine (C1.out _ tr.out).mono ?_
        rintro e w4 ⟨rfl, rfl⟩
        go_wp2_with fail
        refine (C2.out _ tr.out).mono ?_
        rintro e w4 ⟨rfl, rfl⟩
        rcases HF.out with ⟨hf1, hf2⟩ | ⟨hf1, hf2⟩
        · go_wp2
          go_ret
          exact ⟨rfl, hbr⟩
        · go_wp2
          go_ret
          exact ⟨rfl, hbr⟩
end Go.Proofs.YtcofafiaedhgjaaDoor
