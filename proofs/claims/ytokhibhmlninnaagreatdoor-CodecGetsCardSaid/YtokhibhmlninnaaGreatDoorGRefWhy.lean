/- The reference's Why of any bytes is decOf: the walk. -/
import Derived.Test.YtokhibhmlninnaaGreatDoorGRefWhyA
import Derived.Lib.QuietBelow
import Derived.Deep.QuietTactic
import Derived.BigQuiet
set_option linter.unusedVariables false
set_option linter.unusedSimpArgs false
namespace Go.Proofs.YtokhibhmlninnaaGreatDoor
open Go.RowKit Go.Sort Go.Proofs.YtokhibhmlninnaaGreatDoorW.PrintWords
open CodPlain (contW widths byteN)
theorem at_up {W : World} {o : Obj} {v v1 : Value} (h : v1.ownBlock = v.ownBlock ∨ ∃ b, v1.ownBlock = some b ∧ W.heap.size + 1 ≤ b) : v1.ownBlock = v.ownBlock ∨ ∃ b, v1.ownBlock = some b ∧ (W.alloc o).heap.size ≤ b := by simpa using h
theorem RowI.to {W : World} {base : Nat} {v v' : Value} {xs : List Int} (h : RowI W base v v' xs) : Kd.R (Kd.int .i64) 3 W base (fun k => ¬ some k = v'.ownBlock) v xs := Kd.R_mono h (fun k hk => hk.2)
theorem lit_list : (⟨#[100, 97, 103, 49]⟩ : ByteArray).toList = [100, 97, 103, 49] := by simp
set_option maxRecDepth 100000 in
set_option maxHeartbeats 16000000 in
theorem refwhy_any (s : ByteArray) (w : World) (hs : s.size ≤ 700) : Calls Tryz.prog 13 #[.string s] w (RefWhyPost s w) := by
 have HBa := Lib.hid (below_alloc' w (.cells #[.int .i64 0, .int .i64 0, .slice none 0 0, .slice none 0 0, .slice none 0 0, .slice none 0 0] 27))
 have HBb := Lib.hid (below_alloc' (w.alloc (.cells #[.int .i64 0, .int .i64 0, .slice none 0 0, .slice none 0 0, .slice none 0 0, .slice none 0 0] 27)) (.cells #[.int .i64 0, .int .i64 0] 37))
 have HBc := Lib.hid (below_alloc' ((w.alloc (.cells #[.int .i64 0, .int .i64 0, .slice none 0 0, .slice none 0 0, .slice none 0 0, .slice none 0 0] 27)).alloc (.cells #[.int .i64 0, .int .i64 0] 37)) (.cells #[.int .i64 0, .int .i64 0, .slice none 0 0, .slice none 0 0, .slice none 0 0, .slice none 0 0] 27))
 have H2 : Hid ((((w.alloc (.cells #[.int .i64 0, .int .i64 0, .slice none 0 0, .slice none 0 0, .slice none 0 0, .slice none 0 0] 27)).alloc (.cells #[.int .i64 0, .int .i64 0] 37)).alloc (.cells #[.int .i64 0, .int .i64 0, .slice none 0 0, .slice none 0 0, .slice none 0 0, .slice none 0 0] 27)).heap[w.heap.size]? = some (.cells #[.int .i64 0, .int .i64 0, .slice none 0 0, .slice none 0 0, .slice none 0 0, .slice none 0 0] 27)) := blk_below (blk_below (blk_new w (.cells #[.int .i64 0, .int .i64 0, .slice none 0 0, .slice none 0 0, .slice none 0 0, .slice none 0 0] 27)) HBb.out) HBc.out
 have H3 : Hid ((((w.alloc (.cells #[.int .i64 0, .int .i64 0, .slice none 0 0, .slice none 0 0, .slice none 0 0, .slice none 0 0] 27)).alloc (.cells #[.int .i64 0, .int .i64 0] 37)).alloc (.cells #[.int .i64 0, .int .i64 0, .slice none 0 0, .slice none 0 0, .slice none 0 0, .slice none 0 0] 27)).heap[w.heap.size + 1]? = some (.cells #[.int .i64 0, .int .i64 0] 37)) := by
  have := blk_new (w.alloc (.cells #[.int .i64 0, .int .i64 0, .slice none 0 0, .slice none 0 0, .slice none 0 0, .slice none 0 0] 27)) (.cells #[.int .i64 0, .int .i64 0] 37)
  rw [show (w.alloc (.cells #[.int .i64 0, .int .i64 0, .slice none 0 0, .slice none 0 0, .slice none 0 0, .slice none 0 0] 27)).heap.size = w.heap.size + 1 by simp] at this
  exact blk_below this HBc.out
 have H5 : Hid ((((w.alloc (.cells #[.int .i64 0, .int .i64 0, .slice none 0 0, .slice none 0 0, .slice none 0 0, .slice none 0 0] 27)).alloc (.cells #[.int .i64 0, .int .i64 0] 37)).alloc (.cells #[.int .i64 0, .int .i64 0, .slice none 0 0, .slice none 0 0, .slice none 0 0, .slice none 0 0] 27)).heap[w.heap.size + 2]? = some (.cells #[.int .i64 0, .int .i64 0, .slice none 0 0, .slice none 0 0, .slice none 0 0, .slice none 0 0] 27)) := by
  have := blk_new ((w.alloc (.cells #[.int .i64 0, .int .i64 0, .slice none 0 0, .slice none 0 0, .slice none 0 0, .slice none 0 0] 27)).alloc (.cells #[.int .i64 0, .int .i64 0] 37)) (.cells #[.int .i64 0, .int .i64 0, .slice none 0 0, .slice none 0 0, .slice none 0 0, .slice none 0 0] 27)
  rw [show ((w.alloc (.cells #[.int .i64 0, .int .i64 0, .slice none 0 0, .slice none 0 0, .slice none 0 0, .slice none 0 0] 27)).alloc (.cells #[.int .i64 0, .int .i64 0] 37)).heap.size = w.heap.size + 2 by simp] at this
  exact this
 have HB0 : Hid (Below w.heap.size w (((w.alloc (.cells #[.int .i64 0, .int .i64 0, .slice none 0 0, .slice none 0 0, .slice none 0 0, .slice none 0 0] 27)).alloc (.cells #[.int .i64 0, .int .i64 0] 37)).alloc (.cells #[.int .i64 0, .int .i64 0, .slice none 0 0, .slice none 0 0, .slice none 0 0, .slice none 0 0] 27))) := (HBa.out.trans (HBb.out.mono HBa.out.size)).trans (HBc.out.mono (by simp; omega))
 have HSZ : Hid ((((w.alloc (.cells #[.int .i64 0, .int .i64 0, .slice none 0 0, .slice none 0 0, .slice none 0 0, .slice none 0 0] 27)).alloc (.cells #[.int .i64 0, .int .i64 0] 37)).alloc (.cells #[.int .i64 0, .int .i64 0, .slice none 0 0, .slice none 0 0, .slice none 0 0, .slice none 0 0] 27)).heap.size = w.heap.size + 3) := by show _ = _; simp
 clear HBa HBb HBc
 by_cases h21 : s.size < 21
 ·have h21I : (s.size : Int) < 21 := by omega
  have HDEC : Hid (decOf s = (CodPlain.noD, 0, (s.size : Int), 60)) := by show _ = _; unfold decOf CodPlain.decR; rw [if_pos h21]
  go_enter Tryz.func13, Tryz.ntmps13
  go_upto_region 2 with fail
  generalize (((w.alloc (.cells #[.int .i64 0, .int .i64 0, .slice none 0 0, .slice none 0 0, .slice none 0 0, .slice none 0 0] 27)).alloc (.cells #[.int .i64 0, .int .i64 0] 37)).alloc (.cells #[.int .i64 0, .int .i64 0, .slice none 0 0, .slice none 0 0, .slice none 0 0, .slice none 0 0] 27)) = w0 at *
  have HBW : Hid (Below w0.heap.size w0 w0) := Below.refl _ _
  have z2 := blk_below H2.out HBW.out
  have z3 := blk_below H3.out HBW.out
  have z5 := blk_below H5.out HBW.out
  have n0 : w0.cell? ⟨w.heap.size + 2, 0, none⟩ = some (.int .i64 0) := (blk_cell z5 0).trans rfl
  have n1 : w0.cell? ⟨w.heap.size + 2, 1, none⟩ = some (.int .i64 0) := (blk_cell z5 1).trans rfl
  have n2 : w0.cell? ⟨w.heap.size + 2, 2, none⟩ = some (.slice none 0 0) := (blk_cell z5 2).trans rfl
  have n3 : w0.cell? ⟨w.heap.size + 2, 3, none⟩ = some (.slice none 0 0) := (blk_cell z5 3).trans rfl
  have n4 : w0.cell? ⟨w.heap.size + 2, 4, none⟩ = some (.slice none 0 0) := (blk_cell z5 4).trans rfl
  have n5 : w0.cell? ⟨w.heap.size + 2, 5, none⟩ = some (.slice none 0 0) := (blk_cell z5 5).trans rfl
  have m0 : w0.cell? ⟨w.heap.size, 0, none⟩ = some (.int .i64 0) := (blk_cell z2 0).trans rfl
  have m1 : w0.cell? ⟨w.heap.size, 1, none⟩ = some (.int .i64 0) := (blk_cell z2 1).trans rfl
  have m2 : w0.cell? ⟨w.heap.size, 2, none⟩ = some (.slice none 0 0) := (blk_cell z2 2).trans rfl
  have m3 : w0.cell? ⟨w.heap.size, 3, none⟩ = some (.slice none 0 0) := (blk_cell z2 3).trans rfl
  have m4 : w0.cell? ⟨w.heap.size, 4, none⟩ = some (.slice none 0 0) := (blk_cell z2 4).trans rfl
  have m5 : w0.cell? ⟨w.heap.size, 5, none⟩ = some (.slice none 0 0) := (blk_cell z2 5).trans rfl
  have p0 : w0.cell? ⟨w.heap.size + 1, 0, none⟩ = some (.int .i64 0) := (blk_cell z3 0).trans rfl
  have p1 : w0.cell? ⟨w.heap.size + 1, 1, none⟩ = some (.int .i64 0) := (blk_cell z3 1).trans rfl
  have fr2 : ∀ i, w0.frozen? ⟨w.heap.size, i, none⟩ = false := fun i => blk_frozen z2 i
  have fr3 : ∀ i, w0.frozen? ⟨w.heap.size + 1, i, none⟩ = false := fun i => blk_frozen z3 i
  have HZ2 := Lib.hid z2
  have HZ3 := Lib.hid z3
  clear z2 z3 z5
  go_wp2_with fail
  obtain ⟨hg1, hg2⟩ := two_stores HZ2.out HZ3.out (.int .i64 0) (.int .i64 0) (.slice none 0 0) (.slice none 0 0) (.slice none 0 0) (.slice none 0 0) (.int .i64 0) (.int .i64 (s.size : Int))
  refine bodyPost_ret (results_list (rs := [.cell 2 27, .cell 3 37, .tmp 4]) rfl (by simp) (.cell _ _ _ _ _ rfl hg1 Tryz.underlying27 rfl (by kernel_rfl) (.cell _ _ _ _ _ rfl hg2 Tryz.underlying37 rfl (by kernel_rfl) (.tmp .nil)))) rfl ?_
  exact ⟨0, 0, none, 0, [], none, 0, [], none, 0, [], none, 0, [], by rw [HDEC.out]; rfl, by rw [HDEC.out]; rfl, dr_nil _, below_stores (HB0.out.trans (HBW.out.mono HB0.out.size)) (Nat.le_refl _) _ _ _ _ _ _ _ _⟩
 ·have h21I : ¬ (s.size : Int) < 21 := by omega
  obtain ⟨E4, hE4⟩ : ∃ n : Nat, (n : Int) = (s.size : Int) - 4 := ⟨s.size - 4, by omega⟩
  have hE4n : E4 = s.size - 4 := by omega
  have CO := Lib.hid (fun w1 => refopen_any s w1 (by omega))
  have HD1 : Hid (decOf s = if (openB s).2 = false then (CodPlain.noD, (s.size : Int) - 4, (s.size : Int), 61) else CodPlain.decR s (openB s).1 true) := by
   show _ = _
   unfold decOf
   cases (openB s).2 with
   | true => rw [if_neg (by simp)]
   | false => unfold CodPlain.decR; rw [if_neg h21, if_pos rfl, if_pos rfl]
  obtain ⟨b, hb⟩ : ∃ b, b = (openB s).1 := ⟨_, rfl⟩
  obtain ⟨ok, hok⟩ : ∃ b, b = (openB s).2 := ⟨_, rfl⟩
  rw [← hb, ← hok] at HD1 CO
  have HOK : Hid (openB s = (b, ok)) := by rw [hb, hok]; rfl
  have HE4 := Lib.hid hE4
  have HE4n := Lib.hid hE4n
  clear hb hok hE4 hE4n
  go_enter Tryz.func13, Tryz.ntmps13
  go_upto_region 2 with fail
  generalize (((w.alloc (.cells #[.int .i64 0, .int .i64 0, .slice none 0 0, .slice none 0 0, .slice none 0 0, .slice none 0 0] 27)).alloc (.cells #[.int .i64 0, .int .i64 0] 37)).alloc (.cells #[.int .i64 0, .int .i64 0, .slice none 0 0, .slice none 0 0, .slice none 0 0, .slice none 0 0] 27)) = w0 at *
  go_upto_region 5 with fail
  rw [← HE4.out]
  go_wp2_with fail
  refine (CO.out w0).mono ?_
  rintro e w1 ⟨rfl, hb⟩
  have HBW1 : Hid (Below w0.heap.size w0 w1) := hb
  clear hb CO
  cases ok with
  | false =>
   have HDEC : Hid (decOf s = (CodPlain.noD, (E4 : Int), (s.size : Int), 61)) := by show _ = _; rw [HD1.out, if_pos rfl, HE4.out]
   have z2 := blk_below H2.out HBW1.out
   have z3 := blk_below H3.out HBW1.out
   have z5 := blk_below H5.out HBW1.out
   have n0 : w1.cell? ⟨w.heap.size + 2, 0, none⟩ = some (.int .i64 0) := (blk_cell z5 0).trans rfl
   have n1 : w1.cell? ⟨w.heap.size + 2, 1, none⟩ = some (.int .i64 0) := (blk_cell z5 1).trans rfl
   have n2 : w1.cell? ⟨w.heap.size + 2, 2, none⟩ = some (.slice none 0 0) := (blk_cell z5 2).trans rfl
   have n3 : w1.cell? ⟨w.heap.size + 2, 3, none⟩ = some (.slice none 0 0) := (blk_cell z5 3).trans rfl
   have n4 : w1.cell? ⟨w.heap.size + 2, 4, none⟩ = some (.slice none 0 0) := (blk_cell z5 4).trans rfl
   have n5 : w1.cell? ⟨w.heap.size + 2, 5, none⟩ = some (.slice none 0 0) := (blk_cell z5 5).trans rfl
   have m0 : w1.cell? ⟨w.heap.size, 0, none⟩ = some (.int .i64 0) := (blk_cell z2 0).trans rfl
   have m1 : w1.cell? ⟨w.heap.size, 1, none⟩ = some (.int .i64 0) := (blk_cell z2 1).trans rfl
   have m2 : w1.cell? ⟨w.heap.size, 2, none⟩ = some (.slice none 0 0) := (blk_cell z2 2).trans rfl
   have m3 : w1.cell? ⟨w.heap.size, 3, none⟩ = some (.slice none 0 0) := (blk_cell z2 3).trans rfl
   have m4 : w1.cell? ⟨w.heap.size, 4, none⟩ = some (.slice none 0 0) := (blk_cell z2 4).trans rfl
   have m5 : w1.cell? ⟨w.heap.size, 5, none⟩ = some (.slice none 0 0) := (blk_cell z2 5).trans rfl
   have p0 : w1.cell? ⟨w.heap.size + 1, 0, none⟩ = some (.int .i64 0) := (blk_cell z3 0).trans rfl
   have p1 : w1.cell? ⟨w.heap.size + 1, 1, none⟩ = some (.int .i64 0) := (blk_cell z3 1).trans rfl
   have fr2 : ∀ i, w1.frozen? ⟨w.heap.size, i, none⟩ = false := fun i => blk_frozen z2 i
   have fr3 : ∀ i, w1.frozen? ⟨w.heap.size + 1, i, none⟩ = false := fun i => blk_frozen z3 i
   have HZ2 := Lib.hid z2
   have HZ3 := Lib.hid z3
   clear z2 z3 z5
   go_wp2_with fail
   obtain ⟨hg1, hg2⟩ := two_stores HZ2.out HZ3.out (.int .i64 0) (.int .i64 0) (.slice none 0 0) (.slice none 0 0) (.slice none 0 0) (.slice none 0 0) (.int .i64 (E4 : Int)) (.int .i64 (s.size : Int))
   refine bodyPost_ret (results_list (rs := [.cell 2 27, .cell 3 37, .tmp 4]) rfl (by simp) (.cell _ _ _ _ _ rfl hg1 Tryz.underlying27 rfl (by kernel_rfl) (.cell _ _ _ _ _ rfl hg2 Tryz.underlying37 rfl (by kernel_rfl) (.tmp .nil)))) rfl ?_
   exact ⟨0, 0, none, 0, [], none, 0, [], none, 0, [], none, 0, [], by rw [HDEC.out]; rfl, by rw [HDEC.out]; rfl, dr_nil _, below_stores (HB0.out.trans (HBW1.out.mono HB0.out.size)) (Nat.le_refl _) _ _ _ _ _ _ _ _⟩
  | true =>
   have HEX := Lib.hid (open_ext HOK.out)
   obtain ⟨hbs, h4s⟩ := open_size HOK.out
   have hb17 : 17 ≤ b.size := by omega
   have hb700 : b.size ≤ 700 := by omega
   have hbE : b.size = E4 := by have := HE4n.out; omega
   have hE4le : E4 ≤ s.size := by omega
   have HD2 : Hid (decOf s = CodPlain.decR s b true) := by show _ = _; rw [HD1.out, if_neg (by simp)]
   have HHS : Hid ((s.extract 0 4 = ⟨#[100, 97, 103, 49]⟩) ↔ b.data.toList.take 4 = CodPlain.magicL) := head_str HEX.out (by omega)
   have h4I : (4 : Int) ≤ (s.size : Int) := by omega
   have hix : 4 < s.size := by omega
   have hixI : (4 : Int) < (s.size : Int) := by omega
   have HV4 : Hid (b.data.toList.getD 4 0 = s[4]'hix) := byte_same HEX.out (by omega) hix
   clear HD1 HOK hbs h4s
   by_cases hm : s.extract 0 4 = ⟨#[100, 97, 103, 49]⟩
   ·have hmt : ((s.extract 0 4).toList == [100, 97, 103, 49]) = true := by rw [hm, lit_list]; rfl
    have HM := Lib.hid (HHS.out.1 hm)
    clear HHS hm
    by_cases hv : (s[4]'hix) = 1
    ·have hvb : (((s[4]'hix).toNat : Int) != 1) = false := by rw [hv]; rfl
     have HV1 : Hid (b.data.toList.getD 4 0 = 1) := HV4.out.trans hv
     clear HV4 hv
     have HCB := Lib.hid (CodPlain.cont_body hb17)
     have HD4 : Hid (decOf s = (let r := CodPlain.bodyS b (5, false); if r.2.2 = true then (CodPlain.noD, (r.2.1 : Int), (b.size : Int), 64) else if r.2.1 < b.size then (CodPlain.noD, (r.2.1 : Int), (b.size : Int), 65) else if CodPlain.checkD r.1 ≠ 0 then (CodPlain.noD, 5, (b.size : Int), CodPlain.checkD r.1) else (r.1, 0, 0, 0))) := by
      show _ = _
      rw [HD2.out]
      unfold CodPlain.decR
      rw [if_neg h21, if_neg (by simp), if_neg (by rw [HM.out]; simp), if_neg (by rw [HV1.out]; simp)]
     have HD64 : Hid (∀ a : Nat, (contW b (widths b) (byteN b 8) (17, false)).2 = (a, true) → decOf s = (CodPlain.noD, (a : Int), (E4 : Int), 64)) := by
      show ∀ _, _ → _
      intro a h
      have h2 := HCB.out.1
      rw [h] at h2
      have h3 := HD4.out
      dsimp only at h3
      rw [← h2, if_pos rfl, hbE] at h3
      exact h3
     clear HD2 HM HV1
     have hx5 : 5 < b.size := by omega
     have hx6 : 6 < b.size := by omega
     have hx7 : 7 < b.size := by omega
     have hx8 : 8 < b.size := by omega
     have hx5I : (5 : Int) < (b.size : Int) := by omega
     have hx6I : (6 : Int) < (b.size : Int) := by omega
     have hx7I : (7 : Int) < (b.size : Int) := by omega
     have hx8I : (8 : Int) < (b.size : Int) := by omega
     have byt : ∀ i (h : i < b.size), (b[i]'h).toNat = byteN b i := fun i h => by
      unfold CodPlain.byteN
      rw [List.getD_eq_getElem?_getD, List.getElem?_eq_getElem (by simpa using h)]; rfl
     have HWID : Hid (widths b = (List.replicate (byteN b 5) [1, 4, 2]).flatten ++ (List.replicate (byteN b 6) [1, 1]).flatten ++ (List.replicate (byteN b 7) [1, 1, 2]).flatten) := rfl
     have hc5 := byt 5 hx5
     have hc6 := byt 6 hx6
     have hc7 := byt 7 hx7
     have hc8 := byt 8 hx8
     have hl5 := CodPlain.byteN_lt b 5
     have hl6 := CodPlain.byteN_lt b 6
     have hl7 := CodPlain.byteN_lt b 7
     have hl8 := CodPlain.byteN_lt b 8
     have HBYT := Lib.hid byt
     clear byt
     have hEX : s.extract 0 E4 = b := by rw [HEX.out, HE4n.out]
     obtain ⟨N1, hN1⟩ : ∃ n, n = byteN b 5 := ⟨_, rfl⟩
     obtain ⟨N2, hN2⟩ : ∃ n, n = byteN b 6 := ⟨_, rfl⟩
     obtain ⟨N3, hN3⟩ : ∃ n, n = byteN b 7 := ⟨_, rfl⟩
     obtain ⟨N4, hN4⟩ : ∃ n, n = byteN b 8 := ⟨_, rfl⟩
     rw [← hN1] at hc5 hl5 HWID
     rw [← hN2] at hc6 hl6 HWID
     rw [← hN3] at hc7 hl7 HWID
     rw [← hN4] at hc8 hl8
     have HN4 := Lib.hid hN4
     clear hN1 hN2 hN3 hN4
     go_upto_region 13 with fail
     try rw [hEX]
     have HEXb := Lib.hid hEX
     clear hEX
     have HBW2 : Hid (Below w0.heap.size w0 (w1.alloc (.cells #[] 3))) := HBW1.out.alloc HBW1.out.size _
     have HU2 : Hid (RowI (w1.alloc (.cells #[] 3)) w0.heap.size (.slice (some ⟨w1.heap.size, 0, none⟩) 0 0) (Value.slice none 0 0) []) := RowI.made HBW1.out.size
     go_upto_region 14 with fail
     generalize w1.alloc (.cells #[] 3) = w2 at *
     obtain ⟨u2, hu2⟩ : ∃ u, u = Value.slice (some ⟨w1.heap.size, 0, none⟩) 0 0 := ⟨_, rfl⟩
     rw [← hu2] at HU2 ⊢
     clear hu2
     go_wp2_with fail
     go_loopw [10, 11] (fun v10 i wr => ∃ (k : Nat) (u : Value), k ≤ N1 ∧ i = .int .i64 k ∧ u = v10 ∧ Hid (RowI wr w0.heap.size u (Value.slice none 0 0) (toI ((List.replicate k [1, 4, 2]).flatten))) ∧ Hid (Below w0.heap.size w0 wr)) (fun _ i _ => N1 - (intOf i).toNat)
     case atStart => exact ⟨0, _, Nat.zero_le _, rfl, rfl, by show RowI _ _ _ _ _; simpa [toI] using HU2.out, HBW2⟩
     case round =>
      clear HU2 HBW2
      obtain ⟨k, u, hk, rfl, rfl, HU, HB⟩ := hrel
      by_cases hlt : k < N1
      ·have hlc : k < (b[5]'hx5).toNat := by rw [hc5]; exact hlt
       have hlcI : (k : Int) < ((b[5]'hx5).toNat : Int) := by omega
       have hln : ((toI ((List.replicate k [1, 4, 2]).flatten)).length + 3) * 8 ≤ 140737488355328 := by
        rw [toI_len]
        simp
        omega
       have hu1 := RowI.alloc HU.out (.cells #[.int .i64 1, .int .i64 4, .int .i64 2] 3)
       have hba : Below w0.heap.size w0 (wr.alloc (.cells #[.int .i64 1, .int .i64 4, .int .i64 2] 3)) := HB.out.alloc HB.out.size _
       have HUa := Lib.hid hu1
       have HBa := Lib.hid hba
       clear hu1 hba
       go_wp2_with (at_builtin; refine Kd.R_append_row (Value.int .i64) (0 : Int) (h1 := fun _ => rfl) (w0 := w0) w0.heap.size rfl (.tmp 68) (.tmp 69) 48 3 (.int .i64 0) 8 rfl Tryz.underlying48 infoSI rfl (by decide) u (toI ((List.replicate k [1, 4, 2]).flatten)) [1, 4, 2] (some ⟨wr.heap.size, 0, none⟩) 3 3 (fun k => True ∧ some k ≠ (Value.slice none 0 0).ownBlock) rfl rfl ?aF ?aO ?aR ?aB ?aS ?aL ?_)
       case aF => first | exact fun k _ => ⟨trivial, by simp [Value.ownBlock]⟩ | (intro k hk; have h := (fun k _ => ⟨trivial, by simp [Value.ownBlock]⟩) k (by simpa using hk); simpa using h)
       case aO => first | exact HUa.out | exact RowI.to HUa.out
       case aR => exact Kd.C_of_reads (d := (0 : Int)) (lit_reads wr [1, 4, 2] 3 (by simp))
       case aB => exact HBa.out
       case aS => first | exact HBa.out.size | (have h := HBa.out.size; simpa using h)
       case aL => exact hln
       intro ua wa hX hb hg hat
       have HX : Hid (RowI wa w0.heap.size ua (Value.slice none 0 0) (toI ((List.replicate (k + 1) [1, 4, 2]).flatten))) := by
        show RowI _ _ _ _ _
        have hX' := RowI.of hX
        rw [rep_snoc]
        try simp only [toI_app, List.append_assoc] at hX'
        try simp only [toI_app, List.append_assoc]
        exact hX'
       have HBn := Lib.hid hb
       clear hX hb hg hat HU HB HUa HBa
       go_wp2_with fail
       go_roundw
       case rel => exact ⟨k + 1, ua, by omega, by go_num, rfl, HX, HBn⟩
       case measure => simp [intOf]; omega
      ·obtain rfl : N1 = k := by omega
       have hlc : ¬ N1 < (b[5]'hx5).toNat := by rw [hc5]; exact hlt
       clear hlt hk
       go_wp2_with fail
       rename World => wA
       go_loopw [10, 12] (fun v10 i wr => ∃ (k : Nat) (u : Value), k ≤ N2 ∧ i = .int .i64 k ∧ u = v10 ∧ Hid (RowI wr w0.heap.size u (Value.slice none 0 0) (toI ((List.replicate N1 [1, 4, 2]).flatten ++ (List.replicate k [1, 1]).flatten))) ∧ Hid (Below w0.heap.size w0 wr)) (fun _ i _ => N2 - (intOf i).toNat)
       case atStart => exact ⟨0, _, Nat.zero_le _, rfl, rfl, by show RowI _ _ _ _ _; simpa [toI] using HU.out, HB⟩
       case round =>
        clear HU HB
        obtain ⟨k, u, hk, rfl, rfl, HU, HB⟩ := hrel
        by_cases hlt : k < N2
        ·have hlc : k < (b[6]'hx6).toNat := by rw [hc6]; exact hlt
         have hlcI : (k : Int) < ((b[6]'hx6).toNat : Int) := by omega
         have hln : ((toI ((List.replicate N1 [1, 4, 2]).flatten ++ (List.replicate k [1, 1]).flatten)).length + 2) * 8 ≤ 140737488355328 := by
          rw [toI_len]
          simp
          omega
         have hu1 := RowI.alloc HU.out (.cells #[.int .i64 1, .int .i64 1] 3)
         have hba : Below w0.heap.size w0 (wr.alloc (.cells #[.int .i64 1, .int .i64 1] 3)) := HB.out.alloc HB.out.size _
         have HUa := Lib.hid hu1
         have HBa := Lib.hid hba
         clear hu1 hba
         go_wp2_with (at_builtin; refine Kd.R_append_row (Value.int .i64) (0 : Int) (h1 := fun _ => rfl) (w0 := w0) w0.heap.size rfl (.tmp 78) (.tmp 79) 48 3 (.int .i64 0) 8 rfl Tryz.underlying48 infoSI rfl (by decide) u (toI ((List.replicate N1 [1, 4, 2]).flatten ++ (List.replicate k [1, 1]).flatten)) [1, 1] (some ⟨wr.heap.size, 0, none⟩) 2 2 (fun k => True ∧ some k ≠ (Value.slice none 0 0).ownBlock) rfl rfl ?aF ?aO ?aR ?aB ?aS ?aL ?_)
         case aF => first | exact fun k _ => ⟨trivial, by simp [Value.ownBlock]⟩ | (intro k hk; have h := (fun k _ => ⟨trivial, by simp [Value.ownBlock]⟩) k (by simpa using hk); simpa using h)
         case aO => first | exact HUa.out | exact RowI.to HUa.out
         case aR => exact Kd.C_of_reads (d := (0 : Int)) (lit_reads wr [1, 1] 3 (by simp))
         case aB => exact HBa.out
         case aS => first | exact HBa.out.size | (have h := HBa.out.size; simpa using h)
         case aL => exact hln
         intro ua wa hX hb hg hat
         have HX : Hid (RowI wa w0.heap.size ua (Value.slice none 0 0) (toI ((List.replicate N1 [1, 4, 2]).flatten ++ (List.replicate (k + 1) [1, 1]).flatten))) := by
          show RowI _ _ _ _ _
          have hX' := RowI.of hX
          rw [rep_snoc]
          try simp only [toI_app, List.append_assoc] at hX'
          try simp only [toI_app, List.append_assoc]
          exact hX'
         have HBn := Lib.hid hb
         clear hX hb hg hat HU HB HUa HBa
         go_wp2_with fail
         go_roundw
         case rel => exact ⟨k + 1, ua, by omega, by go_num, rfl, HX, HBn⟩
         case measure => simp [intOf]; omega
        ·obtain rfl : N2 = k := by omega
         have hlc : ¬ N2 < (b[6]'hx6).toNat := by rw [hc6]; exact hlt
         clear hlt hk
         go_wp2_with fail
         rename World => wB
         go_loopw [10, 13] (fun v10 i wr => ∃ (k : Nat) (u : Value), k ≤ N3 ∧ i = .int .i64 k ∧ u = v10 ∧ Hid (RowI wr w0.heap.size u (Value.slice none 0 0) (toI ((List.replicate N1 [1, 4, 2]).flatten ++ (List.replicate N2 [1, 1]).flatten ++ (List.replicate k [1, 1, 2]).flatten))) ∧ Hid (Below w0.heap.size w0 wr)) (fun _ i _ => N3 - (intOf i).toNat)
         case atStart => exact ⟨0, _, Nat.zero_le _, rfl, rfl, by show RowI _ _ _ _ _; simpa [toI] using HU.out, HB⟩
         case round =>
          clear HU HB
          obtain ⟨k, u, hk, rfl, rfl, HU, HB⟩ := hrel
          by_cases hlt : k < N3
          ·have hlc : k < (b[7]'hx7).toNat := by rw [hc7]; exact hlt
           have hlcI : (k : Int) < ((b[7]'hx7).toNat : Int) := by omega
           have hln : ((toI ((List.replicate N1 [1, 4, 2]).flatten ++ (List.replicate N2 [1, 1]).flatten ++ (List.replicate k [1, 1, 2]).flatten)).length + 3) * 8 ≤ 140737488355328 := by
            rw [toI_len]
            simp
            omega
           have hu1 := RowI.alloc HU.out (.cells #[.int .i64 1, .int .i64 1, .int .i64 2] 3)
           have hba : Below w0.heap.size w0 (wr.alloc (.cells #[.int .i64 1, .int .i64 1, .int .i64 2] 3)) := HB.out.alloc HB.out.size _
           have HUa := Lib.hid hu1
           have HBa := Lib.hid hba
           clear hu1 hba
           go_wp2_with (at_builtin; refine Kd.R_append_row (Value.int .i64) (0 : Int) (h1 := fun _ => rfl) (w0 := w0) w0.heap.size rfl (.tmp 88) (.tmp 89) 48 3 (.int .i64 0) 8 rfl Tryz.underlying48 infoSI rfl (by decide) u (toI ((List.replicate N1 [1, 4, 2]).flatten ++ (List.replicate N2 [1, 1]).flatten ++ (List.replicate k [1, 1, 2]).flatten)) [1, 1, 2] (some ⟨wr.heap.size, 0, none⟩) 3 3 (fun k => True ∧ some k ≠ (Value.slice none 0 0).ownBlock) rfl rfl ?aF ?aO ?aR ?aB ?aS ?aL ?_)
           case aF => first | exact fun k _ => ⟨trivial, by simp [Value.ownBlock]⟩ | (intro k hk; have h := (fun k _ => ⟨trivial, by simp [Value.ownBlock]⟩) k (by simpa using hk); simpa using h)
           case aO => first | exact HUa.out | exact RowI.to HUa.out
           case aR => exact Kd.C_of_reads (d := (0 : Int)) (lit_reads wr [1, 1, 2] 3 (by simp))
           case aB => exact HBa.out
           case aS => first | exact HBa.out.size | (have h := HBa.out.size; simpa using h)
           case aL => exact hln
           intro ua wa hX hb hg hat
           have HX : Hid (RowI wa w0.heap.size ua (Value.slice none 0 0) (toI ((List.replicate N1 [1, 4, 2]).flatten ++ (List.replicate N2 [1, 1]).flatten ++ (List.replicate (k + 1) [1, 1, 2]).flatten))) := by
            show RowI _ _ _ _ _
            have hX' := RowI.of hX
            rw [rep_snoc]
            try simp only [toI_app, List.append_assoc] at hX'
            try simp only [toI_app, List.append_assoc]
            exact hX'
           have HBn := Lib.hid hb
           clear hX hb hg hat HU HB HUa HBa
           go_wp2_with fail
           go_roundw
           case rel => exact ⟨k + 1, ua, by omega, by go_num, rfl, HX, HBn⟩
           case measure => simp [intOf]; omega
          ·obtain rfl : N3 = k := by omega
           have hlc : ¬ N3 < (b[7]'hx7).toNat := by rw [hc7]; exact hlt
           clear hlt hk
           go_wp2_with fail
           rename World => wC
           have HVU := RowI.second HU.out HB.out.size
           have HB1 : Hid (Below w0.heap.size w0 (wC.alloc (.cells #[] 3))) := HB.out.alloc HB.out.size _
           rw [← HWID.out] at HVU
           have HU1 := Lib.hid HVU.1
           have HV1 := Lib.hid HVU.2
           clear HVU HU HB HWID
           go_upto_region 27 with fail
           rename World => wC
           generalize wC.alloc (.cells #[] 3) = wD at *
           obtain ⟨v1, hv1⟩ : ∃ v, v = Value.slice (some ⟨wC.heap.size, 0, none⟩) 0 0 := ⟨_, rfl⟩
           rw [← hv1] at HU1 HV1 ⊢
           clear hv1
           have HWL := Lib.hid (widths_len b)
           have HWK := Lib.hid (wok_widths b)
           have HI1 := Lib.hid (winv_start b)
           rw [← HN4.out] at HI1
           go_wp2_with fail
           go_loopw [10, 14, 15, 16, 17] (fun v10 v14 v15 v16 v17 wr => ∃ (u v : Value) (W : List Nat) (ls : List Int) (i a n : Nat), u = v10 ∧ v = v14 ∧ v15 = .int .i64 a ∧ v16 = .int .i64 n ∧ v17 = .int .i64 i ∧ i ≤ W.length ∧ W.length ≤ 2040 ∧ i + 17 ≤ a ∧ a ≤ b.size ∧ ls.length = i ∧ n ≤ 255 ∧ Hid (WOk W) ∧ Hid (WInv b W i n a ls) ∧ Hid (RowI wr w0.heap.size u v (toI W)) ∧ Hid (RowI wr w0.heap.size v u ls) ∧ Hid (Below w0.heap.size w0 wr)) (fun _ _ a _ _ _ => b.size - (intOf a).toNat)
           case atStart => exact ⟨_, v1, widths b, [], 0, 17, N4, rfl, rfl, rfl, rfl, rfl, Nat.zero_le _, HWL.out, by omega, by omega, rfl, by omega, HWK, HI1, HU1, HV1, HB1⟩
           case round =>
            clear HU1 HV1 HB1 HI1 HWL HWK
            obtain ⟨u, v, W, ls, i, a, n, rfl, rfl, rfl, rfl, rfl, hiW, hwl, hia, hab, hls, hn255, HWOK, HINV, HU, HV, HB⟩ := hrel
            obtain ⟨A, c, hu, hAc, -⟩ := RowI.reads HU.out
            rw [toI_len] at hu hAc
            subst hu
            by_cases hlt : i < W.length
            ·have hltI : (i : Int) < (W.length : Int) := by omega
             have hgeI : ¬ (i : Int) ≥ (W.length : Int) := by omega
             obtain ⟨ad, rfl⟩ := RowI.addr HU.out (by omega)
             have hic : (i : Int) ≤ (c : Int) := by omega
             obtain ⟨n', hn'⟩ : ∃ n', n' = n := ⟨_, rfl⟩
             rw [← hn'] at HINV
             have hn255' : n' ≤ 255 := by omega
             subst hn'
             have hwl2 := hwl
             have hq := HWOK.out
             obtain ⟨hqw, hq1, hq4⟩ := wok_wide hq hlt
             have hcell := RowI.cell HU.out hlt
             have HINV2 : Hid (a + W.getD i 0 ≤ b.size → WInv b W (i + 1) n' (a + W.getD i 0) (ls ++ [((WirePlain.num b (a : Int) ((W.getD i 0 : Nat) : Int) : Nat) : Int)])) := fun h => winv_num HINV.out hlt hq h
             have HFAIL : Hid (b.size < a + W.getD i 0 → (contW b (widths b) (byteN b 8) (17, false)).2 = (a, true)) := fun h => winv_fail HINV.out hlt hq h
             have HCELL : Hid (∀ (Wz : World) (v2 : Value), RowI Wz w0.heap.size (.slice (some ad) W.length c) v2 (toI W) → Wz.cell? (ad.add i) = some (.int .i64 ((W.getD i 0 : Nat) : Int))) := fun Wz v2 h => RowI.cell h hlt
             obtain ⟨q, hqd⟩ : ∃ q, q = W.getD i 0 := ⟨_, rfl⟩
             rw [← hqd] at hqw hq1 hq4 hcell HINV2 HFAIL HCELL
             have HQW := Lib.hid hqw
             clear hqd hqw hq HINV
             by_cases hth : a + q ≤ b.size
             ·have CG := Lib.hid (fun w9 => refget_any b (a : Int) (q : Int) w9 (by omega) (by omega))
              have hgr := get_there HQW.out hq4 hth
              obtain ⟨z, hz⟩ : ∃ z : Int, z = ((WirePlain.num b (a : Int) (q : Int) : Nat) : Int) := ⟨_, rfl⟩
              rw [hgr, ← hz] at CG
              have HI3 := Lib.hid (HINV2.out hth)
              rw [← hz] at HI3
              clear hgr hz HINV2 HFAIL
              go_wp2_with fail
              refine (CG.out _).mono ?_
              rintro e wg ⟨rfl, hb⟩
              have HUg := Lib.hid (RowI.below HU.out hb)
              have HVg := Lib.hid (RowI.below HV.out hb)
              have HBg := Lib.hid (HB.out.trans (hb.mono HB.out.size))
              clear hb hcell CG HU HV HB
              have hu1 := RowI.alloc HVg.out (.cells #[.int .i64 z] 3)
              have hba : Below w0.heap.size w0 (wg.alloc (.cells #[.int .i64 z] 3)) := HBg.out.alloc HBg.out.size _
              have HUa := Lib.hid hu1
              have HBa := Lib.hid hba
              clear hu1 hba
              go_wp2_with (at_builtin; refine Kd.R_append_row (Value.int .i64) (0 : Int) (h1 := fun _ => rfl) (w0 := w0) w0.heap.size rfl (.tmp 163) (.tmp 165) 48 3 (.int .i64 0) 8 rfl Tryz.underlying48 infoSI rfl (by decide) v ls [z] (some ⟨wg.heap.size, 0, none⟩) 1 1 (fun k => True ∧ some k ≠ (Value.slice (some ad) W.length c).ownBlock) rfl rfl ?aF ?aO ?aR ?aB ?aS ?aL ?_)
              case aF => first | exact (RowI.alloc HUg.out (.cells #[.int .i64 z] 3)).fresh | (intro k hk; have h := ((RowI.alloc HUg.out (.cells #[.int .i64 z] 3)).fresh) k (by simpa using hk); simpa using h)
              case aO => first | exact HUa.out | exact RowI.to HUa.out
              case aR => exact Kd.C_of_reads (d := (0 : Int)) (lit_reads wg [z] 3 (by simp))
              case aB => exact HBa.out
              case aS => first | exact HBa.out.size | (have h := HBa.out.size; simpa using h)
              case aL => exact (by rw [hls]; omega)
              intro va w5 hX hb hg hat
              have HV5 := Lib.hid (RowI.of hX)
              have HU5 := Lib.hid (RowI.after (RowI.alloc HUg.out (.cells #[.int .i64 z] 3)) hg (at_up hat))
              have HB5 := Lib.hid hb
              clear hX hb hg hat HUg HVg HBg HUa HBa
              have hcell := HCELL.out _ _ HU5.out
              go_wp2_with fail
              go_roundw
              case rel => exact ⟨_, va, W, ls ++ [z], i + 1, a + q, n', rfl, rfl, by go_num, rfl, by go_num, by omega, hwl2, by omega, hth, by simp [hls], hn255', HWOK, HI3, HU5, HV5, HB5⟩
              case measure => simp [intOf]; omega
             ·have CG := Lib.hid (fun w9 => refget_any b (a : Int) (q : Int) w9 (by omega) (by omega))
              have hgr := get_not HQW.out (show b.size < a + q by omega)
              rw [hgr] at CG
              have HDEC : Hid (decOf s = (CodPlain.noD, (a : Int), (E4 : Int), 64)) := HD64.out _ (HFAIL.out (by omega))
              clear hgr HINV2 HFAIL
              go_wp2_with fail
              refine (CG.out _).mono ?_
              rintro e wg ⟨rfl, hb⟩
              have HBg := Lib.hid (HB.out.trans (hb.mono HB.out.size))
              clear hb hcell CG HU HV HB
              have z2 := blk_below H2.out HBg.out
              have z3 := blk_below H3.out HBg.out
              have z5 := blk_below H5.out HBg.out
              have n0 : wg.cell? ⟨w.heap.size + 2, 0, none⟩ = some (.int .i64 0) := (blk_cell z5 0).trans rfl
              have n1 : wg.cell? ⟨w.heap.size + 2, 1, none⟩ = some (.int .i64 0) := (blk_cell z5 1).trans rfl
              have n2 : wg.cell? ⟨w.heap.size + 2, 2, none⟩ = some (.slice none 0 0) := (blk_cell z5 2).trans rfl
              have n3 : wg.cell? ⟨w.heap.size + 2, 3, none⟩ = some (.slice none 0 0) := (blk_cell z5 3).trans rfl
              have n4 : wg.cell? ⟨w.heap.size + 2, 4, none⟩ = some (.slice none 0 0) := (blk_cell z5 4).trans rfl
              have n5 : wg.cell? ⟨w.heap.size + 2, 5, none⟩ = some (.slice none 0 0) := (blk_cell z5 5).trans rfl
              have m0 : wg.cell? ⟨w.heap.size, 0, none⟩ = some (.int .i64 0) := (blk_cell z2 0).trans rfl
              have m1 : wg.cell? ⟨w.heap.size, 1, none⟩ = some (.int .i64 0) := (blk_cell z2 1).trans rfl
              have m2 : wg.cell? ⟨w.heap.size, 2, none⟩ = some (.slice none 0 0) := (blk_cell z2 2).trans rfl
              have m3 : wg.cell? ⟨w.heap.size, 3, none⟩ = some (.slice none 0 0) := (blk_cell z2 3).trans rfl
              have m4 : wg.cell? ⟨w.heap.size, 4, none⟩ = some (.slice none 0 0) := (blk_cell z2 4).trans rfl
              have m5 : wg.cell? ⟨w.heap.size, 5, none⟩ = some (.slice none 0 0) := (blk_cell z2 5).trans rfl
              have p0 : wg.cell? ⟨w.heap.size + 1, 0, none⟩ = some (.int .i64 0) := (blk_cell z3 0).trans rfl
              have p1 : wg.cell? ⟨w.heap.size + 1, 1, none⟩ = some (.int .i64 0) := (blk_cell z3 1).trans rfl
              have fr2 : ∀ i, wg.frozen? ⟨w.heap.size, i, none⟩ = false := fun i => blk_frozen z2 i
              have fr3 : ∀ i, wg.frozen? ⟨w.heap.size + 1, i, none⟩ = false := fun i => blk_frozen z3 i
              have HZ2 := Lib.hid z2
              have HZ3 := Lib.hid z3
              clear z2 z3 z5
              go_upto_region 45 with fail
              rename ∀ (_ : Act) (_ : World), _ → _ => hkeep
              have HKEEP := PLift.up hkeep
              clear hkeep
              repeat (rename ∀ (_ : Act) (_ : World), _ → _ => hk; clear hk)
              go_wp2_with fail
              refine HKEEP.down _ _ ?_
              refine wp_ret ?_
              obtain ⟨hg1, hg2⟩ := two_stores HZ2.out HZ3.out (.int .i64 0) (.int .i64 0) (.slice none 0 0) (.slice none 0 0) (.slice none 0 0) (.slice none 0 0) (.int .i64 (a : Int)) (.int .i64 (E4 : Int))
              refine bodyPost_ret (results_list (rs := [.cell 2 27, .cell 3 37, .tmp 4]) rfl (by simp) (.cell _ _ _ _ _ rfl hg1 Tryz.underlying27 rfl (by kernel_rfl) (.cell _ _ _ _ _ rfl hg2 Tryz.underlying37 rfl (by kernel_rfl) (.tmp .nil)))) rfl ?_
              exact ⟨0, 0, none, 0, [], none, 0, [], none, 0, [], none, 0, [], by rw [HDEC.out]; rfl, by rw [HDEC.out]; rfl, dr_nil _, below_stores (HB0.out.trans (HBg.out.mono HB0.out.size)) (Nat.le_refl _) _ _ _ _ _ _ _ _⟩
            ·have hiE : i = W.length := by omega
             have hltI : ¬ (i : Int) < (W.length : Int) := by omega
             have hgeI : (i : Int) ≥ (W.length : Int) := by omega
             by_cases hn0 : n = 0
             ·have hnI : ¬ 0 < (n : Int) := by omega
              have HEND : Hid ((contW b (widths b) (byteN b 8) (17, false)).2 = (a, false) ∧ (contW b (widths b) (byteN b 8) (17, false)).1 = ls) := by
               show _ ∧ _
               have h := HINV.out
               rw [hiE, hn0] at h
               exact winv_end h
              clear HINV HWOK hiE hn0
              have hst : (CodPlain.bodyS b (5, false)).2 = (a, false) := HCB.out.1.symm.trans HEND.out.1
              by_cases hta : a < b.size
              ·have htaI : (a : Int) < (b.size : Int) := by omega
               have HDEC : Hid (decOf s = (CodPlain.noD, (a : Int), (E4 : Int), 65)) := by
                show _ = _
                have h3 := HD4.out
                try dsimp only at h3
                rw [hst, if_neg (by simp), if_pos hta, hbE] at h3
                exact h3
               clear hst
               have z2 := blk_below H2.out HB.out
               have z3 := blk_below H3.out HB.out
               have z5 := blk_below H5.out HB.out
               have n0 : wr.cell? ⟨w.heap.size + 2, 0, none⟩ = some (.int .i64 0) := (blk_cell z5 0).trans rfl
               have n1 : wr.cell? ⟨w.heap.size + 2, 1, none⟩ = some (.int .i64 0) := (blk_cell z5 1).trans rfl
               have n2 : wr.cell? ⟨w.heap.size + 2, 2, none⟩ = some (.slice none 0 0) := (blk_cell z5 2).trans rfl
               have n3 : wr.cell? ⟨w.heap.size + 2, 3, none⟩ = some (.slice none 0 0) := (blk_cell z5 3).trans rfl
               have n4 : wr.cell? ⟨w.heap.size + 2, 4, none⟩ = some (.slice none 0 0) := (blk_cell z5 4).trans rfl
               have n5 : wr.cell? ⟨w.heap.size + 2, 5, none⟩ = some (.slice none 0 0) := (blk_cell z5 5).trans rfl
               have m0 : wr.cell? ⟨w.heap.size, 0, none⟩ = some (.int .i64 0) := (blk_cell z2 0).trans rfl
               have m1 : wr.cell? ⟨w.heap.size, 1, none⟩ = some (.int .i64 0) := (blk_cell z2 1).trans rfl
               have m2 : wr.cell? ⟨w.heap.size, 2, none⟩ = some (.slice none 0 0) := (blk_cell z2 2).trans rfl
               have m3 : wr.cell? ⟨w.heap.size, 3, none⟩ = some (.slice none 0 0) := (blk_cell z2 3).trans rfl
               have m4 : wr.cell? ⟨w.heap.size, 4, none⟩ = some (.slice none 0 0) := (blk_cell z2 4).trans rfl
               have m5 : wr.cell? ⟨w.heap.size, 5, none⟩ = some (.slice none 0 0) := (blk_cell z2 5).trans rfl
               have p0 : wr.cell? ⟨w.heap.size + 1, 0, none⟩ = some (.int .i64 0) := (blk_cell z3 0).trans rfl
               have p1 : wr.cell? ⟨w.heap.size + 1, 1, none⟩ = some (.int .i64 0) := (blk_cell z3 1).trans rfl
               have fr2 : ∀ i, wr.frozen? ⟨w.heap.size, i, none⟩ = false := fun i => blk_frozen z2 i
               have fr3 : ∀ i, wr.frozen? ⟨w.heap.size + 1, i, none⟩ = false := fun i => blk_frozen z3 i
               have HZ2 := Lib.hid z2
               have HZ3 := Lib.hid z3
               clear z2 z3 z5
               go_upto_region 49 with fail
               rename ∀ (_ : Act) (_ : World), _ → _ => hkeep
               have HKEEP := PLift.up hkeep
               clear hkeep
               repeat (rename ∀ (_ : Act) (_ : World), _ → _ => hk; clear hk)
               go_wp2_with fail
               refine HKEEP.down _ _ ?_
               refine wp_ret ?_
               obtain ⟨hg1, hg2⟩ := two_stores HZ2.out HZ3.out (.int .i64 0) (.int .i64 0) (.slice none 0 0) (.slice none 0 0) (.slice none 0 0) (.slice none 0 0) (.int .i64 (a : Int)) (.int .i64 (E4 : Int))
               refine bodyPost_ret (results_list (rs := [.cell 2 27, .cell 3 37, .tmp 4]) rfl (by simp) (.cell _ _ _ _ _ rfl hg1 Tryz.underlying27 rfl (by kernel_rfl) (.cell _ _ _ _ _ rfl hg2 Tryz.underlying37 rfl (by kernel_rfl) (.tmp .nil)))) rfl ?_
               exact ⟨0, 0, none, 0, [], none, 0, [], none, 0, [], none, 0, [], by rw [HDEC.out]; rfl, by rw [HDEC.out]; rfl, dr_nil _, below_stores (HB0.out.trans (HB.out.mono HB0.out.size)) (Nat.le_refl _) _ _ _ _ _ _ _ _⟩
              ·have htaI : ¬ (a : Int) < (b.size : Int) := by omega
               have hae : a = b.size := by omega
               have hpd := HCB.out.2.2
               obtain ⟨hls2, k1, k2, k3, k4⟩ := HCB.out.2.1 (by rw [hst])
               have hlists := HEND.out.2.symm.trans hls2
               have hbsh := CodPlain.body_short b (5, false)
               have h3 : decOf s = if CodPlain.checkD (CodPlain.bodyS b (5, false)).1 ≠ 0 then (CodPlain.noD, 5, (b.size : Int), CodPlain.checkD (CodPlain.bodyS b (5, false)).1) else ((CodPlain.bodyS b (5, false)).1, 0, 0, 0) := by
                have h3 := HD4.out
                try dsimp only at h3
                rw [hst, if_neg (by simp), if_neg hta] at h3
                exact h3
               rw [hbE] at h3
               clear hls2 hst HD4 HCB HEND
               generalize (CodPlain.bodyS b (5, false)).1 = d at *
               obtain ⟨kb, hkb⟩ := build_ev hb17 (by omega) (by omega) _ _ _ _ hlists k1 k2 k3 k4
               obtain ⟨hp1, hp2⟩ := hpd
               rw [← hp1, ← hp2] at hkb
               have hdof : dOf d.per d.dl (d.parts.map mkP) (d.edges.map mkE) (d.futs.map mkF) (d.bars.map mkB) = d := dOf_mk _ _ _ _ _ _
               have HSH := Lib.hid (short_of hbsh hdof)
               obtain ⟨A2, c2, hv2, hle2, -⟩ := RowI.reads HV.out
               subst hv2
               have hV : Kd.V (Kd.int .i64) 3 wr wr.heap.size (fun k => w0.heap.size ≤ k) (.slice A2 ls.length c2) ls := Kd.R_V (Kd.R_mono (Kd.R_bound HV.out) (fun k hk => hk.2.1))
               have CBd := Lib.hid (PCodB.trefoilref06_build.calls kb b (fun k => w0.heap.size ≤ k) A2 c2 ls _ _ _ _ _ _ wr hV hkb)
               have HDOF := Lib.hid hdof
               rw [← hdof] at h3
               have HD3 := Lib.hid h3
               obtain ⟨er, her⟩ : ∃ x, x = CodPlain.checkD (dOf d.per d.dl (d.parts.map mkP) (d.edges.map mkE) (d.futs.map mkF) (d.bars.map mkB)) := ⟨_, rfl⟩
               rw [← her] at HD3
               have CK := Lib.hid (fun P cp E ce F cf B cb w1 h => refcheck_any d.per d.dl P cp (d.parts.map mkP) E ce (d.edges.map mkE) F cf (d.futs.map mkF) B cb (d.bars.map mkB) w1 HSH.out h)
               rw [← her] at CK
               rw [hls] at CBd
               clear hV hkb hlists k1 k2 k3 k4 hp1 hp2 hbsh hdof h3 her hle2
               generalize d.per = per at *
               generalize d.dl = dl at *
               generalize d.parts.map mkP = ps at *
               generalize d.edges.map mkE = es at *
               generalize d.futs.map mkF = fs at *
               generalize d.bars.map mkB = bs at *
               have hw3 : w.heap.size + 3 ≤ wr.heap.size := by have := HSZ.out; have := HB.out.size; omega
               have HW3 := Lib.hid hw3
               clear hw3
               have HWR : Hid (w0.heap.size ≤ wr.heap.size) := HB.out.size
               go_wp2_with fail
               refine CBd.out.mono ?_
               rintro e w5 ⟨v2, v3, v4, v5, rfl, r2, r3, r4, r5, hb⟩
               obtain ⟨P', cp', rfl, p1, p2⟩ := Kd.R_reads r2
               obtain ⟨E', ce', rfl, q1, q2⟩ := Kd.R_reads r3
               obtain ⟨F', cf', rfl, f1, f2⟩ := Kd.R_reads r4
               obtain ⟨B', cb', hB'⟩ := Kd.V_slice (Kd.N_V (base' := 0) r5)
               subst hB'
               have HB5 := Lib.hid (HB.out.trans (hb.mono HB.out.size))
               have hsz5 : w.heap.size + 3 ≤ w5.heap.size := Nat.le_trans HW3.out hb.size
               have HR2 := Lib.hid (Kd.R_alloc r2 (.cells #[.int .i64 per, .int .i64 dl, .slice P' ps.length cp', .slice E' es.length ce', .slice F' fs.length cf', .slice B' bs.length cb'] 27))
               have HR3 := Lib.hid (Kd.R_alloc r3 (.cells #[.int .i64 per, .int .i64 dl, .slice P' ps.length cp', .slice E' es.length ce', .slice F' fs.length cf', .slice B' bs.length cb'] 27))
               have HR4 := Lib.hid (Kd.R_alloc r4 (.cells #[.int .i64 per, .int .i64 dl, .slice P' ps.length cp', .slice E' es.length ce', .slice F' fs.length cf', .slice B' bs.length cb'] 27))
               have HR5 := Lib.hid (Kd.N_alloc r5 (.cells #[.int .i64 per, .int .i64 dl, .slice P' ps.length cp', .slice E' es.length ce', .slice F' fs.length cf', .slice B' bs.length cb'] 27))
               have H6 := Lib.hid (blk_new w5 (.cells #[.int .i64 per, .int .i64 dl, .slice P' ps.length cp', .slice E' es.length ce', .slice F' fs.length cf', .slice B' bs.length cb'] 27))
               have HB6 : Hid (Below w0.heap.size w0 (w5.alloc (.cells #[.int .i64 per, .int .i64 dl, .slice P' ps.length cp', .slice E' es.length ce', .slice F' fs.length cf', .slice B' bs.length cb'] 27))) := HB5.out.alloc HB5.out.size _
               clear r2 r3 r4 r5 hb p1 p2 q1 q2 f1 f2 CBd HB HB5 HU HV
               go_upto_region 51 with fail
               generalize w5.alloc (.cells #[.int .i64 per, .int .i64 dl, .slice P' ps.length cp', .slice E' es.length ce', .slice F' fs.length cf', .slice B' bs.length cb'] 27) = w6 at *
               obtain ⟨gd, hgd⟩ : ∃ x, x = w5.heap.size := ⟨_, rfl⟩
               rw [← hgd] at H6 hsz5 ⊢
               have HGD := Lib.hid hsz5
               clear hgd hsz5
               have d0 : w6.cell? ⟨gd, 0, none⟩ = some (.int .i64 per) := (blk_cell H6.out 0).trans rfl
               have d1 : w6.cell? ⟨gd, 1, none⟩ = some (.int .i64 dl) := (blk_cell H6.out 1).trans rfl
               have d2 : w6.cell? ⟨gd, 2, none⟩ = some (.slice P' ps.length cp') := (blk_cell H6.out 2).trans rfl
               have d3 : w6.cell? ⟨gd, 3, none⟩ = some (.slice E' es.length ce') := (blk_cell H6.out 3).trans rfl
               have d4 : w6.cell? ⟨gd, 4, none⟩ = some (.slice F' fs.length cf') := (blk_cell H6.out 4).trans rfl
               have d5 : w6.cell? ⟨gd, 5, none⟩ = some (.slice B' bs.length cb') := (blk_cell H6.out 5).trans rfl
               have HDR6 : Hid (DR w6 P' cp' ps E' ce' es F' cf' fs B' cb' bs) := by
                obtain ⟨-, p1, p2⟩ := Kd.R_reads' HR2.out
                obtain ⟨-, q1, q2⟩ := Kd.R_reads' HR3.out
                obtain ⟨-, f1, f2⟩ := Kd.R_reads' HR4.out
                obtain ⟨-, b1, b2⟩ := Kd.V_reads' (Kd.N_V (base' := 0) HR5.out)
                exact ⟨p2, p1, q2, q1, f2, f1, b2, b1⟩
               go_wp2_with fail
               refine (CK.out P' cp' E' ce' F' cf' B' cb' w6 HDR6.out).mono ?_
               rintro e w7 ⟨rfl, hb⟩
               have HB7 := Lib.hid (HB6.out.trans (hb.mono HB6.out.size))
               have H7 := Lib.hid (blk_below H6.out hb)
               have HS2 := Lib.hid (Kd.R_below HR2.out hb)
               have HS3 := Lib.hid (Kd.R_below HR3.out hb)
               have HS4 := Lib.hid (Kd.R_below HR4.out hb)
               have HS5 := Lib.hid (Kd.N_below HR5.out hb)
               clear hb HB6 H6 HR2 HR3 HR4 HR5 HDR6 d0 d1 d2 d3 d4 d5 CK
               by_cases her : er = 0
               ·have HDEC : Hid (decOf s = (dOf per dl ps es fs bs, 0, 0, 0)) := by
                 show _ = _
                 rw [HD3.out, if_neg (by simp [her])]
                subst her
                have d0 : w7.cell? ⟨gd, 0, none⟩ = some (.int .i64 per) := (blk_cell H7.out 0).trans rfl
                have d1 : w7.cell? ⟨gd, 1, none⟩ = some (.int .i64 dl) := (blk_cell H7.out 1).trans rfl
                have d2 : w7.cell? ⟨gd, 2, none⟩ = some (.slice P' ps.length cp') := (blk_cell H7.out 2).trans rfl
                have d3 : w7.cell? ⟨gd, 3, none⟩ = some (.slice E' es.length ce') := (blk_cell H7.out 3).trans rfl
                have d4 : w7.cell? ⟨gd, 4, none⟩ = some (.slice F' fs.length cf') := (blk_cell H7.out 4).trans rfl
                have d5 : w7.cell? ⟨gd, 5, none⟩ = some (.slice B' bs.length cb') := (blk_cell H7.out 5).trans rfl
                have z2 := blk_below H2.out HB7.out
                have z3 := blk_below H3.out HB7.out
                have m0 : w7.cell? ⟨w.heap.size, 0, none⟩ = some (.int .i64 0) := (blk_cell z2 0).trans rfl
                have m1 : w7.cell? ⟨w.heap.size, 1, none⟩ = some (.int .i64 0) := (blk_cell z2 1).trans rfl
                have m2 : w7.cell? ⟨w.heap.size, 2, none⟩ = some (.slice none 0 0) := (blk_cell z2 2).trans rfl
                have m3 : w7.cell? ⟨w.heap.size, 3, none⟩ = some (.slice none 0 0) := (blk_cell z2 3).trans rfl
                have m4 : w7.cell? ⟨w.heap.size, 4, none⟩ = some (.slice none 0 0) := (blk_cell z2 4).trans rfl
                have m5 : w7.cell? ⟨w.heap.size, 5, none⟩ = some (.slice none 0 0) := (blk_cell z2 5).trans rfl
                have p0 : w7.cell? ⟨w.heap.size + 1, 0, none⟩ = some (.int .i64 0) := (blk_cell z3 0).trans rfl
                have p1 : w7.cell? ⟨w.heap.size + 1, 1, none⟩ = some (.int .i64 0) := (blk_cell z3 1).trans rfl
                have fr2 : ∀ i, w7.frozen? ⟨w.heap.size, i, none⟩ = false := fun i => blk_frozen z2 i
                have fr3 : ∀ i, w7.frozen? ⟨w.heap.size + 1, i, none⟩ = false := fun i => blk_frozen z3 i
                have HZ2 := Lib.hid z2
                have HZ3 := Lib.hid z3
                have hn1 : gd ≠ w.heap.size := by have := HGD.out; omega
                have hn2 : w.heap.size ≠ gd := by have := HGD.out; omega
                have hn3 : gd ≠ w.heap.size + 1 := by have := HGD.out; omega
                have hn4 : w.heap.size + 1 ≠ gd := by have := HGD.out; omega
                clear z2 z3 hae hta htaI
                go_upto_region 54 with fail
                rename ∀ (_ : Act) (_ : World), _ → _ => hkeep
                have HKEEP := PLift.up hkeep
                clear hkeep
                repeat (rename ∀ (_ : Act) (_ : World), _ → _ => hk; clear hk)
                go_wp2_with fail
                refine HKEEP.down _ _ ?_
                refine wp_ret ?_
                obtain ⟨hg1, hg2⟩ := two_stores HZ2.out HZ3.out (.int .i64 per) (.int .i64 dl) (.slice P' ps.length cp') (.slice E' es.length ce') (.slice F' fs.length cf') (.slice B' bs.length cb') (.int .i64 0) (.int .i64 0)
                refine bodyPost_ret (results_list (rs := [.cell 2 27, .cell 3 37, .tmp 4]) rfl (by simp) (.cell _ _ _ _ _ rfl hg1 Tryz.underlying27 rfl (by kernel_rfl) (.cell _ _ _ _ _ rfl hg2 Tryz.underlying37 rfl (by kernel_rfl) (.tmp .nil)))) rfl ?_
                have hfar : ∀ k, wr.heap.size ≤ k → k ≠ w.heap.size ∧ k ≠ w.heap.size + 1 := fun k hk => by have := HW3.out; constructor <;> omega
                refine ⟨per, dl, P', cp', ps, E', ce', es, F', cf', fs, B', cb', bs, by rw [HDEC.out]; rfl, by rw [HDEC.out], ?_, below_stores (HB0.out.trans (HB7.out.mono HB0.out.size)) (Nat.le_refl _) _ _ _ _ _ _ _ _⟩
                have t2 := Kd.R_step HS2.out (fun k hk _ => far_stores (.int .i64 per) (.int .i64 dl) (.slice P' ps.length cp') (.slice E' es.length ce') (.slice F' fs.length cf') (.slice B' bs.length cb') (.int .i64 0) (.int .i64 0) k (hfar k hk).1 (hfar k hk).2)
                have t3 := Kd.R_step HS3.out (fun k hk _ => far_stores (.int .i64 per) (.int .i64 dl) (.slice P' ps.length cp') (.slice E' es.length ce') (.slice F' fs.length cf') (.slice B' bs.length cb') (.int .i64 0) (.int .i64 0) k (hfar k hk).1 (hfar k hk).2)
                have t4 := Kd.R_step HS4.out (fun k hk _ => far_stores (.int .i64 per) (.int .i64 dl) (.slice P' ps.length cp') (.slice E' es.length ce') (.slice F' fs.length cf') (.slice B' bs.length cb') (.int .i64 0) (.int .i64 0) k (hfar k hk).1 (hfar k hk).2)
                have hfar2 : ∀ k, w0.heap.size ≤ k → k ≠ w.heap.size ∧ k ≠ w.heap.size + 1 := fun k hk => by have := HSZ.out; constructor <;> omega
                have t5 := Kd.N_step HS5.out (fun k hk _ => far_stores (.int .i64 per) (.int .i64 dl) (.slice P' ps.length cp') (.slice E' es.length ce') (.slice F' fs.length cf') (.slice B' bs.length cb') (.int .i64 0) (.int .i64 0) k (hfar2 k (by rcases hk.1 with h | h; exact h; exact Nat.le_trans HWR.out h)).1 (hfar2 k (by rcases hk.1 with h | h; exact h; exact Nat.le_trans HWR.out h)).2)
                obtain ⟨-, p1, p2⟩ := Kd.R_reads' t2
                obtain ⟨-, q1, q2⟩ := Kd.R_reads' t3
                obtain ⟨-, f1, f2⟩ := Kd.R_reads' t4
                obtain ⟨-, b1, b2⟩ := Kd.V_reads' (Kd.N_V (base' := 0) t5)
                exact ⟨p2, p1, q2, q1, f2, f1, b2, b1⟩
               ·have HDEC : Hid (decOf s = (CodPlain.noD, 5, (E4 : Int), er)) := by
                 show _ = _
                 rw [HD3.out, if_pos her]
                have z2 := blk_below H2.out HB7.out
                have z3 := blk_below H3.out HB7.out
                have z5 := blk_below H5.out HB7.out
                have n0 : w7.cell? ⟨w.heap.size + 2, 0, none⟩ = some (.int .i64 0) := (blk_cell z5 0).trans rfl
                have n1 : w7.cell? ⟨w.heap.size + 2, 1, none⟩ = some (.int .i64 0) := (blk_cell z5 1).trans rfl
                have n2 : w7.cell? ⟨w.heap.size + 2, 2, none⟩ = some (.slice none 0 0) := (blk_cell z5 2).trans rfl
                have n3 : w7.cell? ⟨w.heap.size + 2, 3, none⟩ = some (.slice none 0 0) := (blk_cell z5 3).trans rfl
                have n4 : w7.cell? ⟨w.heap.size + 2, 4, none⟩ = some (.slice none 0 0) := (blk_cell z5 4).trans rfl
                have n5 : w7.cell? ⟨w.heap.size + 2, 5, none⟩ = some (.slice none 0 0) := (blk_cell z5 5).trans rfl
                have m0 : w7.cell? ⟨w.heap.size, 0, none⟩ = some (.int .i64 0) := (blk_cell z2 0).trans rfl
                have m1 : w7.cell? ⟨w.heap.size, 1, none⟩ = some (.int .i64 0) := (blk_cell z2 1).trans rfl
                have m2 : w7.cell? ⟨w.heap.size, 2, none⟩ = some (.slice none 0 0) := (blk_cell z2 2).trans rfl
                have m3 : w7.cell? ⟨w.heap.size, 3, none⟩ = some (.slice none 0 0) := (blk_cell z2 3).trans rfl
                have m4 : w7.cell? ⟨w.heap.size, 4, none⟩ = some (.slice none 0 0) := (blk_cell z2 4).trans rfl
                have m5 : w7.cell? ⟨w.heap.size, 5, none⟩ = some (.slice none 0 0) := (blk_cell z2 5).trans rfl
                have p0 : w7.cell? ⟨w.heap.size + 1, 0, none⟩ = some (.int .i64 0) := (blk_cell z3 0).trans rfl
                have p1 : w7.cell? ⟨w.heap.size + 1, 1, none⟩ = some (.int .i64 0) := (blk_cell z3 1).trans rfl
                have fr2 : ∀ i, w7.frozen? ⟨w.heap.size, i, none⟩ = false := fun i => blk_frozen z2 i
                have fr3 : ∀ i, w7.frozen? ⟨w.heap.size + 1, i, none⟩ = false := fun i => blk_frozen z3 i
                have HZ2 := Lib.hid z2
                have HZ3 := Lib.hid z3
                clear z2 z3 z5
                go_upto_region 53 with fail
                rename ∀ (_ : Act) (_ : World), _ → _ => hkeep
                have HKEEP := PLift.up hkeep
                clear hkeep
                repeat (rename ∀ (_ : Act) (_ : World), _ → _ => hk; clear hk)
                go_wp2_with fail
                refine HKEEP.down _ _ ?_
                refine wp_ret ?_
                obtain ⟨hg1, hg2⟩ := two_stores HZ2.out HZ3.out (.int .i64 0) (.int .i64 0) (.slice none 0 0) (.slice none 0 0) (.slice none 0 0) (.slice none 0 0) (.int .i64 5) (.int .i64 (E4 : Int))
                refine bodyPost_ret (results_list (rs := [.cell 2 27, .cell 3 37, .tmp 4]) rfl (by simp) (.cell _ _ _ _ _ rfl hg1 Tryz.underlying27 rfl (by kernel_rfl) (.cell _ _ _ _ _ rfl hg2 Tryz.underlying37 rfl (by kernel_rfl) (.tmp .nil)))) rfl ?_
                exact ⟨0, 0, none, 0, [], none, 0, [], none, 0, [], none, 0, [], by rw [HDEC.out]; rfl, by rw [HDEC.out]; rfl, dr_nil _, below_stores (HB0.out.trans (HB7.out.mono HB0.out.size)) (Nat.le_refl _) _ _ _ _ _ _ _ _⟩
             ·have hnI : 0 < (n : Int) := by omega
              obtain ⟨m, hm⟩ : ∃ m, n = m + 1 := ⟨n - 1, by omega⟩
              have hnm : (n : Int) - 1 = (m : Int) := by omega
              have HNM := Lib.hid hnm
              have HI2 : Hid (WInv b W W.length (m + 1) a ls) := by show WInv _ _ _ _ _ _; have h := HINV.out; rw [hm] at h; rw [← hiE]; exact h
              have hm255 : m ≤ 255 := by omega
              have HIE := Lib.hid hiE
              clear HINV hm hnm hn0 hiE
              by_cases hcut : b.size < a + 2
              ·have hcutI : (b.size : Int) < (a : Int) + 2 := by omega
               have hct := winv_cut HI2.out hcut hab
               by_cases hal : a < b.size
               ·have halI : (a : Int) < (b.size : Int) := by omega
                rw [if_pos hal] at hct
                have HDEC : Hid (decOf s = (CodPlain.noD, (a : Int) + 1, (E4 : Int), 64)) := by
                 have h1 : ((a + 1 : Nat) : Int) = (a : Int) + 1 := by omega
                 have h2 := HD64.out (a + 1) hct
                 rw [h1] at h2
                 exact h2
                clear hct
                have z2 := blk_below H2.out HB.out
                have z3 := blk_below H3.out HB.out
                have z5 := blk_below H5.out HB.out
                have n0 : wr.cell? ⟨w.heap.size + 2, 0, none⟩ = some (.int .i64 0) := (blk_cell z5 0).trans rfl
                have n1 : wr.cell? ⟨w.heap.size + 2, 1, none⟩ = some (.int .i64 0) := (blk_cell z5 1).trans rfl
                have n2 : wr.cell? ⟨w.heap.size + 2, 2, none⟩ = some (.slice none 0 0) := (blk_cell z5 2).trans rfl
                have n3 : wr.cell? ⟨w.heap.size + 2, 3, none⟩ = some (.slice none 0 0) := (blk_cell z5 3).trans rfl
                have n4 : wr.cell? ⟨w.heap.size + 2, 4, none⟩ = some (.slice none 0 0) := (blk_cell z5 4).trans rfl
                have n5 : wr.cell? ⟨w.heap.size + 2, 5, none⟩ = some (.slice none 0 0) := (blk_cell z5 5).trans rfl
                have m0 : wr.cell? ⟨w.heap.size, 0, none⟩ = some (.int .i64 0) := (blk_cell z2 0).trans rfl
                have m1 : wr.cell? ⟨w.heap.size, 1, none⟩ = some (.int .i64 0) := (blk_cell z2 1).trans rfl
                have m2 : wr.cell? ⟨w.heap.size, 2, none⟩ = some (.slice none 0 0) := (blk_cell z2 2).trans rfl
                have m3 : wr.cell? ⟨w.heap.size, 3, none⟩ = some (.slice none 0 0) := (blk_cell z2 3).trans rfl
                have m4 : wr.cell? ⟨w.heap.size, 4, none⟩ = some (.slice none 0 0) := (blk_cell z2 4).trans rfl
                have m5 : wr.cell? ⟨w.heap.size, 5, none⟩ = some (.slice none 0 0) := (blk_cell z2 5).trans rfl
                have p0 : wr.cell? ⟨w.heap.size + 1, 0, none⟩ = some (.int .i64 0) := (blk_cell z3 0).trans rfl
                have p1 : wr.cell? ⟨w.heap.size + 1, 1, none⟩ = some (.int .i64 0) := (blk_cell z3 1).trans rfl
                have fr2 : ∀ i, wr.frozen? ⟨w.heap.size, i, none⟩ = false := fun i => blk_frozen z2 i
                have fr3 : ∀ i, wr.frozen? ⟨w.heap.size + 1, i, none⟩ = false := fun i => blk_frozen z3 i
                have HZ2 := Lib.hid z2
                have HZ3 := Lib.hid z3
                clear z2 z3 z5
                go_upto_region 36 with fail
                rename ∀ (_ : Act) (_ : World), _ → _ => hkeep
                have HKEEP := PLift.up hkeep
                clear hkeep
                repeat (rename ∀ (_ : Act) (_ : World), _ → _ => hk; clear hk)
                go_wp2_with fail
                refine HKEEP.down _ _ ?_
                refine wp_ret ?_
                obtain ⟨hg1, hg2⟩ := two_stores HZ2.out HZ3.out (.int .i64 0) (.int .i64 0) (.slice none 0 0) (.slice none 0 0) (.slice none 0 0) (.slice none 0 0) (.int .i64 ((a : Int) + 1)) (.int .i64 (E4 : Int))
                refine bodyPost_ret (results_list (rs := [.cell 2 27, .cell 3 37, .tmp 4]) rfl (by simp) (.cell _ _ _ _ _ rfl hg1 Tryz.underlying27 rfl (by kernel_rfl) (.cell _ _ _ _ _ rfl hg2 Tryz.underlying37 rfl (by kernel_rfl) (.tmp .nil)))) rfl ?_
                exact ⟨0, 0, none, 0, [], none, 0, [], none, 0, [], none, 0, [], by rw [HDEC.out]; rfl, by rw [HDEC.out]; rfl, dr_nil _, below_stores (HB0.out.trans (HB.out.mono HB0.out.size)) (Nat.le_refl _) _ _ _ _ _ _ _ _⟩
               ·have halI : ¬ (a : Int) < (b.size : Int) := by omega
                rw [if_neg hal] at hct
                have HDEC : Hid (decOf s = (CodPlain.noD, (a : Int), (E4 : Int), 64)) := HD64.out a hct
                clear hct
                have z2 := blk_below H2.out HB.out
                have z3 := blk_below H3.out HB.out
                have z5 := blk_below H5.out HB.out
                have n0 : wr.cell? ⟨w.heap.size + 2, 0, none⟩ = some (.int .i64 0) := (blk_cell z5 0).trans rfl
                have n1 : wr.cell? ⟨w.heap.size + 2, 1, none⟩ = some (.int .i64 0) := (blk_cell z5 1).trans rfl
                have n2 : wr.cell? ⟨w.heap.size + 2, 2, none⟩ = some (.slice none 0 0) := (blk_cell z5 2).trans rfl
                have n3 : wr.cell? ⟨w.heap.size + 2, 3, none⟩ = some (.slice none 0 0) := (blk_cell z5 3).trans rfl
                have n4 : wr.cell? ⟨w.heap.size + 2, 4, none⟩ = some (.slice none 0 0) := (blk_cell z5 4).trans rfl
                have n5 : wr.cell? ⟨w.heap.size + 2, 5, none⟩ = some (.slice none 0 0) := (blk_cell z5 5).trans rfl
                have m0 : wr.cell? ⟨w.heap.size, 0, none⟩ = some (.int .i64 0) := (blk_cell z2 0).trans rfl
                have m1 : wr.cell? ⟨w.heap.size, 1, none⟩ = some (.int .i64 0) := (blk_cell z2 1).trans rfl
                have m2 : wr.cell? ⟨w.heap.size, 2, none⟩ = some (.slice none 0 0) := (blk_cell z2 2).trans rfl
                have m3 : wr.cell? ⟨w.heap.size, 3, none⟩ = some (.slice none 0 0) := (blk_cell z2 3).trans rfl
                have m4 : wr.cell? ⟨w.heap.size, 4, none⟩ = some (.slice none 0 0) := (blk_cell z2 4).trans rfl
                have m5 : wr.cell? ⟨w.heap.size, 5, none⟩ = some (.slice none 0 0) := (blk_cell z2 5).trans rfl
                have p0 : wr.cell? ⟨w.heap.size + 1, 0, none⟩ = some (.int .i64 0) := (blk_cell z3 0).trans rfl
                have p1 : wr.cell? ⟨w.heap.size + 1, 1, none⟩ = some (.int .i64 0) := (blk_cell z3 1).trans rfl
                have fr2 : ∀ i, wr.frozen? ⟨w.heap.size, i, none⟩ = false := fun i => blk_frozen z2 i
                have fr3 : ∀ i, wr.frozen? ⟨w.heap.size + 1, i, none⟩ = false := fun i => blk_frozen z3 i
                have HZ2 := Lib.hid z2
                have HZ3 := Lib.hid z3
                clear z2 z3 z5
                go_upto_region 36 with fail
                rename ∀ (_ : Act) (_ : World), _ → _ => hkeep
                have HKEEP := PLift.up hkeep
                clear hkeep
                repeat (rename ∀ (_ : Act) (_ : World), _ → _ => hk; clear hk)
                go_wp2_with fail
                refine HKEEP.down _ _ ?_
                refine wp_ret ?_
                obtain ⟨hg1, hg2⟩ := two_stores HZ2.out HZ3.out (.int .i64 0) (.int .i64 0) (.slice none 0 0) (.slice none 0 0) (.slice none 0 0) (.slice none 0 0) (.int .i64 (a : Int)) (.int .i64 (E4 : Int))
                refine bodyPost_ret (results_list (rs := [.cell 2 27, .cell 3 37, .tmp 4]) rfl (by simp) (.cell _ _ _ _ _ rfl hg1 Tryz.underlying27 rfl (by kernel_rfl) (.cell _ _ _ _ _ rfl hg2 Tryz.underlying37 rfl (by kernel_rfl) (.tmp .nil)))) rfl ?_
                exact ⟨0, 0, none, 0, [], none, 0, [], none, 0, [], none, 0, [], by rw [HDEC.out]; rfl, by rw [HDEC.out]; rfl, dr_nil _, below_stores (HB0.out.trans (HB.out.mono HB0.out.size)) (Nat.le_refl _) _ _ _ _ _ _ _ _⟩
              ·have hcutI : ¬ (b.size : Int) < (a : Int) + 2 := by omega
               have ha0 : a < b.size := by omega
               have ha1 : a + 1 < b.size := by omega
               have ha0I : (a : Int) < (b.size : Int) := by omega
               have ha1I : (a : Int) + 1 < (b.size : Int) := by omega
               have HIB := Lib.hid (winv_bar HI2.out (by omega))
               have HWB := Lib.hid (wok_bar HWOK.out (byteN b a + byteN b (a + 1)))
               have hb0 := HBYT.out a ha0
               have hb1 := HBYT.out (a + 1) ha1
               have hl0 := CodPlain.byteN_lt b a
               have hl1 := CodPlain.byteN_lt b (a + 1)
               generalize byteN b a = C0 at *
               generalize byteN b (a + 1) = C1 at *
               clear HI2 HWOK
               have hu1 := RowI.alloc HU.out (.cells #[.int .i64 1, .int .i64 1] 3)
               have hba : Below w0.heap.size w0 (wr.alloc (.cells #[.int .i64 1, .int .i64 1] 3)) := HB.out.alloc HB.out.size _
               have HUa := Lib.hid hu1
               have HBa := Lib.hid hba
               clear hu1 hba
               go_wp2_with (at_builtin; refine Kd.R_append_row (Value.int .i64) (0 : Int) (h1 := fun _ => rfl) (w0 := w0) w0.heap.size rfl (.tmp 125) (.tmp 126) 48 3 (.int .i64 0) 8 rfl Tryz.underlying48 infoSI rfl (by decide) (Value.slice A W.length c) (toI W) [1, 1] (some ⟨wr.heap.size, 0, none⟩) 2 2 (fun k => True ∧ some k ≠ v.ownBlock) rfl rfl ?aF ?aO ?aR ?aB ?aS ?aL ?_)
               case aF => first | exact (RowI.alloc HV.out (.cells #[.int .i64 1, .int .i64 1] 3)).fresh | (intro k hk; have h := ((RowI.alloc HV.out (.cells #[.int .i64 1, .int .i64 1] 3)).fresh) k (by simpa using hk); simpa using h)
               case aO => first | exact HUa.out | exact RowI.to HUa.out
               case aR => exact Kd.C_of_reads (d := (0 : Int)) (lit_reads wr [1, 1] 3 (by simp))
               case aB => exact HBa.out
               case aS => first | exact HBa.out.size | (have h := HBa.out.size; simpa using h)
               case aL => exact (by rw [toI_len]; omega)
               intro ub wb hX hb hg hat
               have HUb := Lib.hid (RowI.of hX)
               have HVb := Lib.hid (RowI.after (RowI.alloc HV.out (.cells #[.int .i64 1, .int .i64 1] 3)) hg (at_up hat))
               have HBb := Lib.hid hb
               clear hX hb hg hat HU HV HB HUa HBa
               go_wp2_with fail
               rename World => wb
               go_loopw [10, 19] (fun v10 k5 wr => ∃ (j : Nat) (u : Value), j ≤ C0 + C1 ∧ k5 = .int .i64 j ∧ u = v10 ∧ Hid (RowI wr w0.heap.size u v (toI (W ++ ([1, 1] ++ List.replicate j 1)))) ∧ Hid (RowI wr w0.heap.size v u ls) ∧ Hid (Below w0.heap.size w0 wr)) (fun _ k _ => (C0 + C1) - (intOf k).toNat)
               case atStart => exact ⟨0, _, Nat.zero_le _, rfl, rfl, by show RowI _ _ _ _ _; rw [toI_app]; exact HUb.out, HVb, HBb⟩
               case round =>
                clear HUb HVb HBb
                obtain ⟨j, u, hj, rfl, rfl, HU, HV, HB⟩ := hrel
                by_cases hjc : j < C0 + C1
                ·have hjcI : (j : Int) < (C0 : Int) + (C1 : Int) := by omega
                 go_upto_region 39 with fail
                 go_quiet (fail)
                 have HU6 := Lib.hid (RowI.below HU.out (pw_below_drewN (Below.refl _ _) nq))
                 have HV6 := Lib.hid (RowI.below HV.out (pw_below_drewN (Below.refl _ _) nq))
                 have HB6 : Hid (Below w0.heap.size w0 (wr.drewN nq)) := pw_below_drewN HB.out nq
                 clear HU HV HB
                 generalize wr.drewN nq = wq at *
                 have hln : ((toI (W ++ ([1, 1] ++ List.replicate j 1))).length + 1) * 8 ≤ 140737488355328 := by
                  rw [toI_len]
                  simp
                  omega
                 have hu1 := RowI.alloc HU6.out (.cells #[.int .i64 1] 3)
                 have hba : Below w0.heap.size w0 (wq.alloc (.cells #[.int .i64 1] 3)) := HB6.out.alloc HB6.out.size _
                 have HUa := Lib.hid hu1
                 have HBa := Lib.hid hba
                 clear hu1 hba
                 go_wp2_with (at_builtin; refine Kd.R_append_row (Value.int .i64) (0 : Int) (h1 := fun _ => rfl) (w0 := w0) w0.heap.size rfl (.tmp 142) (.tmp 143) 48 3 (.int .i64 0) 8 rfl Tryz.underlying48 infoSI rfl (by decide) u (toI (W ++ ([1, 1] ++ List.replicate j 1))) [1] (some ⟨wq.heap.size, 0, none⟩) 1 1 (fun k => True ∧ some k ≠ v.ownBlock) rfl rfl ?aF ?aO ?aR ?aB ?aS ?aL ?_)
                 case aF => first | exact (RowI.alloc HV6.out (.cells #[.int .i64 1] 3)).fresh | (intro k hk; have h := ((RowI.alloc HV6.out (.cells #[.int .i64 1] 3)).fresh) k (by simpa using hk); simpa using h)
                 case aO => first | exact HUa.out | exact RowI.to HUa.out
                 case aR => exact Kd.C_of_reads (d := (0 : Int)) (lit_reads wq [1] 3 (by simp))
                 case aB => exact HBa.out
                 case aS => first | exact HBa.out.size | (have h := HBa.out.size; simpa using h)
                 case aL => exact hln
                 intro uy wy hX hb hg hat
                 have HX : Hid (RowI wy w0.heap.size uy v (toI (W ++ ([1, 1] ++ List.replicate (j + 1) 1)))) := by
                  show RowI _ _ _ _ _
                  have hX' := RowI.of hX
                  rw [List.replicate_succ']
                  try simp only [toI_app, List.append_assoc] at hX'
                  try simp only [toI_app, List.append_assoc]
                  exact hX'
                 have HV7 := Lib.hid (RowI.after (RowI.alloc HV6.out (.cells #[.int .i64 1] 3)) hg (at_up hat))
                 have HB7 := Lib.hid hb
                 clear hX hb hg hat HU6 HV6 HB6 HUa HBa
                 go_wp2_with fail
                 go_roundw
                 case rel => exact ⟨j + 1, uy, by omega, by go_num, rfl, HX, HV7, HB7⟩
                 case measure => simp [intOf]; omega
                ·obtain rfl : j = C0 + C1 := by omega
                 have hjcI : ¬ ((C0 + C1 : Nat) : Int) < (C0 : Int) + (C1 : Int) := by omega
                 have hjcN : ¬ C0 + C1 < C0 + C1 := by omega
                 go_upto_region 39 with fail
                 go_quiet (fail)
                 have HU6 := Lib.hid (RowI.below HU.out (pw_below_drewN (Below.refl _ _) nq))
                 have HV6 := Lib.hid (RowI.below HV.out (pw_below_drewN (Below.refl _ _) nq))
                 have HB6 : Hid (Below w0.heap.size w0 (wr.drewN nq)) := pw_below_drewN HB.out nq
                 clear HU HV HB hj hjc hjcI
                 generalize wr.drewN nq = wq at *
                 have hlW : (W ++ ([1, 1] ++ List.replicate (C0 + C1) 1)).length = W.length + (2 + (C0 + C1)) := by simp; omega
                 obtain ⟨W2, hW2⟩ : ∃ x, x = W ++ ([1, 1] ++ List.replicate (C0 + C1) 1) := ⟨_, rfl⟩
                 rw [← hW2] at hlW HU6 HIB HWB
                 rw [← HIE.out] at hlW HIB
                 clear hW2
                 obtain ⟨A3, c3, hu3, hAc3, -⟩ := RowI.reads HU6.out
                 rw [toI_len] at hu3 hAc3
                 subst hu3
                 have hlt : i < W2.length := by omega
                 have hltI2 : (i : Int) < (W2.length : Int) := by omega
                 obtain ⟨ad, rfl⟩ := RowI.addr HU6.out (by omega)
                 have hwl2 : W2.length ≤ 2040 := by omega
                 have hic : (i : Int) ≤ (c3 : Int) := by omega
                 go_upto_region 43 with fail
                 rw [HNM.out]
                 have HWOK := HWB
                 have HINV := HIB
                 obtain ⟨n', hn'⟩ : ∃ n', n' = m := ⟨_, rfl⟩
                 rw [← hn'] at HINV ⊢
                 have hn255' : n' ≤ 255 := by omega
                 clear hn' HIB HWB hlW hjcN
                 have hq := HWOK.out
                 obtain ⟨hqw, hq1, hq4⟩ := wok_wide hq hlt
                 have hcell := RowI.cell HU6.out hlt
                 have HINV2 : Hid (a + W2.getD i 0 ≤ b.size → WInv b W2 (i + 1) n' (a + W2.getD i 0) (ls ++ [((WirePlain.num b (a : Int) ((W2.getD i 0 : Nat) : Int) : Nat) : Int)])) := fun h => winv_num HINV.out hlt hq h
                 have HFAIL : Hid (b.size < a + W2.getD i 0 → (contW b (widths b) (byteN b 8) (17, false)).2 = (a, true)) := fun h => winv_fail HINV.out hlt hq h
                 have HCELL : Hid (∀ (Wz : World) (v2 : Value), RowI Wz w0.heap.size (.slice (some ad) W2.length c3) v2 (toI W2) → Wz.cell? (ad.add i) = some (.int .i64 ((W2.getD i 0 : Nat) : Int))) := fun Wz v2 h => RowI.cell h hlt
                 obtain ⟨q, hqd⟩ : ∃ q, q = W2.getD i 0 := ⟨_, rfl⟩
                 rw [← hqd] at hqw hq1 hq4 hcell HINV2 HFAIL HCELL
                 have HQW := Lib.hid hqw
                 clear hqd hqw hq HINV
                 by_cases hth : a + q ≤ b.size
                 ·have CG := Lib.hid (fun w9 => refget_any b (a : Int) (q : Int) w9 (by omega) (by omega))
                  have hgr := get_there HQW.out hq4 hth
                  obtain ⟨z, hz⟩ : ∃ z : Int, z = ((WirePlain.num b (a : Int) (q : Int) : Nat) : Int) := ⟨_, rfl⟩
                  rw [hgr, ← hz] at CG
                  have HI3 := Lib.hid (HINV2.out hth)
                  rw [← hz] at HI3
                  clear hgr hz HINV2 HFAIL
                  go_wp2_with fail
                  refine (CG.out _).mono ?_
                  rintro e wg ⟨rfl, hb⟩
                  have HUg := Lib.hid (RowI.below HU6.out hb)
                  have HVg := Lib.hid (RowI.below HV6.out hb)
                  have HBg := Lib.hid (HB6.out.trans (hb.mono HB6.out.size))
                  clear hb hcell CG HU6 HV6 HB6
                  have hu1 := RowI.alloc HVg.out (.cells #[.int .i64 z] 3)
                  have hba : Below w0.heap.size w0 (wg.alloc (.cells #[.int .i64 z] 3)) := HBg.out.alloc HBg.out.size _
                  have HUa := Lib.hid hu1
                  have HBa := Lib.hid hba
                  clear hu1 hba
                  go_wp2_with (at_builtin; refine Kd.R_append_row (Value.int .i64) (0 : Int) (h1 := fun _ => rfl) (w0 := w0) w0.heap.size rfl (.tmp 163) (.tmp 165) 48 3 (.int .i64 0) 8 rfl Tryz.underlying48 infoSI rfl (by decide) v ls [z] (some ⟨wg.heap.size, 0, none⟩) 1 1 (fun k => True ∧ some k ≠ (Value.slice (some ad) W2.length c3).ownBlock) rfl rfl ?aF ?aO ?aR ?aB ?aS ?aL ?_)
                  case aF => first | exact (RowI.alloc HUg.out (.cells #[.int .i64 z] 3)).fresh | (intro k hk; have h := ((RowI.alloc HUg.out (.cells #[.int .i64 z] 3)).fresh) k (by simpa using hk); simpa using h)
                  case aO => first | exact HUa.out | exact RowI.to HUa.out
                  case aR => exact Kd.C_of_reads (d := (0 : Int)) (lit_reads wg [z] 3 (by simp))
                  case aB => exact HBa.out
                  case aS => first | exact HBa.out.size | (have h := HBa.out.size; simpa using h)
                  case aL => exact (by rw [hls]; omega)
                  intro va w5 hX hb hg hat
                  have HV5 := Lib.hid (RowI.of hX)
                  have HU5 := Lib.hid (RowI.after (RowI.alloc HUg.out (.cells #[.int .i64 z] 3)) hg (at_up hat))
                  have HB5 := Lib.hid hb
                  clear hX hb hg hat HUg HVg HBg HUa HBa
                  have hcell := HCELL.out _ _ HU5.out
                  go_wp2_with fail
                  go_roundw
                  case rel => exact ⟨_, va, W2, ls ++ [z], i + 1, a + q, n', rfl, rfl, by go_num, rfl, by go_num, by omega, hwl2, by omega, hth, by simp [hls], hn255', HWOK, HI3, HU5, HV5, HB5⟩
                  case measure => simp [intOf]; omega
                 ·have CG := Lib.hid (fun w9 => refget_any b (a : Int) (q : Int) w9 (by omega) (by omega))
                  have hgr := get_not HQW.out (show b.size < a + q by omega)
                  rw [hgr] at CG
                  have HDEC : Hid (decOf s = (CodPlain.noD, (a : Int), (E4 : Int), 64)) := HD64.out _ (HFAIL.out (by omega))
                  clear hgr HINV2 HFAIL
                  go_wp2_with fail
                  refine (CG.out _).mono ?_
                  rintro e wg ⟨rfl, hb⟩
                  have HBg := Lib.hid (HB6.out.trans (hb.mono HB6.out.size))
                  clear hb hcell CG HU6 HV6 HB6
                  have z2 := blk_below H2.out HBg.out
                  have z3 := blk_below H3.out HBg.out
                  have z5 := blk_below H5.out HBg.out
                  have n0 : wg.cell? ⟨w.heap.size + 2, 0, none⟩ = some (.int .i64 0) := (blk_cell z5 0).trans rfl
                  have n1 : wg.cell? ⟨w.heap.size + 2, 1, none⟩ = some (.int .i64 0) := (blk_cell z5 1).trans rfl
                  have n2 : wg.cell? ⟨w.heap.size + 2, 2, none⟩ = some (.slice none 0 0) := (blk_cell z5 2).trans rfl
                  have n3 : wg.cell? ⟨w.heap.size + 2, 3, none⟩ = some (.slice none 0 0) := (blk_cell z5 3).trans rfl
                  have n4 : wg.cell? ⟨w.heap.size + 2, 4, none⟩ = some (.slice none 0 0) := (blk_cell z5 4).trans rfl
                  have n5 : wg.cell? ⟨w.heap.size + 2, 5, none⟩ = some (.slice none 0 0) := (blk_cell z5 5).trans rfl
                  have m0 : wg.cell? ⟨w.heap.size, 0, none⟩ = some (.int .i64 0) := (blk_cell z2 0).trans rfl
                  have m1 : wg.cell? ⟨w.heap.size, 1, none⟩ = some (.int .i64 0) := (blk_cell z2 1).trans rfl
                  have m2 : wg.cell? ⟨w.heap.size, 2, none⟩ = some (.slice none 0 0) := (blk_cell z2 2).trans rfl
                  have m3 : wg.cell? ⟨w.heap.size, 3, none⟩ = some (.slice none 0 0) := (blk_cell z2 3).trans rfl
                  have m4 : wg.cell? ⟨w.heap.size, 4, none⟩ = some (.slice none 0 0) := (blk_cell z2 4).trans rfl
                  have m5 : wg.cell? ⟨w.heap.size, 5, none⟩ = some (.slice none 0 0) := (blk_cell z2 5).trans rfl
                  have p0 : wg.cell? ⟨w.heap.size + 1, 0, none⟩ = some (.int .i64 0) := (blk_cell z3 0).trans rfl
                  have p1 : wg.cell? ⟨w.heap.size + 1, 1, none⟩ = some (.int .i64 0) := (blk_cell z3 1).trans rfl
                  have fr2 : ∀ i, wg.frozen? ⟨w.heap.size, i, none⟩ = false := fun i => blk_frozen z2 i
                  have fr3 : ∀ i, wg.frozen? ⟨w.heap.size + 1, i, none⟩ = false := fun i => blk_frozen z3 i
                  have HZ2 := Lib.hid z2
                  have HZ3 := Lib.hid z3
                  clear z2 z3 z5
                  go_upto_region 45 with fail
                  rename ∀ (_ : Act) (_ : World), _ → _ => hkeep
                  have HKEEP := PLift.up hkeep
                  clear hkeep
                  repeat (rename ∀ (_ : Act) (_ : World), _ → _ => hk; clear hk)
                  go_wp2_with fail
                  refine HKEEP.down _ _ ?_
                  refine wp_ret ?_
                  obtain ⟨hg1, hg2⟩ := two_stores HZ2.out HZ3.out (.int .i64 0) (.int .i64 0) (.slice none 0 0) (.slice none 0 0) (.slice none 0 0) (.slice none 0 0) (.int .i64 (a : Int)) (.int .i64 (E4 : Int))
                  refine bodyPost_ret (results_list (rs := [.cell 2 27, .cell 3 37, .tmp 4]) rfl (by simp) (.cell _ _ _ _ _ rfl hg1 Tryz.underlying27 rfl (by kernel_rfl) (.cell _ _ _ _ _ rfl hg2 Tryz.underlying37 rfl (by kernel_rfl) (.tmp .nil)))) rfl ?_
                  exact ⟨0, 0, none, 0, [], none, 0, [], none, 0, [], none, 0, [], by rw [HDEC.out]; rfl, by rw [HDEC.out]; rfl, dr_nil _, below_stores (HB0.out.trans (HBg.out.mono HB0.out.size)) (Nat.le_refl _) _ _ _ _ _ _ _ _⟩
    ·have hvb : (((s[4]'hix).toNat : Int) != 1) = true := by
      rw [bne_iff_ne]
      intro e
      apply hv
      apply UInt8.toNat_inj.1
      show (s[4]'hix).toNat = 1
      omega
     have HDEC : Hid (decOf s = (CodPlain.noD, 4, 5, 63)) := by
      show _ = _
      rw [HD2.out]
      unfold CodPlain.decR
      rw [if_neg h21, if_neg (by simp), if_neg (by rw [HM.out]; simp), if_pos (by rw [HV4.out]; exact hv)]
     clear hv HV4 HM HD2
     have z2 := blk_below H2.out HBW1.out
     have z3 := blk_below H3.out HBW1.out
     have z5 := blk_below H5.out HBW1.out
     have n0 : w1.cell? ⟨w.heap.size + 2, 0, none⟩ = some (.int .i64 0) := (blk_cell z5 0).trans rfl
     have n1 : w1.cell? ⟨w.heap.size + 2, 1, none⟩ = some (.int .i64 0) := (blk_cell z5 1).trans rfl
     have n2 : w1.cell? ⟨w.heap.size + 2, 2, none⟩ = some (.slice none 0 0) := (blk_cell z5 2).trans rfl
     have n3 : w1.cell? ⟨w.heap.size + 2, 3, none⟩ = some (.slice none 0 0) := (blk_cell z5 3).trans rfl
     have n4 : w1.cell? ⟨w.heap.size + 2, 4, none⟩ = some (.slice none 0 0) := (blk_cell z5 4).trans rfl
     have n5 : w1.cell? ⟨w.heap.size + 2, 5, none⟩ = some (.slice none 0 0) := (blk_cell z5 5).trans rfl
     have m0 : w1.cell? ⟨w.heap.size, 0, none⟩ = some (.int .i64 0) := (blk_cell z2 0).trans rfl
     have m1 : w1.cell? ⟨w.heap.size, 1, none⟩ = some (.int .i64 0) := (blk_cell z2 1).trans rfl
     have m2 : w1.cell? ⟨w.heap.size, 2, none⟩ = some (.slice none 0 0) := (blk_cell z2 2).trans rfl
     have m3 : w1.cell? ⟨w.heap.size, 3, none⟩ = some (.slice none 0 0) := (blk_cell z2 3).trans rfl
     have m4 : w1.cell? ⟨w.heap.size, 4, none⟩ = some (.slice none 0 0) := (blk_cell z2 4).trans rfl
     have m5 : w1.cell? ⟨w.heap.size, 5, none⟩ = some (.slice none 0 0) := (blk_cell z2 5).trans rfl
     have p0 : w1.cell? ⟨w.heap.size + 1, 0, none⟩ = some (.int .i64 0) := (blk_cell z3 0).trans rfl
     have p1 : w1.cell? ⟨w.heap.size + 1, 1, none⟩ = some (.int .i64 0) := (blk_cell z3 1).trans rfl
     have fr2 : ∀ i, w1.frozen? ⟨w.heap.size, i, none⟩ = false := fun i => blk_frozen z2 i
     have fr3 : ∀ i, w1.frozen? ⟨w.heap.size + 1, i, none⟩ = false := fun i => blk_frozen z3 i
     have HZ2 := Lib.hid z2
     have HZ3 := Lib.hid z3
     clear z2 z3 z5
     go_wp2_with fail
     obtain ⟨hg1, hg2⟩ := two_stores HZ2.out HZ3.out (.int .i64 0) (.int .i64 0) (.slice none 0 0) (.slice none 0 0) (.slice none 0 0) (.slice none 0 0) (.int .i64 4) (.int .i64 5)
     refine bodyPost_ret (results_list (rs := [.cell 2 27, .cell 3 37, .tmp 4]) rfl (by simp) (.cell _ _ _ _ _ rfl hg1 Tryz.underlying27 rfl (by kernel_rfl) (.cell _ _ _ _ _ rfl hg2 Tryz.underlying37 rfl (by kernel_rfl) (.tmp .nil)))) rfl ?_
     exact ⟨0, 0, none, 0, [], none, 0, [], none, 0, [], none, 0, [], by rw [HDEC.out]; rfl, by rw [HDEC.out]; rfl, dr_nil _, below_stores (HB0.out.trans (HBW1.out.mono HB0.out.size)) (Nat.le_refl _) _ _ _ _ _ _ _ _⟩
   ·have hmt : ((s.extract 0 4).toList == [100, 97, 103, 49]) = false := by have := str_ne hm; rwa [lit_list] at this
    have HDEC : Hid (decOf s = (CodPlain.noD, 0, 4, 62)) := by
     show _ = _
     rw [HD2.out]
     unfold CodPlain.decR
     rw [if_neg h21, if_neg (by simp), if_pos (fun e => hm (HHS.out.2 e))]
    clear hm HHS HD2
    have z2 := blk_below H2.out HBW1.out
    have z3 := blk_below H3.out HBW1.out
    have z5 := blk_below H5.out HBW1.out
    have n0 : w1.cell? ⟨w.heap.size + 2, 0, none⟩ = some (.int .i64 0) := (blk_cell z5 0).trans rfl
    have n1 : w1.cell? ⟨w.heap.size + 2, 1, none⟩ = some (.int .i64 0) := (blk_cell z5 1).trans rfl
    have n2 : w1.cell? ⟨w.heap.size + 2, 2, none⟩ = some (.slice none 0 0) := (blk_cell z5 2).trans rfl
    have n3 : w1.cell? ⟨w.heap.size + 2, 3, none⟩ = some (.slice none 0 0) := (blk_cell z5 3).trans rfl
    have n4 : w1.cell? ⟨w.heap.size + 2, 4, none⟩ = some (.slice none 0 0) := (blk_cell z5 4).trans rfl
    have n5 : w1.cell? ⟨w.heap.size + 2, 5, none⟩ = some (.slice none 0 0) := (blk_cell z5 5).trans rfl
    have m0 : w1.cell? ⟨w.heap.size, 0, none⟩ = some (.int .i64 0) := (blk_cell z2 0).trans rfl
    have m1 : w1.cell? ⟨w.heap.size, 1, none⟩ = some (.int .i64 0) := (blk_cell z2 1).trans rfl
    have m2 : w1.cell? ⟨w.heap.size, 2, none⟩ = some (.slice none 0 0) := (blk_cell z2 2).trans rfl
    have m3 : w1.cell? ⟨w.heap.size, 3, none⟩ = some (.slice none 0 0) := (blk_cell z2 3).trans rfl
    have m4 : w1.cell? ⟨w.heap.size, 4, none⟩ = some (.slice none 0 0) := (blk_cell z2 4).trans rfl
    have m5 : w1.cell? ⟨w.heap.size, 5, none⟩ = some (.slice none 0 0) := (blk_cell z2 5).trans rfl
    have p0 : w1.cell? ⟨w.heap.size + 1, 0, none⟩ = some (.int .i64 0) := (blk_cell z3 0).trans rfl
    have p1 : w1.cell? ⟨w.heap.size + 1, 1, none⟩ = some (.int .i64 0) := (blk_cell z3 1).trans rfl
    have fr2 : ∀ i, w1.frozen? ⟨w.heap.size, i, none⟩ = false := fun i => blk_frozen z2 i
    have fr3 : ∀ i, w1.frozen? ⟨w.heap.size + 1, i, none⟩ = false := fun i => blk_frozen z3 i
    have HZ2 := Lib.hid z2
    have HZ3 := Lib.hid z3
    clear z2 z3 z5
    go_wp2_with fail
    obtain ⟨hg1, hg2⟩ := two_stores HZ2.out HZ3.out (.int .i64 0) (.int .i64 0) (.slice none 0 0) (.slice none 0 0) (.slice none 0 0) (.slice none 0 0) (.int .i64 0) (.int .i64 4)
    refine bodyPost_ret (results_list (rs := [.cell 2 27, .cell 3 37, .tmp 4]) rfl (by simp) (.cell _ _ _ _ _ rfl hg1 Tryz.underlying27 rfl (by kernel_rfl) (.cell _ _ _ _ _ rfl hg2 Tryz.underlying37 rfl (by kernel_rfl) (.tmp .nil)))) rfl ?_
    exact ⟨0, 0, none, 0, [], none, 0, [], none, 0, [], none, 0, [], by rw [HDEC.out]; rfl, by rw [HDEC.out]; rfl, dr_nil _, below_stores (HB0.out.trans (HBW1.out.mono HB0.out.size)) (Nat.le_refl _) _ _ _ _ _ _ _ _⟩
end Go.Proofs.YtokhibhmlninnaaGreatDoor
