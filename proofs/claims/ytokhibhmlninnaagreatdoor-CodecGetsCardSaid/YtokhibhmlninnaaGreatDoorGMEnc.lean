/- Texts of this work, put into one. -/
import Derived.Test.YtokhibhmlninnaaGreatDoorGMSm
import Derived.Test.YtokhibhmlninnaaGreatDoorGMBld
import Derived.Test.YtokhibhmlninnaaGreatDoorGMPl
import Derived.Test.YtokhibhmlninnaaGreatDoorGMCrc
set_option linter.unusedVariables false
set_option linter.unusedSimpArgs false
namespace CodPlain
open WirePlain
theorem fits1 {n : Int} (h : 0 ≤ n ∧ n < 256) : fits n 1 := by
 refine ⟨h.1, fun _ => ?_⟩
 have : (256 : Int) ^ (1 : Int).toNat = 256 := by decide
 omega
theorem fits2 {n : Int} (h : 0 ≤ n ∧ n < 65536) : fits n 2 := by
 refine ⟨h.1, fun _ => ?_⟩
 have : (256 : Int) ^ (2 : Int).toNat = 65536 := by decide
 omega
theorem fits4 {n : Int} (h : 0 ≤ n ∧ n < 4294967296) : fits n 4 := by
 refine ⟨h.1, fun _ => ?_⟩
 have : (256 : Int) ^ (4 : Int).toNat = 4294967296 := by decide
 omega
theorem take_snoc {α : Type} {l : List α} {d : α} {k : Nat} (h : k < l.length) : l.take (k + 1) = l.take k ++ [l.getD k d] := by
 rw [List.take_add_one, List.getElem?_eq_getElem h, List.getD_eq_getElem?_getD, List.getElem?_eq_getElem h]; rfl
theorem flat_snoc {α : Type} {l : List α} {d : α} {k : Nat} (g : α → List UInt8) (h : k < l.length) : (l.take (k + 1)).flatMap g = (l.take k).flatMap g ++ g (l.getD k d) := by
 rw [take_snoc h, List.flatMap_append, List.flatMap_singleton]
def sealedB (l : List UInt8) : List UInt8 := CrcPlain.sealed l
end CodPlain
namespace Go.Proofs.YtokhibhmlninnaaGreatDoor
open Go.RowKit Go.Proofs.YtokhibhmlninnaaGreatDoorW.PrintWords
open WirePlain
theorem lit_reads (W : World) (l : List Int) (t : TypeId) (hl : l.length ≤ 1000) : ReadsInt (W.alloc (.cells (l.map (Value.int .i64)).toArray t)) .i64 (some ⟨W.heap.size, 0, none⟩) l.length l := by
 refine ⟨rfl, by omega, fun _ => ⟨⟨W.heap.size, 0, none⟩, rfl, fun j hj => ?_⟩⟩
 rw [add_plain, World.cell?_alloc_mark, List.getElem?_toArray, List.getElem?_map, List.getElem?_eq_getElem hj, List.getD_eq_getElem?_getD, List.getElem?_eq_getElem hj]; rfl
theorem all1 {l : List Int} (h : ∀ n ∈ l, 0 ≤ n ∧ n < 256) : (∀ n ∈ l, fits n 1) ∧ ∀ n ∈ l, n ≤ 9223372036854775807 := ⟨fun n hn => CodPlain.fits1 (h n hn), fun n hn => by have := h n hn; omega⟩
theorem all2 {l : List Int} (h : ∀ n ∈ l, 0 ≤ n ∧ n < 65536) : (∀ n ∈ l, fits n 2) ∧ ∀ n ∈ l, n ≤ 9223372036854775807 := ⟨fun n hn => CodPlain.fits2 (h n hn), fun n hn => by have := h n hn; omega⟩
theorem all4 {l : List Int} (h : ∀ n ∈ l, 0 ≤ n ∧ n < 4294967296) : (∀ n ∈ l, fits n 4) ∧ ∀ n ∈ l, n ≤ 9223372036854775807 := ⟨fun n hn => CodPlain.fits4 (h n hn), fun n hn => by have := h n hn; omega⟩
theorem in_one {p : Int → Prop} {a : Int} (h : p a) : ∀ n ∈ [a], p n := fun n hn => by rw [List.mem_singleton.1 hn]; exact h
theorem in_two {p : Int → Prop} {a b : Int} (h : p a) (h2 : p b) : ∀ n ∈ [a, b], p n := fun n hn => by
 rcases List.mem_cons.1 hn with rfl | hn
 ·exact h
 ·rw [List.mem_singleton.1 hn]; exact h2
theorem seal_sealed (l : List UInt8) : sealB ⟨l.toArray⟩ = ⟨(CrcPlain.sealed l).toArray⟩ := by
 unfold sealB sumB tailB CrcPlain.sealed
 apply ByteArray.ext
 simp
def headH (per dl : Int) (a b c d : Nat) : List UInt8 := CodPlain.magicL ++ CodPlain.row [1, a, b, c, d] 1 ++ CodPlain.row [per, dl] 4
theorem head_dOf (per dl : Int) (ps : List PCod.S47) (es : List PCod.S63) (fs : List PCod.S65) (bs : List PCod.S50) : CodPlain.headL (dOf per dl ps es fs bs) = headH per dl ps.length es.length fs.length bs.length := by
 unfold CodPlain.headL headH dOf
 simp only [List.length_map]
theorem head_len (per dl : Int) (a b c d : Nat) : (headH per dl a b c d).length = 17 := by
 unfold headH
 rw [List.length_append, List.length_append, CodPlain.row_len, CodPlain.row_len]; rfl
theorem body_dOf (per dl : Int) (ps : List PCod.S47) (es : List PCod.S63) (fs : List PCod.S65) (bs : List PCod.S50) : CodPlain.bodyL (dOf per dl ps es fs bs) =
  headH per dl ps.length es.length fs.length bs.length ++ ps.flatMap (fun x => CodPlain.partL (tP x)) ++ es.flatMap (fun x => CodPlain.edgeL (tE x)) ++ fs.flatMap (fun x => CodPlain.futL (tF x)) ++ bs.flatMap (fun x => CodPlain.barL (tB x)) := by
 unfold CodPlain.bodyL
 rw [head_dOf]
 unfold dOf
 dsimp only
 rw [List.flatMap_map, List.flatMap_map, List.flatMap_map, List.flatMap_map]
theorem pfx_le {α : Type} {g : α → List UInt8} {n : Nat} : ∀ {l : List α}, (∀ x ∈ l, (g x).length ≤ n) → (l.flatMap g).length ≤ n * l.length
 | [], _ => by simp
 | x :: l, h => by
  rw [List.flatMap_cons, List.length_append, List.length_cons, Nat.mul_add, Nat.mul_one]
  have := h x List.mem_cons_self
  have := pfx_le (fun y hy => h y (List.mem_cons_of_mem _ hy))
  omega
theorem pfx_take {α : Type} {g : α → List UInt8} {n m : Nat} {l : List α} (h : ∀ x ∈ l, (g x).length ≤ n) (hm : n * l.length ≤ m) (k : Nat) : ((l.take k).flatMap g).length ≤ m := by
 have h1 := pfx_le (l := l.take k) (fun x hx => h x (List.mem_of_mem_take hx))
 have h2 : (l.take k).length ≤ l.length := by rw [List.length_take]; omega
 exact Nat.le_trans h1 (Nat.le_trans (Nat.mul_le_mul_left n h2) hm)
set_option maxRecDepth 100000 in
set_option maxHeartbeats 16000000 in
theorem encode_yes (per dl : Int) (P : Option Addr) (cp : Nat) (ps : List PCod.S47) (E : Option Addr) (ce : Nat) (es : List PCod.S63) (F : Option Addr) (cf : Nat) (fs : List PCod.S65) (B : Option Addr) (cb : Nat) (bs : List PCod.S50) (w : World) (hs : ShortD ps es fs bs) (hd : DbAt w) (ht : TabAt w) (hr : DR w P cp ps E ce es F cf fs B cb bs) (hc : CodPlain.checkD (dOf per dl ps es fs bs) = 0) :
  Calls Tryz.prog 9 #[.agg #[.int .i64 per, .int .i64 dl, .slice P ps.length cp, .slice E es.length ce, .slice F fs.length cf, .slice B bs.length cb]] w fun e w' => e = .returned (.tuple #[.string ⟨(CodPlain.sealedB (CodPlain.bodyL (dOf per dl ps es fs bs))).toArray⟩, .int .i64 0]) ∧ Below w.heap.size w w' := by
 have hok := CodPlain.ok_of hc
 have hnp : 1 ≤ ps.length ∧ ps.length ≤ 16 := by have := hok.np; unfold dOf at this; rwa [List.length_map] at this
 have hne : es.length ≤ 48 := by have := hok.ne; unfold dOf at this; rwa [List.length_map] at this
 have hnf : fs.length ≤ 16 := by have := hok.nf; unfold dOf at this; rwa [List.length_map] at this
 have hnb : bs.length ≤ 4 := by have := hok.nb; unfold dOf at this; rwa [List.length_map] at this
 have hper : 1 ≤ per ∧ per ≤ 4096 := hok.per
 have hdl : 1 ≤ dl ∧ dl ≤ per := hok.dl
 have HPR : Hid (∀ x ∈ ps, (0 ≤ x.f0 ∧ x.f0 ≤ 5) ∧ (0 ≤ x.f1 ∧ x.f1 ≤ 2147483647) ∧ 1 ≤ x.f2 ∧ x.f2 ≤ 100) := fun x hx => CodPlain.part_in (p := tP x) (hok.part _ (List.mem_map_of_mem hx))
 have HER : Hid (∀ x ∈ es, (0 ≤ x.f0 ∧ x.f0 < 16) ∧ 0 ≤ x.f1 ∧ x.f1 < 16) := fun x hx => hok.edge (tE x) (List.mem_map_of_mem hx)
 have HFR : Hid (∀ x ∈ fs, (0 ≤ x.f0 ∧ x.f0 < 16) ∧ (0 ≤ x.f1 ∧ x.f1 < 16) ∧ 1 ≤ x.f2 ∧ x.f2 ≤ 99) := fun x hx => hok.fut (tF x) (List.mem_map_of_mem hx)
 have HBR : Hid (∀ x ∈ bs, (∀ n ∈ x.f0, 0 ≤ n ∧ n < 16) ∧ (∀ n ∈ x.f1, 0 ≤ n ∧ n < 16) ∧ x.f0.length ≤ 16 ∧ x.f1.length ≤ 16) := fun x hx => hok.bar (tB x) (List.mem_map_of_mem hx)
 have HBODY := Lib.hid (body_dOf per dl ps es fs bs)
 have C := Lib.hid (fun w1 h1 h2 => check_any per dl P cp ps E ce es F cf fs B cb bs w1 hs.1 hs.2 h1 h2)
 rw [hc] at C
 have HD := Lib.hid hd
 have HT := Lib.hid ht
 have HR := Lib.hid hr
 have hb0 : Below w.heap.size w (w.alloc (Obj.cells #[.int .i64 per, .int .i64 dl, .slice P ps.length cp, .slice E es.length ce, .slice F fs.length cf, .slice B bs.length cb] 27)) := (Below.refl _ _).alloc (Nat.le_refl _) _
 have HB0 := Lib.hid hb0
 clear hok hd ht hr hc hs hb0
 generalize CodPlain.bodyL (dOf per dl ps es fs bs) = BL at *
 go_enter Tryz.func9, Tryz.ntmps9
 go_wp2_with fail
 refine (C.out _ (HD.out.below HB0.out) (HR.out.below HB0.out)).mono ?_
 rintro e w1 ⟨rfl, hb⟩
 have HB1 := Lib.hid (HB0.out.trans (hb.mono HB0.out.size))
 have x0 : w1.cell? ⟨w.heap.size, 0, none⟩ = some (.int .i64 per) := by rw [hb.cell (by simp)]; simp
 have x1 : w1.cell? ⟨w.heap.size, 1, none⟩ = some (.int .i64 dl) := by rw [hb.cell (by simp)]; simp
 have x2 : w1.cell? ⟨w.heap.size, 2, none⟩ = some (.slice P ps.length cp) := by rw [hb.cell (by simp)]; simp
 have x3 : w1.cell? ⟨w.heap.size, 3, none⟩ = some (.slice E es.length ce) := by rw [hb.cell (by simp)]; simp
 have x4 : w1.cell? ⟨w.heap.size, 4, none⟩ = some (.slice F fs.length cf) := by rw [hb.cell (by simp)]; simp
 have x5 : w1.cell? ⟨w.heap.size, 5, none⟩ = some (.slice B bs.length cb) := by rw [hb.cell (by simp)]; simp
 have HX : Hid (∀ W, Below w1.heap.size w1 W → W.cell? ⟨w.heap.size, 0, none⟩ = some (.int .i64 per) ∧ W.cell? ⟨w.heap.size, 1, none⟩ = some (.int .i64 dl) ∧ W.cell? ⟨w.heap.size, 2, none⟩ = some (.slice P ps.length cp) ∧ W.cell? ⟨w.heap.size, 3, none⟩ = some (.slice E es.length ce) ∧ W.cell? ⟨w.heap.size, 4, none⟩ = some (.slice F fs.length cf) ∧ W.cell? ⟨w.heap.size, 5, none⟩ = some (.slice B bs.length cb)) := by
  show ∀ W, _ → _
  intro W hW
  exact ⟨by rw [hW.cell (block_lt_of_cell x0)]; exact x0, by rw [hW.cell (block_lt_of_cell x1)]; exact x1, by rw [hW.cell (block_lt_of_cell x2)]; exact x2, by rw [hW.cell (block_lt_of_cell x3)]; exact x3, by rw [hW.cell (block_lt_of_cell x4)]; exact x4, by rw [hW.cell (block_lt_of_cell x5)]; exact x5⟩
 clear hb x0 x1 x2 x3 x4 x5
 have HNEW : Hid (WrAt w1.heap.size [] (w1.alloc (Obj.cells #[.pointer none, .slice none 0 0] 57))) := Lib.fresh_isBuilder _ _ w1
 have HNB : Hid (Below w1.heap.size w1 (w1.alloc (Obj.cells #[.pointer none, .slice none 0 0] 57))) := (Below.refl _ _).alloc (Nat.le_refl _) _
 have CP : Hid (∀ (L : List UInt8) (A : Option Addr) (c : Nat) (l : List Int) (k : Int) (W0 W : World), WrAt w1.heap.size L W0 → Below w1.heap.size w1 W0 → Below W0.heap.size W0 W → Wide k → ((∀ n ∈ l, fits n k) ∧ ∀ n ∈ l, n ≤ 9223372036854775807) → ReadsInt W .i64 A l.length l → l.length ≤ 1000 → L.length ≤ 100000 →
   Calls Tryz.prog 19 #[.pointer (some ⟨w1.heap.size, 0, none⟩), .int .i64 k, .slice A l.length c] W fun e w' => e = .returned (.tuple #[]) ∧ WrAt w1.heap.size (L ++ CodPlain.row l k) w' ∧ Below w1.heap.size w1 w' ∧ KeepT W w') := by
  show ∀ _ _ _ _ _ _ _, _
  intro L A c l k W0 W h1 h2 h3 h4 h5 h6 h7 h8
  refine (wput_any w1.heap.size L A c l k W h4 h5.1 h5.2 h6 h7 (h1.below h3) h8).mono ?_
  rintro e w' ⟨rfl, g1, g2, g3⟩
  exact ⟨rfl, g1, (h2.trans (h3.mono h2.size)).trans g2, g3⟩
 go_wp2_with fail
 generalize w1.alloc (Obj.cells #[.pointer none, .slice none 0 0] 57) = w2 at *
 refine (bld_WriteString w1.heap.size w1.heap.size [] ⟨#[100, 97, 103, 49]⟩ w2 HNEW.out (by simp; decide) HNB.out.size).mono ?_
 rintro e w3 ⟨rfl, h2, hb2, -⟩
 have HW3 : Hid (WrAt w1.heap.size CodPlain.magicL w3) := .inr h2
 have HB3 := Lib.hid (HNB.out.trans hb2)
 clear h2 hb2 HNEW HNB
 obtain ⟨y0, y1, y2, y3, y4, y5⟩ := HX.out _ HB3.out
 go_wp2_with fail
 refine (CP.out CodPlain.magicL (some ⟨w3.heap.size, 0, none⟩) 5 [1, (ps.length : Int), (es.length : Int), (fs.length : Int), (bs.length : Int)] 1 w3 _ HW3.out HB3.out ((Below.refl _ _).alloc (Nat.le_refl _) _) (.inl rfl) (all1 (by intro n hn; simp at hn; omega)) (lit_reads w3 [1, (ps.length : Int), (es.length : Int), (fs.length : Int), (bs.length : Int)] 3 (by simp)) (by simp) (by simp [CodPlain.magicL])).mono ?_
 rintro e w4 ⟨rfl, g1, g2, -⟩
 have HW4 := Lib.hid g1
 have HB4 := Lib.hid g2
 clear g1 g2 HW3 HB3 y0 y1 y2 y3 y4 y5
 obtain ⟨y0, y1, y2, y3, y4, y5⟩ := HX.out _ HB4.out
 go_wp2_with fail
 refine (CP.out _ (some ⟨w4.heap.size, 0, none⟩) 2 [per, dl] 4 w4 _ HW4.out HB4.out ((Below.refl _ _).alloc (Nat.le_refl _) _) (.inr (.inr (.inl rfl))) (all4 (in_two (by omega) (by omega))) (lit_reads w4 [per, dl] 3 (by simp)) (by simp) (by rw [List.length_append, CodPlain.row_len]; simp [CodPlain.magicL])).mono ?_
 rintro e w5 ⟨rfl, g1, g2, -⟩
 have g1 : WrAt w1.heap.size (headH per dl ps.length es.length fs.length bs.length) w5 := g1
 have hl0 := head_len per dl ps.length es.length fs.length bs.length
 have HBB0 := Lib.hid g2
 clear g2 HW4 HB4 y0 y1 y2 y3 y4 y5
 generalize headH per dl ps.length es.length fs.length bs.length = H0 at *
 have HWW0 := Lib.hid g1
 clear g1
 obtain ⟨y0, y1, y2, y3, y4, y5⟩ := HX.out _ HBB0.out
 go_wp2_with fail
 clear y0 y1 y2 y3 y4 y5
 have HLE1 : Hid (∀ k, ((ps.take k).flatMap (fun x => CodPlain.partL (tP x))).length ≤ 112) := fun k => pfx_take (n := 7) (fun x _ => Nat.le_of_eq (CodPlain.part_len _)) (by omega) k
 go_loopw [50] (fun i wr => ∃ k : Nat, k ≤ ps.length ∧ i = .int .i64 k ∧ Hid (WrAt w1.heap.size (H0 ++ (ps.take k).flatMap (fun x => CodPlain.partL (tP x))) wr) ∧ Hid (Below w1.heap.size w1 wr)) (fun i _ => ps.length - (intOf i).toNat)
 case atStart => exact ⟨0, Nat.zero_le _, rfl, by show WrAt _ _ _; simpa using HWW0.out, HBB0⟩
 case round =>
  clear HWW0 HBB0
  obtain ⟨k, hk, rfl, HW, HB⟩ := hrel
  by_cases hlt : k < ps.length
  ·have hlenL := HLE1.out k
   have hmem := CodPlain.getD_in (d := PCod.z47) hlt
   have HFS : Hid (H0 ++ (ps.take (k + 1)).flatMap (fun x => CodPlain.partL (tP x)) = (H0 ++ (ps.take k).flatMap (fun x => CodPlain.partL (tP x))) ++ (fun x => CodPlain.partL (tP x)) (ps.getD k PCod.z47)) := by show _ = _; rw [CodPlain.flat_snoc _ hlt, List.append_assoc]
   have hLb : (H0 ++ (ps.take k).flatMap (fun x => CodPlain.partL (tP x))).length ≤ 1000 := by rw [List.length_append]; omega
   generalize H0 ++ (ps.take k).flatMap (fun x => CodPlain.partL (tP x)) = L at *
   obtain ⟨ad, hE, hr0, hr1, hr2⟩ := PCod.at_T47 (Kd.C_below HR.out.p (HB1.out.trans (HB.out.mono HB1.out.size))) (k : Int) (by omega) (by omega)
   subst hE
   have hrd : PCod.rd_T47 ps (k : Int) = ps.getD k PCod.z47 := by unfold PCod.rd_T47; rw [Int.toNat_natCast]
   rw [Int.toNat_natCast, hrd] at hr0 hr1 hr2
   obtain ⟨y, hy⟩ : ∃ y, y = ps.getD k PCod.z47 := ⟨_, rfl⟩
   rw [← hy] at hr0 hr1 hr2 hmem HFS
   have hrng := HPR.out y hmem
   clear hrd hy hmem
   obtain ⟨q0, q1, q2⟩ := y
   dsimp only at hr0 hr1 hr2 hrng
   have hbx : (wr.alloc (Obj.cells #[Value.int .i64 q0, Value.int .i64 q1, Value.int .i64 q2] 47)).heap[wr.heap.size]? = some (Obj.cells #[Value.int .i64 q0, Value.int .i64 q1, Value.int .i64 q2] 47) := by show (wr.heap.push _)[wr.heap.size]? = _; simp
   have hab : Below wr.heap.size wr (wr.alloc (Obj.cells #[Value.int .i64 q0, Value.int .i64 q1, Value.int .i64 q2] 47)) := (Below.refl _ _).alloc (Nat.le_refl _) _
   have HBX := Lib.hid hbx
   have HV0 := Lib.hid (HW.out.below hab)
   have HBV0 := Lib.hid (HB.out.trans (hab.mono HB.out.size))
   clear hbx hab
   go_wp2_with fail
   refine (CP.out _ (some ⟨wr.heap.size + 1, 0, none⟩) 1 [q0] 1 (wr.alloc (Obj.cells #[Value.int .i64 q0, Value.int .i64 q1, Value.int .i64 q2] 47)) _ HV0.out HBV0.out ((Below.refl _ _).alloc (Nat.le_refl _) _) (.inl rfl) (all1 (in_one (by omega))) (by have := lit_reads (wr.alloc (Obj.cells #[Value.int .i64 q0, Value.int .i64 q1, Value.int .i64 q2] 47)) [q0] 3 (by simp); rwa [World.size_alloc] at this) (by simp) (by omega)).mono ?_
   rintro e v1 ⟨rfl, g1, g2, g3⟩
   have HV1 := Lib.hid g1
   have HBV1 := Lib.hid g2
   have HBX1 := Lib.hid (g3 _ _ _ _ ((Below.heap_alloc _ _ _ (by simp)).trans HBX.out) (by decide) (by decide))
   clear g1 g2 g3 HV0 HBV0 HBX hr0 hr1 hr2
   have c1_0 : v1.cell? ⟨wr.heap.size, 0, none⟩ = some _ := (blk_cell HBX1.out 0).trans rfl
   have c1_1 : v1.cell? ⟨wr.heap.size, 1, none⟩ = some _ := (blk_cell HBX1.out 1).trans rfl
   have c1_2 : v1.cell? ⟨wr.heap.size, 2, none⟩ = some _ := (blk_cell HBX1.out 2).trans rfl
   go_wp2_with fail
   refine (CP.out _ (some ⟨v1.heap.size, 0, none⟩) 1 [q1] 4 v1 _ HV1.out HBV1.out ((Below.refl _ _).alloc (Nat.le_refl _) _) (.inr (.inr (.inl rfl))) (all4 (in_one (by omega))) (lit_reads v1 [q1] 3 (by simp)) (by simp) (by simp only [List.length_append, CodPlain.row_len, List.length_cons, List.length_nil]; omega)).mono ?_
   rintro e v2 ⟨rfl, g1, g2, g3⟩
   have HV2 := Lib.hid g1
   have HBV2 := Lib.hid g2
   have HBX2 := Lib.hid (g3 _ _ _ _ ((Below.heap_alloc _ _ _ (by exact blk_of_lt HBX1.out)).trans HBX1.out) (by decide) (by decide))
   clear g1 g2 g3 HV1 HBV1 HBX1
   have c2_0 : v2.cell? ⟨wr.heap.size, 0, none⟩ = some _ := (blk_cell HBX2.out 0).trans rfl
   have c2_1 : v2.cell? ⟨wr.heap.size, 1, none⟩ = some _ := (blk_cell HBX2.out 1).trans rfl
   have c2_2 : v2.cell? ⟨wr.heap.size, 2, none⟩ = some _ := (blk_cell HBX2.out 2).trans rfl
   go_wp2_with fail
   refine (CP.out _ (some ⟨v2.heap.size, 0, none⟩) 1 [q2] 2 v2 _ HV2.out HBV2.out ((Below.refl _ _).alloc (Nat.le_refl _) _) (.inr (.inl rfl)) (all2 (in_one (by omega))) (lit_reads v2 [q2] 3 (by simp)) (by simp) (by simp only [List.length_append, CodPlain.row_len, List.length_cons, List.length_nil]; omega)).mono ?_
   rintro e v3 ⟨rfl, g1, g2, g3⟩
   have HV3 := Lib.hid g1
   have HBV3 := Lib.hid g2
   have HBX3 := Lib.hid (g3 _ _ _ _ ((Below.heap_alloc _ _ _ (by exact blk_of_lt HBX2.out)).trans HBX2.out) (by decide) (by decide))
   clear g1 g2 g3 HV2 HBV2 HBX2
   have HWN : Hid (WrAt w1.heap.size (H0 ++ (ps.take (k + 1)).flatMap (fun x => CodPlain.partL (tP x))) v3) := by
    show WrAt _ _ _
    have hg := HV3.out
    rw [HFS.out]
    try simp only [List.append_assoc] at hg
    show WrAt _ (L ++ (CodPlain.row [q0] 1 ++ CodPlain.row [q1] 4 ++ CodPlain.row [q2] 2)) _
    try simp only [List.append_assoc]
    exact hg
   clear HV3 HFS HBX3 HW
   go_wp2_with fail
   go_roundw
   case rel => exact ⟨k + 1, by omega, by go_num, HWN, HBV3⟩
   case measure => simp [intOf]; omega
  ·obtain rfl : k = ps.length := by omega
   have HWW1 : Hid (WrAt w1.heap.size (H0 ++ ps.flatMap (fun x => CodPlain.partL (tP x))) wr) := by
    have := HW.out
    rw [List.take_length] at this
    exact this
   have hl1 : (H0 ++ ps.flatMap (fun x => CodPlain.partL (tP x))).length ≤ 129 := by
    have := HLE1.out ps.length
    rw [List.take_length] at this
    rw [List.length_append]
    omega
   have hm1 : 17 ≤ (H0 ++ ps.flatMap (fun x => CodPlain.partL (tP x))).length := by
    rw [List.length_append]
    omega
   have HBB1 := HB
   clear HW HB
   generalize H0 ++ ps.flatMap (fun x => CodPlain.partL (tP x)) = H1 at *
   obtain ⟨y0, y1, y2, y3, y4, y5⟩ := HX.out _ HBB1.out
   go_wp2_with fail
   clear y0 y1 y2 y3 y4 y5
   have HLE2 : Hid (∀ k, ((es.take k).flatMap (fun x => CodPlain.edgeL (tE x))).length ≤ 96) := fun k => pfx_take (n := 2) (fun x _ => Nat.le_of_eq (CodPlain.edge_len _)) (by omega) k
   go_loopw [73] (fun i wr => ∃ k : Nat, k ≤ es.length ∧ i = .int .i64 k ∧ Hid (WrAt w1.heap.size (H1 ++ (es.take k).flatMap (fun x => CodPlain.edgeL (tE x))) wr) ∧ Hid (Below w1.heap.size w1 wr)) (fun i _ => es.length - (intOf i).toNat)
   case atStart => exact ⟨0, Nat.zero_le _, rfl, by show WrAt _ _ _; simpa using HWW1.out, HBB1⟩
   case round =>
    clear HWW1 HBB1
    obtain ⟨k, hk, rfl, HW, HB⟩ := hrel
    by_cases hlt : k < es.length
    ·have hlenL := HLE2.out k
     have hmem := CodPlain.getD_in (d := PCod.z63) hlt
     have HFS : Hid (H1 ++ (es.take (k + 1)).flatMap (fun x => CodPlain.edgeL (tE x)) = (H1 ++ (es.take k).flatMap (fun x => CodPlain.edgeL (tE x))) ++ (fun x => CodPlain.edgeL (tE x)) (es.getD k PCod.z63)) := by show _ = _; rw [CodPlain.flat_snoc _ hlt, List.append_assoc]
     have hLb : (H1 ++ (es.take k).flatMap (fun x => CodPlain.edgeL (tE x))).length ≤ 1000 := by rw [List.length_append]; omega
     generalize H1 ++ (es.take k).flatMap (fun x => CodPlain.edgeL (tE x)) = L at *
     obtain ⟨ad, hE, hr0, hr1⟩ := PCod.at_T63 (Kd.C_below HR.out.e (HB1.out.trans (HB.out.mono HB1.out.size))) (k : Int) (by omega) (by omega)
     subst hE
     have hrd : PCod.rd_T63 es (k : Int) = es.getD k PCod.z63 := by unfold PCod.rd_T63; rw [Int.toNat_natCast]
     rw [Int.toNat_natCast, hrd] at hr0 hr1
     obtain ⟨y, hy⟩ : ∃ y, y = es.getD k PCod.z63 := ⟨_, rfl⟩
     rw [← hy] at hr0 hr1 hmem HFS
     have hrng := HER.out y hmem
     clear hrd hy hmem
     obtain ⟨q0, q1⟩ := y
     dsimp only at hr0 hr1 hrng
     have hbx : (wr.alloc (Obj.cells #[Value.int .i64 q0, Value.int .i64 q1] 63)).heap[wr.heap.size]? = some (Obj.cells #[Value.int .i64 q0, Value.int .i64 q1] 63) := by show (wr.heap.push _)[wr.heap.size]? = _; simp
     have hab : Below wr.heap.size wr (wr.alloc (Obj.cells #[Value.int .i64 q0, Value.int .i64 q1] 63)) := (Below.refl _ _).alloc (Nat.le_refl _) _
     have HBX := Lib.hid hbx
     have HV0 := Lib.hid (HW.out.below hab)
     have HBV0 := Lib.hid (HB.out.trans (hab.mono HB.out.size))
     clear hbx hab
     go_wp2_with fail
     refine (CP.out _ (some ⟨wr.heap.size + 1, 0, none⟩) 2 [q0, q1] 1 (wr.alloc (Obj.cells #[Value.int .i64 q0, Value.int .i64 q1] 63)) _ HV0.out HBV0.out ((Below.refl _ _).alloc (Nat.le_refl _) _) (.inl rfl) (all1 (in_two (by omega) (by omega))) (by have := lit_reads (wr.alloc (Obj.cells #[Value.int .i64 q0, Value.int .i64 q1] 63)) [q0, q1] 3 (by simp); rwa [World.size_alloc] at this) (by simp) (by omega)).mono ?_
     rintro e v1 ⟨rfl, g1, g2, g3⟩
     have HV1 := Lib.hid g1
     have HBV1 := Lib.hid g2
     have HBX1 := Lib.hid (g3 _ _ _ _ ((Below.heap_alloc _ _ _ (by simp)).trans HBX.out) (by decide) (by decide))
     clear g1 g2 g3 HV0 HBV0 HBX hr0 hr1
     have HWN : Hid (WrAt w1.heap.size (H1 ++ (es.take (k + 1)).flatMap (fun x => CodPlain.edgeL (tE x))) v1) := by
      show WrAt _ _ _
      have hg := HV1.out
      rw [HFS.out]
      try simp only [List.append_assoc] at hg
      show WrAt _ (L ++ CodPlain.row [q0, q1] 1) _
      exact hg
     clear HV1 HFS HBX1 HW
     go_wp2_with fail
     go_roundw
     case rel => exact ⟨k + 1, by omega, by go_num, HWN, HBV1⟩
     case measure => simp [intOf]; omega
    ·obtain rfl : k = es.length := by omega
     have HWW2 : Hid (WrAt w1.heap.size (H1 ++ es.flatMap (fun x => CodPlain.edgeL (tE x))) wr) := by
      have := HW.out
      rw [List.take_length] at this
      exact this
     have hl2 : (H1 ++ es.flatMap (fun x => CodPlain.edgeL (tE x))).length ≤ 225 := by
      have := HLE2.out es.length
      rw [List.take_length] at this
      rw [List.length_append]
      omega
     have hm2 : 17 ≤ (H1 ++ es.flatMap (fun x => CodPlain.edgeL (tE x))).length := by
      rw [List.length_append]
      omega
     have HBB2 := HB
     clear HW HB
     generalize H1 ++ es.flatMap (fun x => CodPlain.edgeL (tE x)) = H2 at *
     obtain ⟨y0, y1, y2, y3, y4, y5⟩ := HX.out _ HBB2.out
     go_wp2_with fail
     clear y0 y1 y2 y3 y4 y5
     have HLE3 : Hid (∀ k, ((fs.take k).flatMap (fun x => CodPlain.futL (tF x))).length ≤ 64) := fun k => pfx_take (n := 4) (fun x _ => Nat.le_of_eq (CodPlain.fut_len _)) (by omega) k
     go_loopw [88] (fun i wr => ∃ k : Nat, k ≤ fs.length ∧ i = .int .i64 k ∧ Hid (WrAt w1.heap.size (H2 ++ (fs.take k).flatMap (fun x => CodPlain.futL (tF x))) wr) ∧ Hid (Below w1.heap.size w1 wr)) (fun i _ => fs.length - (intOf i).toNat)
     case atStart => exact ⟨0, Nat.zero_le _, rfl, by show WrAt _ _ _; simpa using HWW2.out, HBB2⟩
     case round =>
      clear HWW2 HBB2
      obtain ⟨k, hk, rfl, HW, HB⟩ := hrel
      by_cases hlt : k < fs.length
      ·have hlenL := HLE3.out k
       have hmem := CodPlain.getD_in (d := PCod.z65) hlt
       have HFS : Hid (H2 ++ (fs.take (k + 1)).flatMap (fun x => CodPlain.futL (tF x)) = (H2 ++ (fs.take k).flatMap (fun x => CodPlain.futL (tF x))) ++ (fun x => CodPlain.futL (tF x)) (fs.getD k PCod.z65)) := by show _ = _; rw [CodPlain.flat_snoc _ hlt, List.append_assoc]
       have hLb : (H2 ++ (fs.take k).flatMap (fun x => CodPlain.futL (tF x))).length ≤ 1000 := by rw [List.length_append]; omega
       generalize H2 ++ (fs.take k).flatMap (fun x => CodPlain.futL (tF x)) = L at *
       obtain ⟨ad, hE, hr0, hr1, hr2⟩ := PCod.at_T65 (Kd.C_below HR.out.f (HB1.out.trans (HB.out.mono HB1.out.size))) (k : Int) (by omega) (by omega)
       subst hE
       have hrd : PCod.rd_T65 fs (k : Int) = fs.getD k PCod.z65 := by unfold PCod.rd_T65; rw [Int.toNat_natCast]
       rw [Int.toNat_natCast, hrd] at hr0 hr1 hr2
       obtain ⟨y, hy⟩ : ∃ y, y = fs.getD k PCod.z65 := ⟨_, rfl⟩
       rw [← hy] at hr0 hr1 hr2 hmem HFS
       have hrng := HFR.out y hmem
       clear hrd hy hmem
       obtain ⟨q0, q1, q2⟩ := y
       dsimp only at hr0 hr1 hr2 hrng
       have hbx : (wr.alloc (Obj.cells #[Value.int .i64 q0, Value.int .i64 q1, Value.int .i64 q2] 65)).heap[wr.heap.size]? = some (Obj.cells #[Value.int .i64 q0, Value.int .i64 q1, Value.int .i64 q2] 65) := by show (wr.heap.push _)[wr.heap.size]? = _; simp
       have hab : Below wr.heap.size wr (wr.alloc (Obj.cells #[Value.int .i64 q0, Value.int .i64 q1, Value.int .i64 q2] 65)) := (Below.refl _ _).alloc (Nat.le_refl _) _
       have HBX := Lib.hid hbx
       have HV0 := Lib.hid (HW.out.below hab)
       have HBV0 := Lib.hid (HB.out.trans (hab.mono HB.out.size))
       clear hbx hab
       go_wp2_with fail
       refine (CP.out _ (some ⟨wr.heap.size + 1, 0, none⟩) 2 [q0, q1] 1 (wr.alloc (Obj.cells #[Value.int .i64 q0, Value.int .i64 q1, Value.int .i64 q2] 65)) _ HV0.out HBV0.out ((Below.refl _ _).alloc (Nat.le_refl _) _) (.inl rfl) (all1 (in_two (by omega) (by omega))) (by have := lit_reads (wr.alloc (Obj.cells #[Value.int .i64 q0, Value.int .i64 q1, Value.int .i64 q2] 65)) [q0, q1] 3 (by simp); rwa [World.size_alloc] at this) (by simp) (by omega)).mono ?_
       rintro e v1 ⟨rfl, g1, g2, g3⟩
       have HV1 := Lib.hid g1
       have HBV1 := Lib.hid g2
       have HBX1 := Lib.hid (g3 _ _ _ _ ((Below.heap_alloc _ _ _ (by simp)).trans HBX.out) (by decide) (by decide))
       clear g1 g2 g3 HV0 HBV0 HBX hr0 hr1 hr2
       have c1_0 : v1.cell? ⟨wr.heap.size, 0, none⟩ = some _ := (blk_cell HBX1.out 0).trans rfl
       have c1_1 : v1.cell? ⟨wr.heap.size, 1, none⟩ = some _ := (blk_cell HBX1.out 1).trans rfl
       have c1_2 : v1.cell? ⟨wr.heap.size, 2, none⟩ = some _ := (blk_cell HBX1.out 2).trans rfl
       go_wp2_with fail
       refine (CP.out _ (some ⟨v1.heap.size, 0, none⟩) 1 [q2] 2 v1 _ HV1.out HBV1.out ((Below.refl _ _).alloc (Nat.le_refl _) _) (.inr (.inl rfl)) (all2 (in_one (by omega))) (lit_reads v1 [q2] 3 (by simp)) (by simp) (by simp only [List.length_append, CodPlain.row_len, List.length_cons, List.length_nil]; omega)).mono ?_
       rintro e v2 ⟨rfl, g1, g2, g3⟩
       have HV2 := Lib.hid g1
       have HBV2 := Lib.hid g2
       have HBX2 := Lib.hid (g3 _ _ _ _ ((Below.heap_alloc _ _ _ (by exact blk_of_lt HBX1.out)).trans HBX1.out) (by decide) (by decide))
       clear g1 g2 g3 HV1 HBV1 HBX1
       have HWN : Hid (WrAt w1.heap.size (H2 ++ (fs.take (k + 1)).flatMap (fun x => CodPlain.futL (tF x))) v2) := by
        show WrAt _ _ _
        have hg := HV2.out
        rw [HFS.out]
        try simp only [List.append_assoc] at hg
        show WrAt _ (L ++ (CodPlain.row [q0, q1] 1 ++ CodPlain.row [q2] 2)) _
        try simp only [List.append_assoc]
        exact hg
       clear HV2 HFS HBX2 HW
       go_wp2_with fail
       go_roundw
       case rel => exact ⟨k + 1, by omega, by go_num, HWN, HBV2⟩
       case measure => simp [intOf]; omega
      ·obtain rfl : k = fs.length := by omega
       have HWW3 : Hid (WrAt w1.heap.size (H2 ++ fs.flatMap (fun x => CodPlain.futL (tF x))) wr) := by
        have := HW.out
        rw [List.take_length] at this
        exact this
       have hl3 : (H2 ++ fs.flatMap (fun x => CodPlain.futL (tF x))).length ≤ 289 := by
        have := HLE3.out fs.length
        rw [List.take_length] at this
        rw [List.length_append]
        omega
       have hm3 : 17 ≤ (H2 ++ fs.flatMap (fun x => CodPlain.futL (tF x))).length := by
        rw [List.length_append]
        omega
       have HBB3 := HB
       clear HW HB
       generalize H2 ++ fs.flatMap (fun x => CodPlain.futL (tF x)) = H3 at *
       obtain ⟨y0, y1, y2, y3, y4, y5⟩ := HX.out _ HBB3.out
       go_wp2_with fail
       clear y0 y1 y2 y3 y4 y5
       have HLE4 : Hid (∀ k, ((bs.take k).flatMap (fun x => CodPlain.barL (tB x))).length ≤ 136) := fun k => pfx_take (n := 34) (fun x hx => by have := (HBR.out x hx).2.2; show (CodPlain.barL (x.f0, x.f1)).length ≤ _; rw [CodPlain.bar_len]; dsimp only; omega) (by omega) k
       go_loopw [108] (fun i wr => ∃ k : Nat, k ≤ bs.length ∧ i = .int .i64 k ∧ Hid (WrAt w1.heap.size (H3 ++ (bs.take k).flatMap (fun x => CodPlain.barL (tB x))) wr) ∧ Hid (Below w1.heap.size w1 wr)) (fun i _ => bs.length - (intOf i).toNat)
       case atStart => exact ⟨0, Nat.zero_le _, rfl, by show WrAt _ _ _; simpa using HWW3.out, HBB3⟩
       case round =>
        clear HWW3 HBB3
        obtain ⟨k, hk, rfl, HW, HB⟩ := hrel
        by_cases hlt : k < bs.length
        ·have hlenL := HLE4.out k
         have hmem := CodPlain.getD_in (d := PCod.z50) hlt
         have HFS : Hid (H3 ++ (bs.take (k + 1)).flatMap (fun x => CodPlain.barL (tB x)) = (H3 ++ (bs.take k).flatMap (fun x => CodPlain.barL (tB x))) ++ (fun x => CodPlain.barL (tB x)) (bs.getD k PCod.z50)) := by show _ = _; rw [CodPlain.flat_snoc _ hlt, List.append_assoc]
         have hLb : (H3 ++ (bs.take k).flatMap (fun x => CodPlain.barL (tB x))).length ≤ 1000 := by rw [List.length_append]; omega
         generalize H3 ++ (bs.take k).flatMap (fun x => CodPlain.barL (tB x)) = L at *
         obtain ⟨ad, A0, c0, A1, c1, hE, hr0, hr1, hl0', hc0, hl1', hc1⟩ := PCod.at_T50 (Kd.C_below HR.out.b HB1.out) (k : Int) (by omega) (by omega)
         subst hE
         have hrd : PCod.rd_T50 bs (k : Int) = bs.getD k PCod.z50 := by unfold PCod.rd_T50; rw [Int.toNat_natCast]
         rw [Int.toNat_natCast, hrd] at hr0 hr1
         rw [hrd] at hc0 hc1
         replace hr0 := (HB.out.cell (block_lt_of_cell hr0)).trans hr0
         replace hr1 := (HB.out.cell (p := ⟨(ad.add (k * 2)).block, (ad.add (k * 2)).off + 1, none⟩) (block_lt_of_cell hr1)).trans hr1
         obtain ⟨y, hy⟩ : ∃ y, y = bs.getD k PCod.z50 := ⟨_, rfl⟩
         rw [← hy] at hr0 hr1 hc0 hc1 hmem HFS
         have hrng := HBR.out y hmem
         have HC0 := Lib.hid hc0
         have HC1 := Lib.hid hc1
         have HRNG := Lib.hid hrng
         obtain ⟨-, -, hrn0, hrn1⟩ := hrng
         clear hrd hy hmem hc0 hc1 hl0' hl1'
         obtain ⟨q0, q1⟩ := y
         dsimp only at hr0 hr1 hrn0 hrn1 HC0 HC1 HRNG
         have hbx : (wr.alloc (Obj.cells #[Value.slice A0 q0.length c0, Value.slice A1 q1.length c1] 50)).heap[wr.heap.size]? = some (Obj.cells #[Value.slice A0 q0.length c0, Value.slice A1 q1.length c1] 50) := by show (wr.heap.push _)[wr.heap.size]? = _; simp
         have hab : Below wr.heap.size wr (wr.alloc (Obj.cells #[Value.slice A0 q0.length c0, Value.slice A1 q1.length c1] 50)) := (Below.refl _ _).alloc (Nat.le_refl _) _
         have HBX := Lib.hid hbx
         have HV0 := Lib.hid (HW.out.below hab)
         have HBV0 := Lib.hid (HB.out.trans (hab.mono HB.out.size))
         clear hbx hab
         go_wp2_with fail
         refine (CP.out _ (some ⟨wr.heap.size + 1, 0, none⟩) 2 [(q0.length : Int), (q1.length : Int)] 1 (wr.alloc (Obj.cells #[Value.slice A0 q0.length c0, Value.slice A1 q1.length c1] 50)) _ HV0.out HBV0.out ((Below.refl _ _).alloc (Nat.le_refl _) _) (.inl rfl) (all1 (in_two (by omega) (by omega))) (by have := lit_reads (wr.alloc (Obj.cells #[Value.slice A0 q0.length c0, Value.slice A1 q1.length c1] 50)) [(q0.length : Int), (q1.length : Int)] 3 (by simp); rwa [World.size_alloc] at this) (by simp) (by omega)).mono ?_
         rintro e v1 ⟨rfl, g1, g2, g3⟩
         have HV1 := Lib.hid g1
         have HBV1 := Lib.hid g2
         have HBX1 := Lib.hid (g3 _ _ _ _ ((Below.heap_alloc _ _ _ (by simp)).trans HBX.out) (by decide) (by decide))
         clear g1 g2 g3 HV0 HBV0 HBX hr0 hr1
         have c1_0 : v1.cell? ⟨wr.heap.size, 0, none⟩ = some _ := (blk_cell HBX1.out 0).trans rfl
         have c1_1 : v1.cell? ⟨wr.heap.size, 1, none⟩ = some _ := (blk_cell HBX1.out 1).trans rfl
         go_wp2_with fail
         refine (CP.out _ A0 c0 q0 1 v1 v1 HV1.out HBV1.out (Below.refl _ _) (.inl rfl) (all1 (fun n hn => by have := HRNG.out.1 n hn; omega)) (Kd.reads_of_C (d := (0 : Int)) (h1 := fun _ => rfl) (Kd.C_below HC0.out HBV1.out)) (by omega) (by simp only [List.length_append, CodPlain.row_len, List.length_cons, List.length_nil, show (1 : Int).toNat = 1 from rfl, Nat.mul_one]; omega)).mono ?_
         rintro e v2 ⟨rfl, g1, g2, g3⟩
         have HV2 := Lib.hid g1
         have HBV2 := Lib.hid g2
         have HBX2 := Lib.hid (g3 _ _ _ _ HBX1.out (by decide) (by decide))
         clear g1 g2 g3 HV1 HBV1 HBX1
         have c2_0 : v2.cell? ⟨wr.heap.size, 0, none⟩ = some _ := (blk_cell HBX2.out 0).trans rfl
         have c2_1 : v2.cell? ⟨wr.heap.size, 1, none⟩ = some _ := (blk_cell HBX2.out 1).trans rfl
         go_wp2_with fail
         refine (CP.out _ A1 c1 q1 1 v2 v2 HV2.out HBV2.out (Below.refl _ _) (.inl rfl) (all1 (fun n hn => by have := HRNG.out.2.1 n hn; omega)) (Kd.reads_of_C (d := (0 : Int)) (h1 := fun _ => rfl) (Kd.C_below HC1.out HBV2.out)) (by omega) (by simp only [List.length_append, CodPlain.row_len, List.length_cons, List.length_nil, show (1 : Int).toNat = 1 from rfl, Nat.mul_one]; omega)).mono ?_
         rintro e v3 ⟨rfl, g1, g2, g3⟩
         have HV3 := Lib.hid g1
         have HBV3 := Lib.hid g2
         have HBX3 := Lib.hid (g3 _ _ _ _ HBX2.out (by decide) (by decide))
         clear g1 g2 g3 HV2 HBV2 HBX2
         have HWN : Hid (WrAt w1.heap.size (H3 ++ (bs.take (k + 1)).flatMap (fun x => CodPlain.barL (tB x))) v3) := by
          show WrAt _ _ _
          have hg := HV3.out
          rw [HFS.out]
          try simp only [List.append_assoc] at hg
          show WrAt _ (L ++ (CodPlain.row [(q0.length : Int), (q1.length : Int)] 1 ++ CodPlain.row q0 1 ++ CodPlain.row q1 1)) _
          try simp only [List.append_assoc]
          exact hg
         clear HV3 HFS HBX3 HW
         go_wp2_with fail
         go_roundw
         case rel => exact ⟨k + 1, by omega, by go_num, HWN, HBV3⟩
         case measure => simp [intOf]; omega
        ·obtain rfl : k = bs.length := by omega
         have HWW4 : Hid (WrAt w1.heap.size (H3 ++ bs.flatMap (fun x => CodPlain.barL (tB x))) wr) := by
          have := HW.out
          rw [List.take_length] at this
          exact this
         have hl4 : (H3 ++ bs.flatMap (fun x => CodPlain.barL (tB x))).length ≤ 425 := by
          have := HLE4.out bs.length
          rw [List.take_length] at this
          rw [List.length_append]
          omega
         have hm4 : 17 ≤ (H3 ++ bs.flatMap (fun x => CodPlain.barL (tB x))).length := by
          rw [List.length_append]
          omega
         have HBB4 := HB
         clear HW HB
         generalize H3 ++ bs.flatMap (fun x => CodPlain.barL (tB x)) = H4 at *
         have hne : H4 ≠ [] := by rintro rfl; simp at hm4
         have HBE : Hid (BL = H4) := HBODY.out
         have HNE := Lib.hid hne
         have hsz : (⟨H4.toArray⟩ : ByteArray).size ≤ 1000 := by show H4.toArray.size ≤ 1000; rw [List.size_toArray]; omega
         have HSZ := Lib.hid hsz
         have HWN := Lib.hid HWW4.out
         have HWB := Lib.hid (HB1.out.trans (HBB4.out.mono HB1.out.size))
         clear hne hsz HBODY HWW4
         go_wp2_with fail
         refine (bld_String w1.heap.size w1.heap.size H4 wr HWN.out HNE.out).mono ?_
         rintro e v1 ⟨rfl, hb⟩
         have HE1 := Lib.hid (HBB4.out.trans hb)
         clear hb
         go_wp2_with fail
         refine (seal_any ⟨H4.toArray⟩ v1 HSZ.out (HT.out.below (HB1.out.trans (HE1.out.mono HB1.out.size)))).mono ?_
         rintro e v2 ⟨rfl, hb⟩
         have HE2 := Lib.hid (HE1.out.trans (hb.mono HE1.out.size))
         clear hb
         rw [seal_sealed]
         go_wp2_with fail
         go_ret2
         exact ⟨by rw [HBE.out]; rfl, HB1.out.trans (HE2.out.mono HB1.out.size)⟩
set_option maxRecDepth 100000 in
set_option maxHeartbeats 2000000 in
theorem encode_any (per dl : Int) (P : Option Addr) (cp : Nat) (ps : List PCod.S47) (E : Option Addr) (ce : Nat) (es : List PCod.S63) (F : Option Addr) (cf : Nat) (fs : List PCod.S65) (B : Option Addr) (cb : Nat) (bs : List PCod.S50) (w : World) (hs : ShortD ps es fs bs) (hd : DbAt w) (ht : TabAt w) (hr : DR w P cp ps E ce es F cf fs B cb bs) :
  Calls Tryz.prog 9 #[.agg #[.int .i64 per, .int .i64 dl, .slice P ps.length cp, .slice E es.length ce, .slice F fs.length cf, .slice B bs.length cb]] w fun e w' => e = .returned (.tuple #[.string ⟨(CodPlain.encL (dOf per dl ps es fs bs)).toArray⟩, .int .i64 (CodPlain.checkD (dOf per dl ps es fs bs))]) ∧ Below w.heap.size w w' := by
 by_cases hc : CodPlain.checkD (dOf per dl ps es fs bs) = 0
 ·have := encode_yes per dl P cp ps E ce es F cf fs B cb bs w hs hd ht hr hc
  unfold CodPlain.encL
  rw [if_pos hc, hc]
  exact this
 ·have hE : CodPlain.encL (dOf per dl ps es fs bs) = [] := by unfold CodPlain.encL; rw [if_neg hc]
  rw [hE]
  have C := Lib.hid (fun w1 h1 h2 => check_any per dl P cp ps E ce es F cf fs B cb bs w1 hs.1 hs.2 h1 h2)
  have HD := Lib.hid hd
  have HR := Lib.hid hr
  have HB0 : Hid (Below w.heap.size w (w.alloc (Obj.cells #[.int .i64 per, .int .i64 dl, .slice P ps.length cp, .slice E es.length ce, .slice F fs.length cf, .slice B bs.length cb] 27))) := (Below.refl _ _).alloc (Nat.le_refl _) _
  have hzb : (CodPlain.checkD (dOf per dl ps es fs bs) != 0) = true := by simpa using hc
  clear hd hr hs hE
  generalize CodPlain.checkD (dOf per dl ps es fs bs) = er at *
  go_enter Tryz.func9, Tryz.ntmps9
  go_wp2_with fail
  refine (C.out _ (HD.out.below HB0.out) (HR.out.below HB0.out)).mono ?_
  rintro e w1 ⟨rfl, hb⟩
  have HB1 := Lib.hid (HB0.out.trans (hb.mono HB0.out.size))
  clear hb
  go_wp2_with fail
  go_ret2
  exact ⟨rfl, HB1.out⟩
end Go.Proofs.YtokhibhmlninnaaGreatDoor
