/- Texts of this work, put into one. -/
import Derived.Test.YtokhibhmlninnaaGreatDoorGMWire
import Derived.Shelf.RegionOpenPlain
import Derived.Lib.Builder
import Derived.Lib.UnsafeStr
import Derived.Lib.AppendStr
import Derived.Lib.Strings
import Derived.Lib.Slices
import Derived.Lib.Walk
import Derived.Laws.Externs
import Derived.Test.YtokhibhmlninnaaGreatDoorGMPl
set_option linter.unusedVariables false
set_option linter.unusedSimpArgs false
namespace Go.Proofs.YtokhibhmlninnaaGreatDoor
open Go.RowKit Go.Sort Go.Shelf Go.Proofs.YtokhibhmlninnaaGreatDoorW.PrintWords
theorem infoBld : (Tryz.prog.info? 55).map (·.size) = some 2 := by kernel_rfl
theorem liesBld : liesAt Tryz.prog Tryz.prog.depth 57 (2 / Tryz.prog.cellsOf 57) 0 55 1 = true := by kernel_rfl
def KeepT (w w' : World) : Prop := ∀ (k : Nat) (cells : Array Value) (t : TypeId) (fr : Nat × Nat), w.heap[k]? = some (.cells cells t fr) → t ≠ 5 → t ≠ 57 → w'.heap[k]? = some (.cells cells t fr)
theorem KeepT.refl (w : World) : KeepT w w := fun _ _ _ _ h _ _ => h
theorem KeepT.trans {a b c : World} (h : KeepT a b) (h2 : KeepT b c) : KeepT a c := fun k cells t fr hk h3 h4 => h2 k cells t fr (h k cells t fr hk h3 h4) h3 h4
theorem KeepT.below {w w' : World} (hb : Below w.heap.size w w') : KeepT w w' := fun k cells t fr hk _ _ => (hb.block k (by
 rcases Nat.lt_or_ge k w.heap.size with h' | h'
 ·exact h'
 ·rw [Array.getElem?_eq_none h'] at hk; cases hk)).trans hk
theorem KeepT.set {w : World} {b : Nat} {c : Array Value} {fr : Nat × Nat} (hb : w.heap[b]? = some (.cells c 57 fr)) (i : Nat) (u : Value) : KeepT w (w.setCell ⟨b, i, none⟩ u) := fun k cells t fr' hk _ h4 => (Below.heap_setCell w ⟨b, i, none⟩ u k (by
 rintro rfl
 rw [hk] at hb
 injection hb with hb
 injection hb with _ hb
 exact h4 hb)).trans hk
theorem KeepT.grown {w w' : World} {row : Option Nat} (hg : w.grownBy w' row) (hr : ∀ g, row = some g → ∃ cells, w.heap[g]? = some (.cells cells 5 (0, 0))) : KeepT w w' := fun k cells t fr hk h3 _ => (hg.block k (by
 rcases Nat.lt_or_ge k w.heap.size with h' | h'
 ·exact h'
 ·rw [Array.getElem?_eq_none h'] at hk; cases hk) (fun e => by
  obtain ⟨c2, h2⟩ := hr k e.symm
  rw [hk] at h2
  injection h2 with h2
  injection h2 with _ h2
  exact h3 h2)).trans hk
set_option maxHeartbeats 1000000 in
set_option maxRecDepth 100000 in
theorem bld_copyCheck_used (b : Nat) (w : World) (h0 : w.cell? ⟨b, 0, none⟩ = some (.pointer (some ⟨b, 0, none⟩))) :
  Calls Tryz.prog 52 #[.pointer (some ⟨b, 0, none⟩)] w fun e w' => e = .returned (.tuple #[]) ∧ w' = w := by
 obtain ⟨j, hj, _⟩ := Option.map_eq_some_iff.1 infoBld
 have mixed : Tryz.prog.follows Departure.mixedOrders = true := by kernel_rfl
 go_enter Tryz.func52, Tryz.ntmps52
 go_wp2
 rw [Lib.run_neq_ptr_same w _ Tryz.underlying52 hj]
 go_wp2
 go_end0
 exact ⟨rfl, rfl⟩
set_option maxHeartbeats 1000000 in
set_option maxRecDepth 100000 in
theorem bld_copyCheck_fresh (b : Nat) (w : World) (h0 : w.cell? ⟨b, 0, none⟩ = some (.pointer none)) (hsh : w.shape? b = some (57, 2)) (hfz : w.frozen? ⟨b, 0, none⟩ = false) :
  Calls Tryz.prog 52 #[.pointer (some ⟨b, 0, none⟩)] w fun e w' => e = .returned (.tuple #[]) ∧ w' = w.setCell ⟨b, 0, none⟩ (.pointer (some ⟨b, 0, none⟩)) := by
 obtain ⟨j, hj, hjs⟩ := Option.map_eq_some_iff.1 infoBld
 have mixed : Tryz.prog.follows Departure.mixedOrders = true := by kernel_rfl
 go_enter Tryz.func52, Tryz.ntmps52
 go_wp2
 rw [Lib.run_to_unsafe w ⟨b, 0, none⟩ Tryz.underlying52 Tryz.underlying118 hj (by rw [hjs]; decide) hsh (Nat.zero_lt_succ 1)]
 simp only [Result.andThen]
 rw [Oper.upon_value]
 go_wp2
 rw [run_callFunc_extern Tryz.func79 (by kernel_rfl) (by kernel_rfl) (by kernel_rfl) (e := Extern.AbiNoEscape.same) (by kernel_rfl)]
 rw [Lib.run_noEscape]
 simp only [Result.andThen]
 rw [Oper.upon_value]
 go_wp2
 rw [Lib.run_from_unsafe w ⟨b, 0, none⟩ Tryz.underlying118 Tryz.underlying52 hj hsh liesBld]
 simp only [Result.andThen]
 rw [Oper.upon_value]
 go_wp2
 go_end0
 exact ⟨rfl, rfl⟩
theorem bld_copyCheck (B b : Nat) (bs : List Value) (w : World) (h : Lib.IsBuilder 57 5 B b bs w) :
  Calls Tryz.prog 52 #[.pointer (some ⟨b, 0, none⟩)] w fun e w' => e = .returned (.tuple #[]) ∧ (Lib.BuilderAt 57 5 B b (.pointer (some ⟨b, 0, none⟩)) bs w' ∧ Below B w w' ∧ KeepT w w') := by
 rcases h with h | h
 ·refine (bld_copyCheck_fresh b w h.cell0 h.shape h.frozen0).mono ?_
  rintro e w' ⟨rfl, rfl⟩
  exact ⟨rfl, h.used _, (Below.refl B w).setCell (p := ⟨b, 0, none⟩) h.1 _, (let ⟨v, hb⟩ := (show ∃ v, w.heap[b]? = some (.cells #[.pointer none, v] 57 (0, 0)) from by obtain ⟨_, v, hb, _⟩ := h; exact ⟨v, hb⟩); KeepT.set hb _ _)⟩
 ·refine (bld_copyCheck_used b w h.cell0).mono ?_
  rintro e w' ⟨rfl, rfl⟩
  exact ⟨rfl, h, Below.refl B _, KeepT.refl _⟩
set_option maxHeartbeats 2000000 in
set_option maxRecDepth 100000 in
theorem bld_WriteString (B b : Nat) (bs : List Value) (s : ByteArray) (w : World) (h : Lib.IsBuilder 57 5 B b bs w) (hlen : bs.length + s.size ≤ 140737488355328) (hBw : B ≤ w.heap.size) :
  Calls Tryz.prog 18 #[.pointer (some ⟨b, 0, none⟩), .string s] w fun e w' => e = .returned (.tuple #[.int .i64 s.size, .nilIface]) ∧ (Lib.BuilderAt 57 5 B b (.pointer (some ⟨b, 0, none⟩)) (bs ++ Lib.strCells s) w' ∧ Below B w w' ∧ KeepT w w') := by
 obtain ⟨i0, hi, hz0, hz1, hz2⟩ := info_parts info5
 have mixed : Tryz.prog.follows Departure.mixedOrders = true := by kernel_rfl
 have e240 : ∀ args w, (callFunc 52 args).run Tryz.prog w = .ok (.enter 52 args) w := enters_of Tryz.func52 (by kernel_rfl) rfl
 go_enter Tryz.func18, Tryz.ntmps18
 go_wp2_with (go_at_fn 52; refine (bld_copyCheck B b bs _ h).mono ?_)
 rintro e w1 ⟨rfl, h1, hb1, hk1⟩
 obtain ⟨hB, v, hbk, hown, hne⟩ := h1
 have c0 : w1.cell? ⟨b, 0, none⟩ = some (.pointer (some ⟨b, 0, none⟩)) := by rw [Lib.cell_of_heap hbk]; rfl
 have c1 : w1.cell? ⟨b, 1, none⟩ = some v := by rw [Lib.cell_of_heap hbk]; rfl
 go_wp2_with (at_builtin; refine Lib.wpList_append_own_string _ rfl _ _ 53 9 rfl B 5 i0 Tryz.underlying53 Tryz.underlying9 hi hz0 hz1 hz2 _ _ _ rfl hown s rfl ?c3 ?c4 ?c5 ?_)
 case c3 => unfold maxLen; omega
 case c4 => omega
 case c5 => have := hb1.size; omega
 intro v' w2 hown' hgrow _
 have hlt : b < w1.heap.size := by
  rcases Nat.lt_or_ge b w1.heap.size with h' | h'
  ·exact h'
  ·simp [Array.getElem?_eq_none h'] at hbk
 have hb2 : w2.heap[b]? = some (.cells #[.pointer (some ⟨b, 0, none⟩), v] 57 (0, 0)) := by
  rw [hgrow.block b hlt (fun e => hne e.symm)]
  exact hbk
 have d0 : w2.cell? ⟨b, 0, none⟩ = some (.pointer (some ⟨b, 0, none⟩)) := by rw [Lib.cell_of_heap hb2]; rfl
 have d1 : w2.cell? ⟨b, 1, none⟩ = some v := by rw [Lib.cell_of_heap hb2]; rfl
 have f1 : w2.frozen? ⟨b, 1, none⟩ = false := Lib.frozen_of_heap hb2 1
 obtain ⟨ao, n', cap, rfl⟩ : ∃ ao n' cap, v' = .slice ao n' cap := by
  rcases hown'.2 with ⟨hv, _⟩ | ⟨g, cap, cur, hv, _⟩
  ·exact ⟨_, _, _, hv⟩
  ·exact ⟨_, _, _, hv⟩
 go_wp2
 go_ret2
 refine ⟨rfl, ?_, ?_, (hk1.trans (KeepT.grown hgrow (fun g hg => own_typed hown g hg))).trans (KeepT.set hb2 1 _)⟩
 ·exact Lib.BuilderAt.put (T := 57) (e := 5) hB hb2 (bs' := bs ++ Lib.strCells s) (by simpa [Lib.strCells_length] using hown') (by decide)
 ·exact (hb1.grown hgrow (by have := hb1.size; omega) (fun k hk => (hown.lt k hk).1)).setCell (p := ⟨b, 1, none⟩) hB _
set_option maxHeartbeats 1000000 in
set_option maxRecDepth 100000 in
theorem bld_String (B b : Nat) (l : List UInt8) (w : World) (h : Lib.IsBuilder 57 5 B b (Lib.byteCells l) w) (h0 : l ≠ []) :
  Calls Tryz.prog 21 #[.pointer (some ⟨b, 0, none⟩)] w fun e w' => e = .returned (.string ⟨l.toArray⟩) ∧ Below B w w' := by
 obtain ⟨p, hB, v, hbk, hown, hne⟩ : ∃ p, Lib.BuilderAt 57 5 B b p (Lib.byteCells l) w := by
  rcases h with h | h
  ·exact ⟨_, h⟩
  ·exact ⟨_, h⟩
 have hl0 : l.length ≠ 0 := by simpa using h0
 rw [Lib.byteCells_length] at hown
 obtain ⟨g, cap, cur, rfl, hbg, hg, hnc, hcm, hcs, htake⟩ : ∃ g cap cur, v = .slice (some ⟨g, 0, none⟩) l.length cap ∧ B ≤ g ∧ w.heap[g]? = some (.cells cur 5 (0, 0)) ∧ l.length ≤ cap ∧ cap ≤ maxLen ∧ cur.size = cap * 1 ∧ cur.toList.take (l.length * 1) = Lib.byteCells l := by
  rcases hown.2 with ⟨_, hz⟩ | ⟨g, cap, cur, hv, r⟩
  ·exact absurd hz hl0
  ·exact ⟨g, cap, cur, hv, r⟩
 have c1 : w.drew.cell? ⟨b, 1, none⟩ = some (.slice (some ⟨g, 0, none⟩) l.length cap) := by
  have : w.drew.heap[b]? = some (.cells #[p, .slice (some ⟨g, 0, none⟩) l.length cap] 57 (0, 0)) := hbk
  rw [Lib.cell_of_heap this]; rfl
 have hSD : (Builtin.unsafeSliceData_ #[53] 111 #[.slice (some ⟨g, 0, none⟩) l.length cap]).run Tryz.prog w.drew = .ok (.pointer (some ⟨g, 0, none⟩)) w.drew :=
  Lib.run_unsafeSliceData_row _ _ _ _ _ _ (by omega)
 have hUS : (Builtin.unsafeString_ #[111, 3] 9 #[.pointer (some ⟨g, 0, none⟩), .int .i64 l.length]).run Tryz.prog w.drew = .ok (.string ⟨l.toArray⟩) (w.drew.freeze ⟨g, 0, none⟩ l.length) := by
  refine Lib.run_unsafeString_row w.drew 111 3 9 5 Tryz.underlying111 (by kernel_rfl) g cur.size (by have hg' : w.drew.heap[g]? = some (.cells cur 5 (0, 0)) := hg; simp [World.shape?, hg']) l h0 (by omega) (by unfold maxLen at hcm; omega) ?_
  intro j x hx
  have := hown.cells (g := g) rfl j (.int .u8 x.toNat) (by simp [Lib.byteCells, hx])
  exact this
 have mixed : Tryz.prog.follows Departure.mixedOrders = true := by kernel_rfl
 go_enter Tryz.func21, Tryz.ntmps21
 go_wp2
 go_region_o
 all_goals (go_wp2; go_ret; exact ⟨rfl, Lib.below_freeze (Below.drew (Below.refl B w)) (p := ⟨g, 0, none⟩) hbg _⟩)
end Go.Proofs.YtokhibhmlninnaaGreatDoor

set_option linter.unusedVariables false
set_option linter.unusedSimpArgs false
namespace Go.Proofs.YtokhibhmlninnaaGreatDoor
open Go.RowKit Go.Proofs.YtokhibhmlninnaaGreatDoorW.PrintWords
open WirePlain
def WrAt (b : Nat) (l : List UInt8) (w : World) : Prop := Lib.IsBuilder 57 5 b b (Lib.byteCells l) w
theorem blk_of_lt {w : World} {k : Nat} {o : Obj} (h : w.heap[k]? = some o) : k < w.heap.size := by
 rcases Nat.lt_or_ge k w.heap.size with h' | h'
 ·exact h'
 ·rw [Array.getElem?_eq_none h'] at h; cases h
theorem BAt.below {T e : TypeId} {B b : Nat} {p : Value} {bs : List Value} {w w' : World} (h : Lib.BuilderAt T e B b p bs w) (hb : Below w.heap.size w w') : Lib.BuilderAt T e B b p bs w' := by
 obtain ⟨h1, v, h2, h3, h4⟩ := h
 exact ⟨h1, v, (hb.block b (blk_of_lt h2)).trans h2, own_move h3 (fun k hk => hb.block k (own_lt h3 k hk)), h4⟩
theorem WrAt.below {b : Nat} {l : List UInt8} {w w' : World} (h : WrAt b l w) (hb : Below w.heap.size w w') : WrAt b l w' := by
 rcases h with h | h
 ·exact .inl (BAt.below h hb)
 ·exact .inr (BAt.below h hb)
theorem WrAt.lt {b : Nat} {l : List UInt8} {w : World} (h : WrAt b l w) : b < w.heap.size := by
 rcases h with h | h
 ·exact h.lt
 ·exact h.lt
theorem row_rowL (l : List Int) (k : Int) : rowL l k = CodPlain.row l k := rfl
set_option maxHeartbeats 1000000 in
set_option maxRecDepth 100000 in
theorem wput_any (b : Nat) (L : List UInt8) (A : Option Addr) (c : Nat) (l : List Int) (k : Int) (w : World) (hk : Wide k) (hf : ∀ n ∈ l, fits n k) (hn : ∀ n ∈ l, n ≤ 9223372036854775807) (hl : ReadsInt w .i64 A l.length l) (hlen : l.length ≤ 1000) (hw : WrAt b L w) (hL : L.length ≤ 100000) :
  Calls Tryz.prog 19 #[.pointer (some ⟨b, 0, none⟩), .int .i64 k, .slice A l.length c] w fun e w' => e = .returned (.tuple #[]) ∧ WrAt b (L ++ CodPlain.row l k) w' ∧ Below b w w' ∧ KeepT w w' := by
 have hR : rowR l k = (⟨(CodPlain.row l k).toArray⟩, 0) := by unfold rowR; rw [if_pos hk, if_pos hf]; rfl
 have C1 := row_any A c l k w hl hlen (fun n hn2 => ⟨by have := (hf n hn2).1; omega, hn n hn2⟩)
 rw [hR] at C1
 have hk8 : k.toNat ≤ 8 := by rcases hk with h | h | h | h <;> omega
 have hrl : (CodPlain.row l k).length ≤ 8000 := by
  rw [← row_rowL, rowL_len]
  have := Nat.mul_le_mul hlen hk8
  omega
 have HC1 := Lib.hid C1
 have HW := Lib.hid hw
 have hbw := hw.lt
 have HRL := Lib.hid hrl
 clear C1 hR hl hw hf hn hk hrl
 go_enter Tryz.func19, Tryz.ntmps19
 go_wp2_with fail
 refine HC1.out.mono ?_
 rintro e w1 ⟨rfl, hb⟩
 have HB := Lib.hid hb
 clear hb
 go_wp2_with fail
 refine (bld_WriteString b b (Lib.byteCells L) ⟨(CodPlain.row l k).toArray⟩ w1 (HW.out.below HB.out) (by rw [Lib.byteCells_length]; have := HRL.out; show L.length + (CodPlain.row l k).toArray.size ≤ _; rw [List.size_toArray]; omega) (by have := HB.out.size; omega)).mono ?_
 rintro e w2 ⟨rfl, h2, hb2, hk2⟩
 have H2 := Lib.hid h2
 have HB2 := Lib.hid (hb2 : Below b w1 w2)
 have HK2 := Lib.hid hk2
 clear h2 hb2 hk2
 go_wp2_with fail
 go_end0
 refine ⟨rfl, .inr ?_, (HB.out.mono (Nat.le_of_lt hbw)).trans HB2.out, (KeepT.below HB.out).trans HK2.out⟩
 have := H2.out
 rw [Lib.byteCells_append]
 exact this
end Go.Proofs.YtokhibhmlninnaaGreatDoor
