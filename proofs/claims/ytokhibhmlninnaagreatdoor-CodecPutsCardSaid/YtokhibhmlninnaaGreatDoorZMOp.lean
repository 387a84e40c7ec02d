/- Texts of this work, put into one. -/
import Derived.Test.YtokhibhmlninnaaGreatDoorZMCkA
import Derived.Lib.SmallJoins
import Derived.Deep.Slices
import Derived.OpenShut
import Derived.ChangeOld
import Derived.ProofKit
set_option linter.unusedVariables false
set_option linter.unusedSimpArgs false
set_option maxRecDepth 100000
namespace Go.Proofs.YtokhibhmlninnaaGreatDoor
open Go.RowKit Go.Joins Go.Deep Go.Proofs.YtokhibhmlninnaaGreatDoorW.PrintWords
theorem add_add (a : Addr) (i j : Nat) : (a.add i).add j = a.add (i + j) := by
 unfold Addr.add
 by_cases h1 : i = 0
 ·subst h1
  by_cases h2 : j = 0
  ·subst h2; simp
  ·simp [h2]
 ·by_cases h2 : j = 0
  ·subst h2; simp [h1]
  ·simp [h1, h2, Nat.add_assoc]
theorem trod_rows {α : Type} (d : Kd α) (z : α) {H : Type} {enc : TypeId × Value → H} {w : World} {base : Nat} {sp : Nat → Bool} {held : Bool} {t e : TypeId} {v : Value} {n : Nat} {y : DataW H × List MemPlace} (ht : Tryz.prog.underlying t = some (.slice e)) (hc : Tryz.prog.cellsOf e = d.sz)
  (el : ∀ (n : Nat) (cs : List Value) (y : DataW H × List MemPlace), DataW.trod enc Tryz.prog w base sp held n e cs = some y → ∃ x : α, d.K w x cs) (h : DataW.trod enc Tryz.prog w base sp held n t [v] = some y) :
  ∃ A c xs, v = .slice A xs.length c ∧ xs.length ≤ c ∧ d.C w A xs.length xs := by
 haveI : Inhabited α := ⟨z⟩
 rcases open_slice ht h with ⟨hcs, _⟩ | ⟨a, len, cap, m, k, D, Pl, hcs, _, hl, hm, hmm, _, hx⟩
 ·obtain rfl : v = .slice none 0 0 := by simpa using hcs
  exact ⟨none, 0, [], rfl, Nat.le_refl _, Kd.C_nil d w⟩
 ·obtain rfl : v = .slice (some a) len cap := by simpa using hcs
  have hlm : len ≤ m := by rw [hmm]; split <;> omega
  have hval : ∀ i, i < len → ∃ p : α, ∃ cs', w.cells? base (a.add (i * d.sz)) d.sz = some cs' ∧ d.K w p cs' := by
   intro i hi
   obtain ⟨cs', h1, h2⟩ := hx i (by omega)
   obtain ⟨x, hx2⟩ := el _ _ _ h2
   rw [hc] at h1
   exact ⟨x, cs', h1, hx2⟩
  obtain ⟨q, hq⟩ := choose_lt hval
  have hll : ((List.range len).map q).length = len := by simp
  refine ⟨some a, cap, (List.range len).map q, by rw [hll], by rw [hll]; exact hl, ⟨rfl, by rw [hll]; unfold maxLen at hm; omega, fun _ => ⟨a, rfl, fun j p hj => ?_⟩⟩⟩
  have hj' : j < len := by have := (List.getElem?_eq_some_iff.1 hj).1; rwa [hll] at this
  obtain rfl : q j = p := by
   rw [List.getElem?_map, List.getElem?_range hj'] at hj
   exact Option.some.inj hj
  obtain ⟨cs', h1, h2⟩ := hq j hj'
  obtain ⟨_, hlen, hcell⟩ := World.cells?_some h1
  refine ⟨cs', hlen, h2, fun i u hu => ?_⟩
  have hi : i < d.sz := by rw [← hlen]; exact (List.getElem?_eq_some_iff.1 hu).1
  rw [← add_add, hcell i hi, hu]
theorem trod_int1 {H : Type} {enc : TypeId × Value → H} {w : World} {base : Nat} {sp : Nat → Bool} {held : Bool} {n : Nat} {t : TypeId} {cs : List Value} {y : DataW H × List MemPlace} (ht : Tryz.prog.underlying t = some (.int .i64)) (h : DataW.trod enc Tryz.prog w base sp held n t cs = some y) : ∃ x : Int, cs = [.int .i64 x] := by
 obtain ⟨x, e, _⟩ := DataW.trod_int ht h
 exact ⟨x, e⟩
theorem trod_introw {H : Type} {enc : TypeId × Value → H} {w : World} {base : Nat} {sp : Nat → Bool} {held : Bool} {n : Nat} {v : Value} {y : DataW H × List MemPlace} (h : DataW.trod enc Tryz.prog w base sp held n 48 [v] = some y) :
  ∃ A c xs, v = .slice A xs.length c ∧ xs.length ≤ c ∧ Kd.C (Kd.int .i64) w A xs.length xs :=
 trod_rows (Kd.int .i64) 0 Tryz.underlying48 (by kernel_rfl) (fun n cs y h => by obtain ⟨x, e⟩ := trod_int1 Tryz.underlying3 h; exact ⟨x, e⟩) h
theorem el_edge {H : Type} {enc : TypeId × Value → H} {w : World} {base : Nat} {sp : Nat → Bool} {held : Bool} {n : Nat} {cs : List Value} {y : DataW H × List MemPlace} (h : DataW.trod enc Tryz.prog w base sp held n 63 cs = some y) : ∃ x, PCod.k63.K w x cs := by
 obtain ⟨xs, m, _, _, hl, hxl, hf⟩ := DataW.trod_struct Tryz.underlying63 h
 have hl' : cs.length = 2 := hl.trans (by kernel_rfl)
 match xs, hxl, cs, hl' with
 | [y0, y1], _, [v0, v1], _ =>
  have h0 : DataW.trod enc Tryz.prog w base sp held m 3 (([v0, v1].drop 0).take (Tryz.prog.cellsOf 3)) = some y0 := hf 0 _ rfl
  rw [show ([v0, v1].drop 0).take (Tryz.prog.cellsOf 3) = [v0] by rw [show Tryz.prog.cellsOf 3 = 1 by kernel_rfl]; rfl] at h0
  obtain ⟨a, e0⟩ := trod_int1 Tryz.underlying3 h0
  have h1 : DataW.trod enc Tryz.prog w base sp held m 3 (([v0, v1].drop 1).take (Tryz.prog.cellsOf 3)) = some y1 := hf 1 _ rfl
  rw [show ([v0, v1].drop 1).take (Tryz.prog.cellsOf 3) = [v1] by rw [show Tryz.prog.cellsOf 3 = 1 by kernel_rfl]; rfl] at h1
  obtain ⟨b, e1⟩ := trod_int1 Tryz.underlying3 h1
  obtain rfl : v0 = .int .i64 a := by simpa using e0
  obtain rfl : v1 = .int .i64 b := by simpa using e1
  exact ⟨⟨a, b⟩, PCod.k63_mk w ⟨a, b⟩⟩
theorem el_part {H : Type} {enc : TypeId × Value → H} {w : World} {base : Nat} {sp : Nat → Bool} {held : Bool} {n : Nat} {cs : List Value} {y : DataW H × List MemPlace} (h : DataW.trod enc Tryz.prog w base sp held n 47 cs = some y) : ∃ x, PCod.k47.K w x cs := by
 obtain ⟨xs, m, _, _, hl, hxl, hf⟩ := DataW.trod_struct Tryz.underlying47 h
 have hl' : cs.length = 3 := hl.trans (by kernel_rfl)
 match xs, hxl, cs, hl' with
 | [y0, y1, y2], _, [v0, v1, v2], _ =>
  have h0 : DataW.trod enc Tryz.prog w base sp held m 45 (([v0, v1, v2].drop 0).take (Tryz.prog.cellsOf 45)) = some y0 := hf 0 _ rfl
  rw [show ([v0, v1, v2].drop 0).take (Tryz.prog.cellsOf 45) = [v0] by rw [show Tryz.prog.cellsOf 45 = 1 by kernel_rfl]; rfl] at h0
  obtain ⟨a, e0⟩ := trod_int1 Tryz.underlying45 h0
  have h1 : DataW.trod enc Tryz.prog w base sp held m 3 (([v0, v1, v2].drop 1).take (Tryz.prog.cellsOf 3)) = some y1 := hf 1 _ rfl
  rw [show ([v0, v1, v2].drop 1).take (Tryz.prog.cellsOf 3) = [v1] by rw [show Tryz.prog.cellsOf 3 = 1 by kernel_rfl]; rfl] at h1
  obtain ⟨b, e1⟩ := trod_int1 Tryz.underlying3 h1
  have h2 : DataW.trod enc Tryz.prog w base sp held m 3 (([v0, v1, v2].drop 2).take (Tryz.prog.cellsOf 3)) = some y2 := hf 2 _ rfl
  rw [show ([v0, v1, v2].drop 2).take (Tryz.prog.cellsOf 3) = [v2] by rw [show Tryz.prog.cellsOf 3 = 1 by kernel_rfl]; rfl] at h2
  obtain ⟨c, e2⟩ := trod_int1 Tryz.underlying3 h2
  obtain rfl : v0 = .int .i64 a := by simpa using e0
  obtain rfl : v1 = .int .i64 b := by simpa using e1
  obtain rfl : v2 = .int .i64 c := by simpa using e2
  exact ⟨⟨a, b, c⟩, PCod.k47_mk w ⟨a, b, c⟩⟩
theorem el_fut {H : Type} {enc : TypeId × Value → H} {w : World} {base : Nat} {sp : Nat → Bool} {held : Bool} {n : Nat} {cs : List Value} {y : DataW H × List MemPlace} (h : DataW.trod enc Tryz.prog w base sp held n 65 cs = some y) : ∃ x, PCod.k65.K w x cs := by
 obtain ⟨xs, m, _, _, hl, hxl, hf⟩ := DataW.trod_struct Tryz.underlying65 h
 have hl' : cs.length = 3 := hl.trans (by kernel_rfl)
 match xs, hxl, cs, hl' with
 | [y0, y1, y2], _, [v0, v1, v2], _ =>
  have h0 : DataW.trod enc Tryz.prog w base sp held m 3 (([v0, v1, v2].drop 0).take (Tryz.prog.cellsOf 3)) = some y0 := hf 0 _ rfl
  rw [show ([v0, v1, v2].drop 0).take (Tryz.prog.cellsOf 3) = [v0] by rw [show Tryz.prog.cellsOf 3 = 1 by kernel_rfl]; rfl] at h0
  obtain ⟨a, e0⟩ := trod_int1 Tryz.underlying3 h0
  have h1 : DataW.trod enc Tryz.prog w base sp held m 3 (([v0, v1, v2].drop 1).take (Tryz.prog.cellsOf 3)) = some y1 := hf 1 _ rfl
  rw [show ([v0, v1, v2].drop 1).take (Tryz.prog.cellsOf 3) = [v1] by rw [show Tryz.prog.cellsOf 3 = 1 by kernel_rfl]; rfl] at h1
  obtain ⟨b, e1⟩ := trod_int1 Tryz.underlying3 h1
  have h2 : DataW.trod enc Tryz.prog w base sp held m 3 (([v0, v1, v2].drop 2).take (Tryz.prog.cellsOf 3)) = some y2 := hf 2 _ rfl
  rw [show ([v0, v1, v2].drop 2).take (Tryz.prog.cellsOf 3) = [v2] by rw [show Tryz.prog.cellsOf 3 = 1 by kernel_rfl]; rfl] at h2
  obtain ⟨c, e2⟩ := trod_int1 Tryz.underlying3 h2
  obtain rfl : v0 = .int .i64 a := by simpa using e0
  obtain rfl : v1 = .int .i64 b := by simpa using e1
  obtain rfl : v2 = .int .i64 c := by simpa using e2
  exact ⟨⟨a, b, c⟩, PCod.k65_mk w ⟨a, b, c⟩⟩
theorem el_bar {H : Type} {enc : TypeId × Value → H} {w : World} {base : Nat} {sp : Nat → Bool} {held : Bool} {n : Nat} {cs : List Value} {y : DataW H × List MemPlace} (h : DataW.trod enc Tryz.prog w base sp held n 50 cs = some y) : ∃ x, PCod.k50.K w x cs := by
 obtain ⟨xs, m, _, _, hl, hxl, hf⟩ := DataW.trod_struct Tryz.underlying50 h
 have hl' : cs.length = 2 := hl.trans (by kernel_rfl)
 match xs, hxl, cs, hl' with
 | [y0, y1], _, [v0, v1], _ =>
  have h0 := hf 0 _ rfl
  have h1 := hf 1 _ rfl
  have e0 : ([v0, v1].drop 0).take (Tryz.prog.cellsOf 48) = [v0] := by rw [show Tryz.prog.cellsOf 48 = 1 by kernel_rfl]; rfl
  have e1 : ([v0, v1].drop 1).take (Tryz.prog.cellsOf 48) = [v1] := by rw [show Tryz.prog.cellsOf 48 = 1 by kernel_rfl]; rfl
  replace h0 : DataW.trod enc Tryz.prog w base sp held m 48 (([v0, v1].drop 0).take (Tryz.prog.cellsOf 48)) = some y0 := h0
  replace h1 : DataW.trod enc Tryz.prog w base sp held m 48 (([v0, v1].drop 1).take (Tryz.prog.cellsOf 48)) = some y1 := h1
  rw [e0] at h0
  rw [e1] at h1
  obtain ⟨A0, c0, l0, rfl, hl0, hc0⟩ := trod_introw h0
  obtain ⟨A1, c1, l1, rfl, hl1, hc1⟩ := trod_introw h1
  exact ⟨⟨l0, l1⟩, PCod.k50_mk w ⟨l0, l1⟩ hl0 hc0 hl1 hc1⟩
theorem open_desc {H : Type} {enc : TypeId × Value → H} {w : World} {base b0 : Nat} {sp : Nat → Bool} {held : Bool} {v : Value} {d : DataW H} {p : List MemPlace} (hv : Value.okWide Tryz.prog w .any b0 27 v) (h : DataW.Trod enc Tryz.prog w base sp held 27 v d p) :
  ∃ per dl P cp ps E ce es F cf fs B cb bs, v = .agg #[.int .i64 per, .int .i64 dl, .slice P ps.length cp, .slice E es.length ce, .slice F fs.length cf, .slice B bs.length cb] ∧ DR w P cp ps E ce es F cf fs B cb bs := by
 obtain ⟨ca, rfl, hsz⟩ := Go.WideShapes.okWide_struct Tryz.underlying27 hv
 obtain ⟨fuel, hfu⟩ := h
 obtain ⟨xs, m, _, _, hl, hxl, hf⟩ := DataW.trod_struct Tryz.underlying27 hfu
 have hl' : ca.toList.length = 6 := by rw [Array.length_toList]; exact hsz.trans (by kernel_rfl)
 obtain ⟨cl⟩ := ca
 match xs, hxl, cl, hl' with
 | [y0, y1, y2, y3, y4, y5], _, [v0, v1, v2, v3, v4, v5], _ =>
  have h0 : DataW.trod enc Tryz.prog w base sp held m 3 (([v0, v1, v2, v3, v4, v5].drop 0).take (Tryz.prog.cellsOf 3)) = some y0 := hf 0 _ rfl
  rw [show ([v0, v1, v2, v3, v4, v5].drop 0).take (Tryz.prog.cellsOf 3) = [v0] by rw [show Tryz.prog.cellsOf 3 = 1 by kernel_rfl]; rfl] at h0
  have h1 : DataW.trod enc Tryz.prog w base sp held m 3 (([v0, v1, v2, v3, v4, v5].drop 1).take (Tryz.prog.cellsOf 3)) = some y1 := hf 1 _ rfl
  rw [show ([v0, v1, v2, v3, v4, v5].drop 1).take (Tryz.prog.cellsOf 3) = [v1] by rw [show Tryz.prog.cellsOf 3 = 1 by kernel_rfl]; rfl] at h1
  have h2 : DataW.trod enc Tryz.prog w base sp held m 22 (([v0, v1, v2, v3, v4, v5].drop 2).take (Tryz.prog.cellsOf 22)) = some y2 := hf 2 _ rfl
  rw [show ([v0, v1, v2, v3, v4, v5].drop 2).take (Tryz.prog.cellsOf 22) = [v2] by rw [show Tryz.prog.cellsOf 22 = 1 by kernel_rfl]; rfl] at h2
  have h3 : DataW.trod enc Tryz.prog w base sp held m 23 (([v0, v1, v2, v3, v4, v5].drop 3).take (Tryz.prog.cellsOf 23)) = some y3 := hf 3 _ rfl
  rw [show ([v0, v1, v2, v3, v4, v5].drop 3).take (Tryz.prog.cellsOf 23) = [v3] by rw [show Tryz.prog.cellsOf 23 = 1 by kernel_rfl]; rfl] at h3
  have h4 : DataW.trod enc Tryz.prog w base sp held m 24 (([v0, v1, v2, v3, v4, v5].drop 4).take (Tryz.prog.cellsOf 24)) = some y4 := hf 4 _ rfl
  rw [show ([v0, v1, v2, v3, v4, v5].drop 4).take (Tryz.prog.cellsOf 24) = [v4] by rw [show Tryz.prog.cellsOf 24 = 1 by kernel_rfl]; rfl] at h4
  have h5 : DataW.trod enc Tryz.prog w base sp held m 25 (([v0, v1, v2, v3, v4, v5].drop 5).take (Tryz.prog.cellsOf 25)) = some y5 := hf 5 _ rfl
  rw [show ([v0, v1, v2, v3, v4, v5].drop 5).take (Tryz.prog.cellsOf 25) = [v5] by rw [show Tryz.prog.cellsOf 25 = 1 by kernel_rfl]; rfl] at h5
  obtain ⟨per, e0⟩ := trod_int1 Tryz.underlying3 h0
  obtain ⟨dl, e1⟩ := trod_int1 Tryz.underlying3 h1
  obtain rfl : v0 = .int .i64 per := by simpa using e0
  obtain rfl : v1 = .int .i64 dl := by simpa using e1
  obtain ⟨P, cp, ps, rfl, p1, p2⟩ := trod_rows PCod.k47 PCod.z47 Tryz.underlying22 (by kernel_rfl) (fun n cs y h => el_part h) h2
  obtain ⟨E, ce, es, rfl, e1', e2'⟩ := trod_rows PCod.k63 PCod.z63 Tryz.underlying23 (by kernel_rfl) (fun n cs y h => el_edge h) h3
  obtain ⟨F, cf, fs, rfl, f1, f2⟩ := trod_rows PCod.k65 PCod.z65 Tryz.underlying24 (by kernel_rfl) (fun n cs y h => el_fut h) h4
  obtain ⟨B, cb, bs, rfl, b1, b2⟩ := trod_rows PCod.k50 PCod.z50 Tryz.underlying25 (by kernel_rfl) (fun n cs y h => el_bar h) h5
  exact ⟨per, dl, P, cp, ps, E, ce, es, F, cf, fs, B, cb, bs, rfl, ⟨p2, p1, e2', e1', f2, f1, b2, b1⟩⟩
end Go.Proofs.YtokhibhmlninnaaGreatDoor
