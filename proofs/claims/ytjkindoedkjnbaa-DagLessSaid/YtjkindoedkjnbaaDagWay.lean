/- dag.way with the two tests; dag.preds, dag.Preds, dag.Succs. -/
import Derived.Test.YtjkindoedkjnbaaDagSame
import Derived.Test.YtjkindoedkjnbaaDagSort
import Derived.Deep.QuietTactic
import Derived.BigQuiet
set_option linter.unusedVariables false
set_option linter.unusedSimpArgs false
namespace Go.Proofs.Ytjkindoedkjnbaa
open Go.RowKit Go.Sort
open Go.Proofs.YtjkindoedkjnbaaW.PrintWords
open DagPlain

def predRaw (n : Int) (es : List (Int × Int)) : List Int := (es.filter fun e => e.2 == n).map (·.1)
def predL (n : Int) (es : List (Int × Int)) : List Int := sortL (predRaw n es)
theorem pred_snoc (n : Int) (es : List (Int × Int)) (k : Nat) (h : k < es.length) : predRaw n (es.take (k + 1)) = predRaw n (es.take k) ++ if (es.getD k (0, 0)).2 == n then [(es.getD k (0, 0)).1] else [] := by
  rw [List.getD_eq_getElem?_getD, List.getElem?_eq_getElem h, List.take_add_one, List.getElem?_eq_getElem h]
  unfold predRaw
  simp only [Option.toList_some, List.filter_append, List.map_append, Option.getD_some]
  congr 1
  by_cases hh : es[k].2 == n
  · simp [hh]
  · simp [hh]
theorem pred_len (n : Int) (es : List (Int × Int)) : (predRaw n es).length ≤ es.length := by
  unfold predRaw
  rw [List.length_map]
  exact List.length_filter_le _ _
set_option maxHeartbeats 400000 in
theorem predC_any (p : Addr) (f t n : Int) (w : World) (hc : w.cell? p = some (.int .i64 n)) :
    Calls Try.prog 48 #[.agg #[.int .i64 f, .int .i64 t], .pointer (some p)] w fun e w' => e = .returned (.tuple #[.int .i64 f, .bool (t == n)]) ∧ Below w.heap.size w w' := by
  have hcl := block_lt_of_cell hc
  have hb : Below w.heap.size w (w.alloc (Obj.cells #[.int .i64 f, .int .i64 t] 40)) := (Below.refl _ _).alloc (Nat.le_refl _) _
  go_enter Try.func48, Try.ntmps48
  go_wp2
  obtain ⟨W, hW⟩ : ∃ W, W = w.alloc (Obj.cells #[.int .i64 f, .int .i64 t] 40) := ⟨_, rfl⟩
  have hf0 : W.cell? ⟨w.heap.size, 0, none⟩ = some (.int .i64 f) := by rw [hW]; simp
  have ht0 : W.cell? ⟨w.heap.size, 1, none⟩ = some (.int .i64 t) := by rw [hW]; simp
  rw [← hW] at hb ⊢
  have hn0 : W.cell? p = some (.int .i64 n) := by rw [hb.cell hcl]; exact hc
  clear hW hc hcl
  have HB := Lib.hid hb
  clear hb
  go_quiet (fail)
  go_wp2
  go_ret2
  exact ⟨rfl, below_drewN HB.out nq⟩

set_option maxHeartbeats 2000000 in
theorem predW_any (A : Option Addr) (n c : Nat) (B : Option Addr) (d : Nat) (es : List (Int × Int)) (p : Addr) (x : Int) (w : World) (hm1 : es.length ≤ 1000) (hE : EdR w B es) (hc : w.cell? p = some (.int .i64 x)) :
    Calls Try.prog 40 #[.agg #[.slice A n c, .slice B es.length d], .func (Fn.func 48) #[] #[.pointer (some p)]] w (SlicePost w (predL x es)) := by
  have HC := Lib.hid hc
  have HE := Lib.hid hE
  have HPL := Lib.hid (pred_len x es)
  obtain ⟨j0, ki, kz0, kz1, kz2⟩ := info_parts info3'
  clear hc hE
  have C1 := Lib.hid (fun f t w1 h => predC_any p f t x w1 h)
  have CS := Lib.hid (fun v zs w1 h h1 h2 => sort_own w.heap.size v zs w1 h h1 h2)
  go_enter Try.func40, Try.ntmps40
  go_wp2_with fail
  obtain ⟨w0, hw0⟩ : ∃ w0, w0 = w.alloc (Obj.cells #[.slice A n c, .slice B es.length d] 25) := ⟨_, rfl⟩
  have HB0 : Hid (Below w.heap.size w w0) := by show Below w.heap.size w w0; rw [hw0]; exact (Below.refl _ _).alloc (Nat.le_refl _) _
  rw [← hw0]
  clear hw0
  go_loopw [5, 13] (fun v i wr => ∃ (k : Nat) (v0 : Value), k ≤ es.length ∧ v0 = v ∧ i = .int .i64 k ∧ Hid (wr.ownsRow w.heap.size 3 1 v0 (predRaw x (es.take k)).length (encs (Value.int .i64) (predRaw x (es.take k)))) ∧ Hid (Below w.heap.size w wr)) (fun _ i _ => es.length - (intOf i).toNat)
  case atStart => exact ⟨0, _, Nat.zero_le _, rfl, rfl, own_nil _ _ _ _, HB0⟩
  case round =>
    clear HB0
    obtain ⟨k, v0, hk, rfl, rfl, HO, HBW⟩ := hrel
    by_cases hlt : k < es.length
    · obtain ⟨ad, rfl, hcs⟩ := (HE.out.below HBW.out) (by omega)
      obtain ⟨hr1, hr2⟩ := hcs k hlt
      have HSN := Lib.hid (pred_snoc x es k hlt)
      have hl0 := pred_len x (es.take k)
      rw [List.length_take] at hl0
      have hlen : (predRaw x (es.take k)).length ≤ 1000 := by omega
      generalize predRaw x (es.take k) = zs at *
      obtain ⟨⟨f, t⟩, hft⟩ : ∃ e, e = es.getD k (0, 0) := ⟨_, rfl⟩
      rw [← hft] at hr1 hr2 HSN
      dsimp only at hr1 hr2 HSN
      clear hft hcs hl0
      have hb0 : ∀ o, Below wr.heap.size wr (wr.alloc o) := fun o => (Below.refl _ _).alloc (Nat.le_refl _) _
      have HBA := Lib.hid (fun o => HBW.out.trans ((hb0 o).mono HBW.out.size))
      have HBA2 := Lib.hid hb0
      clear hb0
      cases hcmp : (t == x) with
      | false =>
        rw [hcmp] at HSN
        have HZ : Hid (predRaw x (es.take (k + 1)) = zs) := by show _ = zs; rw [HSN.out]; simp
        go_wp2_with fail
        refine (C1.out f t _ (by rw [(HBA.out _).cell (block_lt_of_cell HC.out)]; exact HC.out)).mono ?_
        rw [hcmp]
        clear hcmp
        rintro e w2 ⟨rfl, hb⟩
        have HB2 : Hid (Below w.heap.size w w2) := (HBA.out _).trans (hb.mono (HBA.out _).size)
        have HO2 : Hid (w2.ownsRow w.heap.size 3 1 v0 zs.length (encs (Value.int .i64) zs)) := own_move HO.out (fun q hq => by
          have := own_lt HO.out q hq
          rw [hb.block q (by simp; omega), (HBA2.out _).block q this])
        clear hb
        go_wp2_with fail
        go_roundw
        case rel => exact ⟨k + 1, v0, by omega, rfl, by go_num, by rw [HZ.out]; exact HO2, HB2⟩
        case measure => simp [intOf]; omega
      | true =>
        rw [hcmp] at HSN
        have HZ : Hid (predRaw x (es.take (k + 1)) = zs ++ [f]) := by show _ = zs ++ _; rw [HSN.out]; simp
        go_wp2_with fail
        refine (C1.out f t _ (by rw [(HBA.out _).cell (block_lt_of_cell HC.out)]; exact HC.out)).mono ?_
        rw [hcmp]
        clear hcmp
        rintro e w2 ⟨rfl, hb⟩
        have HB2 : Hid (Below w.heap.size w w2) := (HBA.out _).trans (hb.mono (HBA.out _).size)
        have HO2 : Hid (w2.ownsRow w.heap.size 3 1 v0 zs.length (encs (Value.int .i64) zs)) := own_move HO.out (fun q hq => by
          have := own_lt HO.out q hq
          rw [hb.block q (by simp; omega), (HBA2.out _).block q this])
        clear hb
        go_wp2_with (at_builtin; refine wpList_append_own _ rfl _ _ 22 rfl w.heap.size 3 j0 (.int .i64 0) 1 8 Try.underlying22 ki kz0 kz1 kz2 rfl (by decide) v0 zs.length _ rfl (HO2.out.alloc _) ⟨w2.heap.size, 0, none⟩ 1 1 [.int .i64 f] rfl rfl (cell_one_new _ _ _) (by simp [Value.oneCell']) (by unfold maxLen; omega) (by omega) (by have := HB2.out.size; simp; omega) ?_)
        intro v3 w3 hown3 hgrow3 _
        have HO3 : Hid (w3.ownsRow w.heap.size 3 1 v3 (predRaw x (es.take (k + 1))).length (encs (Value.int .i64) (predRaw x (es.take (k + 1))))) := by
          rw [HZ.out, List.length_append, encs_append]; exact hown3
        have HB3 : Hid (Below w.heap.size w w3) := (HB2.out.alloc HB2.out.size _).grown hgrow3 (by have := HB2.out.size; simp; omega) (fun q hq => own_base HO2.out q hq)
        clear hown3 hgrow3
        go_wp2_with fail
        go_roundw
        case rel => exact ⟨k + 1, v3, by omega, rfl, by go_num, HO3, HB3⟩
        case measure => simp [intOf]; omega
    · obtain rfl : k = es.length := by omega
      have HO2 : Hid (wr.ownsRow w.heap.size 3 1 v0 (predRaw x es).length (encs (Value.int .i64) (predRaw x es))) := by
        have := HO.out
        rw [List.take_length] at this
        exact this
      have hlen : (predRaw x es).length ≤ es.length := HPL.out
      have HLL : Hid (predL x es = sortL (predRaw x es)) := rfl
      clear HO
      generalize predRaw x es = zs at *
      go_wp2_with fail
      refine (CS.out v0 zs wr HO2.out (by omega) HBW.out.size).mono ?_
      rintro e w2 ⟨rfl, hown, hb⟩
      have HB3 : Hid (Below w.heap.size w w2) := HBW.out.trans hb
      have HO3 := Lib.hid hown
      clear hown hb
      go_wp2_with fail
      go_ret
      unfold SlicePost
      rw [HLL.out]
      exact ⟨_, rfl, HO3.out, HB3.out⟩

def succRaw (n : Int) (es : List (Int × Int)) : List Int := (es.filter fun e => e.1 == n).map (·.2)
def succL (n : Int) (es : List (Int × Int)) : List Int := sortL (succRaw n es)
theorem succ_snoc (n : Int) (es : List (Int × Int)) (k : Nat) (h : k < es.length) : succRaw n (es.take (k + 1)) = succRaw n (es.take k) ++ if (es.getD k (0, 0)).1 == n then [(es.getD k (0, 0)).2] else [] := by
  rw [List.getD_eq_getElem?_getD, List.getElem?_eq_getElem h, List.take_add_one, List.getElem?_eq_getElem h]
  unfold succRaw
  simp only [Option.toList_some, List.filter_append, List.map_append, Option.getD_some]
  congr 1
  by_cases hh : es[k].1 == n
  · simp [hh]
  · simp [hh]
theorem succ_len (n : Int) (es : List (Int × Int)) : (succRaw n es).length ≤ es.length := by
  unfold succRaw
  rw [List.length_map]
  exact List.length_filter_le _ _
set_option maxHeartbeats 400000 in
theorem succC_any (p : Addr) (f t n : Int) (w : World) (hc : w.cell? p = some (.int .i64 n)) :
    Calls Try.prog 41 #[.agg #[.int .i64 f, .int .i64 t], .pointer (some p)] w fun e w' => e = .returned (.tuple #[.int .i64 t, .bool (f == n)]) ∧ Below w.heap.size w w' := by
  have hcl := block_lt_of_cell hc
  have hb : Below w.heap.size w (w.alloc (Obj.cells #[.int .i64 f, .int .i64 t] 40)) := (Below.refl _ _).alloc (Nat.le_refl _) _
  go_enter Try.func41, Try.ntmps41
  go_wp2
  obtain ⟨W, hW⟩ : ∃ W, W = w.alloc (Obj.cells #[.int .i64 f, .int .i64 t] 40) := ⟨_, rfl⟩
  have hf0 : W.cell? ⟨w.heap.size, 0, none⟩ = some (.int .i64 f) := by rw [hW]; simp
  have ht0 : W.cell? ⟨w.heap.size, 1, none⟩ = some (.int .i64 t) := by rw [hW]; simp
  rw [← hW] at hb ⊢
  have hn0 : W.cell? p = some (.int .i64 n) := by rw [hb.cell hcl]; exact hc
  clear hW hc hcl
  have HB := Lib.hid hb
  clear hb
  go_quiet (fail)
  go_wp2
  go_ret2
  exact ⟨rfl, below_drewN HB.out nq⟩

set_option maxHeartbeats 2000000 in
theorem succW_any (A : Option Addr) (n c : Nat) (B : Option Addr) (d : Nat) (es : List (Int × Int)) (p : Addr) (x : Int) (w : World) (hm1 : es.length ≤ 1000) (hE : EdR w B es) (hc : w.cell? p = some (.int .i64 x)) :
    Calls Try.prog 40 #[.agg #[.slice A n c, .slice B es.length d], .func (Fn.func 41) #[] #[.pointer (some p)]] w (SlicePost w (succL x es)) := by
  have HC := Lib.hid hc
  have HE := Lib.hid hE
  have HPL := Lib.hid (succ_len x es)
  obtain ⟨j0, ki, kz0, kz1, kz2⟩ := info_parts info3'
  clear hc hE
  have C1 := Lib.hid (fun f t w1 h => succC_any p f t x w1 h)
  have CS := Lib.hid (fun v zs w1 h h1 h2 => sort_own w.heap.size v zs w1 h h1 h2)
  go_enter Try.func40, Try.ntmps40
  go_wp2_with fail
  obtain ⟨w0, hw0⟩ : ∃ w0, w0 = w.alloc (Obj.cells #[.slice A n c, .slice B es.length d] 25) := ⟨_, rfl⟩
  have HB0 : Hid (Below w.heap.size w w0) := by show Below w.heap.size w w0; rw [hw0]; exact (Below.refl _ _).alloc (Nat.le_refl _) _
  rw [← hw0]
  clear hw0
  go_loopw [5, 13] (fun v i wr => ∃ (k : Nat) (v0 : Value), k ≤ es.length ∧ v0 = v ∧ i = .int .i64 k ∧ Hid (wr.ownsRow w.heap.size 3 1 v0 (succRaw x (es.take k)).length (encs (Value.int .i64) (succRaw x (es.take k)))) ∧ Hid (Below w.heap.size w wr)) (fun _ i _ => es.length - (intOf i).toNat)
  case atStart => exact ⟨0, _, Nat.zero_le _, rfl, rfl, own_nil _ _ _ _, HB0⟩
  case round =>
    clear HB0
    obtain ⟨k, v0, hk, rfl, rfl, HO, HBW⟩ := hrel
    by_cases hlt : k < es.length
    · obtain ⟨ad, rfl, hcs⟩ := (HE.out.below HBW.out) (by omega)
      obtain ⟨hr1, hr2⟩ := hcs k hlt
      have HSN := Lib.hid (succ_snoc x es k hlt)
      have hl0 := succ_len x (es.take k)
      rw [List.length_take] at hl0
      have hlen : (succRaw x (es.take k)).length ≤ 1000 := by omega
      generalize succRaw x (es.take k) = zs at *
      obtain ⟨⟨f, t⟩, hft⟩ : ∃ e, e = es.getD k (0, 0) := ⟨_, rfl⟩
      rw [← hft] at hr1 hr2 HSN
      dsimp only at hr1 hr2 HSN
      clear hft hcs hl0
      have hb0 : ∀ o, Below wr.heap.size wr (wr.alloc o) := fun o => (Below.refl _ _).alloc (Nat.le_refl _) _
      have HBA := Lib.hid (fun o => HBW.out.trans ((hb0 o).mono HBW.out.size))
      have HBA2 := Lib.hid hb0
      clear hb0
      cases hcmp : (f == x) with
      | false =>
        rw [hcmp] at HSN
        have HZ : Hid (succRaw x (es.take (k + 1)) = zs) := by show _ = zs; rw [HSN.out]; simp
        go_wp2_with fail
        refine (C1.out f t _ (by rw [(HBA.out _).cell (block_lt_of_cell HC.out)]; exact HC.out)).mono ?_
        rw [hcmp]
        clear hcmp
        rintro e w2 ⟨rfl, hb⟩
        have HB2 : Hid (Below w.heap.size w w2) := (HBA.out _).trans (hb.mono (HBA.out _).size)
        have HO2 : Hid (w2.ownsRow w.heap.size 3 1 v0 zs.length (encs (Value.int .i64) zs)) := own_move HO.out (fun q hq => by
          have := own_lt HO.out q hq
          rw [hb.block q (by simp; omega), (HBA2.out _).block q this])
        clear hb
        go_wp2_with fail
        go_roundw
        case rel => exact ⟨k + 1, v0, by omega, rfl, by go_num, by rw [HZ.out]; exact HO2, HB2⟩
        case measure => simp [intOf]; omega
      | true =>
        rw [hcmp] at HSN
        have HZ : Hid (succRaw x (es.take (k + 1)) = zs ++ [t]) := by show _ = zs ++ _; rw [HSN.out]; simp
        go_wp2_with fail
        refine (C1.out f t _ (by rw [(HBA.out _).cell (block_lt_of_cell HC.out)]; exact HC.out)).mono ?_
        rw [hcmp]
        clear hcmp
        rintro e w2 ⟨rfl, hb⟩
        have HB2 : Hid (Below w.heap.size w w2) := (HBA.out _).trans (hb.mono (HBA.out _).size)
        have HO2 : Hid (w2.ownsRow w.heap.size 3 1 v0 zs.length (encs (Value.int .i64) zs)) := own_move HO.out (fun q hq => by
          have := own_lt HO.out q hq
          rw [hb.block q (by simp; omega), (HBA2.out _).block q this])
        clear hb
        go_wp2_with (at_builtin; refine wpList_append_own _ rfl _ _ 22 rfl w.heap.size 3 j0 (.int .i64 0) 1 8 Try.underlying22 ki kz0 kz1 kz2 rfl (by decide) v0 zs.length _ rfl (HO2.out.alloc _) ⟨w2.heap.size, 0, none⟩ 1 1 [.int .i64 t] rfl rfl (cell_one_new _ _ _) (by simp [Value.oneCell']) (by unfold maxLen; omega) (by omega) (by have := HB2.out.size; simp; omega) ?_)
        intro v3 w3 hown3 hgrow3 _
        have HO3 : Hid (w3.ownsRow w.heap.size 3 1 v3 (succRaw x (es.take (k + 1))).length (encs (Value.int .i64) (succRaw x (es.take (k + 1))))) := by
          rw [HZ.out, List.length_append, encs_append]; exact hown3
        have HB3 : Hid (Below w.heap.size w w3) := (HB2.out.alloc HB2.out.size _).grown hgrow3 (by have := HB2.out.size; simp; omega) (fun q hq => own_base HO2.out q hq)
        clear hown3 hgrow3
        go_wp2_with fail
        go_roundw
        case rel => exact ⟨k + 1, v3, by omega, rfl, by go_num, HO3, HB3⟩
        case measure => simp [intOf]; omega
    · obtain rfl : k = es.length := by omega
      have HO2 : Hid (wr.ownsRow w.heap.size 3 1 v0 (succRaw x es).length (encs (Value.int .i64) (succRaw x es))) := by
        have := HO.out
        rw [List.take_length] at this
        exact this
      have hlen : (succRaw x es).length ≤ es.length := HPL.out
      have HLL : Hid (succL x es = sortL (succRaw x es)) := rfl
      clear HO
      generalize succRaw x es = zs at *
      go_wp2_with fail
      refine (CS.out v0 zs wr HO2.out (by omega) HBW.out.size).mono ?_
      rintro e w2 ⟨rfl, hown, hb⟩
      have HB3 : Hid (Below w.heap.size w w2) := HBW.out.trans hb
      have HO3 := Lib.hid hown
      clear hown hb
      go_wp2_with fail
      go_ret
      unfold SlicePost
      rw [HLL.out]
      exact ⟨_, rfl, HO3.out, HB3.out⟩
end Go.Proofs.Ytjkindoedkjnbaa
