/- The reference's Why of any bytes is decOf. -/
import Derived.Test.YtokhibhmlninnaaGreatDoorGRefBld
import Derived.Test.YtokhibhmlninnaaGreatDoorGMRf
import Derived.Test.YtokhibhmlninnaaGreatDoorGMRf
import Derived.Test.YtokhibhmlninnaaGreatDoorGMSome
set_option linter.unusedVariables false
set_option linter.unusedSimpArgs false
namespace Go.Proofs.YtokhibhmlninnaaGreatDoor
open Go.RowKit Go.Sort Go.Proofs.YtokhibhmlninnaaGreatDoorW.PrintWords
open CodPlain (contW widths byteN)
def toI (W : List Nat) : List Int := W.map (fun (k : Nat) => (k : Int))
def WInv (b : ByteArray) (W : List Nat) (i n a : Nat) (ls : List Int) : Prop := (contW b (widths b) (byteN b 8) (17, false)).2 = (contW b (W.drop i) n (a, false)).2 ∧ ((contW b (widths b) (byteN b 8) (17, false)).2.2 = false → (contW b (widths b) (byteN b 8) (17, false)).1 = ls ++ (contW b (W.drop i) n (a, false)).1)
def WOk (W : List Nat) : Prop := ∀ k ∈ W, k = 1 ∨ k = 2 ∨ k = 4
theorem wok_wide {W : List Nat} (h : WOk W) {i : Nat} (hi : i < W.length) : WirePlain.Wide ((W.getD i 0 : Nat) : Int) ∧ 1 ≤ W.getD i 0 ∧ W.getD i 0 ≤ 4 := by
 rcases h _ (CodPlain.getD_in (d := 0) hi) with e | e | e
 ·rw [e]; exact ⟨.inl rfl, by omega, by omega⟩
 ·rw [e]; exact ⟨.inr (.inl rfl), by omega, by omega⟩
 ·rw [e]; exact ⟨.inr (.inr (.inl rfl)), by omega, by omega⟩
theorem winv_start (b : ByteArray) : WInv b (widths b) 0 (byteN b 8) 17 [] := ⟨rfl, fun _ => rfl⟩
theorem drop_get {W : List Nat} {i : Nat} (hi : i < W.length) : W.drop i = W.getD i 0 :: W.drop (i + 1) := by
 rw [List.drop_eq_getElem_cons hi, List.getD_eq_getElem?_getD, List.getElem?_eq_getElem hi]; rfl
theorem winv_num {b : ByteArray} {W : List Nat} {i n a : Nat} {ls : List Int} (h : WInv b W i n a ls) (hi : i < W.length) (hw : WOk W) (ht : a + W.getD i 0 ≤ b.size) : WInv b W (i + 1) n (a + W.getD i 0) (ls ++ [((WirePlain.num b (a : Int) ((W.getD i 0 : Nat) : Int) : Nat) : Int)]) := by
 obtain ⟨h1, h2⟩ := h
 obtain ⟨q1, q2, q3⟩ := wok_wide hw hi
 have e := CodPlain.num_there (b := b) q1 q3 ht
 rw [drop_get hi, CodPlain.cont_num _ _ e] at h1 h2
 refine ⟨h1, fun hh => ?_⟩
 rw [h2 hh, List.append_assoc]; rfl
theorem winv_fail {b : ByteArray} {W : List Nat} {i n a : Nat} {ls : List Int} (h : WInv b W i n a ls) (hi : i < W.length) (hw : WOk W) (ht : b.size < a + W.getD i 0) : (contW b (widths b) (byteN b 8) (17, false)).2 = (a, true) := by
 obtain ⟨q1, q2, q3⟩ := wok_wide hw hi
 rw [h.1, drop_get hi]
 exact CodPlain.cont_fail _ _ (by rw [CodPlain.num_not q1 ht])
theorem winv_cut {b : ByteArray} {W : List Nat} {m a : Nat} {ls : List Int} (h : WInv b W W.length (m + 1) a ls) (ht : b.size < a + 2) (ha : a ≤ b.size) : (contW b (widths b) (byteN b 8) (17, false)).2 = (if a < b.size then a + 1 else a, true) := by
 rw [h.1, List.drop_length]
 exact CodPlain.cont_cut m ht ha
theorem winv_bar {b : ByteArray} {W : List Nat} {m a : Nat} {ls : List Int} (h : WInv b W W.length (m + 1) a ls) (ht : a + 2 ≤ b.size) : WInv b (W ++ ([1, 1] ++ List.replicate (byteN b a + byteN b (a + 1)) 1)) W.length m a ls := by
 obtain ⟨h1, h2⟩ := h
 rw [List.drop_length] at h1 h2
 obtain ⟨e1, e2⟩ := CodPlain.cont_bar m ht (ws := [1, 1] ++ List.replicate (byteN b a + byteN b (a + 1)) 1) rfl
 unfold WInv
 rw [List.drop_left]
 refine ⟨h1.trans e1, fun hh => ?_⟩
 rw [h2 hh]
 have h3 : (contW b [] (m + 1) (a, false)).2.2 = false := by rw [← h1]; exact hh
 rw [e1] at h3
 rw [e2 h3]
theorem winv_end {b : ByteArray} {W : List Nat} {a : Nat} {ls : List Int} (h : WInv b W W.length 0 a ls) : (contW b (widths b) (byteN b 8) (17, false)).2 = (a, false) ∧ (contW b (widths b) (byteN b 8) (17, false)).1 = ls := by
 obtain ⟨h1, h2⟩ := h
 rw [List.drop_length, CodPlain.cont_end] at h1 h2
 refine ⟨h1, ?_⟩
 rw [h2 (by rw [h1])]
 exact List.append_nil _
theorem wok_bar {W : List Nat} (h : WOk W) (n : Nat) : WOk (W ++ ([1, 1] ++ List.replicate n 1)) := by
 intro k hk
 rcases List.mem_append.1 hk with hk | hk
 ·exact h k hk
 ·rcases List.mem_append.1 hk with hk | hk
  ·simp at hk; exact .inl hk
  ·exact .inl (List.eq_of_mem_replicate hk)
theorem wok_rep {l : List Nat} (h : WOk l) (n : Nat) : WOk (List.replicate n l).flatten := by
 intro k hk
 obtain ⟨x, hx, hk⟩ := List.mem_flatten.1 hk
 rw [List.eq_of_mem_replicate hx] at hk
 exact h k hk
theorem wok_widths (b : ByteArray) : WOk (widths b) := by
 unfold CodPlain.widths
 intro k hk
 rcases List.mem_append.1 hk with hk | hk
 ·rcases List.mem_append.1 hk with hk | hk
  ·exact wok_rep (by intro k hk; simp at hk; omega) _ k hk
  ·exact wok_rep (by intro k hk; simp at hk; omega) _ k hk
 ·exact wok_rep (by intro k hk; simp at hk; omega) _ k hk
theorem rep_len (l : List Nat) (n : Nat) : (List.replicate n l).flatten.length = n * l.length := by simp
theorem widths_len (b : ByteArray) : (widths b).length ≤ 2040 := by
 have h1 := CodPlain.byteN_lt b 5
 have h2 := CodPlain.byteN_lt b 6
 have h3 := CodPlain.byteN_lt b 7
 unfold CodPlain.widths
 rw [List.length_append, List.length_append, rep_len, rep_len, rep_len]
 generalize byteN b 5 = x at *
 generalize byteN b 6 = y at *
 generalize byteN b 7 = z at *
 show x * 3 + y * 2 + z * 3 ≤ 2040
 omega
theorem rep_snoc (l : List Nat) (n : Nat) : (List.replicate (n + 1) l).flatten = (List.replicate n l).flatten ++ l := by
 rw [List.replicate_succ', List.flatten_append]; simp
theorem toI_app (a c : List Nat) : toI (a ++ c) = toI a ++ toI c := List.map_append
theorem toI_len (a : List Nat) : (toI a).length = a.length := List.length_map _
theorem toI_getD (a : List Nat) (i : Nat) : (toI a).getD i 0 = ((a.getD i 0 : Nat) : Int) := by
 unfold toI
 rw [List.getD_eq_getElem?_getD, List.getElem?_map, List.getD_eq_getElem?_getD]
 cases a[i]? <;> rfl
theorem get_there {b : ByteArray} {a k : Nat} (hk : WirePlain.Wide (k : Int)) (hk4 : k ≤ 4) (h : a + k ≤ b.size) : WirePlain.getR b (a : Int) (k : Int) = (((WirePlain.num b (a : Int) (k : Int) : Nat) : Int), 0) := by
 have e := CodPlain.num_there (b := b) hk hk4 h
 unfold CodPlain.numS at e
 rw [if_neg (by simp)] at e
 by_cases hg : (WirePlain.getR b (a : Int) (k : Int)).2 = 0
 ·rw [if_pos hg] at e
  exact Prod.ext (congrArg (fun q => q.1) e) hg
 ·rw [if_neg hg] at e
  have := congrArg (fun q : Int × CodPlain.St => q.2.2) e
  cases this
theorem get_not {b : ByteArray} {a k : Nat} (hk : WirePlain.Wide (k : Int)) (h : b.size < a + k) : WirePlain.getR b (a : Int) (k : Int) = (0, 21) := by
 unfold WirePlain.getR
 rw [if_pos hk, if_neg (fun (t : WirePlain.There b.size (a : Int) (k : Int)) => by obtain ⟨a1, a2, a3, a4⟩ := t; omega)]
def RowI (W : World) (base : Nat) (v v' : Value) (xs : List Int) : Prop := Kd.R (Kd.int .i64) 3 W base (fun k => True ∧ some k ≠ v'.ownBlock) v xs
theorem RowI.of {W : World} {base : Nat} {v v' : Value} {xs : List Int} (h : Kd.R (Kd.int .i64) 3 W base (fun k => ¬ some k = v'.ownBlock) v xs) : RowI W base v v' xs := Kd.R_mono h (fun k hk => ⟨trivial, hk⟩)
theorem RowI.fresh {W : World} {base : Nat} {v v' : Value} {xs : List Int} (h : RowI W base v v' xs) : ∀ k, W.heap.size ≤ k → True ∧ some k ≠ v.ownBlock := fun k hk => ⟨trivial, fun e => by
 obtain ⟨inner, ho⟩ := Kd.R_own h
 have := own_lt ho k e.symm
 omega⟩
theorem RowI.alloc {W : World} {base : Nat} {v v' : Value} {xs : List Int} (h : RowI W base v v' xs) (o : Obj) : RowI (W.alloc o) base v v' xs := Kd.R_alloc h o
theorem RowI.below {W w1 : World} {base : Nat} {v v' : Value} {xs : List Int} (h : RowI W base v v' xs) (hb : Below W.heap.size W w1) : RowI w1 base v v' xs := Kd.R_step h (fun k _ hk => hb.block k hk)
theorem RowI.after {W w1 : World} {base : Nat} {u v u1 : Value} {xs : List Int} (h : RowI W base v u xs) (hg : W.grownBy w1 u.ownBlock) (hat : u1.ownBlock = u.ownBlock ∨ ∃ b, u1.ownBlock = some b ∧ W.heap.size ≤ b) : RowI w1 base v u1 xs := Kd.R_after h hg hat
theorem RowI.reads {W : World} {base : Nat} {v v' : Value} {xs : List Int} (h : RowI W base v v' xs) : ∃ A c, v = .slice A xs.length c ∧ xs.length ≤ c ∧ Kd.C (Kd.int .i64) W A xs.length xs := Kd.R_reads h
theorem RowI.cell {W : World} {base n c i : Nat} {ad : Addr} {v' : Value} {ws : List Nat} (h : RowI W base (.slice (some ad) n c) v' (toI ws)) (hi : i < ws.length) : W.cell? (ad.add i) = some (.int .i64 ((ws.getD i 0 : Nat) : Int)) := by
 obtain ⟨h1, h2, h3⟩ := Kd.R_reads' h
 obtain ⟨ad', e, hcs⟩ := (Kd.reads_of_C (d := (0 : Int)) (h1 := fun _ => rfl) h3).2.2 (by rw [toI_len]; omega)
 obtain rfl := Option.some.inj e
 have := hcs i (by rw [toI_len]; exact hi)
 rw [toI_getD] at this
 exact this
theorem RowI.addr {W : World} {base n c : Nat} {A : Option Addr} {v' : Value} {ws : List Nat} (h : RowI W base (.slice A n c) v' (toI ws)) (hi : 0 < ws.length) : ∃ ad, A = some ad := by
 obtain ⟨h1, h2, h3⟩ := Kd.R_reads' h
 obtain ⟨ad', e, hcs⟩ := (Kd.reads_of_C (d := (0 : Int)) (h1 := fun _ => rfl) h3).2.2 (by rw [toI_len]; omega)
 exact ⟨ad', e⟩
theorem RowI.made {W : World} {base : Nat} (hb : base ≤ W.heap.size) : RowI (W.alloc (.cells #[] 3)) base (.slice (some ⟨W.heap.size, 0, none⟩) 0 0) (.slice none 0 0) [] :=
 Kd.R_of_own (World.ownsRow_made W #[] 0 hb (Nat.zero_le _) rfl) (fun k _ => ⟨trivial, fun e => by simp [Value.ownBlock] at e⟩)
theorem RowI.second {W : World} {base : Nat} {u : Value} {ws : List Int} (h : RowI W base u (.slice none 0 0) ws) (hb : base ≤ W.heap.size) :
  RowI (W.alloc (.cells #[] 3)) base u (.slice (some ⟨W.heap.size, 0, none⟩) 0 0) ws ∧ RowI (W.alloc (.cells #[] 3)) base (.slice (some ⟨W.heap.size, 0, none⟩) 0 0) u [] := by
 constructor
 ·refine Kd.R_alloc (Kd.R_mono (Kd.R_bound h) (fun k hk => ⟨trivial, fun e => ?_⟩)) _
  have h1 := hk.2.2.1
  simp [Value.ownBlock] at e
  omega
 ·refine Kd.R_of_own (World.ownsRow_made W #[] 0 hb (Nat.zero_le _) rfl) (fun k hk => ⟨trivial, fun e => ?_⟩)
  have h1 : W.heap.size = k := by simpa [Value.ownBlock] using hk
  exact (h.fresh k (by omega)).2 e
def RefWhyPost (s : ByteArray) (w : World) (e : Ending) (w' : World) : Prop := ∃ (per dl : Int) (P : Option Addr) (cp : Nat) (ps : List PCod.S47) (E : Option Addr) (ce : Nat) (es : List PCod.S63) (F : Option Addr) (cf : Nat) (fs : List PCod.S65) (B : Option Addr) (cb : Nat) (bs : List PCod.S50),
 e = .returned (.tuple #[.agg #[.int .i64 per, .int .i64 dl, .slice P ps.length cp, .slice E es.length ce, .slice F fs.length cf, .slice B bs.length cb], .agg #[.int .i64 (decOf s).2.1, .int .i64 (decOf s).2.2.1], .int .i64 (decOf s).2.2.2]) ∧ dOf per dl ps es fs bs = (decOf s).1 ∧ DR w' P cp ps E ce es F cf fs B cb bs ∧ Below w.heap.size w w'
theorem dOf_mk (per dl : Int) (P F : List (Int × Int × Int)) (E : List (Int × Int)) (B : List (List Int × List Int)) : dOf per dl (P.map mkP) (E.map mkE) (F.map mkF) (B.map mkB) = ⟨per, dl, P, E, F, B⟩ := by
 unfold dOf
 rw [List.map_map, List.map_map, List.map_map, List.map_map]
 have h1 : tP ∘ mkP = id := rfl
 have h2 : tE ∘ mkE = id := rfl
 have h3 : tF ∘ mkF = id := rfl
 have h4 : tB ∘ mkB = id := rfl
 rw [h1, h2, h3, h4, List.map_id, List.map_id, List.map_id, List.map_id]
theorem dr_nil (w : World) : DR w none 0 [] none 0 [] none 0 [] none 0 [] := ⟨Kd.C_nil _ w, Nat.le_refl _, Kd.C_nil _ w, Nat.le_refl _, Kd.C_nil _ w, Nat.le_refl _, Kd.C_nil _ w, Nat.le_refl _⟩
theorem two_stores {W : World} {g : Nat} {c0 c1 c2 c3 c4 c5 d0 d1 : Value} {t t' : TypeId} (hz : W.heap[g]? = some (.cells #[c0, c1, c2, c3, c4, c5] t (0, 0))) (hs : W.heap[g + 1]? = some (.cells #[d0, d1] t' (0, 0))) (v0 v1 v2 v3 v4 v5 a b : Value) :
  ((((((((W.setCell ⟨g, 0, none⟩ v0).setCell ⟨g, 1, none⟩ v1).setCell ⟨g, 2, none⟩ v2).setCell ⟨g, 3, none⟩ v3).setCell ⟨g, 4, none⟩ v4).setCell ⟨g, 5, none⟩ v5).setCell ⟨g + 1, 0, none⟩ a).setCell ⟨g + 1, 1, none⟩ b).heap[g]? = some (.cells #[v0, v1, v2, v3, v4, v5] t (0, 0)) ∧
  ((((((((W.setCell ⟨g, 0, none⟩ v0).setCell ⟨g, 1, none⟩ v1).setCell ⟨g, 2, none⟩ v2).setCell ⟨g, 3, none⟩ v3).setCell ⟨g, 4, none⟩ v4).setCell ⟨g, 5, none⟩ v5).setCell ⟨g + 1, 0, none⟩ a).setCell ⟨g + 1, 1, none⟩ b).heap[g + 1]? = some (.cells #[a, b] t' (0, 0)) := by
 have n1 : ∀ i, g + 1 ≠ (⟨g, i, none⟩ : Addr).block := fun i => by show g + 1 ≠ g; omega
 have n2 : ∀ i, g ≠ (⟨g + 1, i, none⟩ : Addr).block := fun i => by show g ≠ g + 1; omega
 have z1 := blk_set hz 0 v0
 have z2 := blk_set z1 1 v1
 have z3 := blk_set z2 2 v2
 have z4 := blk_set z3 3 v3
 have z5 := blk_set z4 4 v4
 have z6 := blk_set z5 5 v5
 have z7 := blk_far z6 (n2 0) a
 have z8 := blk_far z7 (n2 1) b
 have s1 := blk_far hs (n1 0) v0
 have s2 := blk_far s1 (n1 1) v1
 have s3 := blk_far s2 (n1 2) v2
 have s4 := blk_far s3 (n1 3) v3
 have s5 := blk_far s4 (n1 4) v4
 have s6 := blk_far s5 (n1 5) v5
 have s7 := blk_set s6 0 a
 have s8 := blk_set s7 1 b
 exact ⟨z8, s8⟩
theorem far_stores {W : World} {g : Nat} (v0 v1 v2 v3 v4 v5 a b : Value) (k : Nat) (h1 : k ≠ g) (h2 : k ≠ g + 1) :
  ((((((((W.setCell ⟨g, 0, none⟩ v0).setCell ⟨g, 1, none⟩ v1).setCell ⟨g, 2, none⟩ v2).setCell ⟨g, 3, none⟩ v3).setCell ⟨g, 4, none⟩ v4).setCell ⟨g, 5, none⟩ v5).setCell ⟨g + 1, 0, none⟩ a).setCell ⟨g + 1, 1, none⟩ b).heap[k]? = W.heap[k]? := by
 rw [Below.heap_setCell _ _ _ k h2, Below.heap_setCell _ _ _ k h2, Below.heap_setCell _ _ _ k h1, Below.heap_setCell _ _ _ k h1, Below.heap_setCell _ _ _ k h1, Below.heap_setCell _ _ _ k h1, Below.heap_setCell _ _ _ k h1, Below.heap_setCell _ _ _ k h1]
theorem below_stores {w0 W : World} {g base : Nat} (hb : Below base w0 W) (h : base ≤ g) (v0 v1 v2 v3 v4 v5 a b : Value) :
  Below base w0 ((((((((W.setCell ⟨g, 0, none⟩ v0).setCell ⟨g, 1, none⟩ v1).setCell ⟨g, 2, none⟩ v2).setCell ⟨g, 3, none⟩ v3).setCell ⟨g, 4, none⟩ v4).setCell ⟨g, 5, none⟩ v5).setCell ⟨g + 1, 0, none⟩ a).setCell ⟨g + 1, 1, none⟩ b) :=
 (((((((hb.setCell (p := ⟨g, 0, none⟩) h v0).setCell (p := ⟨g, 1, none⟩) h v1).setCell (p := ⟨g, 2, none⟩) h v2).setCell (p := ⟨g, 3, none⟩) h v3).setCell (p := ⟨g, 4, none⟩) h v4).setCell (p := ⟨g, 5, none⟩) h v5).setCell (p := ⟨g + 1, 0, none⟩) (Nat.le_succ_of_le h) a).setCell (p := ⟨g + 1, 1, none⟩) (Nat.le_succ_of_le h) b
theorem open_ext {s b : ByteArray} (h : openB s = (b, true)) : b = s.extract 0 (s.size - 4) := by
 unfold openB at h
 split at h
 ·cases h
 ·split at h
  ·injection h with h1 h2; exact h1.symm
  ·cases h
theorem head_str {s b : ByteArray} (hb : b = s.extract 0 (s.size - 4)) (h : 21 ≤ s.size) : (s.extract 0 4 = ⟨#[100, 97, 103, 49]⟩) ↔ b.data.toList.take 4 = CodPlain.magicL := by
 have e1 : (s.extract 0 4).data.toList = s.data.toList.take 4 := by simp
 have e2 : b.data.toList.take 4 = s.data.toList.take 4 := by
  have hl : b.data.toList = s.data.toList.take (s.size - 4) := by rw [hb]; simp
  rw [hl, List.take_take, Nat.min_eq_left (by omega)]
 rw [e2, ← e1]
 constructor
 ·intro e; rw [e]; rfl
 ·intro e
  apply ByteArray.ext
  apply Array.toList_inj.1
  rw [e]; rfl
theorem byte_same {s b : ByteArray} (hb : b = s.extract 0 (s.size - 4)) {i : Nat} (h : i < b.size) (h2 : i < s.size) : b.data.toList.getD i 0 = s[i]'h2 := by
 have e2 : b.data.toList.getD i 0 = s.data.toList.getD i 0 := by
  have hl : b.data.toList = s.data.toList.take (s.size - 4) := by rw [hb]; simp
  have hbs : b.size ≤ s.size - 4 := by rw [hb]; simp
  rw [hl, List.getD_eq_getElem?_getD, List.getElem?_take_of_lt (by omega), List.getD_eq_getElem?_getD]
 rw [e2, List.getD_eq_getElem?_getD, List.getElem?_eq_getElem (by simpa using h2)]; rfl
end Go.Proofs.YtokhibhmlninnaaGreatDoor
