/- The invariant TkI of a region, by gen_inv.py. -/
import Derived.Test.YtmbhjhanafmidaaUSRegInv
set_option linter.unusedVariables false
set_option linter.unusedSimpArgs false
namespace Go.Proofs.Ytmbhjhanafmidaa.RegInv
open Go Go.RowKit Go.Proofs.YtmbhjhanafmidaaW.PrintWords Go.Proofs.YtmbhjhanafmidaaW.PrintMore
theorem gz {l : Array Bool} {i k : Nat} {b : Bool} (e : (l.setIfInBounds i true).getD k false = b) (hk : i ≠ k := by decide) : l.getD k false = b := by rwa [getD_set_ne false hk] at e
structure TkI (w W0 : World) (p : Nat) (O : Option Addr) (oc : Nat) (on : List Int) (L : Option Addr) (lc : Nat) (left : List Int) (l : Array Bool) (c : Nat → Nat) (g : Nat) (x4 x5 x8 x9 x10 x11 x12 x13 x14 x15 x16 x17 : Value) (w' : World) : Prop where
 sz : l.size = 13
 b : Below w.heap.size w w'
 b0 : W0.heap.size ≤ w'.heap.size ∧ ∀ k, k < W0.heap.size → w'.heap[k]? = W0.heap[k]?
 lo : ∀ k, k < W0.heap.size → c k = 4
 i1 : l.getD 1 false = true → x9 = .pointer (some ⟨p, 0, none⟩)
 i2 : l.getD 2 false = true → x10 = .slice O on.length oc
 i5 : l.getD 5 false = true → x13 = .pointer (some ⟨p, 1, none⟩)
 i6 : l.getD 6 false = true → x14 = .slice L left.length lc
 i8 : l.getD 8 false = true → x16 = .agg #[x11, x15]
 q8_3 : l.getD 8 false = true → l.getD 3 false = true
 q8_7 : l.getD 8 false = true → l.getD 7 false = true
 i12 : l.getD 12 false = true → x5 = x17
 q12_9 : l.getD 12 false = true → l.getD 9 false = true
 ra0 : l.getD 0 false = true → l.getD 3 false = false → Rw (Kd.int .i64) 3 c 0 w.heap.size w' x8 []
 ra1 : l.getD 3 false = true → Rw (Kd.int .i64) 3 c 0 w.heap.size w' x11 on
 rb0 : l.getD 4 false = true → l.getD 7 false = false → Rw (Kd.int .i64) 3 c 1 w.heap.size w' x12 []
 rb1 : l.getD 7 false = true → Rw (Kd.int .i64) 3 c 1 w.heap.size w' x15 left
 rc0 : l.getD 9 false = true → Rw (Kd.int .i64) 3 c 2 w.heap.size w' x17 []
 d0 : l.getD 10 false = true → x4 = .pointer (some ⟨g, 0, none⟩)
 d1 : l.getD 10 false = true → c g = 3 ∧ W0.heap.size ≤ g ∧ g < w'.heap.size
 d2 : l.getD 10 false = true → l.getD 11 false = false → w'.heap[g]? = some (.cells #[.slice none 0 0, .slice none 0 0] 27 (0, 0))
 d3 : l.getD 11 false = true → w'.heap[g]? = some (.cells #[x11, x15] 27 (0, 0))
 qs_3 : l.getD 11 false = true → l.getD 3 false = true
 qs_7 : l.getD 11 false = true → l.getD 7 false = true
 qs_10 : l.getD 11 false = true → l.getD 10 false = true
 w3_0 : l.getD 3 false = true → l.getD 0 false = true
 w7_4 : l.getD 7 false = true → l.getD 4 false = true
section
variable {w W0 : World} {p : Nat} {O : Option Addr} {oc : Nat} {on : List Int} {L : Option Addr} {lc : Nat} {left : List Int} {l : Array Bool} {c : Nat → Nat} {g : Nat} {x4 x5 x8 x9 x10 x11 x12 x13 x14 x15 x16 x17 : Value} {w1 w2 : World}
theorem TkI.s1 (h : TkI w W0 p O oc on L lc left l c g x4 x5 x8 x9 x10 x11 x12 x13 x14 x15 x16 x17 w1) (hn : l.getD 1 false = false) (y : Value) (hy : y = .pointer (some ⟨p, 0, none⟩)) : TkI w W0 p O oc on L lc left (l.setIfInBounds 1 true) c g x4 x5 x8 y x10 x11 x12 x13 x14 x15 x16 x17 w1 := by
 have hi : 1 < l.size := by have := h.sz; omega
 exact ⟨(by rw [Array.size_setIfInBounds]; exact h.sz),
  h.b,
  h.b0,
  h.lo,
  fun e0 => hy,
  fun e0 => (h.i2 (gz e0)),
  fun e0 => (h.i5 (gz e0)),
  fun e0 => (h.i6 (gz e0)),
  fun e0 => (h.i8 (gz e0)),
  fun e0 => getD_set_true (h.q8_3 (gz e0)),
  fun e0 => getD_set_true (h.q8_7 (gz e0)),
  fun e0 => (h.i12 (gz e0)),
  fun e0 => getD_set_true (h.q12_9 (gz e0)),
  fun e0 e1 => (h.ra0 (gz e0) (gz e1)),
  fun e0 => (h.ra1 (gz e0)),
  fun e0 e1 => (h.rb0 (gz e0) (gz e1)),
  fun e0 => (h.rb1 (gz e0)),
  fun e0 => (h.rc0 (gz e0)),
  fun e0 => (h.d0 (gz e0)),
  fun e0 => (h.d1 (gz e0)),
  fun e0 e1 => (h.d2 (gz e0) (gz e1)),
  fun e0 => (h.d3 (gz e0)),
  fun e0 => getD_set_true (h.qs_3 (gz e0)),
  fun e0 => getD_set_true (h.qs_7 (gz e0)),
  fun e0 => getD_set_true (h.qs_10 (gz e0)),
  fun e0 => getD_set_true (h.w3_0 (gz e0)),
  fun e0 => getD_set_true (h.w7_4 (gz e0))⟩
theorem TkI.s2 (h : TkI w W0 p O oc on L lc left l c g x4 x5 x8 x9 x10 x11 x12 x13 x14 x15 x16 x17 w1) (hn : l.getD 2 false = false) (y : Value) (hy : y = .slice O on.length oc) : TkI w W0 p O oc on L lc left (l.setIfInBounds 2 true) c g x4 x5 x8 x9 y x11 x12 x13 x14 x15 x16 x17 w1 := by
 have hi : 2 < l.size := by have := h.sz; omega
 exact ⟨(by rw [Array.size_setIfInBounds]; exact h.sz),
  h.b,
  h.b0,
  h.lo,
  fun e0 => (h.i1 (gz e0)),
  fun e0 => hy,
  fun e0 => (h.i5 (gz e0)),
  fun e0 => (h.i6 (gz e0)),
  fun e0 => (h.i8 (gz e0)),
  fun e0 => getD_set_true (h.q8_3 (gz e0)),
  fun e0 => getD_set_true (h.q8_7 (gz e0)),
  fun e0 => (h.i12 (gz e0)),
  fun e0 => getD_set_true (h.q12_9 (gz e0)),
  fun e0 e1 => (h.ra0 (gz e0) (gz e1)),
  fun e0 => (h.ra1 (gz e0)),
  fun e0 e1 => (h.rb0 (gz e0) (gz e1)),
  fun e0 => (h.rb1 (gz e0)),
  fun e0 => (h.rc0 (gz e0)),
  fun e0 => (h.d0 (gz e0)),
  fun e0 => (h.d1 (gz e0)),
  fun e0 e1 => (h.d2 (gz e0) (gz e1)),
  fun e0 => (h.d3 (gz e0)),
  fun e0 => getD_set_true (h.qs_3 (gz e0)),
  fun e0 => getD_set_true (h.qs_7 (gz e0)),
  fun e0 => getD_set_true (h.qs_10 (gz e0)),
  fun e0 => getD_set_true (h.w3_0 (gz e0)),
  fun e0 => getD_set_true (h.w7_4 (gz e0))⟩
theorem TkI.s5 (h : TkI w W0 p O oc on L lc left l c g x4 x5 x8 x9 x10 x11 x12 x13 x14 x15 x16 x17 w1) (hn : l.getD 5 false = false) (y : Value) (hy : y = .pointer (some ⟨p, 1, none⟩)) : TkI w W0 p O oc on L lc left (l.setIfInBounds 5 true) c g x4 x5 x8 x9 x10 x11 x12 y x14 x15 x16 x17 w1 := by
 have hi : 5 < l.size := by have := h.sz; omega
 exact ⟨(by rw [Array.size_setIfInBounds]; exact h.sz),
  h.b,
  h.b0,
  h.lo,
  fun e0 => (h.i1 (gz e0)),
  fun e0 => (h.i2 (gz e0)),
  fun e0 => hy,
  fun e0 => (h.i6 (gz e0)),
  fun e0 => (h.i8 (gz e0)),
  fun e0 => getD_set_true (h.q8_3 (gz e0)),
  fun e0 => getD_set_true (h.q8_7 (gz e0)),
  fun e0 => (h.i12 (gz e0)),
  fun e0 => getD_set_true (h.q12_9 (gz e0)),
  fun e0 e1 => (h.ra0 (gz e0) (gz e1)),
  fun e0 => (h.ra1 (gz e0)),
  fun e0 e1 => (h.rb0 (gz e0) (gz e1)),
  fun e0 => (h.rb1 (gz e0)),
  fun e0 => (h.rc0 (gz e0)),
  fun e0 => (h.d0 (gz e0)),
  fun e0 => (h.d1 (gz e0)),
  fun e0 e1 => (h.d2 (gz e0) (gz e1)),
  fun e0 => (h.d3 (gz e0)),
  fun e0 => getD_set_true (h.qs_3 (gz e0)),
  fun e0 => getD_set_true (h.qs_7 (gz e0)),
  fun e0 => getD_set_true (h.qs_10 (gz e0)),
  fun e0 => getD_set_true (h.w3_0 (gz e0)),
  fun e0 => getD_set_true (h.w7_4 (gz e0))⟩
theorem TkI.s6 (h : TkI w W0 p O oc on L lc left l c g x4 x5 x8 x9 x10 x11 x12 x13 x14 x15 x16 x17 w1) (hn : l.getD 6 false = false) (y : Value) (hy : y = .slice L left.length lc) : TkI w W0 p O oc on L lc left (l.setIfInBounds 6 true) c g x4 x5 x8 x9 x10 x11 x12 x13 y x15 x16 x17 w1 := by
 have hi : 6 < l.size := by have := h.sz; omega
 exact ⟨(by rw [Array.size_setIfInBounds]; exact h.sz),
  h.b,
  h.b0,
  h.lo,
  fun e0 => (h.i1 (gz e0)),
  fun e0 => (h.i2 (gz e0)),
  fun e0 => (h.i5 (gz e0)),
  fun e0 => hy,
  fun e0 => (h.i8 (gz e0)),
  fun e0 => getD_set_true (h.q8_3 (gz e0)),
  fun e0 => getD_set_true (h.q8_7 (gz e0)),
  fun e0 => (h.i12 (gz e0)),
  fun e0 => getD_set_true (h.q12_9 (gz e0)),
  fun e0 e1 => (h.ra0 (gz e0) (gz e1)),
  fun e0 => (h.ra1 (gz e0)),
  fun e0 e1 => (h.rb0 (gz e0) (gz e1)),
  fun e0 => (h.rb1 (gz e0)),
  fun e0 => (h.rc0 (gz e0)),
  fun e0 => (h.d0 (gz e0)),
  fun e0 => (h.d1 (gz e0)),
  fun e0 e1 => (h.d2 (gz e0) (gz e1)),
  fun e0 => (h.d3 (gz e0)),
  fun e0 => getD_set_true (h.qs_3 (gz e0)),
  fun e0 => getD_set_true (h.qs_7 (gz e0)),
  fun e0 => getD_set_true (h.qs_10 (gz e0)),
  fun e0 => getD_set_true (h.w3_0 (gz e0)),
  fun e0 => getD_set_true (h.w7_4 (gz e0))⟩
theorem TkI.s8 (h : TkI w W0 p O oc on L lc left l c g x4 x5 x8 x9 x10 x11 x12 x13 x14 x15 x16 x17 w1) (hn : l.getD 8 false = false) (y : Value) (hy : y = .agg #[x11, x15]) (hl : l.getD 3 false = true ∧ l.getD 7 false = true) : TkI w W0 p O oc on L lc left (l.setIfInBounds 8 true) c g x4 x5 x8 x9 x10 x11 x12 x13 x14 x15 y x17 w1 := by
 have hi : 8 < l.size := by have := h.sz; omega
 exact ⟨(by rw [Array.size_setIfInBounds]; exact h.sz),
  h.b,
  h.b0,
  h.lo,
  fun e0 => (h.i1 (gz e0)),
  fun e0 => (h.i2 (gz e0)),
  fun e0 => (h.i5 (gz e0)),
  fun e0 => (h.i6 (gz e0)),
  fun e0 => hy,
  fun e0 => getD_set_true hl.1,
  fun e0 => getD_set_true hl.2,
  fun e0 => (h.i12 (gz e0)),
  fun e0 => getD_set_true (h.q12_9 (gz e0)),
  fun e0 e1 => (h.ra0 (gz e0) (gz e1)),
  fun e0 => (h.ra1 (gz e0)),
  fun e0 e1 => (h.rb0 (gz e0) (gz e1)),
  fun e0 => (h.rb1 (gz e0)),
  fun e0 => (h.rc0 (gz e0)),
  fun e0 => (h.d0 (gz e0)),
  fun e0 => (h.d1 (gz e0)),
  fun e0 e1 => (h.d2 (gz e0) (gz e1)),
  fun e0 => (h.d3 (gz e0)),
  fun e0 => getD_set_true (h.qs_3 (gz e0)),
  fun e0 => getD_set_true (h.qs_7 (gz e0)),
  fun e0 => getD_set_true (h.qs_10 (gz e0)),
  fun e0 => getD_set_true (h.w3_0 (gz e0)),
  fun e0 => getD_set_true (h.w7_4 (gz e0))⟩
theorem TkI.s12 (h : TkI w W0 p O oc on L lc left l c g x4 x5 x8 x9 x10 x11 x12 x13 x14 x15 x16 x17 w1) (hn : l.getD 12 false = false) (y : Value) (hy : y = x17) (hl : l.getD 9 false = true) : TkI w W0 p O oc on L lc left (l.setIfInBounds 12 true) c g x4 y x8 x9 x10 x11 x12 x13 x14 x15 x16 x17 w1 := by
 have hi : 12 < l.size := by have := h.sz; omega
 exact ⟨(by rw [Array.size_setIfInBounds]; exact h.sz),
  h.b,
  h.b0,
  h.lo,
  fun e0 => (h.i1 (gz e0)),
  fun e0 => (h.i2 (gz e0)),
  fun e0 => (h.i5 (gz e0)),
  fun e0 => (h.i6 (gz e0)),
  fun e0 => (h.i8 (gz e0)),
  fun e0 => getD_set_true (h.q8_3 (gz e0)),
  fun e0 => getD_set_true (h.q8_7 (gz e0)),
  fun e0 => hy,
  fun e0 => getD_set_true hl,
  fun e0 e1 => (h.ra0 (gz e0) (gz e1)),
  fun e0 => (h.ra1 (gz e0)),
  fun e0 e1 => (h.rb0 (gz e0) (gz e1)),
  fun e0 => (h.rb1 (gz e0)),
  fun e0 => (h.rc0 (gz e0)),
  fun e0 => (h.d0 (gz e0)),
  fun e0 => (h.d1 (gz e0)),
  fun e0 e1 => (h.d2 (gz e0) (gz e1)),
  fun e0 => (h.d3 (gz e0)),
  fun e0 => getD_set_true (h.qs_3 (gz e0)),
  fun e0 => getD_set_true (h.qs_7 (gz e0)),
  fun e0 => getD_set_true (h.qs_10 (gz e0)),
  fun e0 => getD_set_true (h.w3_0 (gz e0)),
  fun e0 => getD_set_true (h.w7_4 (gz e0))⟩
theorem TkI.s0 (h : TkI w W0 p O oc on L lc left l c g x4 x5 x8 x9 x10 x11 x12 x13 x14 x15 x16 x17 w1) (hn : l.getD 0 false = false) {y : Value} (hr : (Kd.int .i64).R 3 w2 w.heap.size (fun k => paint c w1.heap.size 0 k = 0) y []) (hb : Below w.heap.size w w2) (hs : w1.heap.size ≤ w2.heap.size) (hm : ∀ k, c k ≠ 0 → k < w1.heap.size → w2.heap[k]? = w1.heap[k]?) : TkI w W0 p O oc on L lc left (l.setIfInBounds 0 true) (paint c w1.heap.size 0) g x4 x5 y x9 x10 x11 x12 x13 x14 x15 x16 x17 w2 := by
 have hi : 0 < l.size := by have := h.sz; omega
 have hlt : ∀ k, k < W0.heap.size → k < w1.heap.size := fun k hk => Nat.lt_of_lt_of_le hk h.b0.1
 have tr : ∀ (j : Nat) (v : Value) (zs : List Int), j ≠ 0 → Rw (Kd.int .i64) 3 c j w.heap.size w1 v zs → Rw (Kd.int .i64) 3 (paint c w1.heap.size 0) j w.heap.size w2 v zs := fun j v zs hj h => h.other 0 (fun k hk hlt => hm k (by omega) hlt)
 exact ⟨(by rw [Array.size_setIfInBounds]; exact h.sz),
  hb,
  ⟨Nat.le_trans h.b0.1 hs, fun k hk => (hm k (by rw [h.lo k hk]; decide) (hlt k hk)).trans (h.b0.2 k hk)⟩,
  fun k hk => by rw [paint_old (hlt k hk)]; exact h.lo k hk,
  fun e0 => (h.i1 (gz e0)),
  fun e0 => (h.i2 (gz e0)),
  fun e0 => (h.i5 (gz e0)),
  fun e0 => (h.i6 (gz e0)),
  fun e0 => (h.i8 (gz e0)),
  fun e0 => getD_set_true (h.q8_3 (gz e0)),
  fun e0 => getD_set_true (h.q8_7 (gz e0)),
  fun e0 => (h.i12 (gz e0)),
  fun e0 => getD_set_true (h.q12_9 (gz e0)),
  fun e0 e1 => hr,
  fun e0 => absurd (h.w3_0 (gz e0)) (by rw [hn]; decide),
  fun e0 e1 => tr 1 _ _ (by decide) (h.rb0 (gz e0) (gz e1)),
  fun e0 => tr 1 _ _ (by decide) (h.rb1 (gz e0)),
  fun e0 => tr 2 _ _ (by decide) (h.rc0 (gz e0)),
  fun e0 => (h.d0 (gz e0)),
  fun e0 => (by have := (h.d1 (gz e0)); exact ⟨(by rw [paint_old this.2.2]; exact this.1), this.2.1, by omega⟩),
  fun e0 e1 => (by have hd := (h.d1 (gz e0)); exact (hm g (by rw [hd.1]; decide) hd.2.2).trans (h.d2 (gz e0) (gz e1))),
  fun e0 => (by have hd := (h.d1 (h.qs_10 (gz e0))); exact (hm g (by rw [hd.1]; decide) hd.2.2).trans (h.d3 (gz e0))),
  fun e0 => getD_set_true (h.qs_3 (gz e0)),
  fun e0 => getD_set_true (h.qs_7 (gz e0)),
  fun e0 => getD_set_true (h.qs_10 (gz e0)),
  fun e0 => getD_set_true (h.w3_0 (gz e0)),
  fun e0 => getD_set_true (h.w7_4 (gz e0))⟩
theorem TkI.s3 (h : TkI w W0 p O oc on L lc left l c g x4 x5 x8 x9 x10 x11 x12 x13 x14 x15 x16 x17 w1) (hn : l.getD 3 false = false) {y : Value} (hr : (Kd.int .i64).R 3 w2 w.heap.size (fun k => paint c w1.heap.size 0 k = 0) y on) (hb : Below w.heap.size w w2) (hs : w1.heap.size ≤ w2.heap.size) (hm : ∀ k, c k ≠ 0 → k < w1.heap.size → w2.heap[k]? = w1.heap[k]?) (hl : l.getD 0 false = true) : TkI w W0 p O oc on L lc left (l.setIfInBounds 3 true) (paint c w1.heap.size 0) g x4 x5 x8 x9 x10 y x12 x13 x14 x15 x16 x17 w2 := by
 have hi : 3 < l.size := by have := h.sz; omega
 have gs : ∀ {p : Prop}, (l.setIfInBounds 3 true).getD 3 false = false → p := fun e => by rw [get_set_self hi] at e; cases e
 have hlt : ∀ k, k < W0.heap.size → k < w1.heap.size := fun k hk => Nat.lt_of_lt_of_le hk h.b0.1
 have tr : ∀ (j : Nat) (v : Value) (zs : List Int), j ≠ 0 → Rw (Kd.int .i64) 3 c j w.heap.size w1 v zs → Rw (Kd.int .i64) 3 (paint c w1.heap.size 0) j w.heap.size w2 v zs := fun j v zs hj h => h.other 0 (fun k hk hlt => hm k (by omega) hlt)
 exact ⟨(by rw [Array.size_setIfInBounds]; exact h.sz),
  hb,
  ⟨Nat.le_trans h.b0.1 hs, fun k hk => (hm k (by rw [h.lo k hk]; decide) (hlt k hk)).trans (h.b0.2 k hk)⟩,
  fun k hk => by rw [paint_old (hlt k hk)]; exact h.lo k hk,
  fun e0 => (h.i1 (gz e0)),
  fun e0 => (h.i2 (gz e0)),
  fun e0 => (h.i5 (gz e0)),
  fun e0 => (h.i6 (gz e0)),
  fun e0 => (by have := h.q8_3 (gz e0); rw [hn] at this; cases this),
  fun e0 => getD_set_true (h.q8_3 (gz e0)),
  fun e0 => getD_set_true (h.q8_7 (gz e0)),
  fun e0 => (h.i12 (gz e0)),
  fun e0 => getD_set_true (h.q12_9 (gz e0)),
  fun e0 e1 => gs e1,
  fun e0 => hr,
  fun e0 e1 => tr 1 _ _ (by decide) (h.rb0 (gz e0) (gz e1)),
  fun e0 => tr 1 _ _ (by decide) (h.rb1 (gz e0)),
  fun e0 => tr 2 _ _ (by decide) (h.rc0 (gz e0)),
  fun e0 => (h.d0 (gz e0)),
  fun e0 => (by have := (h.d1 (gz e0)); exact ⟨(by rw [paint_old this.2.2]; exact this.1), this.2.1, by omega⟩),
  fun e0 e1 => (by have hd := (h.d1 (gz e0)); exact (hm g (by rw [hd.1]; decide) hd.2.2).trans (h.d2 (gz e0) (gz e1))),
  fun e0 => (by have := h.qs_3 (gz e0); rw [hn] at this; cases this),
  fun e0 => getD_set_true (h.qs_3 (gz e0)),
  fun e0 => getD_set_true (h.qs_7 (gz e0)),
  fun e0 => getD_set_true (h.qs_10 (gz e0)),
  fun e0 => getD_set_true hl,
  fun e0 => getD_set_true (h.w7_4 (gz e0))⟩
theorem TkI.s4 (h : TkI w W0 p O oc on L lc left l c g x4 x5 x8 x9 x10 x11 x12 x13 x14 x15 x16 x17 w1) (hn : l.getD 4 false = false) {y : Value} (hr : (Kd.int .i64).R 3 w2 w.heap.size (fun k => paint c w1.heap.size 1 k = 1) y []) (hb : Below w.heap.size w w2) (hs : w1.heap.size ≤ w2.heap.size) (hm : ∀ k, c k ≠ 1 → k < w1.heap.size → w2.heap[k]? = w1.heap[k]?) : TkI w W0 p O oc on L lc left (l.setIfInBounds 4 true) (paint c w1.heap.size 1) g x4 x5 x8 x9 x10 x11 y x13 x14 x15 x16 x17 w2 := by
 have hi : 4 < l.size := by have := h.sz; omega
 have hlt : ∀ k, k < W0.heap.size → k < w1.heap.size := fun k hk => Nat.lt_of_lt_of_le hk h.b0.1
 have tr : ∀ (j : Nat) (v : Value) (zs : List Int), j ≠ 1 → Rw (Kd.int .i64) 3 c j w.heap.size w1 v zs → Rw (Kd.int .i64) 3 (paint c w1.heap.size 1) j w.heap.size w2 v zs := fun j v zs hj h => h.other 1 (fun k hk hlt => hm k (by omega) hlt)
 exact ⟨(by rw [Array.size_setIfInBounds]; exact h.sz),
  hb,
  ⟨Nat.le_trans h.b0.1 hs, fun k hk => (hm k (by rw [h.lo k hk]; decide) (hlt k hk)).trans (h.b0.2 k hk)⟩,
  fun k hk => by rw [paint_old (hlt k hk)]; exact h.lo k hk,
  fun e0 => (h.i1 (gz e0)),
  fun e0 => (h.i2 (gz e0)),
  fun e0 => (h.i5 (gz e0)),
  fun e0 => (h.i6 (gz e0)),
  fun e0 => (h.i8 (gz e0)),
  fun e0 => getD_set_true (h.q8_3 (gz e0)),
  fun e0 => getD_set_true (h.q8_7 (gz e0)),
  fun e0 => (h.i12 (gz e0)),
  fun e0 => getD_set_true (h.q12_9 (gz e0)),
  fun e0 e1 => tr 0 _ _ (by decide) (h.ra0 (gz e0) (gz e1)),
  fun e0 => tr 0 _ _ (by decide) (h.ra1 (gz e0)),
  fun e0 e1 => hr,
  fun e0 => absurd (h.w7_4 (gz e0)) (by rw [hn]; decide),
  fun e0 => tr 2 _ _ (by decide) (h.rc0 (gz e0)),
  fun e0 => (h.d0 (gz e0)),
  fun e0 => (by have := (h.d1 (gz e0)); exact ⟨(by rw [paint_old this.2.2]; exact this.1), this.2.1, by omega⟩),
  fun e0 e1 => (by have hd := (h.d1 (gz e0)); exact (hm g (by rw [hd.1]; decide) hd.2.2).trans (h.d2 (gz e0) (gz e1))),
  fun e0 => (by have hd := (h.d1 (h.qs_10 (gz e0))); exact (hm g (by rw [hd.1]; decide) hd.2.2).trans (h.d3 (gz e0))),
  fun e0 => getD_set_true (h.qs_3 (gz e0)),
  fun e0 => getD_set_true (h.qs_7 (gz e0)),
  fun e0 => getD_set_true (h.qs_10 (gz e0)),
  fun e0 => getD_set_true (h.w3_0 (gz e0)),
  fun e0 => getD_set_true (h.w7_4 (gz e0))⟩
theorem TkI.s7 (h : TkI w W0 p O oc on L lc left l c g x4 x5 x8 x9 x10 x11 x12 x13 x14 x15 x16 x17 w1) (hn : l.getD 7 false = false) {y : Value} (hr : (Kd.int .i64).R 3 w2 w.heap.size (fun k => paint c w1.heap.size 1 k = 1) y left) (hb : Below w.heap.size w w2) (hs : w1.heap.size ≤ w2.heap.size) (hm : ∀ k, c k ≠ 1 → k < w1.heap.size → w2.heap[k]? = w1.heap[k]?) (hl : l.getD 4 false = true) : TkI w W0 p O oc on L lc left (l.setIfInBounds 7 true) (paint c w1.heap.size 1) g x4 x5 x8 x9 x10 x11 x12 x13 x14 y x16 x17 w2 := by
 have hi : 7 < l.size := by have := h.sz; omega
 have gs : ∀ {p : Prop}, (l.setIfInBounds 7 true).getD 7 false = false → p := fun e => by rw [get_set_self hi] at e; cases e
 have hlt : ∀ k, k < W0.heap.size → k < w1.heap.size := fun k hk => Nat.lt_of_lt_of_le hk h.b0.1
 have tr : ∀ (j : Nat) (v : Value) (zs : List Int), j ≠ 1 → Rw (Kd.int .i64) 3 c j w.heap.size w1 v zs → Rw (Kd.int .i64) 3 (paint c w1.heap.size 1) j w.heap.size w2 v zs := fun j v zs hj h => h.other 1 (fun k hk hlt => hm k (by omega) hlt)
 exact ⟨(by rw [Array.size_setIfInBounds]; exact h.sz),
  hb,
  ⟨Nat.le_trans h.b0.1 hs, fun k hk => (hm k (by rw [h.lo k hk]; decide) (hlt k hk)).trans (h.b0.2 k hk)⟩,
  fun k hk => by rw [paint_old (hlt k hk)]; exact h.lo k hk,
  fun e0 => (h.i1 (gz e0)),
  fun e0 => (h.i2 (gz e0)),
  fun e0 => (h.i5 (gz e0)),
  fun e0 => (h.i6 (gz e0)),
  fun e0 => (by have := h.q8_7 (gz e0); rw [hn] at this; cases this),
  fun e0 => getD_set_true (h.q8_3 (gz e0)),
  fun e0 => getD_set_true (h.q8_7 (gz e0)),
  fun e0 => (h.i12 (gz e0)),
  fun e0 => getD_set_true (h.q12_9 (gz e0)),
  fun e0 e1 => tr 0 _ _ (by decide) (h.ra0 (gz e0) (gz e1)),
  fun e0 => tr 0 _ _ (by decide) (h.ra1 (gz e0)),
  fun e0 e1 => gs e1,
  fun e0 => hr,
  fun e0 => tr 2 _ _ (by decide) (h.rc0 (gz e0)),
  fun e0 => (h.d0 (gz e0)),
  fun e0 => (by have := (h.d1 (gz e0)); exact ⟨(by rw [paint_old this.2.2]; exact this.1), this.2.1, by omega⟩),
  fun e0 e1 => (by have hd := (h.d1 (gz e0)); exact (hm g (by rw [hd.1]; decide) hd.2.2).trans (h.d2 (gz e0) (gz e1))),
  fun e0 => (by have := h.qs_7 (gz e0); rw [hn] at this; cases this),
  fun e0 => getD_set_true (h.qs_3 (gz e0)),
  fun e0 => getD_set_true (h.qs_7 (gz e0)),
  fun e0 => getD_set_true (h.qs_10 (gz e0)),
  fun e0 => getD_set_true (h.w3_0 (gz e0)),
  fun e0 => getD_set_true hl⟩
theorem TkI.s9 (h : TkI w W0 p O oc on L lc left l c g x4 x5 x8 x9 x10 x11 x12 x13 x14 x15 x16 x17 w1) (hn : l.getD 9 false = false) {y : Value} (hr : (Kd.int .i64).R 3 w2 w.heap.size (fun k => paint c w1.heap.size 2 k = 2) y []) (hb : Below w.heap.size w w2) (hs : w1.heap.size ≤ w2.heap.size) (hm : ∀ k, c k ≠ 2 → k < w1.heap.size → w2.heap[k]? = w1.heap[k]?) : TkI w W0 p O oc on L lc left (l.setIfInBounds 9 true) (paint c w1.heap.size 2) g x4 x5 x8 x9 x10 x11 x12 x13 x14 x15 x16 y w2 := by
 have hi : 9 < l.size := by have := h.sz; omega
 have hlt : ∀ k, k < W0.heap.size → k < w1.heap.size := fun k hk => Nat.lt_of_lt_of_le hk h.b0.1
 have tr : ∀ (j : Nat) (v : Value) (zs : List Int), j ≠ 2 → Rw (Kd.int .i64) 3 c j w.heap.size w1 v zs → Rw (Kd.int .i64) 3 (paint c w1.heap.size 2) j w.heap.size w2 v zs := fun j v zs hj h => h.other 2 (fun k hk hlt => hm k (by omega) hlt)
 exact ⟨(by rw [Array.size_setIfInBounds]; exact h.sz),
  hb,
  ⟨Nat.le_trans h.b0.1 hs, fun k hk => (hm k (by rw [h.lo k hk]; decide) (hlt k hk)).trans (h.b0.2 k hk)⟩,
  fun k hk => by rw [paint_old (hlt k hk)]; exact h.lo k hk,
  fun e0 => (h.i1 (gz e0)),
  fun e0 => (h.i2 (gz e0)),
  fun e0 => (h.i5 (gz e0)),
  fun e0 => (h.i6 (gz e0)),
  fun e0 => (h.i8 (gz e0)),
  fun e0 => getD_set_true (h.q8_3 (gz e0)),
  fun e0 => getD_set_true (h.q8_7 (gz e0)),
  fun e0 => (by have := h.q12_9 (gz e0); rw [hn] at this; cases this),
  fun e0 => getD_set_true (h.q12_9 (gz e0)),
  fun e0 e1 => tr 0 _ _ (by decide) (h.ra0 (gz e0) (gz e1)),
  fun e0 => tr 0 _ _ (by decide) (h.ra1 (gz e0)),
  fun e0 e1 => tr 1 _ _ (by decide) (h.rb0 (gz e0) (gz e1)),
  fun e0 => tr 1 _ _ (by decide) (h.rb1 (gz e0)),
  fun e0 => hr,
  fun e0 => (h.d0 (gz e0)),
  fun e0 => (by have := (h.d1 (gz e0)); exact ⟨(by rw [paint_old this.2.2]; exact this.1), this.2.1, by omega⟩),
  fun e0 e1 => (by have hd := (h.d1 (gz e0)); exact (hm g (by rw [hd.1]; decide) hd.2.2).trans (h.d2 (gz e0) (gz e1))),
  fun e0 => (by have hd := (h.d1 (h.qs_10 (gz e0))); exact (hm g (by rw [hd.1]; decide) hd.2.2).trans (h.d3 (gz e0))),
  fun e0 => getD_set_true (h.qs_3 (gz e0)),
  fun e0 => getD_set_true (h.qs_7 (gz e0)),
  fun e0 => getD_set_true (h.qs_10 (gz e0)),
  fun e0 => getD_set_true (h.w3_0 (gz e0)),
  fun e0 => getD_set_true (h.w7_4 (gz e0))⟩
theorem TkI.s10 (h : TkI w W0 p O oc on L lc left l c g x4 x5 x8 x9 x10 x11 x12 x13 x14 x15 x16 x17 w1) (hn : l.getD 10 false = false) {y : Value} (g' : Nat) (hy : y = .pointer (some ⟨g', 0, none⟩)) (hg : g' = w1.heap.size) (hx : w2.heap[g']? = some (.cells #[.slice none 0 0, .slice none 0 0] 27 (0, 0))) (hb : Below w.heap.size w w2) (hs : w1.heap.size < w2.heap.size) (hm : ∀ k, k < w1.heap.size → w2.heap[k]? = w1.heap[k]?) : TkI w W0 p O oc on L lc left (l.setIfInBounds 10 true) (paint c w1.heap.size 3) g' y x5 x8 x9 x10 x11 x12 x13 x14 x15 x16 x17 w2 := by
 have hi : 10 < l.size := by have := h.sz; omega
 have hlt : ∀ k, k < W0.heap.size → k < w1.heap.size := fun k hk => Nat.lt_of_lt_of_le hk h.b0.1
 have tr : ∀ (j : Nat) (v : Value) (zs : List Int), Rw (Kd.int .i64) 3 c j w.heap.size w1 v zs → Rw (Kd.int .i64) 3 (paint c w1.heap.size 3) j w.heap.size w2 v zs := fun j v zs h => h.other 3 (fun k hk hlt => hm k hlt)
 exact ⟨(by rw [Array.size_setIfInBounds]; exact h.sz),
  hb,
  ⟨Nat.le_trans h.b0.1 (Nat.le_of_lt hs), fun k hk => (hm k (hlt k hk)).trans (h.b0.2 k hk)⟩,
  fun k hk => by rw [paint_old (hlt k hk)]; exact h.lo k hk,
  fun e0 => (h.i1 (gz e0)),
  fun e0 => (h.i2 (gz e0)),
  fun e0 => (h.i5 (gz e0)),
  fun e0 => (h.i6 (gz e0)),
  fun e0 => (h.i8 (gz e0)),
  fun e0 => getD_set_true (h.q8_3 (gz e0)),
  fun e0 => getD_set_true (h.q8_7 (gz e0)),
  fun e0 => (h.i12 (gz e0)),
  fun e0 => getD_set_true (h.q12_9 (gz e0)),
  fun e0 e1 => tr 0 _ _ (h.ra0 (gz e0) (gz e1)),
  fun e0 => tr 0 _ _ (h.ra1 (gz e0)),
  fun e0 e1 => tr 1 _ _ (h.rb0 (gz e0) (gz e1)),
  fun e0 => tr 1 _ _ (h.rb1 (gz e0)),
  fun e0 => tr 2 _ _ (h.rc0 (gz e0)),
  fun e0 => hy,
  fun e0 => ⟨paint_new (by omega), by have := h.b0.1; omega, by omega⟩,
  fun e0 e1 => hx,
  fun e0 => (by have := h.qs_10 (gz e0); rw [hn] at this; cases this),
  fun e0 => getD_set_true (h.qs_3 (gz e0)),
  fun e0 => getD_set_true (h.qs_7 (gz e0)),
  fun e0 => getD_set_true (h.qs_10 (gz e0)),
  fun e0 => getD_set_true (h.w3_0 (gz e0)),
  fun e0 => getD_set_true (h.w7_4 (gz e0))⟩
theorem TkI.s11 (h : TkI w W0 p O oc on L lc left l c g x4 x5 x8 x9 x10 x11 x12 x13 x14 x15 x16 x17 w1) (hn : l.getD 11 false = false) (hl : l.getD 3 false = true ∧ l.getD 7 false = true ∧ l.getD 10 false = true) (hx : w2.heap[g]? = some (.cells #[x11, x15] 27 (0, 0))) (hb : Below w.heap.size w w2) (hs : w2.heap.size = w1.heap.size) (hm : ∀ k, k ≠ g → w2.heap[k]? = w1.heap[k]?) : TkI w W0 p O oc on L lc left (l.setIfInBounds 11 true) c g x4 x5 x8 x9 x10 x11 x12 x13 x14 x15 x16 x17 w2 := by
 have hi : 11 < l.size := by have := h.sz; omega
 have gs : ∀ {p : Prop}, (l.setIfInBounds 11 true).getD 11 false = false → p := fun e => by rw [get_set_self hi] at e; cases e
 have hd := h.d1 hl.2.2
 have tr : ∀ (j : Nat) (v : Value) (zs : List Int), j ≠ 3 → Rw (Kd.int .i64) 3 c j w.heap.size w1 v zs → Rw (Kd.int .i64) 3 c j w.heap.size w2 v zs := fun j v zs hj h => h.keep (fun k hk hlt => hm k (fun e => hj (by rw [← hk, e]; exact hd.1)))
 exact ⟨(by rw [Array.size_setIfInBounds]; exact h.sz),
  hb,
  ⟨by rw [hs]; exact h.b0.1, fun k hk => (hm k (fun e => by have := hd.2.1; omega)).trans (h.b0.2 k hk)⟩,
  h.lo,
  fun e0 => (h.i1 (gz e0)),
  fun e0 => (h.i2 (gz e0)),
  fun e0 => (h.i5 (gz e0)),
  fun e0 => (h.i6 (gz e0)),
  fun e0 => (h.i8 (gz e0)),
  fun e0 => getD_set_true (h.q8_3 (gz e0)),
  fun e0 => getD_set_true (h.q8_7 (gz e0)),
  fun e0 => (h.i12 (gz e0)),
  fun e0 => getD_set_true (h.q12_9 (gz e0)),
  fun e0 e1 => tr 0 _ _ (by decide) (h.ra0 (gz e0) (gz e1)),
  fun e0 => tr 0 _ _ (by decide) (h.ra1 (gz e0)),
  fun e0 e1 => tr 1 _ _ (by decide) (h.rb0 (gz e0) (gz e1)),
  fun e0 => tr 1 _ _ (by decide) (h.rb1 (gz e0)),
  fun e0 => tr 2 _ _ (by decide) (h.rc0 (gz e0)),
  fun e0 => (h.d0 (gz e0)),
  fun e0 => (by have := (h.d1 (gz e0)); exact ⟨this.1, this.2.1, by omega⟩),
  fun e0 e1 => gs e1,
  fun e0 => hx,
  fun e0 => getD_set_true hl.1,
  fun e0 => getD_set_true hl.2.1,
  fun e0 => getD_set_true hl.2.2,
  fun e0 => getD_set_true (h.w3_0 (gz e0)),
  fun e0 => getD_set_true (h.w7_4 (gz e0))⟩
end
end Go.Proofs.Ytmbhjhanafmidaa.RegInv
