/- Texts of this work, put into one. -/
import Derived.Test.YtmbhjhanafmidaaUSMSchA
import Derived.Laws.MakeOwn
import Derived.Deep.DeepCutAuto
import Derived.Deep.CutBlock
import Derived.WalkMore
import Derived.Deep.LoopGhost
import Derived.Test.YtmbhjhanafmidaaUSMDagB
import Derived.Deep.RegionHeld3
set_option linter.unusedVariables false
set_option linter.unusedSimpArgs false
namespace Go.Proofs.Ytmbhjhanafmidaa
open Go.RowKit Go.Sort
open DagPlain SchPlain
open Go.Proofs.YtmbhjhanafmidaaW.PrintWords
theorem run_make_rowN {P : Program} (t e : TypeId) (i : TypeInfo) (z : Value) (ht : P.underlying t = some (.slice e)) (hi : P.info? e = some i) (hz : i.zero = some z)
  (kl kc : IntKind) (n c : Nat) (hnc : n ≤ c) (hbytes : i.bytes * c ≤ 281474976710656) (h63 : c ≤ 9223372036854775807) (w : World) :
  (Instr.makeSlice t (.int kl (n : Int)) (.int kc (c : Int))).run P w = .ok (.slice (some ⟨w.heap.size, 0, none⟩) n c) (w.alloc (.cells (madeCells z.cells (c * i.size)) e)) := by
 have hb : (i.bytes : Int) * (c : Int) ≤ 281474976710656 := by
  have h : ((i.bytes * c : Nat) : Int) ≤ 281474976710656 := by omega
  rwa [Int.natCast_mul] at h
 have hr := run_make (P := P) w t e i z ht hi hz kl kc n c (by omega) (by omega) hb (by omega)
 simp only [Int.toNat_natCast] at hr
 exact hr
theorem info3'' : (Try.prog.info? 3).map (fun i => (i.zero, i.size, i.bytes)) = some (some (.int .i64 0), 1, 8) := by kernel_rfl
theorem info2'' : (Try.prog.info? 105).map (fun i => (i.zero, i.size, i.bytes)) = some (some (.agg #[.int .i64 0, .int .i64 0]), 2, 16) := by kernel_rfl
theorem mk_ints (n : Nat) (hn : n ≤ 1000) (w : World) : (Instr.makeSlice 22 (.int .i64 (n : Int)) (.int .i64 (n : Int))).run Try.prog w = .ok (.slice (some ⟨w.heap.size, 0, none⟩) n n) (w.alloc (.cells (madeCells #[.int .i64 0] n) 3)) := by
 obtain ⟨i0, hi0, hz0, hz1, hz2⟩ := info_parts info3''
 have := run_make_rowN (P := Try.prog) 22 3 i0 _ Try.underlying22 hi0 hz0 .i64 .i64 n n (Nat.le_refl _) (by rw [hz2]; omega) (by omega) w
 rw [hz1, Nat.mul_one] at this
 exact this
theorem mk_pairs (n : Nat) (hn : n ≤ 1000) (w : World) : (Instr.makeSlice 72 (.int .i64 (n : Int)) (.int .i64 (n : Int))).run Try.prog w = .ok (.slice (some ⟨w.heap.size, 0, none⟩) n n) (w.alloc (.cells (madeCells #[.int .i64 0, .int .i64 0] (n * 2)) 105)) := by
 obtain ⟨i0, hi0, hz0, hz1, hz2⟩ := info_parts info2''
 have := run_make_rowN (P := Try.prog) 72 105 i0 _ Try.underlying72 hi0 hz0 .i64 .i64 n n (Nat.le_refl _) (by rw [hz2]; omega) (by omega) w
 rw [hz1] at this
 exact this
theorem four_at (w : World) (o1 o2 o3 o4 : Obj) : (((((w.alloc o1).alloc o2).alloc o3).alloc o4).drew).heap[w.heap.size]? = some o1 ∧ (((((w.alloc o1).alloc o2).alloc o3).alloc o4).drew).heap[w.heap.size + 1]? = some o2 ∧ (((((w.alloc o1).alloc o2).alloc o3).alloc o4).drew).heap[w.heap.size + 1 + 1]? = some o3 ∧ (((((w.alloc o1).alloc o2).alloc o3).alloc o4).drew).heap[w.heap.size + 1 + 1 + 1]? = some o4 := by
 show ((((w.heap.push o1).push o2).push o3).push o4)[w.heap.size]? = _ ∧ ((((w.heap.push o1).push o2).push o3).push o4)[w.heap.size + 1]? = _ ∧ ((((w.heap.push o1).push o2).push o3).push o4)[w.heap.size + 1 + 1]? = _ ∧ ((((w.heap.push o1).push o2).push o3).push o4)[w.heap.size + 1 + 1 + 1]? = _
 have hl : ∀ (a : Array Obj) (x : Obj) (i : Nat), i < a.size → (a.push x)[i]? = a[i]? := fun a x i h => by rw [Array.getElem?_push, if_neg (by omega)]
 have he : ∀ (a : Array Obj) (x : Obj) (i : Nat), i = a.size → (a.push x)[i]? = some x := fun a x i h => by rw [Array.getElem?_push, if_pos h]
 refine ⟨?_, ?_, ?_, ?_⟩
 ·rw [hl _ _ _ (by simp <;> omega), hl _ _ _ (by simp <;> omega), hl _ _ _ (by simp), he _ _ _ rfl]
 ·rw [hl _ _ _ (by simp <;> omega), hl _ _ _ (by simp), he _ _ _ (by simp)]
 ·rw [hl _ _ _ (by simp), he _ _ _ (by simp)]
 ·rw [he _ _ _ (by simp)]
theorem four_below (w : World) (o1 o2 o3 o4 : Obj) : Below w.heap.size w ((((w.alloc o1).alloc o2).alloc o3).alloc o4).drew :=
 (((((Below.refl _ _).alloc (Nat.le_refl _) _).alloc (by simp) _).alloc (by simp; omega) _).alloc (by simp; omega) _).trans ⟨rfl, rfl, rfl, Nat.le_refl _, fun _ _ => rfl⟩
def begin0 (n : Nat) (k : Nat) : Seen := ⟨List.replicate n 0, List.replicate n (0, 0), List.replicate k (-1) ++ List.replicate (n - k) 0⟩
theorem pairs_at (n i : Nat) (h : i < n * 2) : (madeCells #[Value.int .i64 0, Value.int .i64 0] (n * 2))[i]? = some (.int .i64 0) := by
 unfold madeCells
 rw [Array.getElem?_map, Array.getElem?_range]
 simp only [h, if_true, Option.map_some]
 rcases Nat.mod_two_eq_zero_or_one i with e | e <;> simp [e]
theorem ints_at (n i : Nat) (h : i < n) : (madeCells #[Value.int .i64 0] n)[i]? = some (.int .i64 0) := by
 rw [← Array.getElem?_toList, toList_madeCells_one]; simp [h]
theorem seen_made {W : World} {p r q f n : Nat} {nv : Value} {t1 t2 t4 : TypeId} (hr : W.heap[r]? = some (.cells (madeCells #[Value.int .i64 0] n) t1)) (hq : W.heap[q]? = some (.cells (madeCells #[Value.int .i64 0, Value.int .i64 0] (n * 2)) t2))
  (hf : W.heap[f]? = some (.cells (madeCells #[Value.int .i64 0] n) 3)) (hp : W.heap[p]? = some (.cells #[nv, .slice (some ⟨r, 0, none⟩) n n, .slice (some ⟨q, 0, none⟩) n n, .slice (some ⟨f, 0, none⟩) n n] t4))
  (hd : (r ≠ p ∧ q ≠ p ∧ f ≠ p) ∧ r ≠ q ∧ r ≠ f ∧ q ≠ f) : SeenAt W p r q f n nv (begin0 n 0) := by
 have hc : ∀ {b : Nat} {cs : Array Value} {t : TypeId} (o : Nat), W.heap[b]? = some (.cells cs t) → W.cell? ⟨b, o, none⟩ = cs[o]? := fun o h => by simp [World.cell?, h]
 have hz : ∀ {b : Nat} {cs : Array Value} {t : TypeId} (o : Nat), W.heap[b]? = some (.cells cs t) → W.frozen? ⟨b, o, none⟩ = false := fun o h => by simp [World.frozen?, h]
 have g0 : ∀ i : Nat, (List.replicate n (0 : Int)).getD i 0 = 0 := fun i => by simp [List.getD_eq_getElem?_getD, List.getElem?_replicate]; split <;> rfl
 have gp : ∀ i : Nat, (List.replicate n ((0 : Int), (0 : Int))).getD i (0, 0) = (0, 0) := fun i => by simp [List.getD_eq_getElem?_getD, List.getElem?_replicate]; split <;> rfl
 refine ⟨by simp [begin0], by simp [begin0], by simp [begin0], hc 0 hp, hc 1 hp, hc 2 hp, hc 3 hp, fun i hi => ⟨?_, hz _ hr⟩, fun i hi => ⟨⟨?_, hz _ hq⟩, ?_, hz _ hq⟩, fun i hi => ⟨?_, hz _ hf⟩, hd, ⟨_, hf, by simp [madeCells]⟩⟩
 ·rw [hc i hr, ints_at n i hi]; show _ = some (Value.int .i64 ((List.replicate n (0 : Int)).getD i 0)); rw [g0]
 ·rw [hc _ hq, pairs_at n _ (by omega)]; show _ = some (Value.int .i64 ((List.replicate n ((0 : Int), (0 : Int))).getD i (0, 0)).1); rw [gp]
 ·rw [hc _ hq, pairs_at n _ (by omega)]; show _ = some (Value.int .i64 ((List.replicate n ((0 : Int), (0 : Int))).getD i (0, 0)).2); rw [gp]
 ·rw [hc i hf, ints_at n i hi]; show _ = some (Value.int .i64 ((List.replicate 0 (-1 : Int) ++ List.replicate (n - 0) 0).getD i 0)); rw [List.replicate_zero, List.nil_append, Nat.sub_zero, g0]
theorem begin0_next (n k : Nat) (h : k < n) : { begin0 n k with fin := (begin0 n k).fin.set k (-1) } = begin0 n (k + 1) := by
 unfold begin0
 simp only [Seen.mk.injEq, true_and]
 rw [List.set_append_right _ _ (by simp), List.length_replicate, Nat.sub_self, show n - k = (n - (k + 1)) + 1 by omega, List.replicate_succ, List.set_cons_zero, List.replicate_succ', List.append_assoc]
 rfl
theorem begin0_all (n : Nat) : begin0 n n = begin_ n := by unfold begin0 begin_; simp
def BgP (w : World) (n : Nat) (nv : Value) (s : Seen) (v : Value) (W : World) : Prop := ∃ p r q f, v = .pointer (some ⟨p, 0, none⟩) ∧ SeenAt W p r q f n nv s ∧ (w.heap.size ≤ p ∧ w.heap.size ≤ r ∧ w.heap.size ≤ q ∧ w.heap.size ≤ f) ∧ Below w.heap.size w W
def BeginPost (w : World) (n : Nat) (nv : Value) (e : Ending) (w' : World) : Prop := ∃ v, e = .returned v ∧ BgP w n nv (begin_ n) v w'
set_option maxRecDepth 100000 in
set_option maxHeartbeats 4000000 in
theorem begin_any (D : Option Addr) (dc : Nat) (need : List Int) (w : World) (hn : need.length ≤ 1000) :
  Calls Try.prog 72 #[.slice D need.length dc] w (BeginPost w need.length (.slice D need.length dc)) := by
 have hm1 := mk_ints need.length hn
 have hm2 := mk_pairs need.length hn
 go_enter Try.func72, Try.ntmps72
 go_upto_region 1 with (fail)
 go_cut [3] (fun v wc => Hid (BgP w need.length (.slice D need.length dc) (begin0 need.length 0) v wc))
 case first =>
  go_wp2_with fail
  go_region
  all_goals
   go_wp2_with fail
   go_meet
   case rel =>
    first
     | (obtain ⟨h1, h2, h3, h4⟩ := four_at w (Obj.cells (madeCells #[Value.int IntKind.i64 0] need.length) 3) (Obj.cells (madeCells #[Value.int IntKind.i64 0, Value.int IntKind.i64 0] (need.length * 2)) 105) (Obj.cells (madeCells #[Value.int IntKind.i64 0] need.length) 3) (Obj.cells #[.slice D need.length dc, .slice (some ⟨w.heap.size, 0, none⟩) need.length need.length, .slice (some ⟨w.heap.size + 1, 0, none⟩) need.length need.length, .slice (some ⟨w.heap.size + 1 + 1, 0, none⟩) need.length need.length] 74); exact ⟨w.heap.size + 1 + 1 + 1, w.heap.size, w.heap.size + 1, w.heap.size + 1 + 1, rfl, seen_made h1 h2 h3 h4 ⟨⟨by omega, by omega, by omega⟩, by omega, by omega, by omega⟩, ⟨by omega, by omega, by omega, by omega⟩, four_below w _ _ _ _⟩)
     | (obtain ⟨h1, h2, h3, h4⟩ := four_at w (Obj.cells (madeCells #[Value.int IntKind.i64 0] need.length) 3) (Obj.cells (madeCells #[Value.int IntKind.i64 0] need.length) 3) (Obj.cells (madeCells #[Value.int IntKind.i64 0, Value.int IntKind.i64 0] (need.length * 2)) 105) (Obj.cells #[.slice D need.length dc, .slice (some ⟨w.heap.size, 0, none⟩) need.length need.length, .slice (some ⟨w.heap.size + 1 + 1, 0, none⟩) need.length need.length, .slice (some ⟨w.heap.size + 1, 0, none⟩) need.length need.length] 74); exact ⟨w.heap.size + 1 + 1 + 1, w.heap.size, w.heap.size + 1 + 1, w.heap.size + 1, rfl, seen_made h1 h3 h2 h4 ⟨⟨by omega, by omega, by omega⟩, by omega, by omega, by omega⟩, ⟨by omega, by omega, by omega, by omega⟩, four_below w _ _ _ _⟩)
     | (obtain ⟨h1, h2, h3, h4⟩ := four_at w (Obj.cells (madeCells #[Value.int IntKind.i64 0, Value.int IntKind.i64 0] (need.length * 2)) 105) (Obj.cells (madeCells #[Value.int IntKind.i64 0] need.length) 3) (Obj.cells (madeCells #[Value.int IntKind.i64 0] need.length) 3) (Obj.cells #[.slice D need.length dc, .slice (some ⟨w.heap.size + 1, 0, none⟩) need.length need.length, .slice (some ⟨w.heap.size, 0, none⟩) need.length need.length, .slice (some ⟨w.heap.size + 1 + 1, 0, none⟩) need.length need.length] 74); exact ⟨w.heap.size + 1 + 1 + 1, w.heap.size + 1, w.heap.size, w.heap.size + 1 + 1, rfl, seen_made h2 h1 h3 h4 ⟨⟨by omega, by omega, by omega⟩, by omega, by omega, by omega⟩, ⟨by omega, by omega, by omega, by omega⟩, four_below w _ _ _ _⟩)
     | (obtain ⟨h1, h2, h3, h4⟩ := four_at w (Obj.cells (madeCells #[Value.int IntKind.i64 0, Value.int IntKind.i64 0] (need.length * 2)) 105) (Obj.cells (madeCells #[Value.int IntKind.i64 0] need.length) 3) (Obj.cells (madeCells #[Value.int IntKind.i64 0] need.length) 3) (Obj.cells #[.slice D need.length dc, .slice (some ⟨w.heap.size + 1 + 1, 0, none⟩) need.length need.length, .slice (some ⟨w.heap.size, 0, none⟩) need.length need.length, .slice (some ⟨w.heap.size + 1, 0, none⟩) need.length need.length] 74); exact ⟨w.heap.size + 1 + 1 + 1, w.heap.size + 1 + 1, w.heap.size, w.heap.size + 1, rfl, seen_made h3 h1 h2 h4 ⟨⟨by omega, by omega, by omega⟩, by omega, by omega, by omega⟩, ⟨by omega, by omega, by omega, by omega⟩, four_below w _ _ _ _⟩)
     | (obtain ⟨h1, h2, h3, h4⟩ := four_at w (Obj.cells (madeCells #[Value.int IntKind.i64 0] need.length) 3) (Obj.cells (madeCells #[Value.int IntKind.i64 0] need.length) 3) (Obj.cells (madeCells #[Value.int IntKind.i64 0, Value.int IntKind.i64 0] (need.length * 2)) 105) (Obj.cells #[.slice D need.length dc, .slice (some ⟨w.heap.size + 1, 0, none⟩) need.length need.length, .slice (some ⟨w.heap.size + 1 + 1, 0, none⟩) need.length need.length, .slice (some ⟨w.heap.size, 0, none⟩) need.length need.length] 74); exact ⟨w.heap.size + 1 + 1 + 1, w.heap.size + 1, w.heap.size + 1 + 1, w.heap.size, rfl, seen_made h2 h3 h1 h4 ⟨⟨by omega, by omega, by omega⟩, by omega, by omega, by omega⟩, ⟨by omega, by omega, by omega, by omega⟩, four_below w _ _ _ _⟩)
     | (obtain ⟨h1, h2, h3, h4⟩ := four_at w (Obj.cells (madeCells #[Value.int IntKind.i64 0] need.length) 3) (Obj.cells (madeCells #[Value.int IntKind.i64 0, Value.int IntKind.i64 0] (need.length * 2)) 105) (Obj.cells (madeCells #[Value.int IntKind.i64 0] need.length) 3) (Obj.cells #[.slice D need.length dc, .slice (some ⟨w.heap.size + 1 + 1, 0, none⟩) need.length need.length, .slice (some ⟨w.heap.size + 1, 0, none⟩) need.length need.length, .slice (some ⟨w.heap.size, 0, none⟩) need.length need.length] 74); exact ⟨w.heap.size + 1 + 1 + 1, w.heap.size + 1 + 1, w.heap.size + 1, w.heap.size, rfl, seen_made h3 h2 h1 h4 ⟨⟨by omega, by omega, by omega⟩, by omega, by omega, by omega⟩, ⟨by omega, by omega, by omega, by omega⟩, four_below w _ _ _ _⟩)
 case rest =>
  obtain ⟨p, r, q, f, rfl, hs, ⟨b1, b2, b3, b4⟩, hb⟩ := hcut.out
  have HS0 := Lib.hid hs
  have HB0 := Lib.hid hb
  clear hs hb hm1 hm2 hcut
  go_wp2_with fail
  go_loopw [19] (fun i wr => ∃ k : Nat, k ≤ need.length ∧ i = .int .i64 k ∧ Hid (SeenAt wr p r q f need.length (.slice D need.length dc) (begin0 need.length k)) ∧ Hid (Below w.heap.size w wr)) (fun i _ => need.length - (intOf i).toNat)
  case atStart => exact ⟨0, Nat.zero_le _, rfl, HS0, HB0⟩
  case round =>
   clear HS0 HB0
   obtain ⟨k, hk, rfl, HS, HBW⟩ := hrel
   by_cases hlt : k < need.length
   ·have hc3 := HS.out.c3
    obtain ⟨hf1, hf2⟩ := HS.out.fin k hlt
    have hs1 := HS.out.setFin k hlt (-1)
    rw [begin0_next _ _ hlt] at hs1
    have HS1 := Lib.hid hs1
    have HB1 := Lib.hid (HBW.out.setCell (p := ⟨f, k, none⟩) b4 (.int .i64 (-1)))
    clear hs1
    generalize (begin0 need.length k).fin.getD k 0 = x0 at *
    go_wp2_with fail
    go_roundw
    case rel => exact ⟨k + 1, by omega, by go_num, HS1, HB1⟩
    case measure => simp [intOf]; omega
   ·obtain rfl : k = need.length := by omega
    have hs1 := HS.out
    rw [begin0_all] at hs1
    have HS1 := Lib.hid hs1
    clear hs1
    go_wp2_with fail
    go_ret
    exact ⟨_, rfl, p, r, q, f, rfl, HS1.out, ⟨b1, b2, b3, b4⟩, HBW.out⟩
end Go.Proofs.Ytmbhjhanafmidaa

set_option linter.unusedVariables false
set_option linter.unusedSimpArgs false
namespace Go.Proofs.Ytmbhjhanafmidaa
open Go.RowKit Go.Sort
open DagPlain SchPlain
open Go.Proofs.YtmbhjhanafmidaaW.PrintWords
def KB (g low : Nat) (W W' : World) : Prop := W'.os = W.os ∧ W'.tape = W.tape ∧ W'.output = W.output ∧ W.heap.size ≤ W'.heap.size ∧ ∀ k, k < W.heap.size → k ≠ g → W'.heap[k]? = W.heap[k]?
theorem KB.of_below {g low : Nat} {W W' : World} (h : Below W.heap.size W W') : KB g low W W' := ⟨h.os, h.tape, h.output, h.size, fun k hk _ => h.block k hk⟩
def Low (G : Bool → World → Prop) (low : Nat) : Prop := ∀ x W W', G x W → (∀ k, k < low → W'.heap[k]? = W.heap[k]?) → G x W'
structure LK (w0 w : World) (A : Option Addr) (n c : Nat) (B : Option Addr) (m d : Nat) (bx p r q f N : Nat) (nv : Value) (G : Bool → World → Prop) (x : Bool) (s : Seen) (W : World) : Prop where
 fr : Below w0.heap.size w0 W
 b0 : W.cell? ⟨bx, 0, none⟩ = some (.slice A n c)
 b1 : W.cell? ⟨bx, 1, none⟩ = some (.slice B m d)
 sn : SeenAt W p r q f N nv s
 gg : G x W
 hs : w.heap.size ≤ W.heap.size
 bb : w.heap.size ≤ bx ∧ bx < p ∧ bx < r ∧ bx < q ∧ bx < f
section
variable {w0 w : World} {A : Option Addr} {n c : Nat} {B : Option Addr} {m d bx p r q f N : Nat} {nv : Value} {G : Bool → World → Prop} {x : Bool} {s s' : Seen} {W W' : World}
theorem LK.below (h : LK w0 w A n c B m d bx p r q f N nv G x s W) (hb : Below W.heap.size W W') (hG : Low G w.heap.size) (h0 : w0.heap.size ≤ w.heap.size) : LK w0 w A n c B m d bx p r q f N nv G x s W' :=
 ⟨h.fr.trans (hb.mono (Nat.le_trans h0 h.hs)), by rw [hb.cell (block_lt_of_cell h.b0)]; exact h.b0, by rw [hb.cell (block_lt_of_cell h.b1)]; exact h.b1, h.sn.below hb, hG _ _ _ h.gg (fun k hk => hb.block k (Nat.lt_of_lt_of_le hk h.hs)), Nat.le_trans h.hs hb.size, h.bb⟩
theorem LK.three (h : LK w0 w A n c B m d bx p r q f N nv G x s W) (ht : Three W r q f W') (hsn : SeenAt W' p r q f N nv s') (hG : Low G w.heap.size) (h0 : w0.heap.size ≤ w.heap.size) : LK w0 w A n c B m d bx p r q f N nv G x s' W' := by
 obtain ⟨b0, b1, b2, b3, b4⟩ := h.bb
 refine ⟨h.fr.trans (ht.below (by omega) (by omega) (by omega)), ?_, ?_, hsn, hG _ _ _ h.gg (fun k hk => ht.2.2.2.2 k (by omega) (by omega) (by omega)), by rw [ht.1]; exact h.hs, h.bb⟩
 ·rw [World.cell?_of_block (ht.2.2.2.2 bx (by omega) (by omega) (by omega))]; exact h.b0
 ·rw [World.cell?_of_block (ht.2.2.2.2 bx (by omega) (by omega) (by omega))]; exact h.b1
theorem SeenAt.kb {g low : Nat} (h : SeenAt W p r q f N nv s) (hk : KB g low W W') (hg : g ≠ p ∧ g ≠ r ∧ g ≠ q ∧ g ≠ f) : SeenAt W' p r q f N nv s := by
 obtain ⟨k1, k2, k3, k4, k5⟩ := hk
 have hc : ∀ b o v, b ≠ g → W.cell? ⟨b, o, none⟩ = some v → W'.cell? ⟨b, o, none⟩ = some v := fun b o v hb h => by rw [World.cell?_of_block (k5 b (block_lt_of_cell h) hb)]; exact h
 have hf : ∀ b o v, b ≠ g → W.cell? ⟨b, o, none⟩ = some v → W.frozen? ⟨b, o, none⟩ = false → W'.frozen? ⟨b, o, none⟩ = false := fun b o v hb h k => by rw [World.frozen?_of_block (k5 b (block_lt_of_cell h) hb)]; exact k
 obtain ⟨g1, g2, g3, g4⟩ := hg
 exact ⟨h.l1, h.l2, h.l3, hc _ _ _ (Ne.symm g1) h.c0, hc _ _ _ (Ne.symm g1) h.c1, hc _ _ _ (Ne.symm g1) h.c2, hc _ _ _ (Ne.symm g1) h.c3, fun i hi => ⟨hc _ _ _ (Ne.symm g2) (h.ran i hi).1, hf _ _ _ (Ne.symm g2) (h.ran i hi).1 (h.ran i hi).2⟩,
  fun i hi => ⟨⟨hc _ _ _ (Ne.symm g3) (h.last i hi).1.1, hf _ _ _ (Ne.symm g3) (h.last i hi).1.1 (h.last i hi).1.2⟩, hc _ _ _ (Ne.symm g3) (h.last i hi).2.1, hf _ _ _ (Ne.symm g3) (h.last i hi).2.1 (h.last i hi).2.2⟩,
  fun i hi => ⟨hc _ _ _ (Ne.symm g4) (h.fin i hi).1, hf _ _ _ (Ne.symm g4) (h.fin i hi).1 (h.fin i hi).2⟩, h.d1, by obtain ⟨cur, h1, h2⟩ := h.fb; exact ⟨cur, by rw [k5 f (heap_lt h1) (Ne.symm g4)]; exact h1, h2⟩⟩
theorem LK.kb {g low : Nat} {x' : Bool} (h : LK w0 w A n c B m d bx p r q f N nv G x s W) (hk : KB g low W W') (hx : G x' W') (hg : w0.heap.size ≤ g ∧ g < w.heap.size) (h0 : w0.heap.size ≤ w.heap.size) : LK w0 w A n c B m d bx p r q f N nv G x' s W' := by
 obtain ⟨b0, b1, b2, b3, b4⟩ := h.bb
 obtain ⟨g1, g2⟩ := hg
 have hsn := h.sn.kb hk ⟨by omega, by omega, by omega, by omega⟩
 obtain ⟨k1, k2, k3, k4, k5⟩ := hk
 have hs := h.hs
 refine ⟨h.fr.trans ⟨k1, k2, k3, k4, fun k hk => k5 k (by omega) (by omega)⟩, ?_, ?_, hsn, hx, by omega, h.bb⟩
 ·rw [World.cell?_of_block (k5 bx (block_lt_of_cell h.b0) (by omega))]; exact h.b0
 ·rw [World.cell?_of_block (k5 bx (block_lt_of_cell h.b1) (by omega))]; exact h.b1
end
def CBPost (g low : Nat) (G : Bool → World → Prop) (x : Bool) (W : World) (e : Ending) (W' : World) : Prop := e = .returned (.tuple #[]) ∧ KB g low W W' ∧ G x W'
def LookPost (w0 w : World) (N : Nat) (nv : Value) (G : Bool → World → Prop) (err : Int) (sF : Seen) (xF : Bool) (e : Ending) (w' : World) : Prop :=
 ∃ v, e = .returned (.tuple #[v, .int .i64 err]) ∧ Below w0.heap.size w0 w' ∧ (∃ x, G x w') ∧ (err = 0 → G xF w' ∧ ∃ p r q f, v = .pointer (some ⟨p, 0, none⟩) ∧ SeenAt w' p r q f N nv sF ∧ w.heap.size ≤ p ∧ w.heap.size ≤ r ∧ w.heap.size ≤ q ∧ w.heap.size ≤ f)
def allG (gs : Seen → List Int → Int → Bool) (need : List Int) (ts : List (List Int)) (k : Nat) : Bool := (List.range k).all fun j => gs (stAt need ts j) (ts.getD j []) j
theorem allG_next (gs : Seen → List Int → Int → Bool) (need : List Int) (ts : List (List Int)) (k : Nat) : allG gs need ts (k + 1) = (allG gs need ts k && gs (stAt need ts k) (ts.getD k []) k) := by
 unfold allG
 rw [List.range_succ, List.all_append]
 simp
theorem form_longB (l need : List Int) (cores : Int) (ts : List (List Int)) : formB l need cores ts = (rightB l need cores && decide (ts.length ≤ 4096) && !ts.any (longB cores)) := rfl
end Go.Proofs.Ytmbhjhanafmidaa

set_option linter.unusedVariables false
set_option linter.unusedSimpArgs false
namespace Go.Proofs.Ytmbhjhanafmidaa
open Go.RowKit Go.Sort
open DagPlain SchPlain
open Go.Proofs.YtmbhjhanafmidaaW.PrintWords
theorem boxes_at (w : World) (A : Option Addr) (n c : Nat) (B : Option Addr) (m d : Nat) (cores : Int) (t1 t2 : TypeId) :
  Below w.heap.size w ((w.alloc (.cells #[.slice A n c, .slice B m d] t1)).alloc (.cells #[.int .i64 cores] t2)) ∧ ((w.alloc (.cells #[.slice A n c, .slice B m d] t1)).alloc (.cells #[.int .i64 cores] t2)).cell? ⟨w.heap.size, 0, none⟩ = some (.slice A n c) ∧
  ((w.alloc (.cells #[.slice A n c, .slice B m d] t1)).alloc (.cells #[.int .i64 cores] t2)).cell? ⟨w.heap.size, 1, none⟩ = some (.slice B m d) ∧ ((w.alloc (.cells #[.slice A n c, .slice B m d] t1)).alloc (.cells #[.int .i64 cores] t2)).cell? ⟨w.heap.size + 1, 0, none⟩ = some (.int .i64 cores) := by
 obtain ⟨h0, h1, h2⟩ := DS.start w A n c B m d t1
 have hs : (w.alloc (.cells #[.slice A n c, .slice B m d] t1)).heap.size = w.heap.size + 1 := World.size_alloc _ _
 have hb := below_alloc (w.alloc (.cells #[.slice A n c, .slice B m d] t1)) (.cells #[.int .i64 cores] t2)
 exact ⟨h0.trans (hb.mono h0.size), (hb.cell (block_lt_of_cell h1)).trans h1, (hb.cell (block_lt_of_cell h2)).trans h2, by rw [← hs, World.cell?_alloc_mark]; rfl⟩
theorem mem_getDL {ts : List (List Int)} {k : Nat} (h : k < ts.length) : ts.getD k [] ∈ ts := by rw [List.getD_eq_getElem?_getD, List.getElem?_eq_getElem h]; exact List.getElem_mem h
theorem right_cores {l need : List Int} {cores : Int} (h : rightB l need cores = true) : (1 ≤ cores ∧ cores ≤ 8) ∧ need.length = l.length ∧ ∀ x ∈ need, 1 ≤ x ∧ x ≤ 1000 := by
 unfold rightB at h
 simp only [Bool.and_eq_true, decide_eq_true_eq, Bool.not_eq_true', List.any_eq_false] at h
 obtain ⟨⟨⟨h1, h2⟩, h3⟩, h4⟩ := h
 refine ⟨⟨h3, h4⟩, h1, fun x hx => ?_⟩
 have := h2 x hx
 unfold oddN at this
 simp at this
 omega
theorem rows_len {cores : Int} {ts : List (List Int)} (h : ts.any (longB cores) = false) : ∀ r ∈ ts, (r.length : Int) = cores := by
 intro r hr
 have := List.any_eq_false.1 h r hr
 unfold longB at this
 simpa using this
theorem look_in {l : List Int} {es : List (Int × Int)} {need : List Int} {cores : Int} (hz : checkL l es = 0) (hr : rightB l need cores = true) : ∀ e ∈ es, 0 ≤ e.1 ∧ e.1 < need.length := by
 obtain ⟨-, h, -⟩ := right_cores hr
 obtain ⟨y1, y2, y3, y4, y5⟩ := ordL_yes hz
 intro e he
 rw [h]
 exact (oddEs_in y3 e he).1
theorem look_ranb {need l : List Int} {ts : List (List Int)} {cores : Int} {k : Nat} (hk : k ≤ 5000 ∧ k ≤ ts.length) (hl : ∀ r ∈ ts, (r.length : Int) = cores) (hc : (1 ≤ cores ∧ cores ≤ 8) ∧ need.length = l.length ∧ ∀ x ∈ need, 1 ≤ x ∧ x ≤ 1000) (c2 : Nat) (h2 : c2 ≤ 8) : RanIn (partRow need (stAt need ts k) (ts.getD k []) k c2) 50000 := by
 have h := (RanIn.at_ need ts 8 (fun r hr => by have := hl r hr; omega) k hk.2).part need (ts.getD k []) k c2
 intro i
 have := h i
 exact ⟨this.1, by have := this.2; omega⟩
theorem look_start {w0 w W1 w3 : World} {A : Option Addr} {n c : Nat} {B : Option Addr} {m d p r q f N : Nat} {nv : Value} {G : Bool → World → Prop} {x : Bool} {s : Seen} (hB : Below w0.heap.size w0 w) (hP : Below w.heap.size w W1) (hx : G x w) (hG : Low G w.heap.size) (hsz : w0.heap.size ≤ w.heap.size)
  (h0 : W1.cell? ⟨w.heap.size, 0, none⟩ = some (.slice A n c)) (h1 : W1.cell? ⟨w.heap.size, 1, none⟩ = some (.slice B m d)) (h2 : w.heap.size + 1 < W1.heap.size) (hs : SeenAt w3 p r q f N nv s) (hpb : W1.heap.size ≤ p ∧ W1.heap.size ≤ r ∧ W1.heap.size ≤ q ∧ W1.heap.size ≤ f) (hb : Below W1.heap.size W1 w3) :
  LK w0 w A n c B m d w.heap.size p r q f N nv G x s w3 := by
 obtain ⟨p1, p2, p3, p4⟩ := hpb
 have hs1 := hP.size
 have hs2 := hb.size
 exact ⟨(hB.trans (hP.mono hsz)).trans (hb.mono (by omega)), (hb.cell (block_lt_of_cell h0)).trans h0, (hb.cell (block_lt_of_cell h1)).trans h1, hs, hG _ _ _ hx (fun k hk => (hb.block k (by omega)).trans (hP.block k hk)), by omega, by omega⟩
theorem look_ok {w0 w W : World} {A : Option Addr} {n c : Nat} {B : Option Addr} {m d bx p r q f N : Nat} {nv : Value} {G : Bool → World → Prop} {x : Bool} {s : Seen} (h : LK w0 w A n c B m d bx p r q f N nv G x s W) :
  LookPost w0 w N nv G 0 s x (.returned (.tuple #[.pointer (some ⟨p, 0, none⟩), .int .i64 0])) W := by
 obtain ⟨b0, b1, b2, b3, b4⟩ := h.bb
 exact ⟨_, rfl, h.fr, ⟨x, h.gg⟩, fun _ => ⟨h.gg, p, r, q, f, rfl, h.sn, by omega, by omega, by omega, by omega⟩⟩
theorem look_apart {w0 w : World} {D : Option Addr} {need : List Int} {bx p r q f : Nat} (hD : ReadsInt w0 .i64 D need.length need) (hn : 0 < need.length) (hb : w.heap.size ≤ bx ∧ bx < p ∧ bx < r ∧ bx < q ∧ bx < f) (hsz : w0.heap.size ≤ w.heap.size) : ∀ a, D = some a → a.block ≠ r ∧ a.block ≠ q ∧ a.block ≠ f := by
 intro a ha
 obtain ⟨ad, e, hc⟩ := hD.2.2 hn
 have := block_lt_of_cell (hc 0 hn)
 rw [ha] at e
 cases e
 have hq : (a.add 0).block = a.block := rfl
 omega
theorem look_bad {es : List (Int × Int)} {need : List Int} {ts : List (List Int)} {k : Nat} {s : Seen} {row : List Int} {e : Int} (h1 : rowErr es need ts k = rowE es need s row k) (h2 : rowErr es need ts k ≠ 0 → lookE es need ts = rowErr es need ts k) (h3 : rowE es need s row k = e) (h4 : e ≠ 0) : lookE es need ts = e := by
 rw [h2 (by rw [h1, h3]; exact h4), h1, h3]
theorem look_stop {w0 w W : World} {A : Option Addr} {n c : Nat} {B : Option Addr} {m d bx p r q f N : Nat} {nv v : Value} {G : Bool → World → Prop} {x xF : Bool} {s sF : Seen} {err : Int} (h : LK w0 w A n c B m d bx p r q f N nv G x s W) (he : err ≠ 0) :
  LookPost w0 w N nv G err sF xF (.returned (.tuple #[v, .int .i64 err])) W := ⟨_, rfl, h.fr, ⟨x, h.gg⟩, fun h0 => absurd h0 he⟩
theorem look_zero {w0 w W : World} {A : Option Addr} {n c : Nat} {B : Option Addr} {m d bx p r q f : Nat} {nv : Value} {G : Bool → World → Prop} {x0 : Bool} {need : List Int} {ts : List (List Int)} {gs : Seen → List Int → Int → Bool} (h : Hid (LK w0 w A n c B m d bx p r q f need.length nv G x0 (begin_ need.length) W)) :
  Hid (LK w0 w A n c B m d bx p r q f need.length nv G (x0 && allG gs need ts 0) (stAt need ts 0) W) := by
 have : (x0 && allG gs need ts 0) = x0 := by simp [allG]
 rw [this]
 exact h
theorem look_err {w0 w w1 : World} {N : Nat} {nv : Value} {G : Bool → World → Prop} {err : Int} {sF : Seen} {xF x0 : Bool} (hB : Below w0.heap.size w0 w) (hP : Below w.heap.size w w1) (hx : G x0 w) (hG : Low G w.heap.size) (hsz : w0.heap.size ≤ w.heap.size) (he : err ≠ 0) :
  LookPost w0 w N nv G err sF xF (.returned (.tuple #[.pointer none, .int .i64 err])) w1 :=
 ⟨_, rfl, hB.trans (hP.mono hsz), ⟨x0, hG _ _ _ hx (fun k hk => hP.block k hk)⟩, fun h => absurd h he⟩
end Go.Proofs.Ytmbhjhanafmidaa

set_option linter.unusedVariables false
set_option linter.unusedSimpArgs false
namespace Go.Proofs.Ytmbhjhanafmidaa
open Go.RowKit Go.Sort
open DagPlain SchPlain
open Go.Proofs.YtmbhjhanafmidaaW.PrintWords
set_option maxRecDepth 100000 in
set_option maxHeartbeats 8000000 in
theorem lookN_any (gs : Seen → List Int → Int → Bool) (G : Bool → World → Prop) (g : Nat) (w0 w : World) (A : Option Addr) (c : Nat) (l : List Int) (B : Option Addr) (d : Nat) (es : List (Int × Int)) (D : Option Addr) (dc : Nat) (need : List Int) (cores : Int) (T : Option Addr) (tc : Nat) (ts : List (List Int)) (x0 : Bool)
  (hG : Low G w.heap.size) (hx : G x0 w) (hg : w0.heap.size ≤ g ∧ g < w.heap.size) (hB : Below w0.heap.size w0 w) (hgr : GR w0 A c l B d es) (hn : l.length ≤ 1000) (hm : es.length ≤ 1000) (hD : ReadsInt w0 .i64 D need.length need) (hnl : need.length ≤ 1000) (hT : TrR w0 T ts) (hts : ts.length ≤ 5000)
  (CB : ∀ (W : World) (s : Seen) (tick : Nat) (R : Option Addr) (rc : Nat) (row : List Int) (x : Bool) (p r q f : Nat), SeenAt W p r q f need.length (.slice D need.length dc) s → (w.heap.size ≤ p ∧ w.heap.size ≤ r ∧ w.heap.size ≤ q ∧ w.heap.size ≤ f) → (∀ W', Below w0.heap.size w0 W' → ReadsInt W' .i64 R row.length row) → row.length ≤ 8 → tick ≤ 5000 → Below w0.heap.size w0 W → G x W → w.heap.size ≤ W.heap.size → (∀ e ∈ es, 0 ≤ e.1 ∧ e.1 < need.length) →
   Calls Try.prog 51 #[.pointer (some ⟨p, 0, none⟩), .int .i64 (tick : Int), .slice R row.length rc] W (CBPost g w.heap.size G (x && gs s row tick) W)) :
  Calls Try.prog 50 #[.agg #[.slice A l.length c, .slice B es.length d], .slice D need.length dc, .int .i64 cores, .slice T ts.length tc, .func (Fn.func 51) #[] #[]] w
   (LookPost w0 w need.length (.slice D need.length dc) G (lookR l es need cores ts) (stAt need ts ts.length) (x0 && allG gs need ts ts.length)) := by
 have hsz := hB.size
 have CR := Lib.hid (fun w1 h1 h2 => right_any A c l B d es D dc need cores w1 h1 hn hm h2 hnl)
 have HGR := Lib.hid hgr
 have HD := Lib.hid hD
 have HT := Lib.hid hT
 have HCB := Lib.hid CB
 have HLG := Lib.hid hG
 have HX := Lib.hid hx
 have HB := Lib.hid hB
 clear hgr hD hT CB hG hx hB
 by_cases hz : checkL l es = 0
 ·have hr : rightR l es need cores = rightB l need cores := by unfold rightR; rw [hz]; rfl
  have HLR : Hid (formB l need cores ts = false → lookR l es need cores ts = 100) := fun h => by unfold lookR; rw [if_neg (by rw [hz]; simp), if_pos h]
  have HLM : Hid (formB l need cores ts = true → lookR l es need cores ts = lookE es need ts) := fun h => by unfold lookR; rw [if_neg (by rw [hz]; simp), if_neg (by rw [h]; simp)]
  unfold RightPost at CR
  rw [hr, hz] at CR
  have HZ := Lib.hid hz
  clear hr hz
  cases hrb : rightB l need cores with
  | false =>
   rw [HLR.out (by rw [form_longB, hrb]; rfl)]
   rw [hrb] at CR
   clear hrb HLM HLR
   go_enter Try.func50, Try.ntmps50
   go_wp2_with fail
   go_step3
   go_wp2_with fail
   obtain ⟨hp0, hp1, hp2, hp3⟩ := boxes_at w A l.length c B es.length d cores 25 3
   have HP0 := Lib.hid hp0
   clear hp0
   generalize (w.alloc (.cells #[.slice A l.length c, .slice B es.length d] 25)).alloc (.cells #[.int .i64 cores] 3) = W0 at *
   refine (CR.out _ (HGR.out.below (HB.out.trans (HP0.out.mono hsz))) (ReadsInt.below HD.out (HB.out.trans (HP0.out.mono hsz)))).mono ?_
   rintro e w1 ⟨rfl, hb⟩
   have HP1 := Lib.hid (HP0.out.trans (hb.mono HP0.out.size))
   have hq1 := (hb.cell (block_lt_of_cell hp1)).trans hp1
   have hq2 := (hb.cell (block_lt_of_cell hp2)).trans hp2
   have hq3 := (hb.cell (block_lt_of_cell hp3)).trans hp3
   clear hp1 hp2 hp3 hb HP0
   go_wp2_with fail
   rw [Exit.noGoto_ret]
   go_ret2
   exact look_err HB.out HP1.out HX.out HLG.out hsz (by decide)
  | true =>
   rw [hrb] at CR
   by_cases hl4 : ts.length ≤ 4096
   ·have HT1 : TrR w0 T ts := HT.out
    have CT := Lib.hid (fun p w1 h1 h2 => contT_any T tc ts p cores w1 h1 hts h2)
    cases hlo : ts.any (longB cores) with
    | true =>
     rw [HLR.out (by rw [form_longB, hlo]; simp)]
     rw [hlo] at CT
     have hl4' : (ts.length : Int) ≤ 4096 := by omega
     clear hrb hlo HLM HLR hl4 HT1
     go_enter Try.func50, Try.ntmps50
     go_wp2_with fail
     go_step3
     go_wp2_with fail
     obtain ⟨hp0, hp1, hp2, hp3⟩ := boxes_at w A l.length c B es.length d cores 25 3
     have HP0 := Lib.hid hp0
     clear hp0
     generalize (w.alloc (.cells #[.slice A l.length c, .slice B es.length d] 25)).alloc (.cells #[.int .i64 cores] 3) = W0 at *
     refine (CR.out _ (HGR.out.below (HB.out.trans (HP0.out.mono hsz))) (ReadsInt.below HD.out (HB.out.trans (HP0.out.mono hsz)))).mono ?_
     rintro e w1 ⟨rfl, hb⟩
     have HP1 := Lib.hid (HP0.out.trans (hb.mono HP0.out.size))
     have hq1 := (hb.cell (block_lt_of_cell hp1)).trans hp1
     have hq2 := (hb.cell (block_lt_of_cell hp2)).trans hp2
     have hq3 := (hb.cell (block_lt_of_cell hp3)).trans hp3
     clear hp1 hp2 hp3 hb HP0
     go_wp2_with fail
     refine (CT.out _ _ (HT.out.below (HB.out.trans (HP1.out.mono hsz))) hq3).mono ?_
     rintro e w2 ⟨rfl, rfl⟩
     go_wp2_with fail
     rw [Exit.noGoto_ret]
     go_ret2
     exact look_err HB.out HP1.out HX.out HLG.out hsz (by decide)
    | false =>
     rw [HLM.out (by rw [form_longB, hrb, hlo]; simp [hl4])]
     rw [hlo] at CT
     have hl4' : (ts.length : Int) ≤ 4096 := by omega
     have HIN : Hid (∀ e ∈ es, 0 ≤ e.1 ∧ e.1 < need.length) := look_in HZ.out hrb
     have HC8 := Lib.hid (right_cores hrb)
     have HRL := Lib.hid (rows_len hlo)
     clear hrb hlo HLM HLR hl4 HT1
     go_enter Try.func50, Try.ntmps50
     go_wp2_with fail
     go_step3
     go_wp2_with fail
     obtain ⟨hp0, hp1, hp2, hp3⟩ := boxes_at w A l.length c B es.length d cores 25 3
     have HP0 := Lib.hid hp0
     clear hp0
     generalize (w.alloc (.cells #[.slice A l.length c, .slice B es.length d] 25)).alloc (.cells #[.int .i64 cores] 3) = W0 at *
     refine (CR.out _ (HGR.out.below (HB.out.trans (HP0.out.mono hsz))) (ReadsInt.below HD.out (HB.out.trans (HP0.out.mono hsz)))).mono ?_
     rintro e w1 ⟨rfl, hb⟩
     have HP1 := Lib.hid (HP0.out.trans (hb.mono HP0.out.size))
     have hq1 := (hb.cell (block_lt_of_cell hp1)).trans hp1
     have hq2 := (hb.cell (block_lt_of_cell hp2)).trans hp2
     have hq3 := (hb.cell (block_lt_of_cell hp3)).trans hp3
     clear hp1 hp2 hp3 hb HP0
     go_wp2_with fail
     refine (CT.out _ _ (HT.out.below (HB.out.trans (HP1.out.mono hsz))) hq3).mono ?_
     rintro e w2 ⟨rfl, rfl⟩
     clear CT CR
     go_wp2_with fail
     refine (begin_any D dc need _ hnl).mono ?_
     rintro e w3 ⟨v, rfl, p, r, q, f, rfl, hs, hpb, hb⟩
     have HL0 := Lib.hid (look_start (x := x0) HB.out HP1.out HX.out HLG.out hsz hq1 hq2 (block_lt_of_cell hq3) hs hpb hb)
     clear hs hpb hb hq1 hq2 hq3 HP1 HX HB
     go_wp2_with fail
     go_step3
     go_wp2_with fail
     go_loopg [13, 49] ts.length (fun g1 ev iv wr => ∃ k : Nat, ev = .int .i64 0 ∧ iv = .int .i64 k ∧ k + g1 = ts.length ∧ Hid (LK w0 w A l.length c B es.length d w.heap.size p r q f need.length (.slice D need.length dc) G (x0 && allG gs need ts k) (stAt need ts k) wr) ∧ Hid (∀ j, j < k → rowErr es need ts j = 0))
     case atStart => exact ⟨0, rfl, rfl, by omega, look_zero HL0, by show ∀ j, j < 0 → _; omega⟩
     case round =>
      clear HL0
      obtain ⟨k, rfl, rfl, hk, HL, HN⟩ := hrel
      cases gk with
      | zero =>
       obtain rfl : k = ts.length := by omega
       have HE := Lib.hid (lookE_none (es := es) (need := need) HN.out)
       clear HN
       go_wp2_with fail
       rw [Exit.noGoto_ret]
       go_ret2
       rw [HE.out]
       exact look_ok HL.out
      | succ g1 =>
       have hlt : (k : Int) < (ts.length : Int) := by omega
       obtain ⟨ta, hta, hcs⟩ := (HT.out.below HL.out.fr) (by omega)
       subst hta
       obtain ⟨R, rc, hrc, hrl, -⟩ := hcs k (by omega)
       have hr8 : (ts.getD k []).length ≤ 8 := by have := HRL.out (ts.getD k []) (mem_getDL (by omega)); have := HC8.out; omega
       have HRR : Hid (∀ W, Below w0.heap.size w0 W → ReadsInt W .i64 R (ts.getD k []).length (ts.getD k [])) := by
        show ∀ W, _
        intro W hW
        obtain ⟨ta', e', hcs'⟩ := HT.out (by omega)
        cases e'
        obtain ⟨R', rc', k1, k2, k3⟩ := hcs' k (by omega)
        have := (HL.out.fr.cell (block_lt_of_cell k1)).trans k1
        rw [hrc] at this
        cases this
        exact k3.below hW
       have hr0 : 0 < (ts.getD k []).length := by have := HRL.out (ts.getD k []) (mem_getDL (by omega)); have := HC8.out; omega
       obtain ⟨ra, hra, -⟩ := (HRR.out _ HL.out.fr).2.2 hr0
       subst hra
       have HRB := Lib.hid (fun c2 (hc2 : c2 ≤ 8) => look_ranb (need := need) (l := l) (ts := ts) (k := k) (by omega) HRL.out HC8.out c2 hc2)
       have HN2 := Lib.hid (fun (h : rowErr es need ts k = 0) j (hj : j < k + 1) => (show rowErr es need ts j = 0 from if e : j = k then by rw [e]; exact h else HN.out j (by omega)))
       have HBR := Lib.hid (fun (h : rowErr es need ts k ≠ 0) => lookE_some (by omega) HN.out h)
       have HNX : Hid (stAt need ts (k + 1) = partRow need (stAt need ts k) (ts.getD k []) k (ts.getD k []).length) := rfl
       have HAG : Hid ((x0 && allG gs need ts (k + 1)) = ((x0 && allG gs need ts k) && gs (stAt need ts k) (ts.getD k []) k)) := by show _ = _; rw [allG_next, Bool.and_assoc]
       have HRA : Hid (rowErr es need ts k = rowE es need (stAt need ts k) (ts.getD k []) k) := rfl
       have htk : (k : Int) ≤ 5000 := by omega
       generalize stAt need ts k = s at *
       generalize ts.getD k [] = row at *
       generalize (x0 && allG gs need ts k) = xk at *
       clear hcs HN
       go_wp2_with fail
       go_loopg [13, 56] row.length (fun g2 ev iv wr => ∃ c2 : Nat, ev = .int .i64 0 ∧ iv = .int .i64 c2 ∧ c2 + g2 = row.length ∧ Hid (LK w0 w A l.length c B es.length d w.heap.size p r q f need.length (.slice D need.length dc) G (xk) (s) wr) ∧ Hid (∀ j, j < c2 → badC es need s row k j = false))
       case atStart => exact ⟨0, rfl, rfl, by omega, HL, by show ∀ j, j < 0 → _; omega⟩
       case round =>
        clear HL hrc
        obtain ⟨c2, rfl, rfl, hc2, HL, HBD⟩ := hrel
        cases gk with
        | zero =>
         obtain rfl : c2 = row.length := by omega
         have HE0 : Hid (rowE es need s row k = 0) := rowE_none HBD.out
         clear HBD HBR
         go_wp2_with fail
         refine (HCB.out _ s k (some ra) rc row xk p r q f HL.out.sn (by have := HL.out.bb; omega) HRR.out hr8 (by omega) HL.out.fr HL.out.gg HL.out.hs HIN.out).mono ?_
         rintro e w5 ⟨rfl, hkb, hgx⟩
         have HL5 := Lib.hid (HL.out.kb hkb hgx hg hsz)
         clear hkb hgx HL
         go_wp2_with fail
         go_loopg [79] row.length (fun g3 iv wr => ∃ c3 : Nat, iv = .int .i64 c3 ∧ c3 + g3 = row.length ∧ Hid (LK w0 w A l.length c B es.length d w.heap.size p r q f need.length (.slice D need.length dc) G (xk && gs s row k) (partRow need s row k c3) wr))
         case atStart => exact ⟨0, rfl, by omega, HL5⟩
         case round =>
          clear HL5
          obtain ⟨c3, rfl, hc3, HL⟩ := hrel
          cases gk with
          | zero =>
           obtain rfl : c3 = row.length := by omega
           go_wp2_with fail
           go_roundg g1
           case rel => exact ⟨k + 1, rfl, by go_num, by omega, by rw [HAG.out, HNX.out]; exact HL, HN2.out (HRA.out.trans HE0.out)⟩
           case measure => omega
          | succ g3 =>
           have hlt3 : (c3 : Int) < (row.length : Int) := by omega
           obtain ⟨ra', hra, hrcs⟩ := (HRR.out _ HL.out.fr).2.2 (by omega)
           cases hra
           have hrx := hrcs c3 (by omega)
           have HPN := Lib.hid (partRow_next need s row k c3)
           have HRN := Lib.hid (HRB.out c3 (by omega))
           clear hrcs
           by_cases hx1 : row.getD c3 0 = -1
           ·have HPX : Hid (partRow need s row k (c3 + 1) = partRow need s row k c3) := by show _ = _; rw [HPN.out]; unfold runC; rw [if_pos hx1]
            rw [hx1] at hrx
            clear hx1 HPN
            go_wp2_with fail
            go_roundg g3
            case rel => exact ⟨c3 + 1, by go_num, by omega, by rw [HPX.out]; exact HL⟩
            case measure => omega
           ·have hin := one_in (bad_not (rowE_zero HE0.out c3 (by omega)) hx1)
            obtain ⟨i, hi⟩ : ∃ i : Nat, row.getD c3 0 = (i : Int) := ⟨(row.getD c3 0).toNat, by omega⟩
            have HPX : Hid (partRow need s row k (c3 + 1) = runS need (partRow need s row k c3) i k c3) := by show _ = _; rw [HPN.out]; unfold runC; rw [if_neg hx1, hi]
            rw [hi] at hrx hin
            have hix : ¬ ((i : Int) = -1) := by omega
            have hir : 0 ≤ (partRow need s row k c3).ran.getD i 0 ∧ (partRow need s row k c3).ran.getD i 0 ≤ 100000 := ⟨(HRN.out i).1, by have := (HRN.out i).2; omega⟩
            have HIR := Lib.hid hir
            clear hx1 HPN hi hir
            go_wp2_with fail
            refine (run_any p r q f need D dc (partRow need s row k c3) i k c3 _ HL.out.sn (ReadsInt.below HD.out HL.out.fr) (by omega) (look_apart HD.out (by omega) HL.out.bb hsz) (by omega) HIR.out).mono ?_
            rintro e w6 ⟨rfl, hsn, ht⟩
            have HL6 := Lib.hid (HL.out.three ht hsn HLG.out hsz)
            clear hsn ht hrx
            go_wp2_with fail
            go_roundg g3
            case rel => exact ⟨c3 + 1, by go_num, by omega, by rw [HPX.out]; exact HL6⟩
            case measure => omega
        | succ g2 =>
         have hlt2 : (c2 : Int) < (row.length : Int) := by omega
         obtain ⟨ra', hra, hrcs⟩ := (HRR.out _ HL.out.fr).2.2 (by omega)
         cases hra
         have hrx := hrcs c2 (by omega)
         obtain ⟨hx0, hx1b⟩ := And.intro HL.out.b0 HL.out.b1
         have HBD2 := Lib.hid (fun (h : badC es need s row k c2 = false) j (hj : j < c2 + 1) => (show badC es need s row k j = false from if e : j = c2 then by rw [e]; exact h else HBD.out j (by omega)))
         clear hrcs
         by_cases hx1 : row.getD c2 0 = -1
         ·have HBX := Lib.hid (HBD2.out (bad_idle hx1))
          rw [hx1] at hrx
          clear hx1 HBD2 HBD
          go_wp2_with fail
          go_roundg g2
          case rel => exact ⟨c2 + 1, rfl, by go_num, by omega, HL, HBX⟩
          case measure => omega
         ·have hxb : (row.getD c2 0 == -1) = false := by simpa using hx1
          have COne := Lib.hid (fun W (h : LK w0 w A l.length c B es.length d w.heap.size p r q f need.length (.slice D need.length dc) G xk s W) => one_any p r q f need D dc s A l.length c B d es (some ra) rc row k c2 W h.sn (ReadsInt.below HD.out h.fr) (HGR.out.2.2.below h.fr) hm HIN.out (HRR.out _ h.fr) hrl (by omega) (by omega) hnl hx1 (by omega) (fun i => (HRB.out 0 (by omega) i).1))
          by_cases h1 : oneE es need s row k c2 = 0
          ·have HBX := Lib.hid (HBD2.out (bad_zero h1))
           rw [h1] at COne
           clear hx1 HBD2 HBD h1
           generalize row.getD c2 0 = xv at *
           go_wp2_with fail
           refine (COne.out _ HL.out).mono ?_
           rintro e w4 ⟨rfl, hb⟩
           have HL4 := Lib.hid (HL.out.below hb HLG.out hsz)
           clear hb hx0 hx1b hrx HL
           go_wp2_with fail
           go_roundg g2
           case rel => exact ⟨c2 + 1, rfl, by go_num, by omega, HL4, HBX⟩
           case measure => omega
          ·have HE1 : Hid (lookE es need ts = oneE es need s row k c2) := look_bad HRA.out HBR.out (rowE_some (by omega) HBD.out (bad_yes hx1 h1)) h1
           have h1b : (oneE es need s row k c2 != 0) = true := by simpa using h1
           have H1 := Lib.hid h1
           clear hx1 HBD2 HBD h1
           generalize oneE es need s row k c2 = er at *
           generalize row.getD c2 0 = xv at *
           go_wp2_with fail
           refine (COne.out _ HL.out).mono ?_
           rintro e w4 ⟨rfl, hb⟩
           have HL4 := Lib.hid (HL.out.below hb HLG.out hsz)
           clear hb hx0 hx1b hrx HL
           go_wp2_with fail
           rw [Exit.noGoto_ret]
           go_ret2
           rw [HE1.out]
           exact look_stop HL4.out H1.out
   ·rw [HLR.out (by rw [form_longB]; simp [hl4])]
    have hl4' : (4096 : Int) < (ts.length : Int) := by omega
    clear hrb HLM HLR hl4
    go_enter Try.func50, Try.ntmps50
    go_wp2_with fail
    go_step3
    go_wp2_with fail
    obtain ⟨hp0, hp1, hp2, hp3⟩ := boxes_at w A l.length c B es.length d cores 25 3
    have HP0 := Lib.hid hp0
    clear hp0
    generalize (w.alloc (.cells #[.slice A l.length c, .slice B es.length d] 25)).alloc (.cells #[.int .i64 cores] 3) = W0 at *
    refine (CR.out _ (HGR.out.below (HB.out.trans (HP0.out.mono hsz))) (ReadsInt.below HD.out (HB.out.trans (HP0.out.mono hsz)))).mono ?_
    rintro e w1 ⟨rfl, hb⟩
    have HP1 := Lib.hid (HP0.out.trans (hb.mono HP0.out.size))
    have hq1 := (hb.cell (block_lt_of_cell hp1)).trans hp1
    have hq2 := (hb.cell (block_lt_of_cell hp2)).trans hp2
    have hq3 := (hb.cell (block_lt_of_cell hp3)).trans hp3
    clear hp1 hp2 hp3 hb HP0
    go_wp2_with fail
    rw [Exit.noGoto_ret]
    go_ret2
    exact look_err HB.out HP1.out HX.out HLG.out hsz (by decide)
 ·have HR : Hid (lookR l es need cores ts = checkL l es) := by show _ = _; unfold lookR; rw [if_pos hz]
  have hr : rightR l es need cores = false := by unfold rightR; rw [decide_eq_false hz]; rfl
  have hzb : (checkL l es != 0) = true := by simpa using hz
  unfold RightPost at CR
  rw [hr] at CR
  have HZ := Lib.hid hz
  clear hr hz
  rw [HR.out]
  generalize checkL l es = z at *
  go_enter Try.func50, Try.ntmps50
  go_wp2_with fail
  go_step3
  go_wp2_with fail
  obtain ⟨hp0, hp1, hp2, hp3⟩ := boxes_at w A l.length c B es.length d cores 25 3
  have HP0 := Lib.hid hp0
  clear hp0
  generalize (w.alloc (.cells #[.slice A l.length c, .slice B es.length d] 25)).alloc (.cells #[.int .i64 cores] 3) = W0 at *
  refine (CR.out _ (HGR.out.below (HB.out.trans (HP0.out.mono hsz))) (ReadsInt.below HD.out (HB.out.trans (HP0.out.mono hsz)))).mono ?_
  rintro e w1 ⟨rfl, hb⟩
  have HP1 := Lib.hid (HP0.out.trans (hb.mono HP0.out.size))
  have hq1 := (hb.cell (block_lt_of_cell hp1)).trans hp1
  have hq2 := (hb.cell (block_lt_of_cell hp2)).trans hp2
  have hq3 := (hb.cell (block_lt_of_cell hp3)).trans hp3
  clear hp1 hp2 hp3 hb HP0
  go_wp2_with fail
  rw [Exit.noGoto_ret]
  go_ret2
  exact look_err HB.out HP1.out HX.out HLG.out hsz HZ.out
end Go.Proofs.Ytmbhjhanafmidaa

set_option linter.unusedVariables false
set_option linter.unusedSimpArgs false
namespace Go.Proofs.Ytmbhjhanafmidaa
open Go.RowKit Go.Sort
open DagPlain SchPlain
open Go.Proofs.YtmbhjhanafmidaaW.PrintWords
theorem none_any (a b c : Value) (w : World) : Calls Try.prog 51 #[a, b, c] w fun e w' => e = .returned (.tuple #[]) ∧ w = w' := by
 go_enter Try.func51, Try.ntmps51
 go_wp2_with fail
 go_end0
 exact ⟨rfl, rfl⟩
def SI (w : World) (A : Option Addr) (c : Nat) (l : List Int) (B : Option Addr) (d : Nat) (es : List (Int × Int)) (D : Option Addr) (dc : Nat) (need : List Int) (T : Option Addr) (tc : Nat) (ts : List (List Int)) : Prop :=
 GR w A c l B d es ∧ (l.length ≤ 1000 ∧ es.length ≤ 1000) ∧ ReadsInt w .i64 D need.length need ∧ need.length ≤ 1000 ∧ TrR w T ts ∧ ts.length ≤ 5000
theorem lookN (w : World) (A : Option Addr) (c : Nat) (l : List Int) (B : Option Addr) (d : Nat) (es : List (Int × Int)) (D : Option Addr) (dc : Nat) (need : List Int) (cores : Int) (T : Option Addr) (tc : Nat) (ts : List (List Int)) (o : Obj) (h : SI w A c l B d es D dc need T tc ts) :
  Calls Try.prog 50 #[.agg #[.slice A l.length c, .slice B es.length d], .slice D need.length dc, .int .i64 cores, .slice T ts.length tc, .func (Fn.func 51) #[] #[]] (w.alloc o)
   (LookPost w (w.alloc o) need.length (.slice D need.length dc) (fun _ _ => True) (lookR l es need cores ts) (stAt need ts ts.length) (true && allG (fun _ _ _ => true) need ts ts.length)) := by
 obtain ⟨h1, ⟨h2, h3⟩, h4, h5, h6, h7⟩ := h
 refine lookN_any (fun _ _ _ => true) (fun _ _ => True) w.heap.size w (w.alloc o) A c l B d es D dc need cores T tc ts true (fun _ _ _ _ _ => trivial) trivial ⟨Nat.le_refl _, by simp⟩ (below_alloc _ _) h1 h2 h3 h4 h5 h6 h7 ?_
 intro W s tick R rc row x p r q f _ _ _ _ _ _ _ _ _
 refine (none_any _ _ _ W).mono ?_
 rintro e W' ⟨rfl, rfl⟩
 exact ⟨rfl, KB.of_below (Below.refl _ _), trivial⟩
set_option maxHeartbeats 1000000 in
theorem sCheck_any (A : Option Addr) (c : Nat) (l : List Int) (B : Option Addr) (d : Nat) (es : List (Int × Int)) (D : Option Addr) (dc : Nat) (need : List Int) (cores : Int) (T : Option Addr) (tc : Nat) (ts : List (List Int)) (w : World) (h : SI w A c l B d es D dc need T tc ts) :
  Calls Try.prog 34 #[.agg #[.slice A l.length c, .slice B es.length d], .slice D need.length dc, .int .i64 cores, .slice T ts.length tc] w fun e w' => e = .returned (.int .i64 (lookR l es need cores ts)) ∧ Below w.heap.size w w' := by
 have C := Lib.hid (fun o => lookN w A c l B d es D dc need cores T tc ts o h)
 clear h
 generalize lookR l es need cores ts = er at *
 go_enter Try.func34, Try.ntmps34
 go_wp2_with fail
 refine (C.out _).mono ?_
 rintro e w1 ⟨v, rfl, hb, -, -⟩
 have HB := Lib.hid hb
 clear hb
 go_wp2_with fail
 go_ret
 exact ⟨rfl, HB.out⟩
end Go.Proofs.Ytmbhjhanafmidaa

set_option linter.unusedVariables false
set_option linter.unusedSimpArgs false
namespace Go.Proofs.Ytmbhjhanafmidaa
open Go.RowKit Go.Sort
open DagPlain SchPlain
open Go.Proofs.YtmbhjhanafmidaaW.PrintWords
section
variable {w0 : World} {low nb db gb : Nat} {A : Option Addr} {n c : Nat} {B : Option Addr} {m d : Nat} {nv : Value} {p r q f N : Nat} {s : Seen} {W : World} {x : Bool} {wr w1 : World}
end
end Go.Proofs.Ytmbhjhanafmidaa

set_option linter.unusedVariables false
set_option linter.unusedSimpArgs false
namespace Go.Proofs.Ytmbhjhanafmidaa
open Go.RowKit Go.Sort
open DagPlain SchPlain
open Go.Proofs.YtmbhjhanafmidaaW.PrintWords
end Go.Proofs.Ytmbhjhanafmidaa

set_option linter.unusedVariables false
set_option linter.unusedSimpArgs false
namespace Go.Proofs.Ytmbhjhanafmidaa
open Go.RowKit Go.Sort
open DagPlain SchPlain
open Go.Proofs.YtmbhjhanafmidaaW.PrintWords
end Go.Proofs.Ytmbhjhanafmidaa

set_option linter.unusedVariables false
set_option linter.unusedSimpArgs false
namespace Go.Proofs.Ytmbhjhanafmidaa
open Go.RowKit Go.Sort
open DagPlain SchPlain
open Go.Proofs.YtmbhjhanafmidaaW.PrintWords
end Go.Proofs.Ytmbhjhanafmidaa

set_option linter.unusedVariables false
set_option linter.unusedSimpArgs false
namespace Go.Proofs.Ytmbhjhanafmidaa
open Go.RowKit Go.Sort
open DagPlain SchPlain
open Go.Proofs.YtmbhjhanafmidaaW.PrintWords
theorem busyRow_next (r : List Int) (k : Nat) (h : k < r.length) : busyRow (r.take (k + 1)) = busyRow (r.take k) + if r.getD k 0 = -1 then 0 else 1 := by
 unfold busyRow
 rw [List.getD_eq_getElem?_getD, List.getElem?_eq_getElem h, List.take_add_one, List.getElem?_eq_getElem h]
 simp only [Option.toList_some, List.filter_append, List.length_append, Option.getD_some]
 by_cases e : r[k] = -1
 ·simp [e]
 ·have : (r[k] != -1) = true := by simpa using e
  simp [this, e]
end Go.Proofs.Ytmbhjhanafmidaa
