/- Texts of this work, put into one. -/
import Derived.Test.YtokhibhmlninnaaGreatDoorRows
import Derived.Test.YtokhibhmlninnaaGreatDoorGMPl
import Derived.WalkKit
import Derived.WalkSpells
import Derived.WalkLawsBesides
import Derived.Handy
import Derived.Lib.Hide
import Derived.Lib.QuietBelow
import Derived.Laws.IdiomStrings
import Derived.OrdersHeld
import Derived.Test.YtokhibhmlninnaaGreatDoorGWWords
import Derived.Lib.AppendStr
import Derived.OwnWalk
import Derived.Deep.DeepMust
namespace Go.Proofs.YtokhibhmlninnaaGreatDoor
open Go.RowKit Go.Sort
theorem setRow_last (w1 : World) (z cs : Array Value) (t : TypeId) (fr : Nat × Nat) : (w1.alloc (.cells z t fr)).setRow w1.heap.size cs = w1.alloc (.cells cs t fr) := by
 have hm : ∀ (a : Array Obj) (x : Obj) (f : Obj → Obj), (a.push x).modify a.size f = a.push (f x) := by
  intro a x f
  apply Array.ext
  ·simp
  ·intro i h1 h2
   simp only [Array.getElem_modify, Array.getElem_push]
   by_cases h : a.size = i
   ·subst h
    simp
   ·have hi : i < a.size := by simp at h1; omega
    simp [h, hi]
 unfold World.setRow
 show ({ w1.alloc (.cells z t fr) with heap := (w1.heap.push (.cells z t fr)).modify w1.heap.size _ } : World) = _
 rw [hm]
 rfl
set_option maxRecDepth 100000
theorem copy_last (w1 : World) (a : Addr) (z : Array Value) (k n c : Nat) (cs : List Value) (hz : z.size = k) (hk : k ≤ n) (hlen : cs.length = k) (h1 : ∀ v ∈ cs, v.oneCell' = true)
  (hsrc : ∀ j v, cs[j]? = some v → (w1.alloc (.cells z 5)).cell? (a.add j) = some v) :
  (Builtin.copy_ #[53, 53] 3 #[.slice (some ⟨w1.heap.size, 0, none⟩) k k, .slice (some a) n c]).run Tryz.prog (w1.alloc (.cells z 5)) =
   .ok (goInt k) (w1.alloc (.cells cs.toArray 5)) := by
 have h := run_copy_row (P := Tryz.prog) (w1.alloc (.cells z 5)) 53 53 3 5 w1.heap.size 0 k k a n c z 5 cs Tryz.underlying53 (by kernel_rfl)
  (by show (w1.heap.push _)[w1.heap.size]? = _; simp) (by rw [hlen]; exact (Nat.min_eq_right hk).symm) hsrc (by rw [hlen]; omega) h1
 rw [hlen] at h
 rw [h]
 congr 1
 have hzl : z.toList.drop k = [] := by rw [List.drop_eq_nil_iff]; simp; omega
 simp only [List.take_zero, List.nil_append, Nat.zero_add, hzl, List.append_nil]
 exact setRow_last w1 z cs.toArray _ _
theorem copy_new (w : World) (A z : Array Value) (tA : TypeId) (k : Nat) (cs : List Value) (hA : A.size = 8) (hz : z.size = k) (hk : k ≤ 8) (hcs : cs = A.toList.take k) (h1 : ∀ v ∈ cs, v.oneCell' = true) :
  (Builtin.copy_ #[53, 53] 3 #[.slice (some ⟨w.heap.size + 1, 0, none⟩) k k, .slice (some ⟨w.heap.size, 0, none⟩) 8 8]).run Tryz.prog ((w.alloc (.cells A tA)).alloc (.cells z 5)) =
   .ok (goInt k) ((w.alloc (.cells A tA)).alloc (.cells cs.toArray 5)) := by
 have hs : (w.alloc (.cells A tA)).heap.size = w.heap.size + 1 := by simp
 have h := copy_last (w.alloc (.cells A tA)) ⟨w.heap.size, 0, none⟩ z k 8 8 cs hz hk (by rw [hcs]; simp; omega) h1 (by
  intro j v hj
  have e : (⟨w.heap.size, 0, none⟩ : Addr).add j = ⟨w.heap.size, j, none⟩ := by simp [Addr.add, eq_comm]
  rw [e, World.cell?_of_block (w := w.alloc (.cells A tA)) (Below.heap_alloc _ _ _ (by simp)), World.cell?_alloc_mark]
  rw [hcs] at hj
  have hj8 : j < k := by
   have := (List.getElem?_eq_some_iff.1 hj).1
   simp at this; omega
  rw [List.getElem?_take_of_lt hj8] at hj
  simpa using hj)
 rw [hs] at h
 exact h
theorem back1 (m : Nat) (w : World) (hm : m < 256) (A : Array Value) (tA : TypeId) :
  (convert 53 9 (.slice (some ⟨w.heap.size + 1, 0, none⟩) 1 1)).run Tryz.prog ((w.alloc (.cells A tA)).alloc (.cells #[.int .u8 ((m : Int))] 5)) =
   .ok (.string ⟨(WirePlain.put m 1).toArray⟩) ((w.alloc (.cells A tA)).alloc (.cells #[.int .u8 ((m : Int))] 5)) := by
 refine run_convert_bytes_back (l := WirePlain.put m 1) _ 53 9 5 _ 1 Tryz.underlying53 Tryz.underlying5 Tryz.underlying9 ?_
 intro j hj
 have hj' : j < 1 := hj
 have e : (⟨w.heap.size + 1, 0, none⟩ : Addr).add j = ⟨(w.alloc (.cells A tA)).heap.size, j, none⟩ := by simp [Addr.add, eq_comm]
 rw [e, World.cell?_alloc_mark]
 match j, hj' with
 | 0, _ => simp [WirePlain.put]; omega
set_option maxHeartbeats 1000000 in
theorem put1 (m : Nat) (w : World) (hm : m < 256) :
  Calls Tryz.prog 81 #[.int .i64 (m : Int), .int .i64 1] w fun e w' => e = .returned (.tuple #[.string ⟨(WirePlain.put m 1).toArray⟩, .int .i64 0]) ∧ Below w.heap.size w w' := by
 have hd : ((m : Int) / 256 != 0) = false := by rw [bne_eq_false_iff_eq]; omega
 have hmk : ∀ w, (Instr.makeSlice 53 (.int .i64 1) (.int .i64 1)).run Tryz.prog w = .ok (.slice (some ⟨w.heap.size, 0, none⟩) 1 1) (w.alloc (.cells #[.int .u8 0] 5)) := fun _ => by kernel_rfl
 have hcp := copy_new w #[.int .u8 ((m : Int)), .int .u8 0, .int .u8 0, .int .u8 0, .int .u8 0, .int .u8 0, .int .u8 0, .int .u8 0] #[.int .u8 0] 171 1 [.int .u8 ((m : Int))] rfl rfl (by omega) rfl (by simp [Value.oneCell'])
 have hbk := back1 m w hm #[.int .u8 ((m : Int)), .int .u8 0, .int .u8 0, .int .u8 0, .int .u8 0, .int .u8 0, .int .u8 0, .int .u8 0] 171
 generalize WirePlain.put m 1 = L at *
 go_enter Tryz.func81, Tryz.ntmps81
 go_wp2
 go_rounds 2
 go_ret2
 exact ⟨rfl, by go_grown⟩
theorem back2 (m : Nat) (w : World) (hm : m < 65536) (A : Array Value) (tA : TypeId) :
  (convert 53 9 (.slice (some ⟨w.heap.size + 1, 0, none⟩) 2 2)).run Tryz.prog ((w.alloc (.cells A tA)).alloc (.cells #[.int .u8 ((m : Int) % 256), .int .u8 ((m : Int) / 256)] 5)) =
   .ok (.string ⟨(WirePlain.put m 2).toArray⟩) ((w.alloc (.cells A tA)).alloc (.cells #[.int .u8 ((m : Int) % 256), .int .u8 ((m : Int) / 256)] 5)) := by
 refine run_convert_bytes_back (l := WirePlain.put m 2) _ 53 9 5 _ 2 Tryz.underlying53 Tryz.underlying5 Tryz.underlying9 ?_
 intro j hj
 have hj' : j < 2 := hj
 have e : (⟨w.heap.size + 1, 0, none⟩ : Addr).add j = ⟨(w.alloc (.cells A tA)).heap.size, j, none⟩ := by simp [Addr.add, eq_comm]
 rw [e, World.cell?_alloc_mark]
 match j, hj' with
 | 0, _ => simp [WirePlain.put]
 | 1, _ => simp [WirePlain.put]; omega
set_option maxHeartbeats 1000000 in
theorem put2 (m : Nat) (w : World) (hm : m < 65536) :
  Calls Tryz.prog 81 #[.int .i64 (m : Int), .int .i64 2] w fun e w' => e = .returned (.tuple #[.string ⟨(WirePlain.put m 2).toArray⟩, .int .i64 0]) ∧ Below w.heap.size w w' := by
 have hd : ((m : Int) / 65536 != 0) = false := by rw [bne_eq_false_iff_eq]; omega
 have hmk : ∀ w, (Instr.makeSlice 53 (.int .i64 2) (.int .i64 2)).run Tryz.prog w = .ok (.slice (some ⟨w.heap.size, 0, none⟩) 2 2) (w.alloc (.cells #[.int .u8 0, .int .u8 0] 5)) := fun _ => by kernel_rfl
 have hcp := copy_new w #[.int .u8 ((m : Int) % 256), .int .u8 ((m : Int) / 256), .int .u8 0, .int .u8 0, .int .u8 0, .int .u8 0, .int .u8 0, .int .u8 0] #[.int .u8 0, .int .u8 0] 171 2 [.int .u8 ((m : Int) % 256), .int .u8 ((m : Int) / 256)] rfl rfl (by omega) rfl (by simp [Value.oneCell'])
 have hbk := back2 m w hm #[.int .u8 ((m : Int) % 256), .int .u8 ((m : Int) / 256), .int .u8 0, .int .u8 0, .int .u8 0, .int .u8 0, .int .u8 0, .int .u8 0] 171
 generalize WirePlain.put m 2 = L at *
 go_enter Tryz.func81, Tryz.ntmps81
 go_wp2
 go_rounds 3
 go_ret2
 exact ⟨rfl, by go_grown⟩
theorem back4 (m : Nat) (w : World) (hm : m < 4294967296) (A : Array Value) (tA : TypeId) :
  (convert 53 9 (.slice (some ⟨w.heap.size + 1, 0, none⟩) 4 4)).run Tryz.prog ((w.alloc (.cells A tA)).alloc (.cells #[.int .u8 ((m : Int) % 256), .int .u8 ((m : Int) / 256 % 256), .int .u8 ((m : Int) / 65536 % 256), .int .u8 ((m : Int) / 16777216)] 5)) =
   .ok (.string ⟨(WirePlain.put m 4).toArray⟩) ((w.alloc (.cells A tA)).alloc (.cells #[.int .u8 ((m : Int) % 256), .int .u8 ((m : Int) / 256 % 256), .int .u8 ((m : Int) / 65536 % 256), .int .u8 ((m : Int) / 16777216)] 5)) := by
 refine run_convert_bytes_back (l := WirePlain.put m 4) _ 53 9 5 _ 4 Tryz.underlying53 Tryz.underlying5 Tryz.underlying9 ?_
 intro j hj
 have hj' : j < 4 := hj
 have e : (⟨w.heap.size + 1, 0, none⟩ : Addr).add j = ⟨(w.alloc (.cells A tA)).heap.size, j, none⟩ := by simp [Addr.add, eq_comm]
 rw [e, World.cell?_alloc_mark]
 match j, hj' with
 | 0, _ => simp [WirePlain.put]
 | 1, _ => simp [WirePlain.put]
 | 2, _ => simp [WirePlain.put, Nat.div_div_eq_div_mul]
 | 3, _ => simp [WirePlain.put, Nat.div_div_eq_div_mul]; omega
set_option maxHeartbeats 1000000 in
theorem put4 (m : Nat) (w : World) (hm : m < 4294967296) :
  Calls Tryz.prog 81 #[.int .i64 (m : Int), .int .i64 4] w fun e w' => e = .returned (.tuple #[.string ⟨(WirePlain.put m 4).toArray⟩, .int .i64 0]) ∧ Below w.heap.size w w' := by
 have hd : ((m : Int) / 4294967296 != 0) = false := by rw [bne_eq_false_iff_eq]; omega
 have hmk : ∀ w, (Instr.makeSlice 53 (.int .i64 4) (.int .i64 4)).run Tryz.prog w = .ok (.slice (some ⟨w.heap.size, 0, none⟩) 4 4) (w.alloc (.cells #[.int .u8 0, .int .u8 0, .int .u8 0, .int .u8 0] 5)) := fun _ => by kernel_rfl
 have hcp := copy_new w #[.int .u8 ((m : Int) % 256), .int .u8 ((m : Int) / 256 % 256), .int .u8 ((m : Int) / 65536 % 256), .int .u8 ((m : Int) / 16777216), .int .u8 0, .int .u8 0, .int .u8 0, .int .u8 0] #[.int .u8 0, .int .u8 0, .int .u8 0, .int .u8 0] 171 4 [.int .u8 ((m : Int) % 256), .int .u8 ((m : Int) / 256 % 256), .int .u8 ((m : Int) / 65536 % 256), .int .u8 ((m : Int) / 16777216)] rfl rfl (by omega) rfl (by simp [Value.oneCell'])
 have hbk := back4 m w hm #[.int .u8 ((m : Int) % 256), .int .u8 ((m : Int) / 256 % 256), .int .u8 ((m : Int) / 65536 % 256), .int .u8 ((m : Int) / 16777216), .int .u8 0, .int .u8 0, .int .u8 0, .int .u8 0] 171
 generalize WirePlain.put m 4 = L at *
 go_enter Tryz.func81, Tryz.ntmps81
 go_wp2
 go_rounds 5
 go_ret2
 exact ⟨rfl, by go_grown⟩
theorem back8 (m : Nat) (w : World) (hm : m < 9223372036854775808) (A : Array Value) (tA : TypeId) :
  (convert 53 9 (.slice (some ⟨w.heap.size + 1, 0, none⟩) 8 8)).run Tryz.prog ((w.alloc (.cells A tA)).alloc (.cells #[.int .u8 ((m : Int) % 256), .int .u8 ((m : Int) / 256 % 256), .int .u8 ((m : Int) / 65536 % 256), .int .u8 ((m : Int) / 16777216 % 256), .int .u8 ((m : Int) / 4294967296 % 256), .int .u8 ((m : Int) / 1099511627776 % 256), .int .u8 ((m : Int) / 281474976710656 % 256), .int .u8 ((m : Int) / 72057594037927936)] 5)) =
   .ok (.string ⟨(WirePlain.put m 8).toArray⟩) ((w.alloc (.cells A tA)).alloc (.cells #[.int .u8 ((m : Int) % 256), .int .u8 ((m : Int) / 256 % 256), .int .u8 ((m : Int) / 65536 % 256), .int .u8 ((m : Int) / 16777216 % 256), .int .u8 ((m : Int) / 4294967296 % 256), .int .u8 ((m : Int) / 1099511627776 % 256), .int .u8 ((m : Int) / 281474976710656 % 256), .int .u8 ((m : Int) / 72057594037927936)] 5)) := by
 refine run_convert_bytes_back (l := WirePlain.put m 8) _ 53 9 5 _ 8 Tryz.underlying53 Tryz.underlying5 Tryz.underlying9 ?_
 intro j hj
 have hj' : j < 8 := hj
 have e : (⟨w.heap.size + 1, 0, none⟩ : Addr).add j = ⟨(w.alloc (.cells A tA)).heap.size, j, none⟩ := by simp [Addr.add, eq_comm]
 rw [e, World.cell?_alloc_mark]
 match j, hj' with
 | 0, _ => simp [WirePlain.put]
 | 1, _ => simp [WirePlain.put]
 | 2, _ => simp [WirePlain.put, Nat.div_div_eq_div_mul]
 | 3, _ => simp [WirePlain.put, Nat.div_div_eq_div_mul]
 | 4, _ => simp [WirePlain.put, Nat.div_div_eq_div_mul]
 | 5, _ => simp [WirePlain.put, Nat.div_div_eq_div_mul]
 | 6, _ => simp [WirePlain.put, Nat.div_div_eq_div_mul]
 | 7, _ => simp [WirePlain.put, Nat.div_div_eq_div_mul]; omega
set_option maxHeartbeats 1000000 in
theorem put8 (m : Nat) (w : World) (hm : m < 9223372036854775808) :
  Calls Tryz.prog 81 #[.int .i64 (m : Int), .int .i64 8] w fun e w' => e = .returned (.tuple #[.string ⟨(WirePlain.put m 8).toArray⟩, .int .i64 0]) ∧ Below w.heap.size w w' := by
 have hmk : ∀ w, (Instr.makeSlice 53 (.int .i64 8) (.int .i64 8)).run Tryz.prog w = .ok (.slice (some ⟨w.heap.size, 0, none⟩) 8 8) (w.alloc (.cells #[.int .u8 0, .int .u8 0, .int .u8 0, .int .u8 0, .int .u8 0, .int .u8 0, .int .u8 0, .int .u8 0] 5)) := fun _ => by kernel_rfl
 have hcp := copy_new w #[.int .u8 ((m : Int) % 256), .int .u8 ((m : Int) / 256 % 256), .int .u8 ((m : Int) / 65536 % 256), .int .u8 ((m : Int) / 16777216 % 256), .int .u8 ((m : Int) / 4294967296 % 256), .int .u8 ((m : Int) / 1099511627776 % 256), .int .u8 ((m : Int) / 281474976710656 % 256), .int .u8 ((m : Int) / 72057594037927936)] #[.int .u8 0, .int .u8 0, .int .u8 0, .int .u8 0, .int .u8 0, .int .u8 0, .int .u8 0, .int .u8 0] 171 8 [.int .u8 ((m : Int) % 256), .int .u8 ((m : Int) / 256 % 256), .int .u8 ((m : Int) / 65536 % 256), .int .u8 ((m : Int) / 16777216 % 256), .int .u8 ((m : Int) / 4294967296 % 256), .int .u8 ((m : Int) / 1099511627776 % 256), .int .u8 ((m : Int) / 281474976710656 % 256), .int .u8 ((m : Int) / 72057594037927936)] rfl rfl (by omega) rfl (by simp [Value.oneCell'])
 have hbk := back8 m w hm #[.int .u8 ((m : Int) % 256), .int .u8 ((m : Int) / 256 % 256), .int .u8 ((m : Int) / 65536 % 256), .int .u8 ((m : Int) / 16777216 % 256), .int .u8 ((m : Int) / 4294967296 % 256), .int .u8 ((m : Int) / 1099511627776 % 256), .int .u8 ((m : Int) / 281474976710656 % 256), .int .u8 ((m : Int) / 72057594037927936)] 171
 generalize WirePlain.put m 8 = L at *
 go_enter Tryz.func81, Tryz.ntmps81
 go_wp2
 go_rounds 9
 go_ret2
 exact ⟨rfl, by go_grown⟩
end Go.Proofs.YtokhibhmlninnaaGreatDoor

set_option maxRecDepth 100000
namespace Go.Proofs.YtokhibhmlninnaaGreatDoor
open Go.RowKit Go.Sort
open WirePlain
set_option maxHeartbeats 400000 in
theorem wide_yes (k : Int) (w : World) (h : Wide k) : Calls Tryz.prog 80 #[.int .i64 k] w fun e w' => e = .returned (.bool true) ∧ w = w' := by
 rcases h with rfl | rfl | rfl | rfl
 all_goals
  go_enter Tryz.func80, Tryz.ntmps80
  go_wp2
  go_ret
  exact ⟨rfl, rfl⟩
set_option maxHeartbeats 400000 in
theorem wide_no (k : Int) (w : World) (h : ¬ Wide k) : Calls Tryz.prog 80 #[.int .i64 k] w fun e w' => e = .returned (.bool false) ∧ w = w' := by
 unfold Wide at h
 have h1 : (k == 1) = false := by rw [beq_eq_false_iff_ne]; omega
 have h2 : (k == 2) = false := by rw [beq_eq_false_iff_ne]; omega
 have h3 : (k == 4) = false := by rw [beq_eq_false_iff_ne]; omega
 have h4 : (k == 8) = false := by rw [beq_eq_false_iff_ne]; omega
 clear h
 go_enter Tryz.func80, Tryz.ntmps80
 go_wp2
 go_ret
 exact ⟨rfl, rfl⟩
set_option maxHeartbeats 400000 in
theorem there_yes (s : ByteArray) (a m : Int) (w : World) (hs : s.size ≤ maxLen) (h : There s.size a m) : Calls Tryz.prog 106 #[.string s, .int .i64 a, .int .i64 m] w fun e w' => e = .returned (.bool true) ∧ w = w' := by
 obtain ⟨h1, h2, h3, h4⟩ := h
 unfold maxLen at hs
 go_enter Tryz.func106, Tryz.ntmps106
 go_wp2
 go_ret
 exact ⟨by simp, rfl⟩
set_option maxHeartbeats 400000 in
theorem there_no (s : ByteArray) (a m : Int) (w : World) (hs : s.size ≤ maxLen) (h : ¬ There s.size a m) : Calls Tryz.prog 106 #[.string s, .int .i64 a, .int .i64 m] w fun e w' => e = .returned (.bool false) ∧ w = w' := by
 unfold There at h
 unfold maxLen at hs
 have hc : a < 0 ∨ (0 ≤ a ∧ m < 0) ∨ (0 ≤ a ∧ 0 ≤ m ∧ (s.size : Int) < a) ∨ (0 ≤ a ∧ 0 ≤ m ∧ a ≤ (s.size : Int) ∧ (s.size : Int) - a < m) := by omega
 clear h
 rcases hc with h | ⟨h, h'⟩ | ⟨h, h', h''⟩ | ⟨h, h', h'', h3⟩
 all_goals
  go_enter Tryz.func106, Tryz.ntmps106
  go_wp2
  go_ret
  exact ⟨by simp <;> omega, rfl⟩
set_option maxHeartbeats 400000 in
theorem put_any (n k : Int) (w : World) (hn : -9223372036854775808 ≤ n ∧ n ≤ 9223372036854775807) :
  Calls Tryz.prog 81 #[.int .i64 n, .int .i64 k] w fun e w' => e = .returned (.tuple #[.string (putR n k).1, .int .i64 (putR n k).2]) ∧ Below w.heap.size w w' := by
 unfold putR
 by_cases hk : Wide k
 ·rw [if_pos hk]
  by_cases hf : fits n k
  ·rw [if_pos hf]
   obtain ⟨h0, h1⟩ := hf
   obtain ⟨m, rfl⟩ : ∃ m : Nat, n = m := ⟨n.toNat, by omega⟩
   rcases hk with rfl | rfl | rfl | rfl
   ·exact put1 m w (by have := h1 (by decide); simp at this; omega)
   ·exact put2 m w (by have := h1 (by decide); simp at this; omega)
   ·exact put4 m w (by have := h1 (by decide); simp at this; omega)
   ·exact put8 m w (by omega)
  ·rw [if_neg hf]
   unfold fits at hf
   by_cases h0 : n < 0
   ·rcases hk with rfl | rfl | rfl | rfl
    all_goals
     clear hf
     go_enter Tryz.func81, Tryz.ntmps81
     go_wp2
     go_ret2
     exact ⟨rfl, Below.refl _ _⟩
   ·have h0' : 0 ≤ n := by omega
    rcases hk with rfl | rfl | rfl | rfl
    ·have hd : (n / 256 != 0) = true := by rw [bne_iff_ne]; simp at hf; omega
     clear hf h0
     go_enter Tryz.func81, Tryz.ntmps81
     go_wp2
     go_ret2
     exact ⟨rfl, Below.refl _ _⟩
    ·have hd : (n / 65536 != 0) = true := by rw [bne_iff_ne]; simp at hf; omega
     clear hf h0
     go_enter Tryz.func81, Tryz.ntmps81
     go_wp2
     go_ret2
     exact ⟨rfl, Below.refl _ _⟩
    ·have hd : (n / 4294967296 != 0) = true := by rw [bne_iff_ne]; simp at hf; omega
     clear hf h0
     go_enter Tryz.func81, Tryz.ntmps81
     go_wp2
     go_ret2
     exact ⟨rfl, Below.refl _ _⟩
    ·exact absurd ⟨h0', fun h => absurd h (by decide)⟩ hf
 ·rw [if_neg hk]
  have C := Lib.hid (wide_no k w hk)
  clear hk
  go_enter Tryz.func81, Tryz.ntmps81
  go_wp2_with fail
  refine C.out.mono ?_
  rintro e w1 ⟨rfl, rfl⟩
  go_wp2
  go_ret2
  exact ⟨rfl, Below.refl _ _⟩
theorem copy_str (w1 : World) (t : TypeId) (cur : Array Value) (k c : Nat) (S : ByteArray) (hk : k ≤ S.size) (hc : k ≤ cur.size) (cs : List Value) (hcs : cs = (S.data.toList.take k).map fun b => Value.int .u8 (b.toNat : Int)) :
  (Builtin.copy_ #[53, 9] 3 #[.slice (some ⟨w1.heap.size, 0, none⟩) k c, .string S]).run Tryz.prog ((w1.alloc (.cells cur t)).drew) =
   .ok (goInt k) ((w1.alloc (.cells (cs ++ cur.toList.drop k).toArray t)).drew) := by
 have hg : ((w1.alloc (.cells cur t)).drew).heap[w1.heap.size]? = some (.cells cur t (0, 0)) := by show (w1.heap.push _)[w1.heap.size]? = _; simp
 have hlen : cs.length = k := by rw [hcs]; simp; exact Nat.min_eq_left hk
 have hst := run_storeCells_at Tryz.prog w1.heap.size 0 t cs 0 cur _ hg (by rw [hlen]; omega) (by
  intro v hv
  rw [hcs] at hv
  obtain ⟨x, _, rfl⟩ := List.mem_map.1 hv
  rfl)
 rw [hlen] at hst
 simp only [Nat.add_zero, Nat.zero_add, List.take_zero, List.nil_append] at hst
 have hmin : Nat.min S.size k = k := Nat.min_eq_right hk
 have hd : (World.setRow ((w1.alloc (.cells cur t)).drew) w1.heap.size (cs ++ cur.toList.drop k).toArray) = ((w1.alloc (.cells (cs ++ cur.toList.drop k).toArray t)).drew) := by
  have := setRow_last w1 cur (cs ++ cur.toList.drop k).toArray t (0, 0)
  have h2 := congrArg World.drew this
  exact h2
 have he : (Tryz.prog.info? 5).map (·.size) = some 1 := by kernel_rfl
 have hfc : (Builtin.firstCells 1 k (.string S)).run Tryz.prog ((w1.alloc (.cells cur t)).drew) = .ok cs.toArray ((w1.alloc (.cells cur t)).drew) := by
  simp only [Builtin.firstCells]
  have : (S.extract 0 k).data.map (fun b => Value.int .u8 (b.toNat : Int)) = cs.toArray := by
   rw [hcs]
   apply Array.ext'
   simp
  rw [this]; rfl
 clear hcs
 cases hq : Tryz.prog.info? 5 with
 | none => simp [hq] at he
 | some i =>
  have hi : i.size = 1 := by simpa [hq] using he
  simp [Builtin.copy_, run_underlying Tryz.underlying53, Builtin.lenOf, sizeOf, typeInfo, hq, hi, hmin]
  rw [hfc]
  simp only [Result.andThen_ok]
  rw [hst]
  simp only [Result.andThen_ok]
  rw [hd]
theorem or_byte (N c : Nat) (hN : N < 72057594037927936) (hc : c < 256) : bits BinOp.or IntKind.u64 (IntKind.u64.wrap ((N : Int) * 256)) (c : Int) = ((N * 256 + c : Nat) : Int) := by
 have h1 : IntKind.u64.wrap ((N : Int) * 256) = ((N * 256 : Nat) : Int) := by rw [IntKind.wrap_u64]; omega
 rw [h1, u64_or_nat (N * 256) c (by omega) (by omega)]
 congr 1
 have := Nat.two_pow_add_eq_or_of_lt (i := 8) (b := c) (by omega) N
 rw [Nat.mul_comm] at this
 exact this.symm
theorem le_drop (b : List UInt8) (j : Nat) (h : j < b.length) : le (b.drop j) = le (b.drop (j + 1)) * 256 + (b.getD j 0).toNat := by
 rw [List.drop_eq_getElem_cons h, List.getD_eq_getElem?_getD, List.getElem?_eq_getElem h]
 simp only [le, Option.getD_some]
 omega
set_option maxHeartbeats 1000000 in
theorem get_core (s : ByteArray) (a k : Nat) (w : World) (hs : s.size ≤ maxLen) (hk : Wide k) (ha : a + k ≤ s.size) :
  Calls Tryz.prog 104 #[.string s, .int .i64 (a : Int), .int .i64 (k : Int)] w fun e w' => e = .returned (.tuple #[.int .i64 (getR s a k).1, .int .i64 (getR s a k).2]) ∧ Below w.heap.size w w' := by
 have hgr : getR s a k = if num s a k ≤ 9223372036854775807 then ((num s a k : Int), 0) else (0, 20) := by
  unfold getR
  rw [if_pos hk, if_pos (show There s.size a k from ⟨by omega, by omega, by omega, by omega⟩)]
 have HG := Lib.hid hgr
 clear hgr
 have C1 := Lib.hid (fun w1 => wide_yes k w1 hk)
 have C2 := Lib.hid (fun w1 => there_yes s a k w1 hs ⟨by omega, by omega, by omega, by omega⟩)
 unfold maxLen at hs
 have hk8 : k ≤ 8 := by rcases hk with h | h | h | h <;> omega
 obtain ⟨b, hb⟩ : ∃ b : List UInt8, b = (s.data.toList.drop a).take k ++ List.replicate (8 - k) 0 := ⟨_, rfl⟩
 have hlen : b.length = 8 := by rw [hb]; simp; have : s.data.toList.length = s.size := rfl; simp at this; omega
 have hnum : num s a k = le b := by rw [hb, le_zeros]; simp [num]
 have HN := Lib.hid hnum
 obtain ⟨cells, hcells⟩ : ∃ cells : Array Value, cells = (((s.extract a s.size).data.toList.take k).map (fun b => Value.int .u8 (b.toNat : Int)) ++ (#[.int .u8 0, .int .u8 0, .int .u8 0, .int .u8 0, .int .u8 0, .int .u8 0, .int .u8 0, .int .u8 0] : Array Value).toList.drop k).toArray := ⟨_, rfl⟩
 have hcp := copy_str w 171 #[.int .u8 0, .int .u8 0, .int .u8 0, .int .u8 0, .int .u8 0, .int .u8 0, .int .u8 0, .int .u8 0] k 8 (s.extract a s.size) (by simp; omega) (by simpa using hk8) _ rfl
 rw [← hcells] at hcp
 have hcl : cells = (b.map fun b => Value.int .u8 (b.toNat : Int)).toArray := by
  rw [hcells, hb]
  congr 1
  rw [List.map_append]
  congr 1
  ·have hx : (s.extract a s.size).data.toList = s.data.toList.drop a := by
    simp
    rw [List.take_of_length_le (by simp)]
   rw [hx]
  ·rw [List.map_replicate]
   rcases hk with h | h | h | h <;> (obtain rfl : k = _ := by exact_mod_cast h) <;> rfl
 have hcell : ∀ i, i < 8 → ((w.alloc (.cells cells 171)).drew).cell? ⟨w.heap.size, i, none⟩ = some (.int .u8 ((b.getD i 0).toNat : Int)) := by
  intro i hi
  show (w.alloc (.cells cells 171)).cell? ⟨w.heap.size, i, none⟩ = _
  rw [World.cell?_alloc_mark, hcl]
  simp [List.getD_eq_getElem?_getD, hlen, hi]
 have HC := Lib.hid hcell
 have HL : Hid (b.length = 8) := hlen
 clear hcell hcl hcells hnum hb hlen hk
 go_enter Tryz.func104, Tryz.ntmps104
 go_wp2_with fail
 refine (C1.out _).mono ?_
 rintro e w1 ⟨rfl, rfl⟩
 go_wp2_with fail
 refine (C2.out _).mono ?_
 rintro e w1 ⟨rfl, rfl⟩
 have hk8i : (k : Int) ≤ 8 := by omega
 have hai : (a : Int) ≤ (s.size : Int) := by omega
 go_wp2
 go_region
 go_wp2
 go_loop [9, 10] (fun n i => ∃ j N : Nat, j ≤ 8 ∧ N = le (b.drop j) ∧ i = .int .i64 ((j : Int) - 1) ∧ n = .int .u64 (N : Int)) (fun _ i => (intOf i + 1).toNat)
 case atStart => exact ⟨8, 0, Nat.le_refl _, by rw [List.drop_eq_nil_iff.2 (Nat.le_of_eq HL.out)]; rfl, rfl, rfl⟩
 case round =>
  obtain ⟨j, N, hj, hN, rfl, rfl⟩ := hrel
  have HN2 := Lib.hid hN
  clear hN
  cases j with
  | zero =>
   have hlt : N < 18446744073709551616 := by
    rw [HN2.out]; have := le_lt b; rw [HL.out] at this; exact this
   have hnn : num s a k = N := by rw [HN.out, HN2.out]; rfl
   clear HN HN2
   by_cases hbig : N ≤ 9223372036854775807
   ·have hg : ¬ (9223372036854775807 : Int) < (N : Int) := by omega
    have HR : Hid (getR s a k = ((N : Int), 0)) := by show getR s a k = _; rw [HG.out, hnn, if_pos hbig]
    clear hnn HG
    go_wp2
    go_ret2
    exact ⟨by rw [HR.out]; rfl, by go_grown⟩
   ·have hg : (9223372036854775807 : Int) < (N : Int) := by omega
    have HR : Hid (getR s a k = (0, 20)) := by show getR s a k = _; rw [HG.out, hnn, if_neg hbig]
    clear hnn HG
    go_wp2
    go_ret2
    exact ⟨by rw [HR.out]; rfl, by go_grown⟩
  | succ i =>
   have hst := le_drop b i (by rw [HL.out]; omega)
   rw [← HN2.out] at hst
   have hNb : N < 72057594037927936 := by
    have := le_lt (b.drop (i + 1))
    rw [← HN2.out, List.length_drop, HL.out] at this
    have h2 : 256 ^ (8 - (i + 1)) ≤ 256 ^ 7 := Nat.pow_le_pow_right (by omega) (by omega)
    omega
   have hc := HC.out i (by omega)
   have hcl : (b.getD i 0).toNat < 256 := (b.getD i 0).toNat_lt
   obtain ⟨c, hcd⟩ : ∃ c, c = (b.getD i 0).toNat := ⟨_, rfl⟩
   rw [← hcd] at hc hcl hst
   have hor := or_byte N c hNb hcl
   rw [← hst] at hor
   obtain ⟨M, hM⟩ : ∃ M, M = le (b.drop i) := ⟨_, rfl⟩
   rw [← hM] at hor
   have HM := Lib.hid hM
   have hi8 : i < 8 := by omega
   have hidx : ((i + 1 : Nat) : Int) - 1 = (i : Int) := by omega
   rw [hidx]
   clear hM hst hcd hNb hidx
   go_wp2
   go_round
   case rel => exact ⟨i, M, by omega, HM.out, rfl, rfl⟩
   case measure => simp [intOf]
set_option maxHeartbeats 400000 in
theorem get_any (s : ByteArray) (a k : Int) (w : World) (hs : s.size ≤ maxLen) :
  Calls Tryz.prog 104 #[.string s, .int .i64 a, .int .i64 k] w fun e w' => e = .returned (.tuple #[.int .i64 (getR s a k).1, .int .i64 (getR s a k).2]) ∧ Below w.heap.size w w' := by
 by_cases hk : Wide k
 ·by_cases ht : There s.size a k
  ·obtain ⟨h1, h2, h3, h4⟩ := ht
   obtain ⟨a, rfl⟩ : ∃ n : Nat, a = n := ⟨a.toNat, by omega⟩
   obtain ⟨k, rfl⟩ : ∃ n : Nat, k = n := ⟨k.toNat, by omega⟩
   exact get_core s a k w hs hk (by omega)
  ·have HR : getR s a k = (0, 21) := by unfold getR; rw [if_pos hk, if_neg ht]
   rw [HR]
   have C1 := Lib.hid (fun w1 => wide_yes k w1 hk)
   have C2 := Lib.hid (fun w1 => there_no s a k w1 hs ht)
   clear hk ht HR
   go_enter Tryz.func104, Tryz.ntmps104
   go_wp2_with fail
   refine (C1.out _).mono ?_
   rintro e w1 ⟨rfl, rfl⟩
   go_wp2_with fail
   refine (C2.out _).mono ?_
   rintro e w1 ⟨rfl, rfl⟩
   go_wp2
   go_ret2
   exact ⟨rfl, Below.refl _ _⟩
 ·have HR : getR s a k = (0, 22) := by unfold getR; rw [if_neg hk]
  rw [HR]
  have C1 := Lib.hid (fun w1 => wide_no k w1 hk)
  clear hk HR
  go_enter Tryz.func104, Tryz.ntmps104
  go_wp2_with fail
  refine (C1.out _).mono ?_
  rintro e w1 ⟨rfl, rfl⟩
  go_wp2
  go_ret2
  exact ⟨rfl, Below.refl _ _⟩
end Go.Proofs.YtokhibhmlninnaaGreatDoor

set_option maxRecDepth 100000
namespace Go.Proofs.YtokhibhmlninnaaGreatDoor
open Go.RowKit Go.Sort
open WirePlain
open Go.Proofs.YtokhibhmlninnaaGreatDoorW.PrintWords
theorem info5 : (Tryz.prog.info? 5).map (fun i => (i.zero, i.size, i.bytes)) = some (some (.int .u8 0), 1, 1) := by kernel_rfl
def rowL (l : List Int) (k : Int) : List UInt8 := l.flatMap fun n => put n.toNat k.toNat
def rowR (l : List Int) (k : Int) : ByteArray × Int := if Wide k then if ∀ n ∈ l, fits n k then (⟨(rowL l k).toArray⟩, 0) else (⟨#[]⟩, 20) else (⟨#[]⟩, 22)
def bcells (l : List UInt8) : List Value := l.map fun b => Value.int .u8 (b.toNat : Int)
theorem rowL_len (l : List Int) (k : Int) : (rowL l k).length = l.length * k.toNat := by
 unfold rowL
 induction l with
 | nil => simp
 | cons n l ih => simp only [List.flatMap_cons, List.length_append, put_len, ih, List.length_cons, Nat.add_mul, Nat.one_mul]; omega
theorem rowL_snoc (l : List Int) (n : Int) (k : Int) : rowL (l ++ [n]) k = rowL l k ++ put n.toNat k.toNat := by
 unfold rowL; simp
theorem bytes_own (w : World) (B : Nat) (v : Value) (n : Nat) (l : List UInt8) (h : w.ownsRow B 5 1 v n (bcells l)) (hv : v ≠ .slice none 0 0) :
  ∃ g cap, v = .slice (some ⟨g, 0, none⟩) l.length cap ∧ (convert 53 9 (.slice (some ⟨g, 0, none⟩) l.length cap)).run Tryz.prog w = .ok (.string ⟨l.toArray⟩) w := by
 have hn : n = l.length := by have := h.1; unfold bcells at this; simp at this; omega
 subst hn
 rcases h.2 with ⟨h1, _⟩ | ⟨g, cap, cur, hv', hr⟩
 ·exact absurd h1 hv
 ·have hc := World.ownsRow.cells h (g := g) (by rw [hv']; rfl)
  refine ⟨g, cap, hv', run_convert_bytes_back w 53 9 5 ⟨g, 0, none⟩ cap l Tryz.underlying53 Tryz.underlying5 Tryz.underlying9 fun j hj => ?_⟩
  exact hc j _ (by unfold bcells; simp [hj])
set_option maxHeartbeats 1000000 in
theorem row_any (A : Option Addr) (c : Nat) (l : List Int) (k : Int) (w : World) (hl : ReadsInt w .i64 A l.length l) (hlen : l.length ≤ 1000) (hwf : ∀ n ∈ l, -9223372036854775808 ≤ n ∧ n ≤ 9223372036854775807) :
  Calls Tryz.prog 53 #[.slice A l.length c, .int .i64 k] w fun e w' => e = .returned (.tuple #[.string (rowR l k).1, .int .i64 (rowR l k).2]) ∧ Below w.heap.size w w' := by
 by_cases hk : Wide k
 ·have hk8 : 1 ≤ k ∧ k ≤ 8 := by rcases hk with h | h | h | h <;> omega
  have C1 := Lib.hid (fun w1 => wide_yes k w1 hk)
  have CP := Lib.hid (fun n w1 h => put_any n k w1 h)
  obtain ⟨i0, hi, hz0, hz1, hz2⟩ := info_parts info5
  obtain ⟨P, hP⟩ : ∃ P : Nat, (l.length : Int) * k = P := ⟨l.length * k.toNat, by rw [Int.natCast_mul]; congr 1; omega⟩
  have hPb : P ≤ 8000 := by
   have h1 : (l.length : Int) * k ≤ (l.length : Int) * 8 := Int.mul_le_mul_of_nonneg_left hk8.2 (by omega)
   omega
  have HROW := Lib.hid (show rowR l k = if ∀ n ∈ l, fits n k then (⟨(rowL l k).toArray⟩, 0) else (⟨#[]⟩, 20) by unfold rowR; rw [if_pos hk])
  have HL := Lib.hid hl
  have HWF := Lib.hid hwf
  have HK := Lib.hid hk
  clear hl hk hwf
  go_enter Tryz.func53, Tryz.ntmps53
  go_wp2_with fail
  refine (C1.out _).mono ?_
  rintro e w1 ⟨rfl, rfl⟩
  go_wp2_with (at_make; refine wpList_make_own _ rfl _ _ 53 rfl w.heap.size 5 i0 (.int .u8 0) 1 Tryz.underlying53 hi hz0 hz1 _ _ _ P rfl rfl (by first | exact hP | omega) (by rw [hz2]; omega) (by unfold maxLen; omega) (Nat.le_refl _) ?_)
  intro w1 hown hgrow
  have HB : Hid (Below w.heap.size w w1) := (Below.refl _ _).grown hgrow (Nat.le_refl _) (fun k h => by cases h)
  have HO : Hid (w1.ownsRow w.heap.size 5 1 (.slice (some ⟨w.heap.size, 0, none⟩) 0 P) 0 (bcells [])) := hown
  clear hown hgrow hP
  go_wp2
  go_loopw [6, 21] (fun v i wr => ∃ (j : Nat) (v0 : Value), j ≤ l.length ∧ i = .int .i64 j ∧ v0 = v ∧ Hid (v0 ≠ .slice none 0 0) ∧ Hid (wr.ownsRow w.heap.size 5 1 v0 (rowL (l.take j) k).length (bcells (rowL (l.take j) k))) ∧ Hid (∀ n ∈ l.take j, fits n k) ∧ Hid (Below w.heap.size w wr)) (fun _ i _ => l.length - (intOf i).toNat)
  case atStart => exact ⟨0, _, Nat.zero_le _, rfl, rfl, by show _ ≠ _; simp, HO, by show ∀ n ∈ _, _; simp, HB⟩
  case round =>
   obtain ⟨j, v0, hj, rfl, rfl, HV, HO, HF, HB⟩ := hrel
   by_cases hlt : j < l.length
   ·obtain ⟨ad, hA, hcs⟩ := (HL.out.below HB.out).2.2 (by omega)
    subst hA
    have hc := hcs j hlt
    have hn := HWF.out (l.getD j 0) (by rw [List.getD_eq_getElem?_getD, List.getElem?_eq_getElem hlt]; exact List.getElem_mem hlt)
    have hmem : l.take (j + 1) = l.take j ++ [l.getD j 0] := by
     rw [List.take_succ_eq_append_getElem hlt, List.getD_eq_getElem?_getD, List.getElem?_eq_getElem hlt]; rfl
    have hin : l.getD j 0 ∈ l := by rw [List.getD_eq_getElem?_getD, List.getElem?_eq_getElem hlt]; exact List.getElem_mem hlt
    generalize l.getD j 0 = n at *
    have HIN := Lib.hid hin
    have HM := Lib.hid hmem
    clear hcs hin hmem
    by_cases hf : fits n k
    ·have hp : putR n k = (⟨(put n.toNat k.toNat).toArray⟩, 0) := by unfold putR; rw [if_pos HK.out, if_pos hf]
     have HP := Lib.hid hp
     have hlen2 : (⟨(put n.toNat k.toNat).toArray⟩ : ByteArray).size ≤ 8 := by
      show (put n.toNat k.toNat).toArray.size ≤ 8
      have := put_len k.toNat n.toNat
      simp [this]; omega
     have hll : (rowL (l.take j) k).length ≤ 8000 := by
      rw [rowL_len, List.length_take]
      have h1 : min j l.length * k.toNat ≤ 1000 * 8 := Nat.mul_le_mul (by omega) (by omega)
      omega
     clear hp
     go_wp2_with fail
     refine (CP.out n _ hn).mono ?_
     rw [HP.out]
     rintro e w2 ⟨rfl, hb2⟩
     have HB2 : Hid (Below w.heap.size w w2) := HB.out.trans (hb2.mono HB.out.size)
     have HO2 : Hid (w2.ownsRow w.heap.size 5 1 v0 (rowL (l.take j) k).length (bcells (rowL (l.take j) k))) := own_move HO.out (fun q hq => hb2.block q (own_lt HO.out q hq))
     go_wp2_with (at_builtin; refine Lib.wpList_append_own_string _ rfl _ _ 53 9 rfl w.heap.size 5 i0 Tryz.underlying53 Tryz.underlying9 hi hz0 hz1 hz2 v0 _ _ rfl HO2.out ⟨(put n.toNat k.toNat).toArray⟩ rfl (by unfold maxLen; omega) (by omega) HB2.out.size ?_)
     intro v3 w3 hown3 hgrow3 hnil3
     have hcat : bcells (rowL (l.take j) k) ++ Lib.strCells ⟨(put n.toNat k.toNat).toArray⟩ = bcells (rowL (l.take (j + 1)) k) := by
      rw [HM.out, rowL_snoc]; simp [bcells, Lib.strCells]
     have hln : (rowL (l.take j) k).length + (put n.toNat k.toNat).length = (rowL (l.take (j + 1)) k).length := by
      rw [HM.out, rowL_snoc, List.length_append]
     rw [hcat, hln] at hown3
     have HO3 := Lib.hid hown3
     have HB3 : Hid (Below w.heap.size w w3) := HB2.out.grown hgrow3 HB2.out.size (fun q hq => own_base HO2.out q hq)
     have HV3 : Hid (v3 ≠ .slice none 0 0) := fun e => HV.out (hnil3.1 e).1
     have HF3 : Hid (∀ m ∈ l.take (j + 1), fits m k) := by
      show ∀ m ∈ l.take (j + 1), fits m k
      rw [HM.out]; intro m hm
      rcases List.mem_append.1 hm with h | h
      ·exact HF.out m h
      ·rw [List.mem_singleton.1 h]; exact hf
     clear hown3 hgrow3 hnil3 hcat hln hf
     go_wp2
     go_roundw
     case rel => exact ⟨j + 1, v3, by omega, by go_num, rfl, HV3, HO3, HF3, HB3⟩
     case measure => simp [intOf]; omega
    ·have hp : putR n k = (⟨#[]⟩, 20) := by unfold putR; rw [if_pos HK.out, if_neg hf]
     have HP := Lib.hid hp
     have HR : Hid (rowR l k = (⟨#[]⟩, 20)) := by show rowR l k = _; rw [HROW.out, if_neg (fun h => hf (h n HIN.out))]
     clear hp hf
     go_wp2_with fail
     refine (CP.out n _ hn).mono ?_
     rw [HP.out]
     rintro e w2 ⟨rfl, hb2⟩
     have HB2 : Hid (Below w.heap.size w w2) := HB.out.trans (hb2.mono HB.out.size)
     go_wp2
     go_ret2
     exact ⟨by rw [HR.out]; rfl, HB2.out⟩
   ·obtain rfl : j = l.length := by omega
    have HR : Hid (rowR l k = (⟨(rowL l k).toArray⟩, 0)) := by
     show rowR l k = _
     rw [HROW.out, if_pos (by have := HF.out; rwa [List.take_length] at this)]
    have ho := HO.out
    rw [List.take_length] at ho
    obtain ⟨g, cap, hv, hconv⟩ := bytes_own wr w.heap.size v0 _ (rowL l k) ho HV.out
    subst hv
    clear ho HO HV HF HROW
    go_wp2
    go_ret2
    exact ⟨by rw [HR.out]; rfl, HB.out⟩
 ·have HR : rowR l k = (⟨#[]⟩, 22) := by unfold rowR; rw [if_neg hk]
  rw [HR]
  have C1 := Lib.hid (fun w1 => wide_no k w1 hk)
  clear hk HR
  go_enter Tryz.func53, Tryz.ntmps53
  go_wp2_with fail
  refine (C1.out _).mono ?_
  rintro e w1 ⟨rfl, rfl⟩
  go_wp2
  go_ret2
  exact ⟨rfl, Below.refl _ _⟩
end Go.Proofs.YtokhibhmlninnaaGreatDoor
