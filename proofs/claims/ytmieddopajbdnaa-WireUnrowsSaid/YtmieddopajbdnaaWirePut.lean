/- wire.Put at each width, and refused: it hands back the number's bytes, the lowest first. -/
import Derived.Test.YtmieddopajbdnaaRows
import Derived.Test.YtmieddopajbdnaaWirePlain
import Derived.WalkKit
import Derived.WalkSpells
import Derived.WalkLawsBesides
import Derived.Handy
import Derived.Lib.Hide
import Derived.Lib.QuietBelow
import Derived.Laws.IdiomStrings
namespace Go.Proofs.Ytmieddopajbdnaa
open Go.RowKit Go.Sort

theorem setRow_last (w1 : World) (z cs : Array Value) (t : TypeId) (fr : Nat × Nat) : (w1.alloc (.cells z t fr)).setRow w1.heap.size cs = w1.alloc (.cells cs t fr) := by
  have hm : ∀ (a : Array Obj) (x : Obj) (f : Obj → Obj), (a.push x).modify a.size f = a.push (f x) := by
    intro a x f
    apply Array.ext
    · simp
    · intro i h1 h2
      simp only [Array.getElem_modify, Array.getElem_push]
      by_cases h : a.size = i
      · subst h
        simp
      · have hi : i < a.size := by simp at h1; omega
        simp [h, hi]
  unfold World.setRow
  show ({ w1.alloc (.cells z t fr) with heap := (w1.heap.push (.cells z t fr)).modify w1.heap.size _ } : World) = _
  rw [hm]
  rfl
/-- copy of k cells into a block that was just made. -/
theorem copy_last (w1 : World) (a : Addr) (z : Array Value) (k n c : Nat) (cs : List Value) (hz : z.size = k) (hk : k ≤ n) (hlen : cs.length = k) (h1 : ∀ v ∈ cs, v.oneCell' = true)
    (hsrc : ∀ j v, cs[j]? = some v → (w1.alloc (.cells z 5)).cell? (a.add j) = some v) :
    (Builtin.copy_ #[42, 42] 3 #[.slice (some ⟨w1.heap.size, 0, none⟩) k k, .slice (some a) n c]).run Try.prog (w1.alloc (.cells z 5)) =
      .ok (goInt k) (w1.alloc (.cells cs.toArray 5)) := by
  have h := run_copy_row (P := Try.prog) (w1.alloc (.cells z 5)) 42 42 3 5 w1.heap.size 0 k k a n c z 5 cs Try.underlying42 (by kernel_rfl)
    (by show (w1.heap.push _)[w1.heap.size]? = _; simp) (by rw [hlen]; exact (Nat.min_eq_right hk).symm) hsrc (by rw [hlen]; omega) h1
  rw [hlen] at h
  rw [h]
  congr 1
  have hzl : z.toList.drop k = [] := by rw [List.drop_eq_nil_iff]; simp; omega
  simp only [List.take_zero, List.nil_append, Nat.zero_add, hzl, List.append_nil]
  exact setRow_last w1 z cs.toArray _ _
/-- copy of k cells out of one new block into the next one. -/
theorem copy_new (w : World) (A z : Array Value) (tA : TypeId) (k : Nat) (cs : List Value) (hA : A.size = 8) (hz : z.size = k) (hk : k ≤ 8) (hcs : cs = A.toList.take k) (h1 : ∀ v ∈ cs, v.oneCell' = true) :
    (Builtin.copy_ #[42, 42] 3 #[.slice (some ⟨w.heap.size + 1, 0, none⟩) k k, .slice (some ⟨w.heap.size, 0, none⟩) 8 8]).run Try.prog ((w.alloc (.cells A tA)).alloc (.cells z 5)) =
      .ok (goInt k) ((w.alloc (.cells A tA)).alloc (.cells cs.toArray 5)) := by
  have hs : (w.alloc (.cells A tA)).heap.size = w.heap.size + 1 := by simp
  have h := copy_last (w.alloc (.cells A tA)) ⟨w.heap.size, 0, none⟩ z k 8 8 cs hz hk (by rw [hcs]; simp; omega) h1 (by
    intro j v hj
    have e : (⟨w.heap.size, 0, none⟩ : Addr).add j = ⟨w.heap.size, j, none⟩ := by simp [Addr.add, eq_comm]
    rw [e, World.cell?_of_block (w := w.alloc (.cells A tA)) (Below.heap_alloc _ _ _ (by simp)), World.cell?_alloc_mark]
    rw [hcs] at hj
    have hj8 : j < k := by
      have := (List.getElem?_eq_some_iff.1 hj).1
      simp at this; omega
    rw [List.getElem?_take_of_lt hj8] at hj
    simpa using hj)
  rw [hs] at h
  exact h

theorem back1 (m : Nat) (w : World) (hm : m < 256) (A : Array Value) (tA : TypeId) :
    (convert 42 9 (.slice (some ⟨w.heap.size + 1, 0, none⟩) 1 1)).run Try.prog ((w.alloc (.cells A tA)).alloc (.cells #[.int .u8 ((m : Int))] 5)) =
      .ok (.string ⟨(WirePlain.put m 1).toArray⟩) ((w.alloc (.cells A tA)).alloc (.cells #[.int .u8 ((m : Int))] 5)) := by
  refine run_convert_bytes_back (l := WirePlain.put m 1) _ 42 9 5 _ 1 Try.underlying42 Try.underlying5 Try.underlying9 ?_
  intro j hj
  have hj' : j < 1 := hj
  have e : (⟨w.heap.size + 1, 0, none⟩ : Addr).add j = ⟨(w.alloc (.cells A tA)).heap.size, j, none⟩ := by simp [Addr.add, eq_comm]
  rw [e, World.cell?_alloc_mark]
  match j, hj' with
  | 0, _ => simp [WirePlain.put]; omega

set_option maxHeartbeats 1000000 in
theorem put1 (m : Nat) (w : World) (hm : m < 256) :
    Calls Try.prog 10 #[.int .i64 (m : Int), .int .i64 1] w fun e w' => e = .returned (.tuple #[.string ⟨(WirePlain.put m 1).toArray⟩, .int .i64 0]) ∧ Below w.heap.size w w' := by
  have hd : ((m : Int) / 256 != 0) = false := by rw [bne_eq_false_iff_eq]; omega
  have hmk : ∀ w, (Instr.makeSlice 42 (.int .i64 1) (.int .i64 1)).run Try.prog w = .ok (.slice (some ⟨w.heap.size, 0, none⟩) 1 1) (w.alloc (.cells #[.int .u8 0] 5)) := fun _ => by kernel_rfl
  have hcp := copy_new w #[.int .u8 ((m : Int)), .int .u8 0, .int .u8 0, .int .u8 0, .int .u8 0, .int .u8 0, .int .u8 0, .int .u8 0] #[.int .u8 0] 45 1 [.int .u8 ((m : Int))] rfl rfl (by omega) rfl (by simp [Value.oneCell'])
  have hbk := back1 m w hm #[.int .u8 ((m : Int)), .int .u8 0, .int .u8 0, .int .u8 0, .int .u8 0, .int .u8 0, .int .u8 0, .int .u8 0] 45
  generalize WirePlain.put m 1 = L at *
  go_enter Try.func10, Try.ntmps10
  go_wp2
  go_rounds 2
  go_ret2
  exact ⟨rfl, by go_grown⟩

theorem back2 (m : Nat) (w : World) (hm : m < 65536) (A : Array Value) (tA : TypeId) :
    (convert 42 9 (.slice (some ⟨w.heap.size + 1, 0, none⟩) 2 2)).run Try.prog ((w.alloc (.cells A tA)).alloc (.cells #[.int .u8 ((m : Int) % 256), .int .u8 ((m : Int) / 256)] 5)) =
      .ok (.string ⟨(WirePlain.put m 2).toArray⟩) ((w.alloc (.cells A tA)).alloc (.cells #[.int .u8 ((m : Int) % 256), .int .u8 ((m : Int) / 256)] 5)) := by
  refine run_convert_bytes_back (l := WirePlain.put m 2) _ 42 9 5 _ 2 Try.underlying42 Try.underlying5 Try.underlying9 ?_
  intro j hj
  have hj' : j < 2 := hj
  have e : (⟨w.heap.size + 1, 0, none⟩ : Addr).add j = ⟨(w.alloc (.cells A tA)).heap.size, j, none⟩ := by simp [Addr.add, eq_comm]
  rw [e, World.cell?_alloc_mark]
  match j, hj' with
  | 0, _ => simp [WirePlain.put]
  | 1, _ => simp [WirePlain.put]; omega

set_option maxHeartbeats 1000000 in
theorem put2 (m : Nat) (w : World) (hm : m < 65536) :
    Calls Try.prog 10 #[.int .i64 (m : Int), .int .i64 2] w fun e w' => e = .returned (.tuple #[.string ⟨(WirePlain.put m 2).toArray⟩, .int .i64 0]) ∧ Below w.heap.size w w' := by
  have hd : ((m : Int) / 65536 != 0) = false := by rw [bne_eq_false_iff_eq]; omega
  have hmk : ∀ w, (Instr.makeSlice 42 (.int .i64 2) (.int .i64 2)).run Try.prog w = .ok (.slice (some ⟨w.heap.size, 0, none⟩) 2 2) (w.alloc (.cells #[.int .u8 0, .int .u8 0] 5)) := fun _ => by kernel_rfl
  have hcp := copy_new w #[.int .u8 ((m : Int) % 256), .int .u8 ((m : Int) / 256), .int .u8 0, .int .u8 0, .int .u8 0, .int .u8 0, .int .u8 0, .int .u8 0] #[.int .u8 0, .int .u8 0] 45 2 [.int .u8 ((m : Int) % 256), .int .u8 ((m : Int) / 256)] rfl rfl (by omega) rfl (by simp [Value.oneCell'])
  have hbk := back2 m w hm #[.int .u8 ((m : Int) % 256), .int .u8 ((m : Int) / 256), .int .u8 0, .int .u8 0, .int .u8 0, .int .u8 0, .int .u8 0, .int .u8 0] 45
  generalize WirePlain.put m 2 = L at *
  go_enter Try.func10, Try.ntmps10
  go_wp2
  go_rounds 3
  go_ret2
  exact ⟨rfl, by go_grown⟩

theorem back4 (m : Nat) (w : World) (hm : m < 4294967296) (A : Array Value) (tA : TypeId) :
    (convert 42 9 (.slice (some ⟨w.heap.size + 1, 0, none⟩) 4 4)).run Try.prog ((w.alloc (.cells A tA)).alloc (.cells #[.int .u8 ((m : Int) % 256), .int .u8 ((m : Int) / 256 % 256), .int .u8 ((m : Int) / 65536 % 256), .int .u8 ((m : Int) / 16777216)] 5)) =
      .ok (.string ⟨(WirePlain.put m 4).toArray⟩) ((w.alloc (.cells A tA)).alloc (.cells #[.int .u8 ((m : Int) % 256), .int .u8 ((m : Int) / 256 % 256), .int .u8 ((m : Int) / 65536 % 256), .int .u8 ((m : Int) / 16777216)] 5)) := by
  refine run_convert_bytes_back (l := WirePlain.put m 4) _ 42 9 5 _ 4 Try.underlying42 Try.underlying5 Try.underlying9 ?_
  intro j hj
  have hj' : j < 4 := hj
  have e : (⟨w.heap.size + 1, 0, none⟩ : Addr).add j = ⟨(w.alloc (.cells A tA)).heap.size, j, none⟩ := by simp [Addr.add, eq_comm]
  rw [e, World.cell?_alloc_mark]
  match j, hj' with
  | 0, _ => simp [WirePlain.put]
  | 1, _ => simp [WirePlain.put]
  | 2, _ => simp [WirePlain.put, Nat.div_div_eq_div_mul]
  | 3, _ => simp [WirePlain.put, Nat.div_div_eq_div_mul]; omega

set_option maxHeartbeats 1000000 in
theorem put4 (m : Nat) (w : World) (hm : m < 4294967296) :
    Calls Try.prog 10 #[.int .i64 (m : Int), .int .i64 4] w fun e w' => e = .returned (.tuple #[.string ⟨(WirePlain.put m 4).toArray⟩, .int .i64 0]) ∧ Below w.heap.size w w' := by
  have hd : ((m : Int) / 4294967296 != 0) = false := by rw [bne_eq_false_iff_eq]; omega
  have hmk : ∀ w, (Instr.makeSlice 42 (.int .i64 4) (.int .i64 4)).run Try.prog w = .ok (.slice (some ⟨w.heap.size, 0, none⟩) 4 4) (w.alloc (.cells #[.int .u8 0, .int .u8 0, .int .u8 0, .int .u8 0] 5)) := fun _ => by kernel_rfl
  have hcp := copy_new w #[.int .u8 ((m : Int) % 256), .int .u8 ((m : Int) / 256 % 256), .int .u8 ((m : Int) / 65536 % 256), .int .u8 ((m : Int) / 16777216), .int .u8 0, .int .u8 0, .int .u8 0, .int .u8 0] #[.int .u8 0, .int .u8 0, .int .u8 0, .int .u8 0] 45 4 [.int .u8 ((m : Int) % 256), .int .u8 ((m : Int) / 256 % 256), .int .u8 ((m : Int) / 65536 % 256), .int .u8 ((m : Int) / 16777216)] rfl rfl (by omega) rfl (by simp [Value.oneCell'])
  have hbk := back4 m w hm #[.int .u8 ((m : Int) % 256), .int .u8 ((m : Int) / 256 % 256), .int .u8 ((m : Int) / 65536 % 256), .int .u8 ((m : Int) / 16777216), .int .u8 0, .int .u8 0, .int .u8 0, .int .u8 0] 45
  generalize WirePlain.put m 4 = L at *
  go_enter Try.func10, Try.ntmps10
  go_wp2
  go_rounds 5
  go_ret2
  exact ⟨rfl, by go_grown⟩

theorem back8 (m : Nat) (w : World) (hm : m < 9223372036854775808) (A : Array Value) (tA : TypeId) :
    (convert 42 9 (.slice (some ⟨w.heap.size + 1, 0, none⟩) 8 8)).run Try.prog ((w.alloc (.cells A tA)).alloc (.cells #[.int .u8 ((m : Int) % 256), .int .u8 ((m : Int) / 256 % 256), .int .u8 ((m : Int) / 65536 % 256), .int .u8 ((m : Int) / 16777216 % 256), .int .u8 ((m : Int) / 4294967296 % 256), .int .u8 ((m : Int) / 1099511627776 % 256), .int .u8 ((m : Int) / 281474976710656 % 256), .int .u8 ((m : Int) / 72057594037927936)] 5)) =
      .ok (.string ⟨(WirePlain.put m 8).toArray⟩) ((w.alloc (.cells A tA)).alloc (.cells #[.int .u8 ((m : Int) % 256), .int .u8 ((m : Int) / 256 % 256), .int .u8 ((m : Int) / 65536 % 256), .int .u8 ((m : Int) / 16777216 % 256), .int .u8 ((m : Int) / 4294967296 % 256), .int .u8 ((m : Int) / 1099511627776 % 256), .int .u8 ((m : Int) / 281474976710656 % 256), .int .u8 ((m : Int) / 72057594037927936)] 5)) := by
  refine run_convert_bytes_back (l := WirePlain.put m 8) _ 42 9 5 _ 8 Try.underlying42 Try.underlying5 Try.underlying9 ?_
  intro j hj
  have hj' : j < 8 := hj
  have e : (⟨w.heap.size + 1, 0, none⟩ : Addr).add j = ⟨(w.alloc (.cells A tA)).heap.size, j, none⟩ := by simp [Addr.add, eq_comm]
  rw [e, World.cell?_alloc_mark]
  match j, hj' with
  | 0, _ => simp [WirePlain.put]
  | 1, _ => simp [WirePlain.put]
  | 2, _ => simp [WirePlain.put, Nat.div_div_eq_div_mul]
  | 3, _ => simp [WirePlain.put, Nat.div_div_eq_div_mul]
  | 4, _ => simp [WirePlain.put, Nat.div_div_eq_div_mul]
  | 5, _ => simp [WirePlain.put, Nat.div_div_eq_div_mul]
  | 6, _ => simp [WirePlain.put, Nat.div_div_eq_div_mul]
  | 7, _ => simp [WirePlain.put, Nat.div_div_eq_div_mul]; omega

set_option maxHeartbeats 1000000 in
theorem put8 (m : Nat) (w : World) (hm : m < 9223372036854775808) :
    Calls Try.prog 10 #[.int .i64 (m : Int), .int .i64 8] w fun e w' => e = .returned (.tuple #[.string ⟨(WirePlain.put m 8).toArray⟩, .int .i64 0]) ∧ Below w.heap.size w w' := by
  have hmk : ∀ w, (Instr.makeSlice 42 (.int .i64 8) (.int .i64 8)).run Try.prog w = .ok (.slice (some ⟨w.heap.size, 0, none⟩) 8 8) (w.alloc (.cells #[.int .u8 0, .int .u8 0, .int .u8 0, .int .u8 0, .int .u8 0, .int .u8 0, .int .u8 0, .int .u8 0] 5)) := fun _ => by kernel_rfl
  have hcp := copy_new w #[.int .u8 ((m : Int) % 256), .int .u8 ((m : Int) / 256 % 256), .int .u8 ((m : Int) / 65536 % 256), .int .u8 ((m : Int) / 16777216 % 256), .int .u8 ((m : Int) / 4294967296 % 256), .int .u8 ((m : Int) / 1099511627776 % 256), .int .u8 ((m : Int) / 281474976710656 % 256), .int .u8 ((m : Int) / 72057594037927936)] #[.int .u8 0, .int .u8 0, .int .u8 0, .int .u8 0, .int .u8 0, .int .u8 0, .int .u8 0, .int .u8 0] 45 8 [.int .u8 ((m : Int) % 256), .int .u8 ((m : Int) / 256 % 256), .int .u8 ((m : Int) / 65536 % 256), .int .u8 ((m : Int) / 16777216 % 256), .int .u8 ((m : Int) / 4294967296 % 256), .int .u8 ((m : Int) / 1099511627776 % 256), .int .u8 ((m : Int) / 281474976710656 % 256), .int .u8 ((m : Int) / 72057594037927936)] rfl rfl (by omega) rfl (by simp [Value.oneCell'])
  have hbk := back8 m w hm #[.int .u8 ((m : Int) % 256), .int .u8 ((m : Int) / 256 % 256), .int .u8 ((m : Int) / 65536 % 256), .int .u8 ((m : Int) / 16777216 % 256), .int .u8 ((m : Int) / 4294967296 % 256), .int .u8 ((m : Int) / 1099511627776 % 256), .int .u8 ((m : Int) / 281474976710656 % 256), .int .u8 ((m : Int) / 72057594037927936)] 45
  generalize WirePlain.put m 8 = L at *
  go_enter Try.func10, Try.ntmps10
  go_wp2
  go_rounds 9
  go_ret2
  exact ⟨rfl, by go_grown⟩
end Go.Proofs.Ytmieddopajbdnaa
