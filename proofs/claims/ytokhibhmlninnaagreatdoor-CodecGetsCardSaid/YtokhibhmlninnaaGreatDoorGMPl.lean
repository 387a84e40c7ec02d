/- Texts of this work, put into one. -/
/- Plain facts on numbers as bytes, the lowest first. No condition. -/
namespace WirePlain
def put (m : Nat) : Nat → List UInt8
 | 0 => []
 | k + 1 => UInt8.ofNat (m % 256) :: put (m / 256) k
def le : List UInt8 → Nat
 | [] => 0
 | c :: l => c.toNat + 256 * le l
theorem put_len (k : Nat) : ∀ m, (put m k).length = k := by
 induction k with
 | zero => intro m; rfl
 | succ k ih => intro m; simp [put, ih]
theorem le_put (k : Nat) : ∀ m, m < 256 ^ k → le (put m k) = m := by
 induction k with
 | zero => intro m h; simp [put, le] at h ⊢; omega
 | succ k ih =>
  intro m h
  simp only [put, le]
  rw [ih (m / 256) (by rw [Nat.pow_succ] at h; exact Nat.div_lt_of_lt_mul (by rw [Nat.mul_comm]; exact h))]
  simp; omega
theorem le_lt : ∀ l : List UInt8, le l < 256 ^ l.length
 | [] => by simp [le]
 | c :: l => by
  have := le_lt l
  have hc := c.toNat_lt
  simp only [le, List.length_cons, Nat.pow_succ]
  omega
theorem put_le : ∀ l : List UInt8, put (le l) l.length = l
 | [] => rfl
 | c :: l => by
  have hc := c.toNat_lt
  simp only [le, List.length_cons, put]
  rw [show (c.toNat + 256 * le l) / 256 = le l by omega, put_le l, show (c.toNat + 256 * le l) % 256 = c.toNat by omega]
  simp
theorem le_snoc (l : List UInt8) (c : UInt8) : le (l ++ [c]) = le l + c.toNat * 256 ^ l.length := by
 induction l with
 | nil => simp [le]
 | cons d l ih => simp only [List.cons_append, le, ih, List.length_cons, Nat.pow_succ]; rw [Nat.mul_add, Nat.add_assoc]; congr 2; rw [← Nat.mul_assoc, Nat.mul_comm 256, Nat.mul_assoc, Nat.mul_comm 256]
theorem le_zeros (l : List UInt8) (n : Nat) : le (l ++ List.replicate n 0) = le l := by
 have hz : ∀ n, le (List.replicate n 0) = 0 := by
  intro n
  induction n with
  | zero => rfl
  | succ n ih => simp [List.replicate_succ, le, ih]
 induction l with
 | nil => simpa [le] using hz n
 | cons c l ih => simp only [List.cons_append, le, ih]
def Wide (k : Int) : Prop := k = 1 ∨ k = 2 ∨ k = 4 ∨ k = 8
instance (k : Int) : Decidable (Wide k) := by unfold Wide; infer_instance
def fits (n : Int) (k : Int) : Prop := 0 ≤ n ∧ (k < 8 → n < 256 ^ k.toNat)
instance (n k : Int) : Decidable (fits n k) := by unfold fits; infer_instance
def putR (n k : Int) : ByteArray × Int := if Wide k then if fits n k then (⟨(put n.toNat k.toNat).toArray⟩, 0) else (⟨#[]⟩, 20) else (⟨#[]⟩, 22)
def There (len : Nat) (at_ many : Int) : Prop := 0 ≤ at_ ∧ 0 ≤ many ∧ at_ ≤ len ∧ many ≤ len - at_
instance (len : Nat) (a b : Int) : Decidable (There len a b) := by unfold There; infer_instance
def num (s : ByteArray) (at_ k : Int) : Nat := le ((s.data.toList.drop at_.toNat).take k.toNat)
def getR (s : ByteArray) (at_ k : Int) : Int × Int := if Wide k then if There s.size at_ k then if num s at_ k ≤ 9223372036854775807 then ((num s at_ k : Int), 0) else (0, 20) else (0, 21) else (0, 22)
end WirePlain

/- Plain facts on the sum: the table does what eight single bits do, one byte or four bytes together that differ change the sum, part by part it is the sum of all. No condition. -/
namespace CrcPlain
def tab : List Nat := [0, 498536548, 997073096, 651767980, 1994146192, 1802195444, 1303535960, 1342533948, 3988292384, 4027552580, 3604390888, 3412177804, 2607071920, 2262029012, 2685067896, 3183342108]
def nib (s : Nat) : Nat := (s / 16) ^^^ tab.getD (s % 16) 0
def byt (s c : Nat) : Nat := nib (nib (s ^^^ c))
def run (s : Nat) (l : List UInt8) : Nat := l.foldl (fun s c => byt s c.toNat) s
def ones : Nat := 4294967295
def more (sum : Nat) (l : List UInt8) : Nat := ones ^^^ run (ones ^^^ sum) l
def sum (l : List UInt8) : Nat := more 0 l
def tail (n : Nat) : List UInt8 := [UInt8.ofNat (n % 256), UInt8.ofNat (n / 256 % 256), UInt8.ofNat (n / 65536 % 256), UInt8.ofNat (n / 16777216 % 256)]
def sealed (l : List UInt8) : List UInt8 := l ++ tail (sum l)
def bit (s : Nat) : Nat := if s % 2 = 1 then (s / 2) ^^^ 3988292384 else s / 2
def it : Nat → Nat → Nat
 | 0, s => s
 | n + 1, s => it n (bit s)
theorem xor_mod2 (a b : Nat) : (a ^^^ b) % 2 = (a % 2) ^^^ (b % 2) := by
 have := Nat.xor_mod_two_pow (a := a) (b := b) (n := 1)
 simpa using this
theorem xor_div2 (a b : Nat) : (a ^^^ b) / 2 = (a / 2) ^^^ (b / 2) := by
 have := Nat.shiftRight_xor_distrib (i := 1) (a := a) (b := b)
 simpa [Nat.shiftRight_eq_div_pow] using this
theorem bit_xor (a b : Nat) : bit (a ^^^ b) = bit a ^^^ bit b := by
 unfold bit
 rw [xor_mod2, xor_div2]
 have ha := Nat.mod_two_eq_zero_or_one a
 have hb := Nat.mod_two_eq_zero_or_one b
 rcases ha with ha | ha <;> rcases hb with hb | hb <;> simp [ha, hb]
 ·rw [Nat.xor_assoc]
 ·rw [Nat.xor_assoc, Nat.xor_assoc, Nat.xor_comm 3988292384]
 ·rw [← Nat.xor_assoc, Nat.xor_assoc (a / 2) 3988292384, Nat.xor_comm 3988292384 (b / 2), ← Nat.xor_assoc (a/2), Nat.xor_assoc _ 3988292384, Nat.xor_self, Nat.xor_zero]
theorem it_xor (n : Nat) : ∀ a b, it n (a ^^^ b) = it n a ^^^ it n b := by
 induction n with
 | zero => intro a b; rfl
 | succ n ih => intro a b; simp only [it]; rw [bit_xor, ih]
theorem bit_double (q : Nat) : bit (2 * q) = q := by unfold bit; rw [if_neg (by omega)]; omega
theorem it_add (m : Nat) : ∀ n s, it (m + n) s = it n (it m s) := by
 induction m with
 | zero => intro n s; simp [it]
 | succ m ih => intro n s; rw [Nat.succ_add]; simp only [it]; exact ih n _
theorem it_pow (n : Nat) : ∀ q, it n (2 ^ n * q) = q := by
 induction n with
 | zero => intro q; simp [it]
 | succ n ih => intro q; simp only [it]; rw [show 2 ^ (n + 1) * q = 2 * (2 ^ n * q) by rw [Nat.pow_succ]; simp [Nat.mul_comm, Nat.mul_left_comm], bit_double, ih]
theorem split_xor (k q r : Nat) (hr : r < 2 ^ k) : 2 ^ k * q + r = (2 ^ k * q) ^^^ r := by
 apply Nat.eq_of_testBit_eq
 intro i
 rw [Nat.testBit_xor, Nat.testBit_two_pow_mul_add q hr, Nat.testBit_two_pow_mul]
 by_cases h : i < k
 ·have h2 : ¬ k ≤ i := by omega
  simp [h, h2]
 ·have : r.testBit i = false := Nat.testBit_lt_two_pow (Nat.lt_of_lt_of_le hr (Nat.pow_le_pow_right (by omega) (by omega)))
  simp [h, this]; omega
theorem it_split (k q r : Nat) (hr : r < 2 ^ k) : it k (2 ^ k * q + r) = q ^^^ it k r := by
 rw [split_xor k q r hr, it_xor, it_pow]
theorem tab_it : ∀ r, r < 16 → tab.getD r 0 = it 4 r := by decide
theorem nib_it (s : Nat) : nib s = it 4 s := by
 have h := it_split 4 (s / 16) (s % 16) (by omega)
 rw [show 2 ^ 4 * (s / 16) + s % 16 = s by omega] at h
 rw [h]; unfold nib; rw [tab_it _ (by omega)]
theorem byt_it (s c : Nat) : byt s c = it 8 (s ^^^ c) := by
 unfold byt; rw [nib_it, nib_it, ← it_add]
theorem bit_lt {s : Nat} (h : s < 4294967296) : bit s < 4294967296 := by
 unfold bit
 split
 ·exact Nat.xor_lt_two_pow (n := 32) (by omega) (by omega)
 ·omega
theorem it_lt (n : Nat) : ∀ {s : Nat}, s < 4294967296 → it n s < 4294967296 := by
 induction n with
 | zero => intro s h; exact h
 | succ n ih => intro s h; exact ih (bit_lt h)
theorem byt_lt {s c : Nat} (h : s < 4294967296) (hc : c < 4294967296) : byt s c < 4294967296 := by
 rw [byt_it]; exact it_lt 8 (Nat.xor_lt_two_pow (n := 32) h hc)
theorem u8_lt (c : UInt8) : c.toNat < 256 := c.toNat_lt
theorem run_lt (l : List UInt8) : ∀ {s : Nat}, s < 4294967296 → run s l < 4294967296 := by
 induction l with
 | nil => intro s h; exact h
 | cons c l ih => intro s h; exact ih (byt_lt h (by have := u8_lt c; omega))
theorem ones_lt {s : Nat} (h : s < 4294967296) : ones ^^^ s < 4294967296 := Nat.xor_lt_two_pow (n := 32) (by decide) h
theorem more_lt {s : Nat} (h : s < 4294967296) (l : List UInt8) : more s l < 4294967296 := ones_lt (run_lt l (ones_lt h))
theorem sum_lt (l : List UInt8) : sum l < 4294967296 := more_lt (by decide) l
theorem run_append (s : Nat) (l m : List UInt8) : run s (l ++ m) = run (run s l) m := by unfold run; rw [List.foldl_append]
theorem byt_split (d r q : Nat) (hr : r < 256) : byt d (256 * q + r) = byt d r ^^^ q := by
 rw [byt_it, byt_it]
 have h := split_xor 8 q r (by omega)
 rw [show (2 : Nat) ^ 8 = 256 by rfl] at h
 rw [h, ← Nat.xor_assoc, Nat.xor_comm d, Nat.xor_assoc, it_xor]
 have hp := it_pow 8 q
 rw [show (2 : Nat) ^ 8 = 256 by rfl] at hp
 rw [hp, Nat.xor_comm]
theorem tail_len (n : Nat) : (tail n).length = 4 := rfl
end CrcPlain

set_option linter.unusedVariables false
set_option linter.unusedSimpArgs false
namespace CodPlain
open WirePlain
structure D where
 per : Int
 dl : Int
 parts : List (Int × Int × Int)
 edges : List (Int × Int)
 futs : List (Int × Int × Int)
 bars : List (List Int × List Int)
def noD : D := ⟨0, 0, [], [], [], []⟩
def inB (n a b : Int) : Bool := decide (a ≤ n) && decide (n ≤ b)
def partOdd (p : Int × Int × Int) : Bool := !inB p.1 0 5 || !inB p.2.1 0 2147483647 || !inB p.2.2 1 100
def twoB (n : Nat) (a b : Int) : Bool := a != b && inB a 0 ((n : Int) - 1) && inB b 0 ((n : Int) - 1)
def rowOdd (n : Nat) (l : List Int) (i : Nat) : Bool := !inB (l.getD i 0) 0 ((n : Int) - 1) || (decide (0 < i) && decide (l.getD i 0 ≤ l.getD (i - 1) 0))
def rowB (n : Nat) (l : List Int) : Bool := !(List.range l.length).any (rowOdd n l) && decide (0 < l.length)
def edgeOdd (d : D) (i : Nat) : Bool := !twoB d.parts.length (d.edges.getD i (0, 0)).1 (d.edges.getD i (0, 0)).2 || (d.edges.take i).contains (d.edges.getD i (0, 0))
def futAgain (d : D) (i : Nat) : Bool := (d.futs.take i).any fun g => g.2.1 == (d.futs.getD i (0, 0, 0)).2.1 && g.2.2 == (d.futs.getD i (0, 0, 0)).2.2
def futOdd (d : D) (i : Nat) : Bool :=
 !twoB d.parts.length (d.futs.getD i (0, 0, 0)).1 (d.futs.getD i (0, 0, 0)).2.1 || !inB (d.futs.getD i (0, 0, 0)).2.2 1 ((d.parts.getD (d.futs.getD i (0, 0, 0)).2.1.toNat (0, 0, 0)).2.2 - 1) || futAgain d i
def barOdd (d : D) (b : List Int × List Int) : Bool := !rowB d.parts.length b.1 || !rowB d.parts.length b.2 || b.1.any fun n => b.2.contains n
def powB (n : Int) : Bool := (List.range 13).any fun k => n == (2 : Int) ^ k
def manyB (d : D) : Bool := !(decide (1 ≤ d.parts.length) && decide (d.parts.length ≤ 16)) || decide (48 < d.edges.length) || decide (16 < d.futs.length) || decide (4 < d.bars.length)
def timeB (d : D) : Bool := powB d.per && inB d.dl 1 d.per
def checkD (d : D) : Int :=
 if manyB d = true then 50 else if timeB d = false then 51 else if d.parts.any partOdd = true then 52 else if (List.range d.edges.length).any (edgeOdd d) = true then 53
 else if (List.range d.futs.length).any (futOdd d) = true then 54 else if d.bars.any (barOdd d) = true then 55 else 0
def row (l : List Int) (k : Int) : List UInt8 := l.flatMap fun n => put n.toNat k.toNat
def magicL : List UInt8 := [100, 97, 103, 49]
def headL (d : D) : List UInt8 := magicL ++ row [1, d.parts.length, d.edges.length, d.futs.length, d.bars.length] 1 ++ row [d.per, d.dl] 4
def partL (p : Int × Int × Int) : List UInt8 := row [p.1] 1 ++ row [p.2.1] 4 ++ row [p.2.2] 2
def edgeL (e : Int × Int) : List UInt8 := row [e.1, e.2] 1
def futL (f : Int × Int × Int) : List UInt8 := row [f.1, f.2.1] 1 ++ row [f.2.2] 2
def barL (b : List Int × List Int) : List UInt8 := row [b.1.length, b.2.length] 1 ++ row b.1 1 ++ row b.2 1
def bodyL (d : D) : List UInt8 := headL d ++ d.parts.flatMap partL ++ d.edges.flatMap edgeL ++ d.futs.flatMap futL ++ d.bars.flatMap barL
def encL (d : D) : List UInt8 := if checkD d = 0 then CrcPlain.sealed (bodyL d) else []
abbrev St := Nat × Bool
def numS (s : ByteArray) (k : Nat) (st : St) : Int × St :=
 if st.2 = true then (0, st) else if (getR s st.1 k).2 = 0 then ((getR s st.1 k).1, (st.1 + k, false)) else (0, (st.1, true))
def someS {α : Type} (f : St → α × St) : Nat → St → List α × St
 | 0, st => ([], st)
 | n + 1, st => if st.2 = true then ([], st) else ((f st).1 :: (someS f n (f st).2).1, (someS f n (f st).2).2)
def partS (s : ByteArray) (st : St) : (Int × Int × Int) × St :=
 let a := numS s 1 st; let b := numS s 4 a.2; let c := numS s 2 b.2; ((a.1, b.1, c.1), c.2)
def edgeS (s : ByteArray) (st : St) : (Int × Int) × St := let a := numS s 1 st; let b := numS s 1 a.2; ((a.1, b.1), b.2)
def futS (s : ByteArray) (st : St) : (Int × Int × Int) × St :=
 let a := numS s 1 st; let b := numS s 1 a.2; let c := numS s 2 b.2; ((a.1, b.1, c.1), c.2)
def barS (s : ByteArray) (st : St) : (List Int × List Int) × St :=
 let a := numS s 1 st; let b := numS s 1 a.2; let c := someS (numS s 1) a.1.toNat b.2; let e := someS (numS s 1) b.1.toNat c.2; ((c.1, e.1), e.2)
def bodyS (s : ByteArray) (st : St) : D × St :=
 let a := numS s 1 st; let b := numS s 1 a.2; let c := numS s 1 b.2; let e := numS s 1 c.2; let p := numS s 4 e.2; let q := numS s 4 p.2
 let f := someS (partS s) a.1.toNat q.2; let g := someS (edgeS s) b.1.toNat f.2; let h := someS (futS s) c.1.toNat g.2; let i := someS (barS s) e.1.toNat h.2
 (⟨p.1, q.1, f.1, g.1, h.1, i.1⟩, i.2)
def decR (s : ByteArray) (b : ByteArray) (ok : Bool) : D × Int × Int × Int :=
 if s.size < 21 then (noD, 0, s.size, 60)
 else if ok = false then (noD, (s.size : Int) - 4, s.size, 61)
 else if b.data.toList.take 4 ≠ magicL then (noD, 0, 4, 62)
 else if b.data.toList.getD 4 0 ≠ 1 then (noD, 4, 5, 63)
 else let r := bodyS b (5, false)
  if r.2.2 = true then (noD, r.2.1, b.size, 64) else if r.2.1 < b.size then (noD, r.2.1, b.size, 65) else if checkD r.1 ≠ 0 then (noD, 5, b.size, checkD r.1) else (r.1, 0, 0, 0)
end CodPlain

set_option linter.unusedVariables false
set_option linter.unusedSimpArgs false
namespace CodPlain
open WirePlain
theorem wide_in {k : Nat} (h : Wide k) : 1 ≤ k ∧ k ≤ 8 := by rcases h with h | h | h | h <;> omega
theorem numS_put {b : ByteArray} {pre rest : List UInt8} {n k : Nat} (hk : Wide k) (h : b.data.toList = pre ++ (put n k ++ rest)) (hn : n < 256 ^ k) (hm : n ≤ 9223372036854775807) :
  numS b k (pre.length, false) = ((n : Int), (pre.length + k, false)) := by
 have hk8 := wide_in hk
 have hs : b.size = pre.length + (k + rest.length) := by
  have := congrArg List.length h
  rw [List.length_append, List.length_append, put_len] at this
  simpa using this
 have hnum : num b (pre.length : Int) (k : Int) = n := by
  unfold num
  rw [Int.toNat_natCast, Int.toNat_natCast, h, List.drop_left, List.take_append_of_le_length (by rw [put_len]; exact Nat.le_refl _), List.take_of_length_le (by rw [put_len]; exact Nat.le_refl _), le_put k n hn]
 have hg : getR b (pre.length : Int) (k : Int) = ((n : Int), 0) := by
  unfold getR
  rw [if_pos hk, if_pos (show There b.size (pre.length : Int) (k : Int) from ⟨by omega, by omega, by omega, by omega⟩), hnum, if_pos hm]
 unfold numS
 rw [if_neg (by simp)]
 show (if (getR b (pre.length : Int) (k : Int)).2 = 0 then _ else _) = _
 rw [hg]; rfl
theorem row_cons (n : Int) (l : List Int) (k : Int) : row (n :: l) k = put n.toNat k.toNat ++ row l k := by unfold row; rw [List.flatMap_cons]
theorem row_nil (k : Int) : row [] k = [] := rfl
theorem row_len (l : List Int) (k : Int) : (row l k).length = l.length * k.toNat := by
 induction l with
 | nil => simp [row]
 | cons a l ih => rw [row_cons, List.length_append, put_len, ih, List.length_cons, Nat.succ_mul]; omega
def Reads {α : Type} (b : ByteArray) (f : St → α × St) (g : α → List UInt8) (x : α) : Prop :=
 ∀ pre rest : List UInt8, b.data.toList = pre ++ (g x ++ rest) → f (pre.length, false) = (x, (pre.length + (g x).length, false))
theorem Reads.all {α : Type} {b : ByteArray} {f : St → α × St} {g : α → List UInt8} : ∀ {l : List α}, (∀ x ∈ l, Reads b f g x) → ∀ pre rest : List UInt8, b.data.toList = pre ++ (l.flatMap g ++ rest) →
  someS f l.length (pre.length, false) = (l, (pre.length + (l.flatMap g).length, false))
 | [], _, pre, rest, _ => by simp [someS]
 | x :: l, hl, pre, rest, hb => by
  rw [List.flatMap_cons, List.append_assoc] at hb
  have h1 := hl x List.mem_cons_self pre _ hb
  have h2 := Reads.all (fun y hy => hl y (List.mem_cons_of_mem _ hy)) (pre ++ g x) rest (by rw [hb, List.append_assoc])
  rw [List.length_append] at h2
  rw [List.length_cons, someS, if_neg (by simp), h1]
  show (x :: (someS f l.length (pre.length + (g x).length, false)).1, (someS f l.length (pre.length + (g x).length, false)).2) = _
  rw [h2, List.flatMap_cons, List.length_append, Nat.add_assoc]
theorem reads_num {b : ByteArray} {k : Nat} (hk : Wide k) {n : Int} (h0 : 0 ≤ n) (hn : n < 256 ^ k) (hm : n ≤ 9223372036854775807) : Reads b (numS b k) (fun n => row [n] k) n := by
 intro pre rest hb
 obtain ⟨m, rfl⟩ : ∃ m : Nat, n = m := ⟨n.toNat, by omega⟩
 have hr : row [(m : Int)] (k : Int) = put m k := by rw [row_cons, row_nil, List.append_nil, Int.toNat_natCast, Int.toNat_natCast]
 show numS b k (pre.length, false) = ((m : Int), (pre.length + (row [(m : Int)] (k : Int)).length, false))
 change b.data.toList = pre ++ (row [(m : Int)] (k : Int) ++ rest) at hb
 rw [hr] at hb
 rw [hr, put_len]
 refine numS_put hk hb ?_ (by omega)
 have h2 : ((m : Nat) : Int) < ((256 ^ k : Nat) : Int) := by rw [Int.natCast_pow]; exact hn
 exact Int.ofNat_lt.1 h2
theorem reads_row {b : ByteArray} {l : List Int} (hl : ∀ n ∈ l, 0 ≤ n ∧ n < 256) {pre rest : List UInt8} (hb : b.data.toList = pre ++ (row l 1 ++ rest)) : someS (numS b 1) l.length (pre.length, false) = (l, (pre.length + (row l 1).length, false)) := by
 have hr : row l 1 = l.flatMap fun n => row [n] ((1 : Nat) : Int) := by
  have h : (fun n : Int => row [n] ((1 : Nat) : Int)) = fun n => put n.toNat ((1 : Int)).toNat := by funext n; rw [row_cons, row_nil, List.append_nil]; rfl
  rw [h]; rfl
 rw [hr] at hb ⊢
 exact Reads.all (f := numS b 1) (g := fun n => row [n] ((1 : Nat) : Int)) (fun n hn => reads_num (.inl rfl) (hl n hn).1 (by have := (hl n hn).2; rw [show ((256 : Int) ^ 1) = 256 from rfl]; exact this) (by have := (hl n hn).2; omega)) pre rest hb
theorem num1 {b : ByteArray} {n : Int} (h : 0 ≤ n ∧ n < 256) {pre rest : List UInt8} (hb : b.data.toList = pre ++ (row [n] 1 ++ rest)) : numS b 1 (pre.length, false) = (n, (pre.length + 1, false)) := by
 have := reads_num (b := b) (k := 1) (.inl rfl) h.1 (by rw [show ((256 : Int) ^ 1) = 256 from rfl]; exact h.2) (by omega) pre rest hb
 rw [this]; rfl
theorem num2 {b : ByteArray} {n : Int} (h : 0 ≤ n ∧ n < 65536) {pre rest : List UInt8} (hb : b.data.toList = pre ++ (row [n] 2 ++ rest)) : numS b 2 (pre.length, false) = (n, (pre.length + 2, false)) := by
 have := reads_num (b := b) (k := 2) (.inr (.inl rfl)) h.1 (by rw [show ((256 : Int) ^ 2) = 65536 from rfl]; exact h.2) (by omega) pre rest hb
 rw [this]; rfl
theorem num4 {b : ByteArray} {n : Int} (h : 0 ≤ n ∧ n < 4294967296) {pre rest : List UInt8} (hb : b.data.toList = pre ++ (row [n] 4 ++ rest)) : numS b 4 (pre.length, false) = (n, (pre.length + 4, false)) := by
 have := reads_num (b := b) (k := 4) (.inr (.inr (.inl rfl))) h.1 (by rw [show ((256 : Int) ^ 4) = 4294967296 from rfl]; exact h.2) (by omega) pre rest hb
 rw [this]; rfl
theorem len1 (n : Int) : (row [n] 1).length = 1 := by rw [row_len]; rfl
theorem len2 (n : Int) : (row [n] 2).length = 2 := by rw [row_len]; rfl
theorem len4 (n : Int) : (row [n] 4).length = 4 := by rw [row_len]; rfl
theorem row_two (a c : Int) (k : Int) : row [a, c] k = row [a] k ++ row [c] k := by rw [row_cons a [c], row_cons a []]; simp [row_nil]
theorem inB_in {n a b : Int} (h : inB n a b = true) : a ≤ n ∧ n ≤ b := by
 unfold inB at h
 rw [Bool.and_eq_true, decide_eq_true_eq, decide_eq_true_eq] at h
 exact h
theorem part_in {p : Int × Int × Int} (h : partOdd p = false) : (0 ≤ p.1 ∧ p.1 ≤ 5) ∧ (0 ≤ p.2.1 ∧ p.2.1 ≤ 2147483647) ∧ 1 ≤ p.2.2 ∧ p.2.2 ≤ 100 := by
 unfold partOdd at h
 rw [Bool.or_eq_false_iff, Bool.or_eq_false_iff, Bool.not_eq_false', Bool.not_eq_false', Bool.not_eq_false'] at h
 exact ⟨inB_in h.1.1, inB_in h.1.2, inB_in h.2⟩
theorem reads_part {b : ByteArray} {p : Int × Int × Int} (h : partOdd p = false) : Reads b (partS b) partL p := by
 intro pre rest hb
 obtain ⟨x, y, z⟩ := p
 obtain ⟨h1, h2, h3⟩ := part_in h
 unfold partL at hb ⊢
 dsimp only at h1 h2 h3 hb ⊢
 rw [List.append_assoc, List.append_assoc] at hb
 have a := num1 (b := b) (by show 0 ≤ x ∧ x < 256; exact ⟨h1.1, by have := h1.2; omega⟩) hb
 have hb2 : b.data.toList = (pre ++ row [x] 1) ++ (row [y] 4 ++ (row [z] 2 ++ rest)) := by rw [hb]; simp [List.append_assoc]
 have c := num4 (b := b) (by show 0 ≤ y ∧ y < 4294967296; exact ⟨h2.1, by have := h2.2; omega⟩) hb2
 have hb3 : b.data.toList = ((pre ++ row [x] 1) ++ row [y] 4) ++ (row [z] 2 ++ rest) := by rw [hb2]; simp [List.append_assoc]
 have e := num2 (b := b) (by show 0 ≤ z ∧ z < 65536; exact ⟨by have := h3.1; omega, by have := h3.2; omega⟩) hb3
 simp only [List.length_append, len1, len2, len4] at c e ⊢
 simp only [partS, a, c, e]
theorem reads_edge {b : ByteArray} {p : Int × Int} (h : (0 ≤ p.1 ∧ p.1 < 256) ∧ 0 ≤ p.2 ∧ p.2 < 256) : Reads b (edgeS b) edgeL p := by
 intro pre rest hb
 obtain ⟨x, y⟩ := p
 unfold edgeL at hb ⊢
 dsimp only at h hb ⊢
 rw [row_two] at hb ⊢
 rw [List.append_assoc] at hb
 have a := num1 (b := b) h.1 hb
 have hb2 : b.data.toList = (pre ++ row [x] 1) ++ (row [y] 1 ++ rest) := by rw [hb]; simp [List.append_assoc]
 have c := num1 (b := b) h.2 hb2
 simp only [List.length_append, len1] at c ⊢
 simp only [edgeS, a, c]
theorem reads_fut {b : ByteArray} {p : Int × Int × Int} (h : (0 ≤ p.1 ∧ p.1 < 256) ∧ (0 ≤ p.2.1 ∧ p.2.1 < 256) ∧ 0 ≤ p.2.2 ∧ p.2.2 < 65536) : Reads b (futS b) futL p := by
 intro pre rest hb
 obtain ⟨x, y, z⟩ := p
 unfold futL at hb ⊢
 dsimp only at h hb ⊢
 rw [row_two] at hb ⊢
 rw [List.append_assoc, List.append_assoc] at hb
 have a := num1 (b := b) h.1 hb
 have hb2 : b.data.toList = (pre ++ row [x] 1) ++ (row [y] 1 ++ (row [z] 2 ++ rest)) := by rw [hb]; simp [List.append_assoc]
 have c := num1 (b := b) h.2.1 hb2
 have hb3 : b.data.toList = ((pre ++ row [x] 1) ++ row [y] 1) ++ (row [z] 2 ++ rest) := by rw [hb2]; simp [List.append_assoc]
 have e := num2 (b := b) h.2.2 hb3
 simp only [List.length_append, len1, len2] at c e ⊢
 simp only [futS, a, c, e]
theorem reads_bar {b : ByteArray} {p : List Int × List Int} (h1 : p.1.length < 256) (h2 : p.2.length < 256) (h3 : ∀ n ∈ p.1, 0 ≤ n ∧ n < 256) (h4 : ∀ n ∈ p.2, 0 ≤ n ∧ n < 256) : Reads b (barS b) barL p := by
 intro pre rest hb
 obtain ⟨x, y⟩ := p
 unfold barL at hb ⊢
 dsimp only at h1 h2 h3 h4 hb ⊢
 rw [row_two] at hb ⊢
 rw [List.append_assoc, List.append_assoc, List.append_assoc] at hb
 have a := num1 (b := b) (n := (x.length : Int)) ⟨by omega, by have : x.length < 256 := h1; omega⟩ hb
 have hb2 : b.data.toList = (pre ++ row [(x.length : Int)] 1) ++ (row [(y.length : Int)] 1 ++ (row x 1 ++ (row y 1 ++ rest))) := by rw [hb]; simp [List.append_assoc]
 have c := num1 (b := b) (n := (y.length : Int)) ⟨by omega, by have : y.length < 256 := h2; omega⟩ hb2
 have hb3 : b.data.toList = ((pre ++ row [(x.length : Int)] 1) ++ row [(y.length : Int)] 1) ++ (row x 1 ++ (row y 1 ++ rest)) := by rw [hb2]; simp [List.append_assoc]
 have e := reads_row h3 hb3
 have hb4 : b.data.toList = (((pre ++ row [(x.length : Int)] 1) ++ row [(y.length : Int)] 1) ++ row x 1) ++ (row y 1 ++ rest) := by rw [hb3]; simp [List.append_assoc]
 have f := reads_row h4 hb4
 simp only [List.length_append, len1] at c e f ⊢
 simp only [barS, a, c, Int.toNat_natCast, e, f]
 rw [show pre.length + (1 + 1 + (row x 1).length + (row y 1).length) = pre.length + 1 + 1 + (row x 1).length + (row y 1).length by omega]
end CodPlain

set_option linter.unusedVariables false
set_option linter.unusedSimpArgs false
namespace CodPlain
open WirePlain
theorem any_range_false {n : Nat} {f : Nat → Bool} (h : (List.range n).any f = false) {i : Nat} (hi : i < n) : f i = false := by
 have := List.any_eq_false.1 h i (List.mem_range.2 hi)
 simpa using this
theorem getD_of_mem {α : Type} {l : List α} {x d : α} (h : x ∈ l) : ∃ i, i < l.length ∧ l.getD i d = x := by
 obtain ⟨i, hi, rfl⟩ := List.getElem_of_mem h
 exact ⟨i, hi, by rw [List.getD_eq_getElem?_getD, List.getElem?_eq_getElem hi]; rfl⟩
theorem getD_in {α : Type} {l : List α} {d : α} {i : Nat} (hi : i < l.length) : l.getD i d ∈ l := by
 rw [List.getD_eq_getElem?_getD, List.getElem?_eq_getElem hi]; exact List.getElem_mem hi
theorem two_in {n : Nat} {a b : Int} (h : twoB n a b = true) : a ≠ b ∧ (0 ≤ a ∧ a < n) ∧ 0 ≤ b ∧ b < n := by
 unfold twoB at h
 rw [Bool.and_eq_true, Bool.and_eq_true, bne_iff_ne] at h
 have h1 := inB_in h.1.2
 have h2 := inB_in h.2
 exact ⟨h.1.1, by omega, by omega⟩
theorem row_in {n : Nat} {l : List Int} (h : rowB n l = true) : (∀ x ∈ l, 0 ≤ x ∧ x < n) ∧ 0 < l.length ∧ l.length ≤ n := by
 unfold rowB at h
 rw [Bool.and_eq_true, Bool.not_eq_true', decide_eq_true_eq] at h
 have key : ∀ i, i < l.length → (0 ≤ l.getD i 0 ∧ l.getD i 0 < n) ∧ (0 < i → l.getD (i - 1) 0 < l.getD i 0) := fun i hi => by
  have := any_range_false h.1 hi
  unfold rowOdd at this
  rw [Bool.or_eq_false_iff, Bool.not_eq_false', Bool.and_eq_false_iff, decide_eq_false_iff_not, decide_eq_false_iff_not] at this
  have h1 := inB_in this.1
  exact ⟨by omega, fun h0 => by rcases this.2 with q | q <;> omega⟩
 have up : ∀ i, i < l.length → (i : Int) ≤ l.getD i 0 := by
  intro i
  induction i with
  | zero => intro hi; exact (key 0 hi).1.1
  | succ i ih =>
   intro hi
   have h1 := ih (by omega)
   have h2 := (key (i + 1) hi).2 (by omega)
   rw [Nat.add_sub_cancel] at h2
   omega
 refine ⟨fun x hx => ?_, h.2, ?_⟩
 ·obtain ⟨i, hi, rfl⟩ := getD_of_mem (d := (0 : Int)) hx
  exact (key i hi).1
 ·have h1 := up (l.length - 1) (by omega)
  have h2 := (key (l.length - 1) (by omega)).1
  omega
structure Ok (d : D) : Prop where
 np : 1 ≤ d.parts.length ∧ d.parts.length ≤ 16
 ne : d.edges.length ≤ 48
 nf : d.futs.length ≤ 16
 nb : d.bars.length ≤ 4
 per : 1 ≤ d.per ∧ d.per ≤ 4096
 dl : 1 ≤ d.dl ∧ d.dl ≤ d.per
 part : ∀ p ∈ d.parts, partOdd p = false
 edge : ∀ e ∈ d.edges, (0 ≤ e.1 ∧ e.1 < 16) ∧ 0 ≤ e.2 ∧ e.2 < 16
 fut : ∀ f ∈ d.futs, (0 ≤ f.1 ∧ f.1 < 16) ∧ (0 ≤ f.2.1 ∧ f.2.1 < 16) ∧ 1 ≤ f.2.2 ∧ f.2.2 ≤ 99
 bar : ∀ b ∈ d.bars, (∀ n ∈ b.1, 0 ≤ n ∧ n < 16) ∧ (∀ n ∈ b.2, 0 ≤ n ∧ n < 16) ∧ b.1.length ≤ 16 ∧ b.2.length ≤ 16
theorem pow_in {n : Int} (h : powB n = true) : 1 ≤ n ∧ n ≤ 4096 := by
 unfold powB at h
 obtain ⟨k, hk, e⟩ := List.any_eq_true.1 h
 rw [beq_iff_eq] at e
 rw [List.mem_range] at hk
 subst e
 have : ∀ k : Nat, k < 13 → 1 ≤ (2 : Int) ^ k ∧ (2 : Int) ^ k ≤ 4096 := by decide
 exact this k hk
theorem ok_of {d : D} (h : checkD d = 0) : Ok d := by
 unfold checkD at h
 cases h1 : manyB d with
 | true => rw [if_pos h1] at h; cases h
 | false =>
 rw [h1, if_neg (by simp)] at h
 cases h2 : timeB d with
 | false => rw [if_pos h2] at h; cases h
 | true =>
 rw [h2, if_neg (by simp)] at h
 cases h3 : d.parts.any partOdd with
 | true => rw [if_pos h3] at h; cases h
 | false =>
 rw [h3, if_neg (by simp)] at h
 cases h4 : (List.range d.edges.length).any (edgeOdd d) with
 | true => rw [if_pos h4] at h; cases h
 | false =>
 rw [h4, if_neg (by simp)] at h
 cases h5 : (List.range d.futs.length).any (futOdd d) with
 | true => rw [if_pos h5] at h; cases h
 | false =>
 rw [h5, if_neg (by simp)] at h
 cases h6 : d.bars.any (barOdd d) with
 | true => rw [if_pos h6] at h; cases h
 | false =>
 unfold manyB at h1
 rw [Bool.or_eq_false_iff, Bool.or_eq_false_iff, Bool.or_eq_false_iff, Bool.not_eq_false', Bool.and_eq_true, decide_eq_true_eq, decide_eq_true_eq, decide_eq_false_iff_not, decide_eq_false_iff_not, decide_eq_false_iff_not] at h1
 unfold timeB at h2
 rw [Bool.and_eq_true] at h2
 have hp := pow_in h2.1
 have hd := inB_in h2.2
 have part : ∀ p ∈ d.parts, partOdd p = false := fun p hp => by have := List.any_eq_false.1 h3 p hp; simpa using this
 refine ⟨⟨h1.1.1.1.1, h1.1.1.1.2⟩, by omega, by omega, by omega, hp, hd, part, fun e he => ?_, fun f hf => ?_, fun b hb => ?_⟩
 ·obtain ⟨i, hi, rfl⟩ := getD_of_mem (d := ((0 : Int), (0 : Int))) he
  have := any_range_false h4 hi
  unfold edgeOdd at this
  rw [Bool.or_eq_false_iff, Bool.not_eq_false'] at this
  have := two_in this.1
  omega
 ·obtain ⟨i, hi, rfl⟩ := getD_of_mem (d := ((0 : Int), (0 : Int), (0 : Int))) hf
  have := any_range_false h5 hi
  unfold futOdd at this
  rw [Bool.or_eq_false_iff, Bool.or_eq_false_iff, Bool.not_eq_false', Bool.not_eq_false'] at this
  have h7 := two_in this.1.1
  have h8 := inB_in this.1.2
  have h9 := (part_in (part _ (getD_in (d := ((0 : Int), (0 : Int), (0 : Int))) (show (d.futs.getD i (0, 0, 0)).2.1.toNat < d.parts.length by omega)))).2.2
  omega
 ·have := List.any_eq_false.1 h6 b hb
  unfold barOdd at this
  simp only [Bool.or_eq_true, Bool.not_eq_true', not_or, Bool.not_eq_false] at this
  have h7 := row_in this.1.1
  have h8 := row_in this.1.2
  exact ⟨fun n hn => by have := h7.1 n hn; omega, fun n hn => by have := h8.1 n hn; omega, by omega, by omega⟩
theorem body_read {d : D} (h : Ok d) {b : ByteArray} (hb : b.data.toList = bodyL d) : bodyS b (5, false) = (d, (b.size, false)) := by
 have h1 := h.np; have h2 := h.ne; have h3 := h.nf; have h4 := h.nb; have h5 := h.per; have h6 := h.dl
 have hL : bodyL d = (magicL ++ row [1] 1) ++ (row [(d.parts.length : Int)] 1 ++ (row [(d.edges.length : Int)] 1 ++ (row [(d.futs.length : Int)] 1 ++ (row [(d.bars.length : Int)] 1 ++ (row [d.per] 4 ++ (row [d.dl] 4 ++ (d.parts.flatMap partL ++ (d.edges.flatMap edgeL ++ (d.futs.flatMap futL ++ (d.bars.flatMap barL ++ [])))))))))) := by
  unfold bodyL headL
  simp only [row_cons, row_nil, List.append_nil, List.append_assoc]
 rw [hL] at hb
 have hm : (magicL ++ row [1] 1).length = 5 := by rw [List.length_append, len1]; rfl
 have n1 := num1 (b := b) (n := (d.parts.length : Int)) ⟨by omega, by omega⟩ hb
 have hb2 := hb; rw [← List.append_assoc (magicL ++ row [1] 1)] at hb2
 have n2 := num1 (b := b) (n := (d.edges.length : Int)) ⟨by omega, by omega⟩ hb2
 have hb3 := hb2; rw [← List.append_assoc ((magicL ++ row [1] 1) ++ _)] at hb3
 have n3 := num1 (b := b) (n := (d.futs.length : Int)) ⟨by omega, by omega⟩ hb3
 have hb4 := hb3; rw [← List.append_assoc (((magicL ++ row [1] 1) ++ _) ++ _)] at hb4
 have n4 := num1 (b := b) (n := (d.bars.length : Int)) ⟨by omega, by omega⟩ hb4
 have hb5 := hb4; rw [← List.append_assoc ((((magicL ++ row [1] 1) ++ _) ++ _) ++ _)] at hb5
 have n5 := num4 (b := b) (n := d.per) ⟨by omega, by omega⟩ hb5
 have hb6 := hb5; rw [← List.append_assoc (((((magicL ++ row [1] 1) ++ _) ++ _) ++ _) ++ _)] at hb6
 have n6 := num4 (b := b) (n := d.dl) ⟨by omega, by omega⟩ hb6
 have hb7 := hb6; rw [← List.append_assoc ((((((magicL ++ row [1] 1) ++ _) ++ _) ++ _) ++ _) ++ _)] at hb7
 have n7 := Reads.all (b := b) (f := partS b) (g := partL) (l := d.parts) (fun p hp => reads_part (h.part p hp)) _ _ hb7
 have hb8 := hb7; rw [← List.append_assoc (((((((magicL ++ row [1] 1) ++ _) ++ _) ++ _) ++ _) ++ _) ++ _)] at hb8
 have n8 := Reads.all (b := b) (f := edgeS b) (g := edgeL) (l := d.edges) (fun p hp => reads_edge (by have := h.edge p hp; omega)) _ _ hb8
 have hb9 := hb8; rw [← List.append_assoc ((((((((magicL ++ row [1] 1) ++ _) ++ _) ++ _) ++ _) ++ _) ++ _) ++ _)] at hb9
 have n9 := Reads.all (b := b) (f := futS b) (g := futL) (l := d.futs) (fun p hp => reads_fut (by have := h.fut p hp; omega)) _ _ hb9
 have hb10 := hb9; rw [← List.append_assoc (((((((((magicL ++ row [1] 1) ++ _) ++ _) ++ _) ++ _) ++ _) ++ _) ++ _) ++ _)] at hb10
 have n10 := Reads.all (b := b) (f := barS b) (g := barL) (l := d.bars) (fun p hp => by
  have := h.bar p hp
  exact reads_bar (by omega) (by omega) (fun n hn => by have := this.1 n hn; omega) (fun n hn => by have := this.2.1 n hn; omega)) _ _ hb10
 have hs : b.size = 5 + 1 + 1 + 1 + 1 + 4 + 4 + (d.parts.flatMap partL).length + (d.edges.flatMap edgeL).length + (d.futs.flatMap futL).length + (d.bars.flatMap barL).length := by
  have := congrArg List.length hb10
  simp only [List.length_append, len1, len4, List.length_nil] at this
  rw [List.length_append, len1] at hm
  have h0 : b.data.toList.length = b.size := by simp
  omega
 simp only [List.length_append, len1, len4] at n1 n2 n3 n4 n5 n6 n7 n8 n9 n10
 rw [List.length_append, len1] at hm
 simp only [hm] at n1 n2 n3 n4 n5 n6 n7 n8 n9 n10
 unfold bodyS
 simp only [n1, n2, n3, n4, n5, n6, n7, n8, n9, n10, Int.toNat_natCast, hs]
end CodPlain

set_option linter.unusedVariables false
set_option linter.unusedSimpArgs false
namespace CodPlain
open WirePlain
theorem part_len (p : Int × Int × Int) : (partL p).length = 7 := by unfold partL; rw [List.length_append, List.length_append, len1, len4, len2]
theorem edge_len (p : Int × Int) : (edgeL p).length = 2 := by unfold edgeL; rw [row_len]; rfl
theorem fut_len (p : Int × Int × Int) : (futL p).length = 4 := by unfold futL; rw [List.length_append, row_len, len2]; rfl
theorem bar_len (p : List Int × List Int) : (barL p).length = 2 + p.1.length + p.2.length := by
 unfold barL
 rw [List.length_append, List.length_append, row_len, row_len, row_len]
 show 2 * 1 + p.1.length * 1 + p.2.length * 1 = _
 omega
theorem flat_len {α : Type} {g : α → List UInt8} {k : Nat} (h : ∀ x, (g x).length = k) (l : List α) : (l.flatMap g).length = k * l.length := by
 induction l with
 | nil => rfl
 | cons a l ih => rw [List.flatMap_cons, List.length_append, h, ih, List.length_cons, Nat.mul_succ]; omega
def barsN (l : List (List Int × List Int)) : Nat := (l.map fun b => 2 + b.1.length + b.2.length).sum
theorem bars_len (l : List (List Int × List Int)) : (l.flatMap barL).length = barsN l := by
 induction l with
 | nil => rfl
 | cons a l ih => rw [List.flatMap_cons, List.length_append, bar_len, ih]; unfold barsN; rw [List.map_cons, List.sum_cons]
theorem body_len (d : D) : (bodyL d).length = 17 + 7 * d.parts.length + 2 * d.edges.length + 4 * d.futs.length + barsN d.bars := by
 unfold bodyL headL
 rw [List.length_append, List.length_append, List.length_append, List.length_append, List.length_append, List.length_append, flat_len part_len, flat_len edge_len, flat_len fut_len, bars_len, row_len, row_len]
 show 4 + 5 * 1 + 2 * 4 + _ + _ + _ + _ = _
 omega
theorem enc_len {d : D} (h : checkD d = 0) : (encL d).length = 21 + 7 * d.parts.length + 2 * d.edges.length + 4 * d.futs.length + barsN d.bars := by
 unfold encL CrcPlain.sealed
 rw [if_pos h, List.length_append, body_len]
 show _ + 4 = _
 omega
structure Wr {α : Type} (b : ByteArray) (f : St → α × St) (g : α → List UInt8) : Prop where
 stop : ∀ i, (f (i, true)).2 = (i, true)
 go : ∀ i, i ≤ b.size → (f (i, false)).2.2 = false → i ≤ (f (i, false)).2.1 ∧ (f (i, false)).2.1 ≤ b.size ∧ b.data.toList.take (f (i, false)).2.1 = b.data.toList.take i ++ g (f (i, false)).1
theorem wr_num (b : ByteArray) {k : Nat} (hk : Wide k) : Wr b (numS b k) (fun n => row [n] k) := by
 refine ⟨fun i => by unfold numS; rw [if_pos rfl], fun i hi h => ?_⟩
 unfold numS at h ⊢
 rw [if_neg (by simp)] at h ⊢
 by_cases he : (getR b (i : Int) (k : Int)).2 = 0
 ·rw [if_pos he] at h ⊢
  unfold getR at he ⊢
  rw [if_pos hk] at he ⊢
  by_cases ht : There b.size (i : Int) (k : Int)
  ·rw [if_pos ht] at he ⊢
   by_cases hm : num b (i : Int) (k : Int) ≤ 9223372036854775807
   ·rw [if_pos hm]
    obtain ⟨t1, t2, t3, t4⟩ := ht
    have hs : b.data.toList.length = b.size := by simp
    refine ⟨by show i ≤ i + k; omega, by show i + k ≤ b.size; omega, ?_⟩
    show b.data.toList.take (i + k) = b.data.toList.take i ++ row [((num b (i : Int) (k : Int) : Nat) : Int)] (k : Int)
    rw [row_cons, row_nil, List.append_nil, Int.toNat_natCast, Int.toNat_natCast]
    have hl : ((b.data.toList.drop i).take k).length = k := by rw [List.length_take, List.length_drop]; omega
    have hp := put_le ((b.data.toList.drop i).take k)
    rw [hl] at hp
    unfold num
    rw [Int.toNat_natCast, Int.toNat_natCast, hp, List.take_add]
   ·rw [if_neg hm] at he; cases he
  ·rw [if_neg ht] at he; cases he
 ·rw [if_neg he] at h; cases h
theorem wr_some {α : Type} {b : ByteArray} {f : St → α × St} {g : α → List UInt8} (hf : Wr b f g) : ∀ n, Wr b (someS f n) (fun l => l.flatMap g)
 | 0 => ⟨fun _ => rfl, fun i hi _ => ⟨Nat.le_refl _, hi, by show _ = _ ++ []; rw [List.append_nil]; rfl⟩⟩
 | n + 1 => by
  have ih := wr_some hf n
  refine ⟨fun i => by rw [someS, if_pos rfl], fun i hi h => ?_⟩
  rw [someS, if_neg (by simp)] at h ⊢
  change (someS f n (f (i, false)).2).2.2 = false at h
  cases hb : (f (i, false)).2.2 with
  | true =>
   have : (f (i, false)).2 = ((f (i, false)).2.1, true) := Prod.ext rfl hb
   rw [this, ih.stop] at h; cases h
  | false =>
   have e : (f (i, false)).2 = ((f (i, false)).2.1, false) := Prod.ext rfl hb
   obtain ⟨a1, a2, a3⟩ := hf.go i hi hb
   rw [e] at h ⊢
   obtain ⟨c1, c2, c3⟩ := ih.go _ a2 h
   refine ⟨Nat.le_trans a1 c1, c2, ?_⟩
   show b.data.toList.take (someS f n ((f (i, false)).2.1, false)).2.1 = b.data.toList.take i ++ ((f (i, false)).1 :: (someS f n ((f (i, false)).2.1, false)).1).flatMap g
   rw [c3, a3, List.flatMap_cons, List.append_assoc]
theorem some_len {α : Type} {b : ByteArray} {f : St → α × St} {g : α → List UInt8} (hf : Wr b f g) : ∀ (n : Nat) (st : St), (someS f n st).2.2 = false → (someS f n st).1.length = n
 | 0, st, _ => rfl
 | n + 1, st, h => by
  cases hs : st.2 with
  | true => rw [someS, if_pos hs] at h; rw [hs] at h; cases h
  | false =>
   rw [someS, if_neg (by rw [hs]; simp)] at h ⊢
   exact congrArg Nat.succ (some_len hf n _ h)
theorem Wr.two {α β γ : Type} {b : ByteArray} {f : St → α × St} {f' : St → β × St} {g : α → List UInt8} {g' : β → List UInt8} (h : Wr b f g) (h' : Wr b f' g') {F : St → γ × St} {G : γ → List UInt8}
  (e2 : ∀ st, (F st).2 = (f' (f st).2).2) (e1 : ∀ st, G (F st).1 = g (f st).1 ++ g' (f' (f st).2).1) : Wr b F G := by
 refine ⟨fun i => by rw [e2, h.stop, h'.stop], fun i hi hh => ?_⟩
 rw [e2] at hh ⊢
 rw [e1]
 cases hb : (f (i, false)).2.2 with
 | true =>
  have : (f (i, false)).2 = ((f (i, false)).2.1, true) := Prod.ext rfl hb
  rw [this, h'.stop] at hh; cases hh
 | false =>
  have e : (f (i, false)).2 = ((f (i, false)).2.1, false) := Prod.ext rfl hb
  obtain ⟨a1, a2, a3⟩ := h.go i hi hb
  rw [e] at hh ⊢
  obtain ⟨c1, c2, c3⟩ := h'.go _ a2 hh
  exact ⟨Nat.le_trans a1 c1, c2, by rw [c3, a3, List.append_assoc]⟩
theorem wr1 (b : ByteArray) : Wr b (numS b 1) (fun n => row [n] 1) := wr_num b (k := 1) (.inl rfl)
theorem wr2 (b : ByteArray) : Wr b (numS b 2) (fun n => row [n] 2) := wr_num b (k := 2) (.inr (.inl rfl))
theorem wr4 (b : ByteArray) : Wr b (numS b 4) (fun n => row [n] 4) := wr_num b (k := 4) (.inr (.inr (.inl rfl)))
theorem wr_edge (b : ByteArray) : Wr b (edgeS b) edgeL := (wr1 b).two (wr1 b) (fun st => rfl) (fun st => by unfold edgeL edgeS; rw [row_two])
theorem wr_part (b : ByteArray) : Wr b (partS b) partL :=
 (((wr1 b).two (wr4 b) (F := fun st => (((numS b 1 st).1, (numS b 4 (numS b 1 st).2).1), (numS b 4 (numS b 1 st).2).2)) (G := fun q => row [q.1] 1 ++ row [q.2] 4) (fun st => rfl) (fun st => rfl)).two (wr2 b) (fun st => rfl) (fun st => rfl))
theorem wr_fut (b : ByteArray) : Wr b (futS b) futL :=
 (((wr1 b).two (wr1 b) (F := fun st => (((numS b 1 st).1, (numS b 1 (numS b 1 st).2).1), (numS b 1 (numS b 1 st).2).2)) (G := fun q => row [q.1] 1 ++ row [q.2] 1) (fun st => rfl) (fun st => rfl)).two (wr2 b) (fun st => rfl) (fun st => by unfold futL futS; rw [row_two]))
theorem Wr.back {α : Type} {b : ByteArray} {f : St → α × St} {g : α → List UInt8} (h : Wr b f g) {st : St} (e : (f st).2.2 = false) : st.2 = false := by
 cases hs : st.2 with
 | false => rfl
 | true =>
  have : st = (st.1, true) := Prod.ext rfl hs
  rw [this, h.stop] at e; cases e
theorem Wr.at_ {α : Type} {b : ByteArray} {f : St → α × St} {g : α → List UInt8} (h : Wr b f g) {st : St} (hi : st.1 ≤ b.size) (e : (f st).2.2 = false) : st.1 ≤ (f st).2.1 ∧ (f st).2.1 ≤ b.size ∧ b.data.toList.take (f st).2.1 = b.data.toList.take st.1 ++ g (f st).1 := by
 have : st = (st.1, false) := Prod.ext rfl (h.back e)
 rw [this] at e ⊢
 exact h.go _ hi e
theorem num_pos (b : ByteArray) (k : Nat) (st : St) : 0 ≤ (numS b k st).1 := by
 unfold numS
 split
 ·exact Int.le_refl _
 ·split
  ·show 0 ≤ (getR b (st.1 : Int) (k : Int)).1
   unfold getR
   split
   ·split
    ·split
     ·exact Int.natCast_nonneg _
     ·exact Int.le_refl _
    ·exact Int.le_refl _
   ·exact Int.le_refl _
  ·exact Int.le_refl _
theorem row_flat (l : List Int) : (l.flatMap fun n => row [n] 1) = row l 1 := by
 induction l with
 | nil => rfl
 | cons a l ih => rw [List.flatMap_cons, ih, row_cons a l, row_cons a [], row_nil, List.append_nil]
theorem wr_bar (b : ByteArray) : Wr b (barS b) barL := by
 have W := wr1 b
 refine ⟨fun i => ?_, fun i hi h => ?_⟩
 ·show (someS (numS b 1) (numS b 1 (numS b 1 (i, true)).2).1.toNat (someS (numS b 1) (numS b 1 (i, true)).1.toNat (numS b 1 (numS b 1 (i, true)).2).2).2).2 = _
  rw [W.stop, W.stop, (wr_some W _).stop, (wr_some W _).stop]
 ·obtain ⟨A, hA⟩ : ∃ A, A = numS b 1 (i, false) := ⟨_, rfl⟩
  obtain ⟨B, hB⟩ : ∃ B, B = numS b 1 A.2 := ⟨_, rfl⟩
  obtain ⟨C, hC⟩ : ∃ C, C = someS (numS b 1) A.1.toNat B.2 := ⟨_, rfl⟩
  obtain ⟨E, hE⟩ : ∃ E, E = someS (numS b 1) B.1.toNat C.2 := ⟨_, rfl⟩
  have hbar : barS b (i, false) = ((C.1, E.1), E.2) := by rw [hE, hC, hB, hA]; rfl
  rw [hbar] at h ⊢
  change E.2.2 = false at h
  have gE : (someS (numS b 1) B.1.toNat C.2).2.2 = false := by rw [← hE]; exact h
  have gC : (someS (numS b 1) A.1.toNat B.2).2.2 = false := by rw [← hC]; exact (wr_some W _).back gE
  have gB : (numS b 1 A.2).2.2 = false := by rw [← hB]; exact (wr_some W _).back gC
  have gA : (numS b 1 (i, false)).2.2 = false := by rw [← hA]; exact W.back gB
  obtain ⟨a1, a2, a3⟩ := W.at_ (st := (i, false)) hi gA
  rw [← hA] at a1 a2 a3
  obtain ⟨b1, b2, b3⟩ := W.at_ a2 gB
  rw [← hB] at b1 b2 b3
  obtain ⟨c1, c2, c3⟩ := (wr_some W _).at_ b2 gC
  rw [← hC] at c1 c2 c3
  obtain ⟨e1, e2, e3⟩ := (wr_some W _).at_ c2 gE
  rw [← hE] at e1 e2 e3
  have l1 := some_len W _ _ gC
  rw [← hC] at l1
  have l2 := some_len W _ _ gE
  rw [← hE] at l2
  have p1 : 0 ≤ A.1 := by rw [hA]; exact num_pos b 1 _
  have p2 : 0 ≤ B.1 := by rw [hB]; exact num_pos b 1 _
  refine ⟨by show i ≤ E.2.1; have : i ≤ A.2.1 := a1; omega, e2, ?_⟩
  show b.data.toList.take E.2.1 = b.data.toList.take i ++ barL (C.1, E.1)
  have k1 : ((C.1.length : Nat) : Int) = A.1 := by omega
  have k2 : ((E.1.length : Nat) : Int) = B.1 := by omega
  rw [e3, c3, b3, a3, row_flat, row_flat]
  unfold barL
  dsimp only
  rw [k1, k2, row_two]
  simp only [List.append_assoc]
theorem take_mark {L : List UInt8} (h4 : L.take 4 = magicL) (h5 : L.getD 4 0 = 1) : L.take 5 = magicL ++ row [1] 1 := by
 have hl : 4 < L.length := by
  rcases Nat.lt_or_ge 4 L.length with h | h
  ·exact h
  ·rw [List.getD_eq_getElem?_getD, List.getElem?_eq_none h] at h5; exact absurd h5 (by decide)
 rw [List.getD_eq_getElem?_getD, List.getElem?_eq_getElem hl] at h5
 have h6 : L[4] = 1 := h5
 rw [List.take_succ_eq_append_getElem hl, h4, h6]; rfl
theorem body_only {b : ByteArray} (h4 : b.data.toList.take 4 = magicL) (h5 : b.data.toList.getD 4 0 = 1) (hs : 5 ≤ b.size) (h : (bodyS b (5, false)).2.2 = false) :
  b.data.toList.take (bodyS b (5, false)).2.1 = bodyL (bodyS b (5, false)).1 ∧ (bodyS b (5, false)).2.1 ≤ b.size ∧ 5 ≤ (bodyS b (5, false)).2.1 := by
 have W1 := wr1 b
 have W4 := wr4 b
 obtain ⟨a, ha⟩ : ∃ a, a = numS b 1 (5, false) := ⟨_, rfl⟩
 obtain ⟨c, hc⟩ : ∃ c, c = numS b 1 a.2 := ⟨_, rfl⟩
 obtain ⟨e, he⟩ : ∃ e, e = numS b 1 c.2 := ⟨_, rfl⟩
 obtain ⟨f, hf⟩ : ∃ f, f = numS b 1 e.2 := ⟨_, rfl⟩
 obtain ⟨p, hp⟩ : ∃ p, p = numS b 4 f.2 := ⟨_, rfl⟩
 obtain ⟨q, hq⟩ : ∃ q, q = numS b 4 p.2 := ⟨_, rfl⟩
 obtain ⟨r, hr⟩ : ∃ r, r = someS (partS b) a.1.toNat q.2 := ⟨_, rfl⟩
 obtain ⟨t, ht⟩ : ∃ t, t = someS (edgeS b) c.1.toNat r.2 := ⟨_, rfl⟩
 obtain ⟨u, hu⟩ : ∃ u, u = someS (futS b) e.1.toNat t.2 := ⟨_, rfl⟩
 obtain ⟨v, hv⟩ : ∃ v, v = someS (barS b) f.1.toNat u.2 := ⟨_, rfl⟩
 have hbody : bodyS b (5, false) = (⟨p.1, q.1, r.1, t.1, u.1, v.1⟩, v.2) := by rw [hv, hu, ht, hr, hq, hp, hf, he, hc, ha]; rfl
 rw [hbody] at h ⊢
 change v.2.2 = false at h
 have Wp := wr_some (wr_part b) a.1.toNat
 have We := wr_some (wr_edge b) c.1.toNat
 have Wf := wr_some (wr_fut b) e.1.toNat
 have Wb := wr_some (wr_bar b) f.1.toNat
 have gv : (someS (barS b) f.1.toNat u.2).2.2 = false := by rw [← hv]; exact h
 have gu : (someS (futS b) e.1.toNat t.2).2.2 = false := by rw [← hu]; exact Wb.back gv
 have gt : (someS (edgeS b) c.1.toNat r.2).2.2 = false := by rw [← ht]; exact Wf.back gu
 have gr : (someS (partS b) a.1.toNat q.2).2.2 = false := by rw [← hr]; exact We.back gt
 have gq : (numS b 4 p.2).2.2 = false := by rw [← hq]; exact Wp.back gr
 have gp : (numS b 4 f.2).2.2 = false := by rw [← hp]; exact W4.back gq
 have gf : (numS b 1 e.2).2.2 = false := by rw [← hf]; exact W4.back gp
 have ge : (numS b 1 c.2).2.2 = false := by rw [← he]; exact W1.back gf
 have gc : (numS b 1 a.2).2.2 = false := by rw [← hc]; exact W1.back ge
 have ga : (numS b 1 (5, false)).2.2 = false := by rw [← ha]; exact W1.back gc
 obtain ⟨a1, a2, a3⟩ := W1.at_ (st := (5, false)) hs ga
 rw [← ha] at a1 a2 a3
 obtain ⟨c1, c2, c3⟩ := W1.at_ a2 gc
 rw [← hc] at c1 c2 c3
 obtain ⟨e1, e2, e3⟩ := W1.at_ c2 ge
 rw [← he] at e1 e2 e3
 obtain ⟨f1, f2, f3⟩ := W1.at_ e2 gf
 rw [← hf] at f1 f2 f3
 obtain ⟨p1, p2, p3⟩ := W4.at_ f2 gp
 rw [← hp] at p1 p2 p3
 obtain ⟨q1, q2, q3⟩ := W4.at_ p2 gq
 rw [← hq] at q1 q2 q3
 obtain ⟨r1, r2, r3⟩ := Wp.at_ q2 gr
 rw [← hr] at r1 r2 r3
 obtain ⟨t1, t2, t3⟩ := We.at_ r2 gt
 rw [← ht] at t1 t2 t3
 obtain ⟨u1, u2, u3⟩ := Wf.at_ t2 gu
 rw [← hu] at u1 u2 u3
 obtain ⟨v1, v2, v3⟩ := Wb.at_ u2 gv
 rw [← hv] at v1 v2 v3
 have lr := some_len (wr_part b) _ _ gr
 rw [← hr] at lr
 have lt := some_len (wr_edge b) _ _ gt
 rw [← ht] at lt
 have lu := some_len (wr_fut b) _ _ gu
 rw [← hu] at lu
 have lv := some_len (wr_bar b) _ _ gv
 rw [← hv] at lv
 have na : 0 ≤ a.1 := by rw [ha]; exact num_pos b 1 _
 have nc : 0 ≤ c.1 := by rw [hc]; exact num_pos b 1 _
 have ne : 0 ≤ e.1 := by rw [he]; exact num_pos b 1 _
 have nf : 0 ≤ f.1 := by rw [hf]; exact num_pos b 1 _
 have k1 : ((r.1.length : Nat) : Int) = a.1 := by omega
 have k2 : ((t.1.length : Nat) : Int) = c.1 := by omega
 have k3 : ((u.1.length : Nat) : Int) = e.1 := by omega
 have k4 : ((v.1.length : Nat) : Int) = f.1 := by omega
 refine ⟨?_, v2, by show 5 ≤ v.2.1; have : (5 : Nat) ≤ a.2.1 := a1; omega⟩
 show b.data.toList.take v.2.1 = bodyL ⟨p.1, q.1, r.1, t.1, u.1, v.1⟩
 rw [v3, u3, t3, r3, q3, p3, f3, e3, c3, a3, take_mark h4 h5]
 unfold bodyL headL
 dsimp only
 rw [k1, k2, k3, k4]
 simp only [row_cons, row_nil, List.append_nil, List.append_assoc]
theorem body_all {b : ByteArray} (h4 : b.data.toList.take 4 = magicL) (h5 : b.data.toList.getD 4 0 = 1) (hs : 5 ≤ b.size) (h : (bodyS b (5, false)).2.2 = false) (hend : ¬ (bodyS b (5, false)).2.1 < b.size) : b.data.toList = bodyL (bodyS b (5, false)).1 := by
 obtain ⟨h1, h2, h3⟩ := body_only h4 h5 hs h
 have hl : b.data.toList.length = b.size := by simp
 rw [← h1, List.take_of_length_le (by omega)]
end CodPlain

namespace CodPlain
open WirePlain
theorem num1_le (s : ByteArray) (st : St) : 0 ≤ (numS s 1 st).1 ∧ (numS s 1 st).1 ≤ 255 := by
 unfold numS
 split
 ·exact ⟨by dsimp only; omega, by dsimp only; omega⟩
 ·split
  ·unfold getR
   have hl := le_lt ((s.data.toList.drop ((st.1 : Nat) : Int).toNat).take ((1 : Nat) : Int).toNat)
   have hk : ((s.data.toList.drop ((st.1 : Nat) : Int).toNat).take ((1 : Nat) : Int).toNat).length ≤ 1 := by rw [List.length_take]; exact Nat.min_le_left _ _
   have h2 : (256 : Nat) ^ ((s.data.toList.drop ((st.1 : Nat) : Int).toNat).take ((1 : Nat) : Int).toNat).length ≤ 256 ^ 1 := Nat.pow_le_pow_right (by decide) hk
   have h3 : num s (st.1 : Int) ((1 : Nat) : Int) ≤ 255 := by unfold num; omega
   split
   ·split
    ·split
     ·exact ⟨by dsimp only; omega, by dsimp only; omega⟩
     ·exact ⟨by dsimp only; omega, by dsimp only; omega⟩
    ·exact ⟨by dsimp only; omega, by dsimp only; omega⟩
   ·exact ⟨by dsimp only; omega, by dsimp only; omega⟩
  ·exact ⟨by dsimp only; omega, by dsimp only; omega⟩
theorem some_le {α : Type} (f : St → α × St) : ∀ (n : Nat) (st : St), (someS f n st).1.length ≤ n
 | 0, _ => Nat.le_refl _
 | n + 1, st => by
  rw [someS]
  split
  ·exact Nat.zero_le _
  ·have := some_le f n (f st).2
   rw [List.length_cons]; omega
theorem some_mem {α : Type} (f : St → α × St) : ∀ (n : Nat) (st : St) (x : α), x ∈ (someS f n st).1 → ∃ st', x = (f st').1
 | 0, _, x, h => by cases h
 | n + 1, st, x, h => by
  rw [someS] at h
  split at h
  ·cases h
  ·rcases List.mem_cons.1 h with rfl | h
   ·exact ⟨st, rfl⟩
   ·exact some_mem f n _ x h
theorem bar_short (s : ByteArray) (st : St) : (barS s st).1.1.length ≤ 255 ∧ (barS s st).1.2.length ≤ 255 := by
 unfold barS
 have h1 := num1_le s st
 have h2 := num1_le s (numS s 1 st).2
 refine ⟨Nat.le_trans (some_le _ _ _) (by omega), Nat.le_trans (some_le _ _ _) (by omega)⟩
structure Short (d : D) : Prop where
 p : d.parts.length ≤ 255
 e : d.edges.length ≤ 255
 f : d.futs.length ≤ 255
 b : d.bars.length ≤ 255
 r : ∀ b ∈ d.bars, b.1.length ≤ 255 ∧ b.2.length ≤ 255
theorem body_short (s : ByteArray) (st : St) : Short (bodyS s st).1 := by
 have h1 := num1_le s st
 have h2 := num1_le s (numS s 1 st).2
 have h3 := num1_le s (numS s 1 (numS s 1 st).2).2
 have h4 := num1_le s (numS s 1 (numS s 1 (numS s 1 st).2).2).2
 refine ⟨?_, ?_, ?_, ?_, ?_⟩
 ·exact Nat.le_trans (some_le (partS s) _ _) (by omega)
 ·exact Nat.le_trans (some_le (edgeS s) _ _) (by omega)
 ·exact Nat.le_trans (some_le (futS s) _ _) (by omega)
 ·exact Nat.le_trans (some_le (barS s) _ _) (by omega)
 ·intro b hb
  obtain ⟨st', rfl⟩ := some_mem (barS s) _ _ b hb
  exact bar_short s st'
end CodPlain

namespace CrcPlain
end CrcPlain
