/- Plain facts on numbers as bytes, the lowest first. No condition. -/
namespace WirePlain
def put (m : Nat) : Nat → List UInt8
  | 0 => []
  | k + 1 => UInt8.ofNat (m % 256) :: put (m / 256) k
/-- The number that bytes are. -/
def le : List UInt8 → Nat
  | [] => 0
  | c :: l => c.toNat + 256 * le l
theorem put_len (k : Nat) : ∀ m, (put m k).length = k := by
  induction k with
  | zero => intro m; rfl
  | succ k ih => intro m; simp [put, ih]
theorem put_snoc (j : Nat) : ∀ m, put m (j + 1) = put m j ++ [UInt8.ofNat (m / 256 ^ j % 256)] := by
  induction j with
  | zero => intro m; simp [put]
  | succ j ih =>
    intro m
    rw [put, ih (m / 256)]
    simp only [put, List.cons_append]
    rw [Nat.div_div_eq_div_mul, Nat.pow_succ, Nat.mul_comm 256]
theorem le_put (k : Nat) : ∀ m, m < 256 ^ k → le (put m k) = m := by
  induction k with
  | zero => intro m h; simp [put, le] at h ⊢; omega
  | succ k ih =>
    intro m h
    simp only [put, le]
    rw [ih (m / 256) (by rw [Nat.pow_succ] at h; exact Nat.div_lt_of_lt_mul (by rw [Nat.mul_comm]; exact h))]
    simp; omega
theorem le_lt : ∀ l : List UInt8, le l < 256 ^ l.length
  | [] => by simp [le]
  | c :: l => by
    have := le_lt l
    have hc := c.toNat_lt
    simp only [le, List.length_cons, Nat.pow_succ]
    omega
theorem put_le : ∀ l : List UInt8, put (le l) l.length = l
  | [] => rfl
  | c :: l => by
    have hc := c.toNat_lt
    simp only [le, List.length_cons, put]
    rw [show (c.toNat + 256 * le l) / 256 = le l by omega, put_le l, show (c.toNat + 256 * le l) % 256 = c.toNat by omega]
    simp
theorem le_snoc (l : List UInt8) (c : UInt8) : le (l ++ [c]) = le l + c.toNat * 256 ^ l.length := by
  induction l with
  | nil => simp [le]
  | cons d l ih => simp only [List.cons_append, le, ih, List.length_cons, Nat.pow_succ]; rw [Nat.mul_add, Nat.add_assoc]; congr 2; rw [← Nat.mul_assoc, Nat.mul_comm 256, Nat.mul_assoc, Nat.mul_comm 256]
theorem le_zeros (l : List UInt8) (n : Nat) : le (l ++ List.replicate n 0) = le l := by
  have hz : ∀ n, le (List.replicate n 0) = 0 := by
    intro n
    induction n with
    | zero => rfl
    | succ n ih => simp [List.replicate_succ, le, ih]
  induction l with
  | nil => simpa [le] using hz n
  | cons c l ih => simp only [List.cons_append, le, ih]
theorem put_inj {k m n : Nat} (hm : m < 256 ^ k) (hn : n < 256 ^ k) (h : put m k = put n k) : m = n := by
  rw [← le_put k m hm, ← le_put k n hn, h]
def Wide (k : Int) : Prop := k = 1 ∨ k = 2 ∨ k = 4 ∨ k = 8
instance (k : Int) : Decidable (Wide k) := by unfold Wide; infer_instance
def fits (n : Int) (k : Int) : Prop := 0 ≤ n ∧ (k < 8 → n < 256 ^ k.toNat)
instance (n k : Int) : Decidable (fits n k) := by unfold fits; infer_instance
/-- Put: the bytes, and the error's number. -/
def putR (n k : Int) : ByteArray × Int := if Wide k then if fits n k then (⟨(put n.toNat k.toNat).toArray⟩, 0) else (⟨#[]⟩, 20) else (⟨#[]⟩, 22)
def There (len : Nat) (at_ many : Int) : Prop := 0 ≤ at_ ∧ 0 ≤ many ∧ at_ ≤ len ∧ many ≤ len - at_
instance (len : Nat) (a b : Int) : Decidable (There len a b) := by unfold There; infer_instance
def num (s : ByteArray) (at_ k : Int) : Nat := le ((s.data.toList.drop at_.toNat).take k.toNat)
/-- Get: the number, and the error's number. -/
def getR (s : ByteArray) (at_ k : Int) : Int × Int := if Wide k then if There s.size at_ k then if num s at_ k ≤ 9223372036854775807 then ((num s at_ k : Int), 0) else (0, 20) else (0, 21) else (0, 22)
end WirePlain
