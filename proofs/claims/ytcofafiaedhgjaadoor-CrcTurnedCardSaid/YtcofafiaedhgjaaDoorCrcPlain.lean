/- Plain facts on the sum: the table does what eight single bits do, one byte or four bytes together that differ change the sum, part by part it is the sum of all. No condition. -/
namespace CrcPlain
def tab : List Nat := [0, 498536548, 997073096, 651767980, 1994146192, 1802195444, 1303535960, 1342533948, 3988292384, 4027552580, 3604390888, 3412177804, 2607071920, 2262029012, 2685067896, 3183342108]
def nib (s : Nat) : Nat := (s / 16) ^^^ tab.getD (s % 16) 0
def byt (s c : Nat) : Nat := nib (nib (s ^^^ c))
def run (s : Nat) (l : List UInt8) : Nat := l.foldl (fun s c => byt s c.toNat) s
def ones : Nat := 4294967295
def more (sum : Nat) (l : List UInt8) : Nat := ones ^^^ run (ones ^^^ sum) l
def sum (l : List UInt8) : Nat := more 0 l
def tail (n : Nat) : List UInt8 := [UInt8.ofNat (n % 256), UInt8.ofNat (n / 256 % 256), UInt8.ofNat (n / 65536 % 256), UInt8.ofNat (n / 16777216 % 256)]
def sealed (l : List UInt8) : List UInt8 := l ++ tail (sum l)
def bit (s : Nat) : Nat := if s % 2 = 1 then (s / 2) ^^^ 3988292384 else s / 2
def it : Nat → Nat → Nat
  | 0, s => s
  | n + 1, s => it n (bit s)

theorem xor_mod2 (a b : Nat) : (a ^^^ b) % 2 = (a % 2) ^^^ (b % 2) := by
  have := Nat.xor_mod_two_pow (a := a) (b := b) (n := 1)
  simpa using this
theorem xor_div2 (a b : Nat) : (a ^^^ b) / 2 = (a / 2) ^^^ (b / 2) := by
  have := Nat.shiftRight_xor_distrib (i := 1) (a := a) (b := b)
  simpa [Nat.shiftRight_eq_div_pow] using this
theorem bit_xor (a b : Nat) : bit (a ^^^ b) = bit a ^^^ bit b := by
  unfold bit
  rw [xor_mod2, xor_div2]
  have ha := Nat.mod_two_eq_zero_or_one a
  have hb := Nat.mod_two_eq_zero_or_one b
  rcases ha with ha | ha <;> rcases hb with hb | hb <;> simp [ha, hb]
  · rw [Nat.xor_assoc]
  · rw [Nat.xor_assoc, Nat.xor_assoc, Nat.xor_comm 3988292384]
  · rw [← Nat.xor_assoc, Nat.xor_assoc (a / 2) 3988292384, Nat.xor_comm 3988292384 (b / 2), ← Nat.xor_assoc (a/2), Nat.xor_assoc _ 3988292384, Nat.xor_self, Nat.xor_zero]
theorem it_xor (n : Nat) : ∀ a b, it n (a ^^^ b) = it n a ^^^ it n b := by
  induction n with
  | zero => intro a b; rfl
  | succ n ih => intro a b; simp only [it]; rw [bit_xor, ih]
theorem it_zero (n : Nat) : it n 0 = 0 := by
  induction n with
  | zero => rfl
  | succ n ih => simpa [it, bit] using ih
theorem bit_double (q : Nat) : bit (2 * q) = q := by unfold bit; rw [if_neg (by omega)]; omega
theorem it_add (m : Nat) : ∀ n s, it (m + n) s = it n (it m s) := by
  induction m with
  | zero => intro n s; simp [it]
  | succ m ih => intro n s; rw [Nat.succ_add]; simp only [it]; exact ih n _
theorem it_pow (n : Nat) : ∀ q, it n (2 ^ n * q) = q := by
  induction n with
  | zero => intro q; simp [it]
  | succ n ih => intro q; simp only [it]; rw [show 2 ^ (n + 1) * q = 2 * (2 ^ n * q) by rw [Nat.pow_succ]; simp [Nat.mul_comm, Nat.mul_left_comm], bit_double, ih]
theorem split_xor (k q r : Nat) (hr : r < 2 ^ k) : 2 ^ k * q + r = (2 ^ k * q) ^^^ r := by
  apply Nat.eq_of_testBit_eq
  intro i
  rw [Nat.testBit_xor, Nat.testBit_two_pow_mul_add q hr, Nat.testBit_two_pow_mul]
  by_cases h : i < k
  · have h2 : ¬ k ≤ i := by omega
    simp [h, h2]
  · have : r.testBit i = false := Nat.testBit_lt_two_pow (Nat.lt_of_lt_of_le hr (Nat.pow_le_pow_right (by omega) (by omega)))
    simp [h, this]; omega
theorem it_split (k q r : Nat) (hr : r < 2 ^ k) : it k (2 ^ k * q + r) = q ^^^ it k r := by
  rw [split_xor k q r hr, it_xor, it_pow]
theorem tab_it : ∀ r, r < 16 → tab.getD r 0 = it 4 r := by decide
theorem nib_it (s : Nat) : nib s = it 4 s := by
  have h := it_split 4 (s / 16) (s % 16) (by omega)
  rw [show 2 ^ 4 * (s / 16) + s % 16 = s by omega] at h
  rw [h]; unfold nib; rw [tab_it _ (by omega)]
theorem byt_it (s c : Nat) : byt s c = it 8 (s ^^^ c) := by
  unfold byt; rw [nib_it, nib_it, ← it_add]
theorem bit_lt {s : Nat} (h : s < 4294967296) : bit s < 4294967296 := by
  unfold bit
  split
  · exact Nat.xor_lt_two_pow (n := 32) (by omega) (by omega)
  · omega
theorem it_lt (n : Nat) : ∀ {s : Nat}, s < 4294967296 → it n s < 4294967296 := by
  induction n with
  | zero => intro s h; exact h
  | succ n ih => intro s h; exact ih (bit_lt h)
theorem byt_lt {s c : Nat} (h : s < 4294967296) (hc : c < 4294967296) : byt s c < 4294967296 := by
  rw [byt_it]; exact it_lt 8 (Nat.xor_lt_two_pow (n := 32) h hc)
theorem u8_lt (c : UInt8) : c.toNat < 256 := c.toNat_lt
theorem run_lt (l : List UInt8) : ∀ {s : Nat}, s < 4294967296 → run s l < 4294967296 := by
  induction l with
  | nil => intro s h; exact h
  | cons c l ih => intro s h; exact ih (byt_lt h (by have := u8_lt c; omega))
theorem ones_lt {s : Nat} (h : s < 4294967296) : ones ^^^ s < 4294967296 := Nat.xor_lt_two_pow (n := 32) (by decide) h
theorem more_lt {s : Nat} (h : s < 4294967296) (l : List UInt8) : more s l < 4294967296 := ones_lt (run_lt l (ones_lt h))
theorem sum_lt (l : List UInt8) : sum l < 4294967296 := more_lt (by decide) l
theorem bit_inj0 {s : Nat} (h : s < 4294967296) (e : bit s = 0) : s = 0 := by
  unfold bit at e
  split at e
  · have e2 : s / 2 = 3988292384 := by
      have := congrArg (· ^^^ 3988292384) e
      simpa [Nat.xor_assoc] using this
    omega
  · omega
theorem it_inj0 (n : Nat) : ∀ {s : Nat}, s < 4294967296 → it n s = 0 → s = 0 := by
  induction n with
  | zero => intro s _ e; exact e
  | succ n ih => intro s h e; exact bit_inj0 h (ih (bit_lt h) e)
theorem xor_eq0 {a b : Nat} (h : a ^^^ b = 0) : a = b := by
  have := congrArg (· ^^^ b) h
  simpa [Nat.xor_assoc] using this
theorem it_inj (n : Nat) {s t : Nat} (hs : s < 4294967296) (ht : t < 4294967296) (e : it n s = it n t) : s = t := by
  apply xor_eq0
  apply it_inj0 n (Nat.xor_lt_two_pow (n := 32) hs ht)
  rw [it_xor, e, Nat.xor_self]
theorem xor_cancel {a b c : Nat} (h : a ^^^ c = b ^^^ c) : a = b := by
  have := congrArg (· ^^^ c) h
  simpa [Nat.xor_assoc] using this
theorem xor_cancel' {a b c : Nat} (h : c ^^^ a = c ^^^ b) : a = b := by
  rw [Nat.xor_comm c, Nat.xor_comm c] at h; exact xor_cancel h
theorem byt_inj {s t c : Nat} (hs : s < 4294967296) (ht : t < 4294967296) (hc : c < 4294967296) (e : byt s c = byt t c) : s = t := by
  rw [byt_it, byt_it] at e
  exact xor_cancel (it_inj 8 (Nat.xor_lt_two_pow (n := 32) hs hc) (Nat.xor_lt_two_pow (n := 32) ht hc) e)
theorem run_inj (l : List UInt8) : ∀ {s t : Nat}, s < 4294967296 → t < 4294967296 → run s l = run t l → s = t := by
  induction l with
  | nil => intro s t _ _ e; exact e
  | cons c l ih =>
    intro s t hs ht e
    have hc := u8_lt c
    exact byt_inj hs ht (by omega) (ih (byt_lt hs (by omega)) (byt_lt ht (by omega)) e)
theorem run_append (s : Nat) (l m : List UInt8) : run s (l ++ m) = run (run s l) m := by unfold run; rw [List.foldl_append]
theorem ones_ones (s : Nat) : ones ^^^ (ones ^^^ s) = s := by rw [← Nat.xor_assoc, Nat.xor_self, Nat.zero_xor]
theorem more_more (s : Nat) (l m : List UInt8) : more (more s l) m = more s (l ++ m) := by
  unfold more; rw [ones_ones, run_append]
theorem more_nil (s : Nat) : more s [] = s := by unfold more run; simp [ones_ones]
theorem run_run (a b : Nat) : ones ^^^ a = ones ^^^ b ↔ a = b := ⟨xor_cancel', fun h => by rw [h]⟩
/-- one byte that is another one is told -/
theorem one_told (p q : List UInt8) (c d : UInt8) (h : sum (p ++ c :: q) = sum (p ++ d :: q)) : c = d := by
  unfold sum more at h
  have h := (run_run _ _).1 h
  rw [run_append, run_append] at h
  have hp : run (ones ^^^ 0) p < 4294967296 := run_lt p (by decide)
  have hc := u8_lt c
  have hd := u8_lt d
  have h1 := run_inj q (s := byt (run (ones ^^^ 0) p) c.toNat) (t := byt (run (ones ^^^ 0) p) d.toNat) (byt_lt hp (by omega)) (byt_lt hp (by omega)) h
  rw [byt_it, byt_it] at h1
  have h2 := xor_cancel' (it_inj 8 (Nat.xor_lt_two_pow (n := 32) hp (by omega)) (Nat.xor_lt_two_pow (n := 32) hp (by omega)) h1)
  exact UInt8.toNat_inj.1 h2
theorem byt_xor (s d c e : Nat) : byt (s ^^^ d) (c ^^^ e) = byt s c ^^^ byt d e := by
  simp only [byt_it]
  rw [← it_xor]
  congr 1
  rw [Nat.xor_assoc, Nat.xor_assoc, ← Nat.xor_assoc d, Nat.xor_comm d c, Nat.xor_assoc c]
/-- four bytes together -/
theorem four (s c0 c1 c2 c3 d0 d1 d2 d3 : Nat) :
    byt (byt (byt (byt s (c0 ^^^ d0)) (c1 ^^^ d1)) (c2 ^^^ d2)) (c3 ^^^ d3) = byt (byt (byt (byt s c0) c1) c2) c3 ^^^ byt (byt (byt (byt 0 d0) d1) d2) d3 := by
  have h0 : byt s (c0 ^^^ d0) = byt s c0 ^^^ byt 0 d0 := by have := byt_xor s 0 c0 d0; simpa using this
  rw [h0, byt_xor, byt_xor, byt_xor]
theorem byt_split (d r q : Nat) (hr : r < 256) : byt d (256 * q + r) = byt d r ^^^ q := by
  rw [byt_it, byt_it]
  have h := split_xor 8 q r (by omega)
  rw [show (2 : Nat) ^ 8 = 256 by rfl] at h
  rw [h, ← Nat.xor_assoc, Nat.xor_comm d, Nat.xor_assoc, it_xor]
  have hp := it_pow 8 q
  rw [show (2 : Nat) ^ 8 = 256 by rfl] at hp
  rw [hp, Nat.xor_comm]
theorem byt_pull (d r q : Nat) : byt (d ^^^ q) r = byt d (r ^^^ q) := by
  rw [byt_it, byt_it, Nat.xor_assoc, Nat.xor_comm q]
theorem four_bits (D : Nat) (hD : D < 4294967296) :
    byt (byt (byt (byt 0 (D % 256)) (D / 256 % 256)) (D / 65536 % 256)) (D / 16777216 % 256) = it 32 D := by
  have e0 : it 8 D = byt 0 (D % 256) ^^^ (D / 256) := by
    have h := byt_split 0 (D % 256) (D / 256) (by omega)
    rw [show 256 * (D / 256) + D % 256 = D by omega, byt_it 0 D, Nat.zero_xor] at h
    exact h
  have step : ∀ d q, it 8 (d ^^^ q) = byt d (q % 256) ^^^ (q / 256) := by
    intro d q
    have h := byt_split d (q % 256) (q / 256) (by omega)
    rw [show 256 * (q / 256) + q % 256 = q by omega, byt_it d q] at h
    exact h
  rw [show 32 = 8 + (8 + (8 + 8)) by rfl, it_add, it_add, it_add, e0, step, step, step]
  rw [show D / 256 / 256 = D / 65536 by omega, show D / 65536 / 256 = D / 16777216 by omega, show D / 16777216 / 256 = 0 by omega, Nat.xor_zero]
theorem turned (p q : List UInt8) (c0 c1 c2 c3 e0 e1 e2 e3 : UInt8) (D : Nat) (hD : D < 4294967296)
    (h0 : e0.toNat = c0.toNat ^^^ (D % 256)) (h1 : e1.toNat = c1.toNat ^^^ (D / 256 % 256)) (h2 : e2.toNat = c2.toNat ^^^ (D / 65536 % 256)) (h3 : e3.toNat = c3.toNat ^^^ (D / 16777216 % 256)) :
    sum (p ++ e0 :: e1 :: e2 :: e3 :: q) = sum (p ++ c0 :: c1 :: c2 :: c3 :: q) ↔ D = 0 := by
  have hp : run (ones ^^^ 0) p < 4294967296 := run_lt p (by decide)
  have k0 := u8_lt c0
  have k1 := u8_lt c1
  have k2 := u8_lt c2
  have k3 := u8_lt c3
  have l0 := u8_lt e0
  have l1 := u8_lt e1
  have l2 := u8_lt e2
  have l3 := u8_lt e3
  have key : byt (byt (byt (byt (run (ones ^^^ 0) p) e0.toNat) e1.toNat) e2.toNat) e3.toNat = byt (byt (byt (byt (run (ones ^^^ 0) p) c0.toNat) c1.toNat) c2.toNat) c3.toNat ^^^ it 32 D := by
    rw [h0, h1, h2, h3, four, four_bits D hD]
  constructor
  · intro h
    unfold sum more at h
    have h := (run_run _ _).1 h
    rw [run_append, run_append] at h
    have hh := run_inj q (s := byt (byt (byt (byt (run (ones ^^^ 0) p) e0.toNat) e1.toNat) e2.toNat) e3.toNat) (t := byt (byt (byt (byt (run (ones ^^^ 0) p) c0.toNat) c1.toNat) c2.toNat) c3.toNat)
      (byt_lt (byt_lt (byt_lt (byt_lt hp (by omega)) (by omega)) (by omega)) (by omega)) (byt_lt (byt_lt (byt_lt (byt_lt hp (by omega)) (by omega)) (by omega)) (by omega)) h
    rw [key] at hh
    have hz : it 32 D = 0 := xor_cancel' (c := byt (byt (byt (byt (run (ones ^^^ 0) p) c0.toNat) c1.toNat) c2.toNat) c3.toNat) (by rw [Nat.xor_zero]; simpa using hh)
    exact it_inj0 32 hD hz
  · rintro rfl
    have g0 : e0 = c0 := UInt8.toNat_inj.1 (by simpa using h0)
    have g1 : e1 = c1 := UInt8.toNat_inj.1 (by simpa using h1)
    have g2 : e2 = c2 := UInt8.toNat_inj.1 (by simpa using h2)
    have g3 : e3 = c3 := UInt8.toNat_inj.1 (by simpa using h3)
    rw [g0, g1, g2, g3]
theorem tail_len (n : Nat) : (tail n).length = 4 := rfl
theorem ofNat_inj {a b : Nat} (ha : a < 256) (hb : b < 256) (h : UInt8.ofNat a = UInt8.ofNat b) : a = b := by
  have := congrArg UInt8.toNat h
  simpa [UInt8.toNat_ofNat', Nat.mod_eq_of_lt ha, Nat.mod_eq_of_lt hb] using this
theorem tail_inj {a b : Nat} (ha : a < 4294967296) (hb : b < 4294967296) (h : tail a = tail b) : a = b := by
  unfold tail at h
  simp only [List.cons.injEq, and_true] at h
  obtain ⟨h0, h1, h2, h3⟩ := h
  have h0 := ofNat_inj (by omega) (by omega) h0
  have h1 := ofNat_inj (by omega) (by omega) h1
  have h2 := ofNat_inj (by omega) (by omega) h2
  have h3 := ofNat_inj (by omega) (by omega) h3
  omega
theorem seal_len (l : List UInt8) : (sealed l).length = l.length + 4 := by unfold sealed; simp [tail_len]
theorem seal_inj {l m : List UInt8} (h : sealed l = sealed m) : l = m := by
  have hl := congrArg List.length h
  rw [seal_len, seal_len] at hl
  exact (List.append_inj h (by omega)).1
/-- the reference: bit by bit -/
def refRun (s : Nat) (l : List UInt8) : Nat := l.foldl (fun s c => it 8 (s ^^^ c.toNat)) s
theorem ref_run (s : Nat) (l : List UInt8) : refRun s l = run s l := by
  unfold refRun run; congr 1; funext s c; rw [byt_it]
end CrcPlain
