/- Plain facts on sealed bytes of which one byte, or four bytes together, were turned. No condition. -/
import Derived.Test.YtcofafiaedhgjaaDoorCrcPlain
namespace CrcPlain
theorem set_split (l : List UInt8) (k : Nat) (c : UInt8) (h : k < l.length) : l.set k c = l.take k ++ c :: l.drop (k + 1) := by
  rw [List.set_eq_take_append_cons_drop, if_pos h]
theorem self_split (l : List UInt8) (k : Nat) (h : k < l.length) : l = l.take k ++ l[k] :: l.drop (k + 1) := by
  have := set_split l k l[k] h
  rw [← this, List.set_getElem_self]
theorem xor_ne (c d : UInt8) (h : d ≠ 0) : c ^^^ d ≠ c := by
  intro e
  apply h
  have : c ^^^ (c ^^^ d) = c ^^^ c := by rw [e]
  rw [← UInt8.xor_assoc, UInt8.xor_self, UInt8.zero_xor] at this
  exact this
theorem one_sealed' (m q : List UInt8) (k : Nat) (c : UInt8) (hk : k < (sealed m).length) (hc : (sealed m)[k]? ≠ some c) : sealed q ≠ (sealed m).set k c := by
  intro e
  have hl : q.length = m.length := by
    have := congrArg List.length e
    rw [List.length_set, seal_len, seal_len] at this
    omega
  by_cases hm : k < m.length
  · have h1 : (sealed m)[k]? = some m[k] := by unfold sealed; rw [List.getElem?_append_left hm, List.getElem?_eq_getElem hm]
    rw [h1] at hc
    unfold sealed at e
    rw [List.set_append_left _ _ hm] at e
    obtain ⟨e1, e2⟩ := List.append_inj e (by simpa using hl)
    have e3 := tail_inj (sum_lt _) (sum_lt _) e2
    rw [e1, set_split m k _ hm] at e3
    have e4 : sum m = sum (m.take k ++ m[k] :: m.drop (k + 1)) := congrArg sum (self_split m k hm)
    rw [e4] at e3
    exact hc (by rw [one_told _ _ _ _ e3])
  · have e2 : sealed q = m ++ (tail (sum m)).set (k - m.length) c := by
      rw [e]
      conv => lhs; unfold sealed
      rw [List.set_append_right _ _ (by omega)]
    have e1 : q = m := (List.append_inj e2 hl).1
    rw [e1] at e
    have e3 := congrArg (fun l => l[k]?) e
    simp only [List.getElem?_set_self hk] at e3
    exact hc e3
theorem one_sealed (m q : List UInt8) (k : Nat) (d : UInt8) (hk : k < (sealed m).length) (hd : d ≠ 0) : sealed q ≠ (sealed m).set k ((sealed m).getD k 0 ^^^ d) := by
  apply one_sealed' m q k _ hk
  rw [List.getD_eq_getElem?_getD, List.getElem?_eq_getElem hk]
  intro e
  exact xor_ne _ _ hd (Option.some.inj e).symm
/-- k bytes turned, from a on -/
def byteOf (D : Nat) : Nat → Nat
  | 0 => D % 256
  | 1 => D / 256 % 256
  | 2 => D / 65536 % 256
  | _ => D / 16777216 % 256
def tl (s : List UInt8) (a D : Nat) : Nat → List UInt8
  | 0 => s
  | k + 1 => (tl s a D k).set (a + k) ((tl s a D k).getD (a + k) 0 ^^^ UInt8.ofNat (byteOf D k))
theorem tl_len (s : List UInt8) (a D : Nat) : ∀ k, (tl s a D k).length = s.length
  | 0 => rfl
  | k + 1 => by simp [tl, tl_len s a D k]
theorem byteOf_lt (D k : Nat) : byteOf D k < 256 := by
  unfold byteOf
  split <;> omega
theorem four_split (s : List UInt8) (a : Nat) (h : a + 4 ≤ s.length) : ∃ p q c0 c1 c2 c3, s = p ++ c0 :: c1 :: c2 :: c3 :: q ∧ p.length = a := by
  refine ⟨s.take a, s.drop (a + 4), s[a], s[a + 1], s[a + 2], s[a + 3], ?_, by simp; omega⟩
  conv => lhs; rw [← List.take_append_drop a s]
  congr 1
  rw [List.drop_eq_getElem_cons (by omega), List.drop_eq_getElem_cons (by omega), List.drop_eq_getElem_cons (by omega), List.drop_eq_getElem_cons (by omega)]
theorem tl_four (p q : List UInt8) (c0 c1 c2 c3 : UInt8) (D : Nat) :
    tl (p ++ c0 :: c1 :: c2 :: c3 :: q) p.length D 4 = p ++ (c0 ^^^ UInt8.ofNat (byteOf D 0)) :: (c1 ^^^ UInt8.ofNat (byteOf D 1)) :: (c2 ^^^ UInt8.ofNat (byteOf D 2)) :: (c3 ^^^ UInt8.ofNat (byteOf D 3)) :: q := by
  simp [tl, List.getD_eq_getElem?_getD]
theorem turned_told (s : List UInt8) (a D : Nat) (h : a + 4 ≤ s.length) (hD : D < 4294967296) : sum (tl s a D 4) = sum s ↔ D = 0 := by
  obtain ⟨p, q, c0, c1, c2, c3, rfl, rfl⟩ := four_split s a h
  rw [tl_four]
  have hx : ∀ (c : UInt8) (n : Nat), n < 256 → (c ^^^ UInt8.ofNat n).toNat = c.toNat ^^^ n := by
    intro c n hn
    rw [UInt8.toNat_xor]
    simp [Nat.mod_eq_of_lt hn]
  exact turned p q c0 c1 c2 c3 _ _ _ _ D hD (hx _ _ (byteOf_lt D 0)) (hx _ _ (byteOf_lt D 1)) (hx _ _ (byteOf_lt D 2)) (hx _ _ (byteOf_lt D 3))
theorem xor_byte (c : UInt8) (n : Nat) (hn : n < 256) : (c ^^^ UInt8.ofNat n).toNat = c.toNat ^^^ n := by
  rw [UInt8.toNat_xor]
  simp [Nat.mod_eq_of_lt hn]
end CrcPlain
