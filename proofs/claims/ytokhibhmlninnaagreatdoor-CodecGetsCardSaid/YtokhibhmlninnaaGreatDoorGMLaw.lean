/- Texts of this work, put into one. -/
import Derived.Test.YtokhibhmlninnaaGreatDoorGMWhy
import Derived.Test.YtokhibhmlninnaaGreatDoorGMPl
set_option linter.unusedVariables false
set_option linter.unusedSimpArgs false
namespace Go.Proofs.YtokhibhmlninnaaGreatDoor
open CodPlain
theorem openB_seal (s : ByteArray) : openB (sealB s) = (s, true) := by
 have hsz := sealB_size s
 have he : (sealB s).extract 0 ((sealB s).size - 4) = s := by
  rw [hsz]
  unfold sealB
  apply ByteArray.ext
  simp
 unfold openB
 rw [if_neg (by omega), he, if_pos rfl]
theorem openB_cases (t : ByteArray) : (∃ b, openB t = (b, true) ∧ sealB b = t ∧ b.size ≤ t.size) ∨ openB t = (⟨#[]⟩, false) := by
 unfold openB
 split
 ·exact .inr rfl
 ·split
  ·rename_i h1 h2
   exact .inl ⟨_, rfl, h2, by simp⟩
  ·exact .inr rfl
theorem encL_eq {d : D} (h : checkD d = 0) : (⟨(encL d).toArray⟩ : ByteArray) = sealB ⟨(bodyL d).toArray⟩ := by
 unfold encL
 rw [if_pos h, seal_sealed]
theorem body_head (d : D) : ∃ rest, bodyL d = magicL ++ (1 :: rest) := by
 unfold bodyL headL
 rw [row_cons]
 exact ⟨_, by simp only [List.append_assoc]; rfl⟩
theorem dec_enc {d : D} (h : checkD d = 0) : decOf ⟨(encL d).toArray⟩ = (d, 0, 0, 0) := by
 have hok := ok_of h
 have hb : (⟨(bodyL d).toArray⟩ : ByteArray).data.toList = bodyL d := rfl
 have hsz : (⟨(bodyL d).toArray⟩ : ByteArray).size = (bodyL d).length := by show (bodyL d).toArray.size = _; rw [List.size_toArray]
 have hl := body_len d
 have hr := body_read hok hb
 obtain ⟨rest, hh⟩ := body_head d
 rw [encL_eq h]
 unfold decOf
 rw [openB_seal]
 dsimp only
 unfold decR
 have e1 : ¬ (sealB ⟨(bodyL d).toArray⟩).size < 21 := by rw [sealB_size, hsz]; omega
 have e4 : List.take 4 (bodyL d) = magicL := by rw [hh]; rfl
 have e5 : (bodyL d).getD 4 0 = 1 := by rw [hh]; rfl
 rw [if_neg e1, if_neg (by simp), hb, e4, if_neg (by simp), e5, if_neg (by simp), hr]
 dsimp only
 rw [if_neg (by simp), if_neg (by omega), h, if_neg (by simp)]
theorem dec_ok {s : ByteArray} (h : (decOf s).2.2.2 = 0) : checkD (decOf s).1 = 0 ∧ (⟨(encL (decOf s).1).toArray⟩ : ByteArray) = s := by
 unfold decOf at h ⊢
 rcases openB_cases s with ⟨b, hb, hs, hle⟩ | hn
 ·rw [hb] at h ⊢
  dsimp only at h ⊢
  have hbs : s.size = b.size + 4 := by rw [← hs, sealB_size]
  revert h
  unfold decR
  dsimp only
  split
  ·intro h; cases h
  ·rename_i h21
   split
   ·rename_i h2; cases h2
   ·split
    ·intro h; cases h
    ·rename_i h4
     split
     ·intro h; cases h
     ·rename_i h5
      split
      ·intro h; cases h
      ·rename_i h6
       split
       ·intro h; cases h
       ·rename_i h7
        split
        ·rename_i h8; intro h; exact absurd h h8
        ·rename_i h8
         intro _
         have h8' : checkD (bodyS b (5, false)).1 = 0 := by simpa using h8
         refine ⟨h8', ?_⟩
         dsimp only
         rw [encL_eq h8', ← body_all (by simpa using h4) (by simpa using h5) (by omega) (by simpa using h6) h7]
         exact hs
 ·rw [hn] at h
  exfalso
  revert h
  unfold decR
  dsimp only
  split
  ·intro h; cases h
  ·split
   ·intro h; cases h
   ·rename_i h2; exact absurd rfl h2
theorem dec_bad {s : ByteArray} (h : (decOf s).2.2.2 ≠ 0) : (decOf s).1 = noD := by
 revert h
 unfold decOf decR
 dsimp only
 split
 ·intro _; rfl
 ·split
  ·intro _; rfl
  ·split
   ·intro _; rfl
   ·split
    ·intro _; rfl
    ·split
     ·intro _; rfl
     ·split
      ·intro _; rfl
      ·split
       ·intro _; rfl
       ·intro h; exact absurd rfl h
end Go.Proofs.YtokhibhmlninnaaGreatDoor
