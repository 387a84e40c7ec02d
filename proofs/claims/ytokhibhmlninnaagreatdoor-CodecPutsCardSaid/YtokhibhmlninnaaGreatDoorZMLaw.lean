/- Texts of this work, put into one. -/
import Derived.Test.YtokhibhmlninnaaGreatDoorZMWhy
import Derived.Test.YtokhibhmlninnaaGreatDoorZMPl
set_option linter.unusedVariables false
set_option linter.unusedSimpArgs false
namespace Go.Proofs.YtokhibhmlninnaaGreatDoor
open CodPlain
theorem openB_seal (s : ByteArray) : openB (sealB s) = (s, true) := by
 have hsz := sealB_size s
 have he : (sealB s).extract 0 ((sealB s).size - 4) = s := by
  rw [hsz]
  unfold sealB
  apply ByteArray.ext
  simp
 unfold openB
 rw [if_neg (by omega), he, if_pos rfl]
theorem encL_eq {d : D} (h : checkD d = 0) : (⟨(encL d).toArray⟩ : ByteArray) = sealB ⟨(bodyL d).toArray⟩ := by
 unfold encL
 rw [if_pos h, seal_sealed]
theorem body_head (d : D) : ∃ rest, bodyL d = magicL ++ (1 :: rest) := by
 unfold bodyL headL
 rw [row_cons]
 exact ⟨_, by simp only [List.append_assoc]; rfl⟩
theorem dec_enc {d : D} (h : checkD d = 0) : decOf ⟨(encL d).toArray⟩ = (d, 0, 0, 0) := by
 have hok := ok_of h
 have hb : (⟨(bodyL d).toArray⟩ : ByteArray).data.toList = bodyL d := rfl
 have hsz : (⟨(bodyL d).toArray⟩ : ByteArray).size = (bodyL d).length := by show (bodyL d).toArray.size = _; rw [List.size_toArray]
 have hl := body_len d
 have hr := body_read hok hb
 obtain ⟨rest, hh⟩ := body_head d
 rw [encL_eq h]
 unfold decOf
 rw [openB_seal]
 dsimp only
 unfold decR
 have e1 : ¬ (sealB ⟨(bodyL d).toArray⟩).size < 21 := by rw [sealB_size, hsz]; omega
 have e4 : List.take 4 (bodyL d) = magicL := by rw [hh]; rfl
 have e5 : (bodyL d).getD 4 0 = 1 := by rw [hh]; rfl
 rw [if_neg e1, if_neg (by simp), hb, e4, if_neg (by simp), e5, if_neg (by simp), hr]
 dsimp only
 rw [if_neg (by simp), if_neg (by omega), h, if_neg (by simp)]
end Go.Proofs.YtokhibhmlninnaaGreatDoor
