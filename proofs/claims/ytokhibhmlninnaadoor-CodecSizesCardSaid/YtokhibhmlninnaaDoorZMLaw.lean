/- Texts of this work, put into one. -/
import Derived.Test.YtokhibhmlninnaaDoorZMWhy
import Derived.Test.YtokhibhmlninnaaDoorZMPl
set_option linter.unusedVariables false
set_option linter.unusedSimpArgs false
namespace Go.Proofs.YtokhibhmlninnaaDoor
open CodPlain
theorem openB_seal (s : ByteArray) : openB (sealB s) = (s, true) := by
 have hsz := sealB_size s
 have he : (sealB s).extract 0 ((sealB s).size - 4) = s := by
  rw [hsz]
  unfold sealB
  apply ByteArray.ext
  simp
 unfold openB
 rw [if_neg (by omega), he, if_pos rfl]
theorem openB_cases (t : ByteArray) : (∃ b, openB t = (b, true) ∧ sealB b = t ∧ b.size ≤ t.size) ∨ openB t = (⟨#[]⟩, false) := by
 unfold openB
 split
 ·exact .inr rfl
 ·split
  ·rename_i h1 h2
   exact .inl ⟨_, rfl, h2, by simp⟩
  ·exact .inr rfl
theorem sealB_list (t : ByteArray) : (sealB t).data.toList = CrcPlain.sealed t.data.toList := by
 unfold sealB CrcPlain.sealed tailB sumB; simp
theorem openB_one (s : ByteArray) (k : Nat) (d : UInt8) (hk : k < s.size + 4) (hd : d ≠ 0) : openB ⟨((sealB s).data.toList.set k ((sealB s).data.toList.getD k 0 ^^^ d)).toArray⟩ = (⟨#[]⟩, false) := by
 rcases openB_cases ⟨((sealB s).data.toList.set k ((sealB s).data.toList.getD k 0 ^^^ d)).toArray⟩ with ⟨b, _, hb, _⟩ | h
 ·exfalso
  have := congrArg (fun x : ByteArray => x.data.toList) hb
  simp only [sealB_list] at this
  refine CrcPlain.one_sealed s.data.toList b.data.toList k d ?_ hd this
  rw [CrcPlain.seal_len]; simpa using hk
 ·exact h
theorem encL_eq {d : D} (h : checkD d = 0) : (⟨(encL d).toArray⟩ : ByteArray) = sealB ⟨(bodyL d).toArray⟩ := by
 unfold encL
 rw [if_pos h, seal_sealed]
theorem body_head (d : D) : ∃ rest, bodyL d = magicL ++ (1 :: rest) := by
 unfold bodyL headL
 rw [row_cons]
 exact ⟨_, by simp only [List.append_assoc]; rfl⟩
theorem dec_enc {d : D} (h : checkD d = 0) : decOf ⟨(encL d).toArray⟩ = (d, 0, 0, 0) := by
 have hok := ok_of h
 have hb : (⟨(bodyL d).toArray⟩ : ByteArray).data.toList = bodyL d := rfl
 have hsz : (⟨(bodyL d).toArray⟩ : ByteArray).size = (bodyL d).length := by show (bodyL d).toArray.size = _; rw [List.size_toArray]
 have hl := body_len d
 have hr := body_read hok hb
 obtain ⟨rest, hh⟩ := body_head d
 rw [encL_eq h]
 unfold decOf
 rw [openB_seal]
 dsimp only
 unfold decR
 have e1 : ¬ (sealB ⟨(bodyL d).toArray⟩).size < 21 := by rw [sealB_size, hsz]; omega
 have e4 : List.take 4 (bodyL d) = magicL := by rw [hh]; rfl
 have e5 : (bodyL d).getD 4 0 = 1 := by rw [hh]; rfl
 rw [if_neg e1, if_neg (by simp), hb, e4, if_neg (by simp), e5, if_neg (by simp), hr]
 dsimp only
 rw [if_neg (by simp), if_neg (by omega), h, if_neg (by simp)]
theorem num_at (s : ByteArray) (k : Nat) (st : St) (h : st.1 ≤ s.size) : (numS s k st).2.1 ≤ s.size ∧ st.1 ≤ (numS s k st).2.1 := by
 unfold numS
 split
 ·exact ⟨h, Nat.le_refl _⟩
 ·split
  ·rename_i h2
   have : st.1 + k ≤ s.size := by
    unfold WirePlain.getR at h2
    split at h2
    ·split at h2
     ·rename_i h3
      have := h3.2.2
      omega
     ·cases h2
    ·cases h2
   exact ⟨this, Nat.le_add_right _ _⟩
  ·exact ⟨h, Nat.le_refl _⟩
def Fwd {α : Type} (s : ByteArray) (f : St → α × St) : Prop := ∀ st, st.1 ≤ s.size → (f st).2.1 ≤ s.size ∧ st.1 ≤ (f st).2.1
theorem fwd_num (s : ByteArray) (k : Nat) : Fwd s (numS s k) := fun st h => num_at s k st h
theorem fwd_some {α : Type} {s : ByteArray} {f : St → α × St} (hf : Fwd s f) : ∀ n, Fwd s (someS f n)
 | 0, st, h => ⟨h, Nat.le_refl _⟩
 | n + 1, st, h => by
  rw [someS]
  split
  ·exact ⟨h, Nat.le_refl _⟩
  ·have h1 := hf st h
   have h2 := fwd_some hf n (f st).2 h1.1
   exact ⟨h2.1, Nat.le_trans h1.2 h2.2⟩
theorem fwd_part (s : ByteArray) : Fwd s (partS s) := fun st h => by
 have a := num_at s 1 st h; have b := num_at s 4 _ a.1; have c := num_at s 2 _ b.1
 exact ⟨c.1, Nat.le_trans a.2 (Nat.le_trans b.2 c.2)⟩
theorem fwd_edge (s : ByteArray) : Fwd s (edgeS s) := fun st h => by
 have a := num_at s 1 st h; have b := num_at s 1 _ a.1
 exact ⟨b.1, Nat.le_trans a.2 b.2⟩
theorem fwd_fut (s : ByteArray) : Fwd s (futS s) := fun st h => by
 have a := num_at s 1 st h; have b := num_at s 1 _ a.1; have c := num_at s 2 _ b.1
 exact ⟨c.1, Nat.le_trans a.2 (Nat.le_trans b.2 c.2)⟩
theorem fwd_bar (s : ByteArray) : Fwd s (barS s) := fun st h => by
 have a := num_at s 1 st h; have b := num_at s 1 _ a.1
 have c := fwd_some (fwd_num s 1) (numS s 1 st).1.toNat _ b.1
 have d := fwd_some (fwd_num s 1) (numS s 1 (numS s 1 st).2).1.toNat _ c.1
 exact ⟨d.1, Nat.le_trans a.2 (Nat.le_trans b.2 (Nat.le_trans c.2 d.2))⟩
theorem fwd_body (s : ByteArray) : Fwd s (bodyS s) := fun st h => by
 have a := num_at s 1 st h; have b := num_at s 1 _ a.1; have c := num_at s 1 _ b.1; have d := num_at s 1 _ c.1
 have e := num_at s 4 _ d.1; have f := num_at s 4 _ e.1
 have g := fwd_some (fwd_part s) (numS s 1 st).1.toNat _ f.1
 have i := fwd_some (fwd_edge s) (numS s 1 (numS s 1 st).2).1.toNat _ g.1
 have j := fwd_some (fwd_fut s) (numS s 1 (numS s 1 (numS s 1 st).2).2).1.toNat _ i.1
 have k := fwd_some (fwd_bar s) (numS s 1 (numS s 1 (numS s 1 (numS s 1 st).2).2).2).1.toNat _ j.1
 exact ⟨k.1, Nat.le_trans a.2 (Nat.le_trans b.2 (Nat.le_trans c.2 (Nat.le_trans d.2 (Nat.le_trans e.2 (Nat.le_trans f.2 (Nat.le_trans g.2 (Nat.le_trans i.2 (Nat.le_trans j.2 k.2))))))))⟩
end Go.Proofs.YtokhibhmlninnaaDoor
