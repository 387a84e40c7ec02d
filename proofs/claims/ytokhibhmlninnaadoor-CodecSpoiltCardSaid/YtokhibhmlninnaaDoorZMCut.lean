/- Texts of this work, put into one. -/
import Derived.Test.YtokhibhmlninnaaDoorZMLaw
import Derived.Test.YtokhibhmlninnaaDoorZMAwk
import Derived.OpenShut
set_option linter.unusedVariables false
set_option linter.unusedSimpArgs false
namespace CodPlain
open WirePlain
def Agr {α : Type} (f' f : St → α × St) : Prop := ∀ st, (f' st).2.2 = false → f st = f' st
theorem agr_num {b' b : ByteArray} {rest : List UInt8} (h : b.data.toList = b'.data.toList ++ rest) (k : Nat) : Agr (numS b' k) (numS b k) := by
 intro st hs
 have hsz : b.size = b'.size + rest.length := by have := congrArg List.length h; rw [List.length_append] at this; simpa using this
 cases h2 : st.2 with
 | true =>
  unfold numS at hs
  rw [if_pos h2] at hs
  change st.2 = false at hs
  rw [h2] at hs; cases hs
 | false =>
  by_cases hg : (getR b' (st.1 : Int) (k : Int)).2 = 0
  ·have key : getR b (st.1 : Int) (k : Int) = getR b' (st.1 : Int) (k : Int) := by
    unfold getR at hg ⊢
    by_cases hw : Wide (k : Int)
    ·rw [if_pos hw] at hg
     rw [if_pos hw, if_pos hw]
     by_cases ht : There b'.size (st.1 : Int) (k : Int)
     ·have ht2 : There b.size (st.1 : Int) (k : Int) := by obtain ⟨a1, a2, a3, a4⟩ := ht; exact ⟨by omega, by omega, by omega, by omega⟩
      have hn : num b (st.1 : Int) (k : Int) = num b' (st.1 : Int) (k : Int) := by
       obtain ⟨a1, a2, a3, a4⟩ := ht
       have hl : b'.data.toList.length = b'.size := by simp
       unfold num
       rw [Int.toNat_natCast, Int.toNat_natCast, h, List.drop_append_of_le_length (by omega), List.take_append_of_le_length (by rw [List.length_drop]; omega)]
      rw [if_pos ht, if_pos ht2, hn]
     ·rw [if_neg ht] at hg; cases hg
    ·rw [if_neg hw] at hg; cases hg
   unfold numS; rw [key]
  ·unfold numS at hs
   rw [if_neg (by rw [h2]; simp), if_neg hg] at hs; cases hs
theorem agr_some {α : Type} {f' f : St → α × St} (ha : Agr f' f) (hb : ∀ n st, (someS f' n st).2.2 = false → st.2 = false) : ∀ n, Agr (someS f' n) (someS f n)
 | 0, st, _ => rfl
 | n + 1, st, h => by
  have h2 := hb (n + 1) st h
  rw [someS, if_neg (by rw [h2]; simp)] at h
  change (someS f' n (f' st).2).2.2 = false at h
  have h3 : (f' st).2.2 = false := hb n _ h
  rw [someS, someS, if_neg (by rw [h2]; simp), if_neg (by rw [h2]; simp), ha st h3, agr_some ha hb n _ h]
theorem agr_part {b' b : ByteArray} {rest : List UInt8} (h : b.data.toList = b'.data.toList ++ rest) : Agr (partS b') (partS b) := fun st hs => by
 have gc : (numS b' 2 (numS b' 4 (numS b' 1 st).2).2).2.2 = false := hs
 have gb := (wr2 b').back gc
 have ga := (wr4 b').back gb
 unfold partS
 dsimp only
 rw [agr_num h 1 st ga, agr_num h 4 _ gb, agr_num h 2 _ gc]
theorem agr_edge {b' b : ByteArray} {rest : List UInt8} (h : b.data.toList = b'.data.toList ++ rest) : Agr (edgeS b') (edgeS b) := fun st hs => by
 have gb : (numS b' 1 (numS b' 1 st).2).2.2 = false := hs
 have ga := (wr1 b').back gb
 unfold edgeS
 dsimp only
 rw [agr_num h 1 st ga, agr_num h 1 _ gb]
theorem agr_fut {b' b : ByteArray} {rest : List UInt8} (h : b.data.toList = b'.data.toList ++ rest) : Agr (futS b') (futS b) := fun st hs => by
 have gc : (numS b' 2 (numS b' 1 (numS b' 1 st).2).2).2.2 = false := hs
 have gb := (wr2 b').back gc
 have ga := (wr1 b').back gb
 unfold futS
 dsimp only
 rw [agr_num h 1 st ga, agr_num h 1 _ gb, agr_num h 2 _ gc]
theorem back_some {α : Type} {b : ByteArray} {f : St → α × St} {g : α → List UInt8} (hf : Wr b f g) : ∀ n st, (someS f n st).2.2 = false → st.2 = false := fun n st h => (wr_some hf n).back h
theorem agr_bar {b' b : ByteArray} {rest : List UInt8} (h : b.data.toList = b'.data.toList ++ rest) : Agr (barS b') (barS b) := fun st hs => by
 have ge : (someS (numS b' 1) (numS b' 1 (numS b' 1 st).2).1.toNat (someS (numS b' 1) (numS b' 1 st).1.toNat (numS b' 1 (numS b' 1 st).2).2).2).2.2 = false := hs
 have gc := back_some (wr1 b') _ _ ge
 have gb := back_some (wr1 b') _ _ gc
 have ga := (wr1 b').back gb
 unfold barS
 dsimp only
 rw [agr_num h 1 st ga, agr_num h 1 _ gb, agr_some (agr_num h 1) (back_some (wr1 b')) _ _ gc, agr_some (agr_num h 1) (back_some (wr1 b')) _ _ ge]
theorem agr_body {b' b : ByteArray} {rest : List UInt8} (h : b.data.toList = b'.data.toList ++ rest) : Agr (bodyS b') (bodyS b) := fun st hs => by
 obtain ⟨a, ha⟩ : ∃ a, a = numS b' 1 st := ⟨_, rfl⟩
 obtain ⟨c, hc⟩ : ∃ c, c = numS b' 1 a.2 := ⟨_, rfl⟩
 obtain ⟨e, he⟩ : ∃ e, e = numS b' 1 c.2 := ⟨_, rfl⟩
 obtain ⟨f, hf⟩ : ∃ f, f = numS b' 1 e.2 := ⟨_, rfl⟩
 obtain ⟨p, hp⟩ : ∃ p, p = numS b' 4 f.2 := ⟨_, rfl⟩
 obtain ⟨q, hq⟩ : ∃ q, q = numS b' 4 p.2 := ⟨_, rfl⟩
 obtain ⟨r, hr⟩ : ∃ r, r = someS (partS b') a.1.toNat q.2 := ⟨_, rfl⟩
 obtain ⟨t, ht⟩ : ∃ t, t = someS (edgeS b') c.1.toNat r.2 := ⟨_, rfl⟩
 obtain ⟨u, hu⟩ : ∃ u, u = someS (futS b') e.1.toNat t.2 := ⟨_, rfl⟩
 obtain ⟨v, hv⟩ : ∃ v, v = someS (barS b') f.1.toNat u.2 := ⟨_, rfl⟩
 have hbody : bodyS b' st = (⟨p.1, q.1, r.1, t.1, u.1, v.1⟩, v.2) := by rw [hv, hu, ht, hr, hq, hp, hf, he, hc, ha]; rfl
 rw [hbody] at hs
 change v.2.2 = false at hs
 have gv : (someS (barS b') f.1.toNat u.2).2.2 = false := by rw [← hv]; exact hs
 have gu : (someS (futS b') e.1.toNat t.2).2.2 = false := by rw [← hu]; exact back_some (wr_bar b') _ _ gv
 have gt : (someS (edgeS b') c.1.toNat r.2).2.2 = false := by rw [← ht]; exact back_some (wr_fut b') _ _ gu
 have gr : (someS (partS b') a.1.toNat q.2).2.2 = false := by rw [← hr]; exact back_some (wr_edge b') _ _ gt
 have gq : (numS b' 4 p.2).2.2 = false := by rw [← hq]; exact back_some (wr_part b') _ _ gr
 have gp : (numS b' 4 f.2).2.2 = false := by rw [← hp]; exact (wr4 b').back gq
 have gf : (numS b' 1 e.2).2.2 = false := by rw [← hf]; exact (wr4 b').back gp
 have ge : (numS b' 1 c.2).2.2 = false := by rw [← he]; exact (wr1 b').back gf
 have gc : (numS b' 1 a.2).2.2 = false := by rw [← hc]; exact (wr1 b').back ge
 have ga : (numS b' 1 st).2.2 = false := by rw [← ha]; exact (wr1 b').back gc
 have ea : numS b 1 st = a := by rw [agr_num h 1 st ga, ha]
 have ec : numS b 1 a.2 = c := by rw [agr_num h 1 _ gc, hc]
 have ee : numS b 1 c.2 = e := by rw [agr_num h 1 _ ge, he]
 have ef : numS b 1 e.2 = f := by rw [agr_num h 1 _ gf, hf]
 have ep : numS b 4 f.2 = p := by rw [agr_num h 4 _ gp, hp]
 have eq : numS b 4 p.2 = q := by rw [agr_num h 4 _ gq, hq]
 have er : someS (partS b) a.1.toNat q.2 = r := by rw [agr_some (agr_part h) (back_some (wr_part b')) _ _ gr, hr]
 have et : someS (edgeS b) c.1.toNat r.2 = t := by rw [agr_some (agr_edge h) (back_some (wr_edge b')) _ _ gt, ht]
 have eu : someS (futS b) e.1.toNat t.2 = u := by rw [agr_some (agr_fut h) (back_some (wr_fut b')) _ _ gu, hu]
 have ev : someS (barS b) f.1.toNat u.2 = v := by rw [agr_some (agr_bar h) (back_some (wr_bar b')) _ _ gv, hv]
 rw [hbody]
 clear ha hc he hf hp hq hr ht hu hv gv gu gt gr gq gp gf ge gc ga hbody hs
 unfold bodyS
 dsimp only
 rw [ea]
 rw [ec]
 rw [ee]
 rw [ef]
 rw [ep]
 rw [eq]
 rw [er]
 rw [et]
 rw [eu]
 rw [ev]
end CodPlain
namespace Go.Proofs.YtokhibhmlninnaaDoor
open CodPlain
theorem body_cut {d : D} (hok : Ok d) {b' : ByteArray} {rest : List UInt8} (h : bodyL d = b'.data.toList ++ rest) (hr : rest ≠ []) (h5 : 5 ≤ b'.size) : (bodyS b' (5, false)).2.2 = true := by
 cases hs : (bodyS b' (5, false)).2.2 with
 | true => rfl
 | false =>
  exfalso
  have hb : (⟨(bodyL d).toArray⟩ : ByteArray).data.toList = bodyL d := rfl
  have h1 := agr_body (b := ⟨(bodyL d).toArray⟩) (b' := b') (rest := rest) (by rw [hb]; exact h) (5, false) hs
  rw [body_read hok hb] at h1
  have h2 := fwd_body b' (5, false) h5
  rw [← h1] at h2
  have h3 : (⟨(bodyL d).toArray⟩ : ByteArray).size ≤ b'.size := h2.1
  have h4 : (⟨(bodyL d).toArray⟩ : ByteArray).size = (bodyL d).length := by show (bodyL d).toArray.size = _; rw [List.size_toArray]
  rw [h4, h, List.length_append] at h3
  have h5 : b'.data.toList.length = b'.size := by simp
  have h6 : 0 < rest.length := List.length_pos_iff.2 hr
  omega
theorem enc_body {d : D} (h : checkD d = 0) : ∃ t : List UInt8, t.length = 4 ∧ encL d = bodyL d ++ t := by
 unfold encL CrcPlain.sealed
 rw [if_pos h]
 exact ⟨_, rfl, rfl⟩
theorem dec_cut {d : D} (h : checkD d = 0) {k : Nat} (hk : k < (encL d).length) : (decOf ⟨((encL d).take k).toArray⟩).2.2.2 = 60 ∨ (decOf ⟨((encL d).take k).toArray⟩).2.2.2 = 61 ∨ (decOf ⟨((encL d).take k).toArray⟩).2.2.2 = 64 := by
 have hok := ok_of h
 obtain ⟨t, ht4, he⟩ := enc_body h
 have hl := body_len d
 obtain ⟨T, hT⟩ : ∃ T : ByteArray, T = ⟨((encL d).take k).toArray⟩ := ⟨_, rfl⟩
 rw [← hT]
 have hTl : T.data.toList = (encL d).take k := by rw [hT]
 have hTs : T.size = k := by
  have : T.data.toList.length = T.size := by simp
  rw [← this, hTl, List.length_take]; omega
 rcases openB_cases T with ⟨b', hb, hs, hle⟩ | hn
 ·unfold decOf
  rw [hb]
  unfold decR
  dsimp only
  by_cases h21 : T.size < 21
  ·rw [if_pos h21]; exact .inl rfl
  ·rw [if_neg h21, if_neg (by simp)]
   have hTb : T.size = b'.size + 4 := by rw [← hs, sealB_size]
   have hbl : b'.data.toList.length = b'.size := by simp
   have hen : (encL d).length = (bodyL d).length + 4 := by rw [he, List.length_append, ht4]
   have hpre : b'.data.toList = (bodyL d).take (k - 4) := by
    have h1 : T.data.toList = CrcPlain.sealed b'.data.toList := by rw [← hs, sealB_list]
    have h2 : (CrcPlain.sealed b'.data.toList).take (k - 4) = b'.data.toList := by
     unfold CrcPlain.sealed
     rw [List.take_append_of_le_length (by omega), List.take_of_length_le (by omega)]
    rw [← h2, ← h1, hTl, he, List.take_take, List.take_append_of_le_length (by omega)]
    congr 1
    omega
   obtain ⟨rest, hh⟩ := body_head d
   have e4 : b'.data.toList.take 4 = magicL := by rw [hpre, List.take_take, Nat.min_eq_left (by omega), hh]; rfl
   have e5 : b'.data.toList.getD 4 0 = 1 := by
    rw [hpre, List.getD_eq_getElem?_getD, List.getElem?_take_of_lt (by omega), hh]; rfl
   have hcut := body_cut hok (b' := b') (rest := (bodyL d).drop (k - 4)) (by rw [hpre, List.take_append_drop]) (by
    intro e
    have := congrArg List.length e
    rw [List.length_drop] at this
    simp at this
    omega) (by omega)
   rw [if_neg (by rw [e4]; simp), if_neg (by rw [e5]; simp), if_pos hcut]
   exact .inr (.inr rfl)
 ·unfold decOf
  rw [hn]
  unfold decR
  dsimp only
  by_cases h21 : T.size < 21
  ·rw [if_pos h21]; exact .inl rfl
  ·rw [if_neg h21, if_pos rfl]; exact .inr (.inl rfl)
theorem dec_one {d : D} (h : checkD d = 0) {k : Nat} (hk : k < (encL d).length) {x : UInt8} (hx : x ≠ 0) : (decOf ⟨((encL d).set k ((encL d).getD k 0 ^^^ x)).toArray⟩).2.2.2 = 61 := by
 obtain ⟨t, ht4, he⟩ := enc_body h
 have hl := body_len d
 have hen : (encL d).length = (bodyL d).length + 4 := by rw [he, List.length_append, ht4]
 have hq := encL_eq h
 have hql : (sealB ⟨(bodyL d).toArray⟩).data.toList = encL d := by rw [← hq]
 have h1 := openB_one ⟨(bodyL d).toArray⟩ k x (by show k < (bodyL d).toArray.size + 4; rw [List.size_toArray]; omega) hx
 rw [hql] at h1
 unfold decOf
 rw [h1]
 unfold decR
 dsimp only
 have hs : ¬ (⟨((encL d).set k ((encL d).getD k 0 ^^^ x)).toArray⟩ : ByteArray).size < 21 := by
  show ¬ ((encL d).set k ((encL d).getD k 0 ^^^ x)).toArray.size < 21
  rw [List.size_toArray, List.length_set]; omega
 rw [if_neg hs, if_pos rfl]
end Go.Proofs.YtokhibhmlninnaaDoor

set_option linter.unusedVariables false
namespace Go.Proofs.YtokhibhmlninnaaDoor
open Go.RowKit Go.Sort
theorem bytes_conv (w : World) (s : ByteArray) : ∃ cap W, (convert 9 34 (.string s)).run Tryd.prog w = .ok (.slice (some ⟨w.heap.size, 0, none⟩) s.size cap) W ∧ Below w.heap.size w W ∧ W.heap.size = w.heap.size + 1 ∧
  (∀ j, j < s.size → W.cell? ⟨w.heap.size, j, none⟩ = some (.int .u8 ((s.data.toList.getD j 0).toNat : Int))) ∧ ∀ j, j < s.size → W.frozen? ⟨w.heap.size, j, none⟩ = false := by
 refine ⟨_, _, run_bytes_of_string w 9 34 5 s Tryd.underlying9 Tryd.underlying34 Tryd.underlying5, ((Below.refl _ _).drew).alloc (Nat.le_refl _) _, by simp, ?_, ?_⟩
 ·intro j hj
  rw [show w.heap.size = w.drew.heap.size from rfl, World.cell?_alloc_mark, bytesRow_at s _ j hj]
  simp [List.getD_eq_getElem?_getD, hj]
 ·intro j hj
  rw [show w.heap.size = w.drew.heap.size from rfl, World.frozen?_alloc_mark]
  have : s.size ≤ (bytesRow s (grownCap w s.size 0 5)).size := by unfold bytesRow; simp
  have h2 : ¬ (bytesRow s (grownCap w s.size 0 5)).size ≤ j := by omega
  simp [h2]
theorem bytes_back (w : World) (B : Nat) (n cap : Nat) (l : List UInt8) (hn : l.length = n) (hc : ∀ j, j < n → w.cell? ⟨B, j, none⟩ = some (.int .u8 ((l.getD j 0).toNat : Int))) :
  (convert 34 9 (.slice (some ⟨B, 0, none⟩) n cap)).run Tryd.prog w = .ok (.string ⟨l.toArray⟩) w := by
 subst hn
 refine run_convert_bytes_back w 34 9 5 ⟨B, 0, none⟩ cap l Tryd.underlying34 Tryd.underlying5 Tryd.underlying9 ?_
 intro j hj
 have e : (⟨B, 0, none⟩ : Addr).add j = ⟨B, j, none⟩ := by simp [Addr.add, eq_comm]
 rw [e, hc j hj, List.getD_eq_getElem?_getD, List.getElem?_eq_getElem hj]
 rfl
end Go.Proofs.YtokhibhmlninnaaDoor
