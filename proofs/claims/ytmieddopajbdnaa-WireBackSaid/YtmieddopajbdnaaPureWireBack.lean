/- The statement WireBack over numbers and bytes alone: what is put is got, wherever it stands, and no two numbers are put alike; for all arguments. -/
import Derived.Test.YtmieddopajbdnaaPWireBackx1
import Derived.Test.YtmieddopajbdnaaWireFacts
namespace Go.Proofs.Ytmieddopajbdnaa.Pure
open Go.RowKit Go.Proofs.Ytmieddopajbdnaa.PWireBack Go.Proofs.YtmieddopajbdnaaW.PrintWords Go.Proofs.YtmieddopajbdnaaW.PrintLast
open WirePlain

theorem WireBack : trefoillaw02_WireBack.Pure := by
  intro n m k a b hn hm hk ha hb
  have hn := bounds_i64 hn
  have hm := bounds_i64 hm
  refine ⟨1, ?_⟩
  unfold trefoillaw02_WireBack.f trefoillaw02_awake.f
  simp only [Option.bind_some, if_true]
  have hT : trefoillaw02_WireBack.j0 1 n m k a b true = some true := by simp [trefoillaw02_WireBack.j0, trefoillaw02_awake.f]
  by_cases h1 : (a.size : Int) > 100
  · rw [if_pos h1]; exact hT
  rw [if_neg h1]
  by_cases h2 : (b.size : Int) > 100
  · rw [decide_eq_true h2]; exact hT
  rw [decide_eq_false h2]
  simp only [trefoillaw02_WireBack.j0, wire_Put.f]
  rw [if_neg (by decide), if_pos hn, if_pos hm]
  simp only [Option.bind_some]
  rcases putR_cases n k with ⟨hw, hf, e⟩ | ⟨x, hx, e⟩
  · rw [e]
    simp only
    have hkb : 1 ≤ k ∧ k ≤ 8 := wide_b hw
    have hps : (⟨(put n.toNat k.toNat).toArray⟩ : ByteArray).size = k.toNat := by
      have := put_len k.toNat n.toNat
      show (put n.toNat k.toNat).toArray.size = _
      simpa using this
    rw [if_pos trivial, if_pos (by omega), if_pos (by rw [ByteArray.size_append]; omega)]
    unfold wire_Get.f
    rw [if_pos (by rw [ByteArray.size_append, ByteArray.size_append]; omega)]
    simp only [Option.bind_some]
    rw [get_put a b n k hw hf hn.2]
    simp only
    rw [if_pos trivial, if_pos trivial, if_pos (by rw [hps]; omega)]
    by_cases h3 : (putR m k).2 = 0
    · rw [if_pos h3]
      rcases putR_cases m k with ⟨_, hf2, e2⟩ | ⟨x, hx, e2⟩
      · rw [e2]
        simp only [Option.some.injEq, beq_iff_eq]
        rw [Bool.eq_iff_iff, beq_iff_eq, beq_iff_eq, ByteArray.toList_eq, ByteArray.toList_eq]
        simp only
        constructor
        · intro h
          have := put_inj (fits_lt hw hf hn.2) (fits_lt hw hf2 hm.2) h
          have := hf.1; have := hf2.1
          omega
        · rintro rfl; rfl
      · rw [e2] at h3; exact absurd h3 hx
    · rw [if_neg h3]
  · rw [e]
    simp only
    rw [if_neg hx, ByteArray.toList_eq]
    rfl
end Go.Proofs.Ytmieddopajbdnaa.Pure
