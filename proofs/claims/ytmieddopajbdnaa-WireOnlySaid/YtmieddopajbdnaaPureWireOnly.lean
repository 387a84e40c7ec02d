/- The statement WireOnly over numbers and bytes alone: what is got is put again as it stood there; for all arguments. -/
import Derived.Test.YtmieddopajbdnaaPWireOnlyx1
import Derived.Test.YtmieddopajbdnaaWireFacts
namespace Go.Proofs.Ytmieddopajbdnaa.Pure
open Go.RowKit Go.Proofs.Ytmieddopajbdnaa.PWireOnly Go.Proofs.YtmieddopajbdnaaW.PrintWords Go.Proofs.YtmieddopajbdnaaW.PrintLast
open WirePlain

theorem WireOnly : trefoillaw02_WireOnly.Pure := by
  intro s a k hs ha hk
  have ha := bounds_i64 ha
  have hk := bounds_i64 hk
  refine ⟨1, ?_⟩
  unfold trefoillaw02_WireOnly.f trefoillaw02_awake.f
  simp only [Option.bind_some, if_true]
  by_cases h1 : (s.size : Int) > 200
  · rw [decide_eq_true h1]; simp [trefoillaw02_WireOnly.j0, trefoillaw02_awake.f]
  rw [decide_eq_false h1]
  simp only [trefoillaw02_WireOnly.j0, wire_Get.f]
  rw [if_neg (by decide), if_pos (by omega)]
  simp only [Option.bind_some]
  rcases getR_cases s a k with ⟨hw, ht, hn, e⟩ | ⟨x, hx, e⟩
  · rw [e]
    have hkb := wide_b hw
    have hp := put_num s a k hw ht hn
    obtain ⟨t1, t2, t3, t4⟩ := ht
    have w1 : wrap64 ((s.size : Int) - k) = (s.size : Int) - k := by unfold wrap64; omega
    have w2 : wrap64 (a + k) = a + k := by unfold wrap64; omega
    simp only [wire_Put.f, if_true]
    rw [if_pos (by omega)]
    simp only [Option.bind_some]
    rw [hp, w1, w2]
    simp only [if_true]
    rw [if_pos (by omega), if_pos (by omega), if_pos (by omega), if_pos (by omega), if_pos (by omega)]
    simp
  · rw [e]
    simp only
    rw [if_neg hx]
    rfl
end Go.Proofs.Ytmieddopajbdnaa.Pure
