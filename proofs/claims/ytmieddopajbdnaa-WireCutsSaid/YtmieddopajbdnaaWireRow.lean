/- wire.Row hands back the numbers' bytes, one behind the other. -/
import Derived.Test.YtmieddopajbdnaaWireGet
import Derived.Test.YtmieddopajbdnaaWWords
import Derived.Lib.AppendStr
import Derived.OwnWalk
import Derived.Deep.DeepMust
namespace Go.Proofs.Ytmieddopajbdnaa
open Go.RowKit Go.Sort
open WirePlain
open Go.Proofs.YtmieddopajbdnaaW.PrintWords

theorem info5 : (Try.prog.info? 5).map (fun i => (i.zero, i.size, i.bytes)) = some (some (.int .u8 0), 1, 1) := by kernel_rfl
/-- The bytes of numbers that all fit. -/
def rowL (l : List Int) (k : Int) : List UInt8 := l.flatMap fun n => put n.toNat k.toNat
def rowR (l : List Int) (k : Int) : ByteArray × Int := if Wide k then if ∀ n ∈ l, fits n k then (⟨(rowL l k).toArray⟩, 0) else (⟨#[]⟩, 20) else (⟨#[]⟩, 22)
def bcells (l : List UInt8) : List Value := l.map fun b => Value.int .u8 (b.toNat : Int)
theorem rowL_len (l : List Int) (k : Int) : (rowL l k).length = l.length * k.toNat := by
  unfold rowL
  induction l with
  | nil => simp
  | cons n l ih => simp only [List.flatMap_cons, List.length_append, put_len, ih, List.length_cons, Nat.add_mul, Nat.one_mul]; omega
theorem rowL_snoc (l : List Int) (n : Int) (k : Int) : rowL (l ++ [n]) k = rowL l k ++ put n.toNat k.toNat := by
  unfold rowL; simp

/-- 'string(b)' of a row of the call's own that holds the bytes l. -/
theorem bytes_own (w : World) (B : Nat) (v : Value) (n : Nat) (l : List UInt8) (h : w.ownsRow B 5 1 v n (bcells l)) (hv : v ≠ .slice none 0 0) :
    ∃ g cap, v = .slice (some ⟨g, 0, none⟩) l.length cap ∧ (convert 42 9 (.slice (some ⟨g, 0, none⟩) l.length cap)).run Try.prog w = .ok (.string ⟨l.toArray⟩) w := by
  have hn : n = l.length := by have := h.1; unfold bcells at this; simp at this; omega
  subst hn
  rcases h.2 with ⟨h1, _⟩ | ⟨g, cap, cur, hv', hr⟩
  · exact absurd h1 hv
  · have hc := World.ownsRow.cells h (g := g) (by rw [hv']; rfl)
    refine ⟨g, cap, hv', run_convert_bytes_back w 42 9 5 ⟨g, 0, none⟩ cap l Try.underlying42 Try.underlying5 Try.underlying9 fun j hj => ?_⟩
    exact hc j _ (by unfold bcells; simp [hj])

set_option maxHeartbeats 1000000 in
theorem row_any (A : Option Addr) (c : Nat) (l : List Int) (k : Int) (w : World) (hl : ReadsInt w .i64 A l.length l) (hlen : l.length ≤ 1000) (hwf : ∀ n ∈ l, -9223372036854775808 ≤ n ∧ n ≤ 9223372036854775807) :
    Calls Try.prog 14 #[.slice A l.length c, .int .i64 k] w fun e w' => e = .returned (.tuple #[.string (rowR l k).1, .int .i64 (rowR l k).2]) ∧ Below w.heap.size w w' := by
  by_cases hk : Wide k
  · have hk8 : 1 ≤ k ∧ k ≤ 8 := by rcases hk with h | h | h | h <;> omega
    have C1 := Lib.hid (fun w1 => wide_yes k w1 hk)
    have CP := Lib.hid (fun n w1 h => put_any n k w1 h)
    obtain ⟨i0, hi, hz0, hz1, hz2⟩ := info_parts info5
    obtain ⟨P, hP⟩ : ∃ P : Nat, (l.length : Int) * k = P := ⟨l.length * k.toNat, by rw [Int.natCast_mul]; congr 1; omega⟩
    have hPb : P ≤ 8000 := by
      have h1 : (l.length : Int) * k ≤ (l.length : Int) * 8 := Int.mul_le_mul_of_nonneg_left hk8.2 (by omega)
      omega
    have HROW := Lib.hid (show rowR l k = if ∀ n ∈ l, fits n k then (⟨(rowL l k).toArray⟩, 0) else (⟨#[]⟩, 20) by unfold rowR; rw [if_pos hk])
    have HL := Lib.hid hl
    have HWF := Lib.hid hwf
    have HK := Lib.hid hk
    clear hl hk hwf
    go_enter Try.func14, Try.ntmps14
    go_wp2_with fail
    refine (C1.out _).mono ?_
    rintro e w1 ⟨rfl, rfl⟩
    go_wp2_with (at_make; refine wpList_make_own _ rfl _ _ 42 rfl w.heap.size 5 i0 (.int .u8 0) 1 Try.underlying42 hi hz0 hz1 _ _ _ P rfl rfl (by first | exact hP | omega) (by rw [hz2]; omega) (by unfold maxLen; omega) (Nat.le_refl _) ?_)
    intro w1 hown hgrow
    have HB : Hid (Below w.heap.size w w1) := (Below.refl _ _).grown hgrow (Nat.le_refl _) (fun k h => by cases h)
    have HO : Hid (w1.ownsRow w.heap.size 5 1 (.slice (some ⟨w.heap.size, 0, none⟩) 0 P) 0 (bcells [])) := hown
    clear hown hgrow hP
    go_wp2
    go_loopw [6, 21] (fun v i wr => ∃ (j : Nat) (v0 : Value), j ≤ l.length ∧ i = .int .i64 j ∧ v0 = v ∧ Hid (v0 ≠ .slice none 0 0) ∧ Hid (wr.ownsRow w.heap.size 5 1 v0 (rowL (l.take j) k).length (bcells (rowL (l.take j) k))) ∧ Hid (∀ n ∈ l.take j, fits n k) ∧ Hid (Below w.heap.size w wr)) (fun _ i _ => l.length - (intOf i).toNat)
    case atStart => exact ⟨0, _, Nat.zero_le _, rfl, rfl, by show _ ≠ _; simp, HO, by show ∀ n ∈ _, _; simp, HB⟩
    case round =>
      obtain ⟨j, v0, hj, rfl, rfl, HV, HO, HF, HB⟩ := hrel
      by_cases hlt : j < l.length
      · obtain ⟨ad, hA, hcs⟩ := (HL.out.below HB.out).2.2 (by omega)
        subst hA
        have hc := hcs j hlt
        have hn := HWF.out (l.getD j 0) (by rw [List.getD_eq_getElem?_getD, List.getElem?_eq_getElem hlt]; exact List.getElem_mem hlt)
        have hmem : l.take (j + 1) = l.take j ++ [l.getD j 0] := by
          rw [List.take_succ_eq_append_getElem hlt, List.getD_eq_getElem?_getD, List.getElem?_eq_getElem hlt]; rfl
        have hin : l.getD j 0 ∈ l := by rw [List.getD_eq_getElem?_getD, List.getElem?_eq_getElem hlt]; exact List.getElem_mem hlt
        generalize l.getD j 0 = n at *
        have HIN := Lib.hid hin
        have HM := Lib.hid hmem
        clear hcs hin hmem
        by_cases hf : fits n k
        · have hp : putR n k = (⟨(put n.toNat k.toNat).toArray⟩, 0) := by unfold putR; rw [if_pos HK.out, if_pos hf]
          have HP := Lib.hid hp
          have hlen2 : (⟨(put n.toNat k.toNat).toArray⟩ : ByteArray).size ≤ 8 := by
            show (put n.toNat k.toNat).toArray.size ≤ 8
            have := put_len k.toNat n.toNat
            simp [this]; omega
          have hll : (rowL (l.take j) k).length ≤ 8000 := by
            rw [rowL_len, List.length_take]
            have h1 : min j l.length * k.toNat ≤ 1000 * 8 := Nat.mul_le_mul (by omega) (by omega)
            omega
          clear hp
          go_wp2_with fail
          refine (CP.out n _ hn).mono ?_
          rw [HP.out]
          rintro e w2 ⟨rfl, hb2⟩
          have HB2 : Hid (Below w.heap.size w w2) := HB.out.trans (hb2.mono HB.out.size)
          have HO2 : Hid (w2.ownsRow w.heap.size 5 1 v0 (rowL (l.take j) k).length (bcells (rowL (l.take j) k))) := own_move HO.out (fun q hq => hb2.block q (own_lt HO.out q hq))
          go_wp2_with (at_builtin; refine Lib.wpList_append_own_string _ rfl _ _ 42 9 rfl w.heap.size 5 i0 Try.underlying42 Try.underlying9 hi hz0 hz1 hz2 v0 _ _ rfl HO2.out ⟨(put n.toNat k.toNat).toArray⟩ rfl (by unfold maxLen; omega) (by omega) HB2.out.size ?_)
          intro v3 w3 hown3 hgrow3 hnil3
          have hcat : bcells (rowL (l.take j) k) ++ Lib.strCells ⟨(put n.toNat k.toNat).toArray⟩ = bcells (rowL (l.take (j + 1)) k) := by
            rw [HM.out, rowL_snoc]; simp [bcells, Lib.strCells]
          have hln : (rowL (l.take j) k).length + (put n.toNat k.toNat).length = (rowL (l.take (j + 1)) k).length := by
            rw [HM.out, rowL_snoc, List.length_append]
          rw [hcat, hln] at hown3
          have HO3 := Lib.hid hown3
          have HB3 : Hid (Below w.heap.size w w3) := HB2.out.grown hgrow3 HB2.out.size (fun q hq => own_base HO2.out q hq)
          have HV3 : Hid (v3 ≠ .slice none 0 0) := fun e => HV.out (hnil3.1 e).1
          have HF3 : Hid (∀ m ∈ l.take (j + 1), fits m k) := by
            show ∀ m ∈ l.take (j + 1), fits m k
            rw [HM.out]; intro m hm
            rcases List.mem_append.1 hm with h | h
            · exact HF.out m h
            · rw [List.mem_singleton.1 h]; exact hf
          clear hown3 hgrow3 hnil3 hcat hln hf
          go_wp2
          go_roundw
          case rel => exact ⟨j + 1, v3, by omega, by go_num, rfl, HV3, HO3, HF3, HB3⟩
          case measure => simp [intOf]; omega
        · have hp : putR n k = (⟨#[]⟩, 20) := by unfold putR; rw [if_pos HK.out, if_neg hf]
          have HP := Lib.hid hp
          have HR : Hid (rowR l k = (⟨#[]⟩, 20)) := by show rowR l k = _; rw [HROW.out, if_neg (fun h => hf (h n HIN.out))]
          clear hp hf
          go_wp2_with fail
          refine (CP.out n _ hn).mono ?_
          rw [HP.out]
          rintro e w2 ⟨rfl, hb2⟩
          have HB2 : Hid (Below w.heap.size w w2) := HB.out.trans (hb2.mono HB.out.size)
          go_wp2
          go_ret2
          exact ⟨by rw [HR.out]; rfl, HB2.out⟩
      · obtain rfl : j = l.length := by omega
        have HR : Hid (rowR l k = (⟨(rowL l k).toArray⟩, 0)) := by
          show rowR l k = _
          rw [HROW.out, if_pos (by have := HF.out; rwa [List.take_length] at this)]
        have ho := HO.out
        rw [List.take_length] at ho
        obtain ⟨g, cap, hv, hconv⟩ := bytes_own wr w.heap.size v0 _ (rowL l k) ho HV.out
        subst hv
        clear ho HO HV HF HROW
        go_wp2
        go_ret2
        exact ⟨by rw [HR.out]; rfl, HB.out⟩
  · have HR : rowR l k = (⟨#[]⟩, 22) := by unfold rowR; rw [if_neg hk]
    rw [HR]
    have C1 := Lib.hid (fun w1 => wide_no k w1 hk)
    clear hk HR
    go_enter Try.func14, Try.ntmps14
    go_wp2_with fail
    refine (C1.out _).mono ?_
    rintro e w1 ⟨rfl, rfl⟩
    go_wp2
    go_ret2
    exact ⟨rfl, Below.refl _ _⟩
end Go.Proofs.Ytmieddopajbdnaa
