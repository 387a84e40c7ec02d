/- Texts of this work, put into one. -/
import Derived.Test.YtokhibhmlninnaaGreatDoorGMEa
set_option maxRecDepth 100000
set_option linter.unusedVariables false
set_option linter.unusedSimpArgs false
namespace Go.Proofs.YtokhibhmlninnaaGreatDoor.CodAs
open Go Go.RowKit Go.Extern.Stop Go.Stop Go.Extern
theorem E_valueOf (t : Addr) (w : World) : (ReflectliteValue.unpack (.iface 75 (.pointer (some t)))).run Tryz.prog w = .ok (.agg #[.pointer (some ⟨4, 75, none⟩), .pointer (some ⟨w.heap.size, 0, none⟩), .int .u64 150]) (w.alloc (.cells #[.pointer (some t)] 75)) := by kernel_rfl
theorem E_type (a : Addr) (w : World) : (ReflectliteValue.methodAny (ReflectliteValue.valueError "reflectlite.Value.Type" 0) (fun t _ _ _ => ReflectliteType.toType t) #[.agg #[.pointer (some ⟨4, 75, none⟩), .pointer (some a), .int .u64 150]]).run Tryz.prog w = .ok (.iface 153 (.agg #[.pointer (some ⟨4, 75, none⟩)])) w := by kernel_rfl
theorem E_kindP (w : World) : ((ReflectliteType.abiMethod fun t => (fun a : Nat => Value.int IntKind.u8 (a : Int)) <$> Rtype.kind t) #[.pointer (some ⟨4, 75, none⟩)]).run Tryz.prog w = .ok (.int .u8 22) w := by kernel_rfl
theorem E_kind (w : World) : ((ReflectliteType.abiMethod fun t => (fun a : Nat => Value.int IntKind.u8 (a : Int)) <$> Rtype.kind t) #[.pointer (some ⟨4, 30, none⟩)]).run Tryz.prog w = .ok (.int .u8 2) w := by kernel_rfl
theorem E_parts (a : Addr) (w : World) : (ReflectliteValue.parts (.agg #[.pointer (some ⟨4, 75, none⟩), .pointer (some a), .int .u64 150])).run Tryz.prog w = .ok (some (75, a, 150)) w := by kernel_rfl
theorem E_isNil (a p : Addr) (W : World) (ha : W.cell? a = some (.pointer (some p))) :
  (ReflectliteValue.method (ReflectliteValue.valueError "reflectlite.Value.IsNil" 0) ReflectliteValue.isNil #[.agg #[.pointer (some ⟨4, 75, none⟩), .pointer (some a), .int .u64 150]]).run Tryz.prog W = .ok (.bool false) W := by
 rw [rlm]
 simp only [Sem.run_bind, E_parts, Result.andThen]
 simp [ReflectliteValue.isNil, loadVar, isAgg, underlying, Tryz.underlying75, ha, Result.andThen]
theorem E_elem (w : World) : (ReflectliteType.method ReflectliteType.elem #[.agg #[.pointer (some ⟨4, 75, none⟩)]]).run Tryz.prog w = .ok (.iface 153 (.agg #[.pointer (some ⟨4, 30, none⟩)])) w := by kernel_rfl
theorem E_implements (w : World) : (ReflectliteType.relation "Implements" ReflectliteType.implements_ #[.agg #[.pointer (some ⟨4, 30, none⟩)], .iface 153 (.agg #[.pointer (some ⟨4, 59, none⟩)])]).run Tryz.prog w = .ok (.bool true) w := by kernel_rfl
theorem E_typeOf (c : Int) (w : World) : (ReflectliteType.typeOf #[.iface 30 (.int .i64 c)]).run Tryz.prog w = .ok (.iface 153 (.agg #[.pointer (some ⟨4, 30, none⟩)])) w := by kernel_rfl
theorem E_miss (w : World) : (ReflectliteType.relation "AssignableTo" ReflectliteType.assignableTo #[.agg #[.pointer (some ⟨4, 81, none⟩)], .iface 153 (.agg #[.pointer (some ⟨4, 30, none⟩)])]).run Tryz.prog w = .ok (.bool false) w := by kernel_rfl
theorem E_hit (w : World) : (ReflectliteType.relation "AssignableTo" ReflectliteType.assignableTo #[.agg #[.pointer (some ⟨4, 30, none⟩)], .iface 153 (.agg #[.pointer (some ⟨4, 30, none⟩)])]).run Tryz.prog w = .ok (.bool true) w := by kernel_rfl
theorem E_valueOfE (c : Int) (w : World) : (ReflectliteValue.unpack (.iface 30 (.int .i64 c))).run Tryz.prog w = .ok (.agg #[.pointer (some ⟨4, 30, none⟩), .pointer (some ⟨w.heap.size, 0, none⟩), .int .u64 130]) (w.alloc (.cells #[.int .i64 c] 30)) := by kernel_rfl
theorem E_elemOf (w : World) : (Rtype.elem? 75).run Tryz.prog w = .ok (some 30) w := by kernel_rfl
theorem E_mk (p : Addr) (w : World) : (ReflectliteValue.mk 30 p ReflectliteValue.flagAddr).run Tryz.prog w = .ok (.agg #[.pointer (some ⟨4, 30, none⟩), .pointer (some p), .int .u64 386]) w := by kernel_rfl
theorem E_elemV (a p : Addr) (W : World) (ha : W.cell? a = some (.pointer (some p))) :
  (ReflectliteValue.method (ReflectliteValue.valueError "reflectlite.Value.Elem" 0) ReflectliteValue.elem #[.agg #[.pointer (some ⟨4, 75, none⟩), .pointer (some a), .int .u64 150]]).run Tryz.prog W = .ok (.agg #[.pointer (some ⟨4, 30, none⟩), .pointer (some p), .int .u64 386]) W := by
 rw [rlm]
 simp only [Sem.run_bind, E_parts, Result.andThen]
 simp [ReflectliteValue.elem, loadVar, isAgg, underlying, Tryz.underlying75, ha, Result.andThen, E_elemOf, E_mk]
theorem E_partsA (a : Addr) (w : World) : (ReflectliteValue.parts (.agg #[.pointer (some ⟨4, 30, none⟩), .pointer (some a), .int .u64 386])).run Tryz.prog w = .ok (some (30, a, 386)) w := by kernel_rfl
theorem E_partsB (a : Addr) (w : World) : (ReflectliteValue.parts (.agg #[.pointer (some ⟨4, 30, none⟩), .pointer (some a), .int .u64 130])).run Tryz.prog w = .ok (some (30, a, 130)) w := by kernel_rfl
theorem E_direct (w : World) : (Rtype.directlyAssignable 30 30).run Tryz.prog w = .ok true w := by kernel_rfl
theorem E_set (ta b : Addr) (c : Int) (old : Value) (W : World) (hb : W.cell? b = some (.int .i64 c)) (ht : W.cell? ta = some old) (hf : W.frozen? ta = false) :
  (ReflectliteValue.set #[.agg #[.pointer (some ⟨4, 30, none⟩), .pointer (some ta), .int .u64 386], .agg #[.pointer (some ⟨4, 30, none⟩), .pointer (some b), .int .u64 130]]).run Tryz.prog W = .ok (.tuple #[]) (W.setCell ta (.int .i64 c)) := by
 rw [rls]
 simp only [Sem.run_bind, E_partsA, E_partsB, Result.andThen]
 simp [ReflectliteValue.flagAddr, loadVar, isAgg, underlying, Tryz.underlying30, hb, Result.andThen, E_direct, storeVar, Value.cells, storeCells, Addr.add]
 rw [run_store Tryz.prog W ta _ _ (by rfl)]
 simp [ht, hf]
theorem E_noAs (v : Value) (xT : TypeId) (w : World) : (Instr.typeAssert (.iface 81 v) xT 157 true).run Tryz.prog w = .ok (.tuple #[.nilIface, .bool false]) w := run_typeAssert_lacksB Tryz.underlying157 (by kernel_rfl) (by kernel_rfl) v xT w
theorem E_hasUnwrap (v : Value) (xT : TypeId) (w : World) : (Instr.typeAssert (.iface 81 v) xT 160 true).run Tryz.prog w = .ok (.tuple #[.iface 81 v, .bool true]) w := run_typeAssert_hasB Tryz.underlying160 (by kernel_rfl) v xT w
theorem E_methodUnwrap (e : Addr) (w : World) : (Go.method 306 81 (.pointer (some e)) "Unwrap").run Tryz.prog w = .ok (129, .pointer (some e)) w := by kernel_rfl
set_option maxHeartbeats 8000000 in
theorem as_errno (b : Nat) (t : Addr) (c : Int) (old : Value) (w : World) (hg : w.cell? ⟨0, 0, none⟩ = some (.iface 153 (.agg #[.pointer (some ⟨4, 59, none⟩)]))) (he : w.cell? ⟨b, 2, none⟩ = some (.iface 30 (.int .i64 c))) (ht0 : w.cell? t = some old) (hf0 : w.frozen? t = false) :
  Calls Tryz.prog 27 #[.iface 81 (.pointer (some ⟨b, 0, none⟩)), .iface 75 (.pointer (some t))] w fun ev w' => ev = .returned (.bool true) ∧ w' = ((((w.alloc (.cells #[.pointer (some t)] 75)).alloc (.cells #[.pointer (some ⟨4, 75, none⟩), .pointer (some ⟨w.heap.size, 0, none⟩), .int .u64 150] 121)).alloc (.cells #[.pointer (some ⟨4, 75, none⟩), .pointer (some ⟨w.heap.size, 0, none⟩), .int .u64 150] 121)).alloc (.cells #[.int .i64 c] 30)).setCell t (.int .i64 c) := by
 have h6 := @run_callFunc_extern Tryz.prog 64 _ (fun args => ReflectliteValue.unpack (args.getD 0 (.tuple #[]))) Tryz.func64 (by kernel_rfl) (by kernel_rfl) (by kernel_rfl) (by kernel_rfl)
 have h7 := @run_callFunc_extern Tryz.prog 65 _ (ReflectliteValue.methodAny (ReflectliteValue.valueError "reflectlite.Value.Type" 0) (fun t _ _ _ => ReflectliteType.toType t)) Tryz.func65 (by kernel_rfl) (by kernel_rfl) (by kernel_rfl) (by kernel_rfl)
 have h8 := @run_callFunc_extern Tryz.prog 66 _ (ReflectliteValue.method (ReflectliteValue.valueError "reflectlite.Value.IsNil" 0) ReflectliteValue.isNil) Tryz.func66 (by kernel_rfl) (by kernel_rfl) (by kernel_rfl) (by kernel_rfl)
 have h27 := @run_callFunc_extern Tryz.prog 123 _ (ReflectliteType.abiMethod fun t => do pure (.int .u8 (← Rtype.kind t))) Tryz.func123 (by kernel_rfl) (by kernel_rfl) (by kernel_rfl) (by kernel_rfl)
 have h37 := @run_callFunc_extern Tryz.prog 136 _ (ReflectliteType.method ReflectliteType.elem) Tryz.func136 (by kernel_rfl) (by kernel_rfl) (by kernel_rfl) (by kernel_rfl)
 have h38 := @run_callFunc_extern Tryz.prog 137 _ (ReflectliteType.relation "Implements" ReflectliteType.implements_) Tryz.func137 (by kernel_rfl) (by kernel_rfl) (by kernel_rfl) (by kernel_rfl)
 have h10 := @run_callFunc_extern Tryz.prog 69 _ ReflectliteType.typeOf Tryz.func69 (by kernel_rfl) (by kernel_rfl) (by kernel_rfl) (by kernel_rfl)
 have h35 := @run_callFunc_extern Tryz.prog 134 _ (ReflectliteType.relation "AssignableTo" ReflectliteType.assignableTo) Tryz.func134 (by kernel_rfl) (by kernel_rfl) (by kernel_rfl) (by kernel_rfl)
 have h11 := @run_callFunc_extern Tryz.prog 98 _ (ReflectliteValue.method (ReflectliteValue.valueError "reflectlite.Value.Elem" 0) ReflectliteValue.elem) Tryz.func98 (by kernel_rfl) (by kernel_rfl) (by kernel_rfl) (by kernel_rfl)
 have h12 := @run_callFunc_extern Tryz.prog 99 _ ReflectliteValue.set Tryz.func99 (by kernel_rfl) (by kernel_rfl) (by kernel_rfl) (by kernel_rfl)
 have tO := W_typeOf25
 have tE := E_typeOf
 have mA := W_methodAssignableTo
 have aM := E_miss
 have aH := E_hit
 have vE := E_valueOfE
 have f6 := E_valueOf
 have f7 := E_type
 have mK := W_methodKind
 have mE := W_methodElem
 have mI := W_methodImplements
 have k27 := E_kindP
 have k25 := E_kind
 have e27 := E_elem
 have i25 := E_implements
 have na := E_noAs
 have hu := E_hasUnwrap
 have mu := E_methodUnwrap
 have n8 := E_isNil ⟨w.heap.size, 0, none⟩ t ((w.alloc (.cells #[.pointer (some t)] 75)).alloc (.cells #[.pointer (some ⟨4, 75, none⟩), .pointer (some ⟨w.heap.size, 0, none⟩), .int .u64 150] 121)) (by simp)
 have hlt : 0 < w.heap.size := by
  rcases Nat.lt_or_ge 0 w.heap.size with h | h
  ·exact h
  ·simp [World.cell?, Array.getElem?_eq_none h] at hg
 have hg2 : ((w.alloc (.cells #[.pointer (some t)] 75)).alloc (.cells #[.pointer (some ⟨4, 75, none⟩), .pointer (some ⟨w.heap.size, 0, none⟩), .int .u64 150] 121)).cell? ⟨0, 0, none⟩ = some (.iface 153 (.agg #[.pointer (some ⟨4, 59, none⟩)])) := by
  rw [World.cell?_alloc_lt _ _ ⟨0, 0, none⟩ (by first | (simp; done) | (simp; omega)), World.cell?_alloc_lt _ _ ⟨0, 0, none⟩ hlt]; exact hg
 have htl : t.block < w.heap.size := by
  rcases Nat.lt_or_ge t.block w.heap.size with h | h
  ·exact h
  ·simp [World.cell?, Array.getElem?_eq_none h] at ht0
 have hel : b < w.heap.size := by
  rcases Nat.lt_or_ge b w.heap.size with h | h
  ·exact h
  ·simp [World.cell?, Array.getElem?_eq_none h] at he
 have he2 : (((w.alloc (.cells #[.pointer (some t)] 75)).alloc (.cells #[.pointer (some ⟨4, 75, none⟩), .pointer (some ⟨w.heap.size, 0, none⟩), .int .u64 150] 121)).alloc (.cells #[.pointer (some ⟨4, 75, none⟩), .pointer (some ⟨w.heap.size, 0, none⟩), .int .u64 150] 121)).cell? ⟨b, 2, none⟩ = some (.iface 30 (.int .i64 c)) := by
  rw [World.cell?_alloc_lt _ _ ⟨b, 2, none⟩ (by first | (simp; done) | (simp; omega)), World.cell?_alloc_lt _ _ ⟨b, 2, none⟩ (by first | (simp; done) | (simp; omega)), World.cell?_alloc_lt _ _ ⟨b, 2, none⟩ hel]; exact he
 have el := E_elemV ⟨w.heap.size, 0, none⟩ t (((w.alloc (.cells #[.pointer (some t)] 75)).alloc (.cells #[.pointer (some ⟨4, 75, none⟩), .pointer (some ⟨w.heap.size, 0, none⟩), .int .u64 150] 121)).alloc (.cells #[.pointer (some ⟨4, 75, none⟩), .pointer (some ⟨w.heap.size, 0, none⟩), .int .u64 150] 121)) (by rw [World.cell?_alloc_lt _ _ ⟨w.heap.size, 0, none⟩ (by first | (simp; done) | (simp; omega))]; simp)
 have st := E_set t ⟨w.heap.size + 1 + 1 + 1, 0, none⟩ c old ((((w.alloc (.cells #[.pointer (some t)] 75)).alloc (.cells #[.pointer (some ⟨4, 75, none⟩), .pointer (some ⟨w.heap.size, 0, none⟩), .int .u64 150] 121)).alloc (.cells #[.pointer (some ⟨4, 75, none⟩), .pointer (some ⟨w.heap.size, 0, none⟩), .int .u64 150] 121)).alloc (.cells #[.int .i64 c] 30))
  (by rw [World.cell?_alloc_at _ _ _ _ (by simp)]; rfl)
  (by rw [World.cell?_alloc_lt _ _ t (by first | (simp; done) | (simp; omega)), World.cell?_alloc_lt _ _ t (by first | (simp; done) | (simp; omega)), World.cell?_alloc_lt _ _ t (by first | (simp; done) | (simp; omega)), World.cell?_alloc_lt _ _ t htl]; exact ht0)
  (by rw [World.frozen?_alloc_old _ _ t (by first | (simp; done) | (simp; omega)), World.frozen?_alloc_old _ _ t (by first | (simp; done) | (simp; omega)), World.frozen?_alloc_old _ _ t (by first | (simp; done) | (simp; omega)), World.frozen?_alloc_old _ _ t (Nat.ne_of_lt htl)]; exact hf0)
 clear he hg ht0 hf0
 go_enter Tryz.func27, Tryz.ntmps27
 go_wp2
 refine wp_loop_rounds 2 ?_
 rw [rounds_succ]
 go_wp2
 rw [rounds_succ]
 go_wp2
 go_ret
 exact ⟨rfl, rfl⟩
end Go.Proofs.YtokhibhmlninnaaGreatDoor.CodAs
