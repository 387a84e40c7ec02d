/- Texts of this work, put into one. -/
import Derived.Test.YtokhibhmlninnaaGreatDoorProg
import Derived.WalkKit
import Derived.LaidEql
import Derived.Stop.Asserts
import Derived.RowKitTokens
set_option maxRecDepth 100000
set_option linter.unusedVariables false
set_option linter.unusedSimpArgs false
namespace Go.Proofs.YtokhibhmlninnaaGreatDoor.CodAs
open Go Go.RowKit Go.Extern.Stop Go.Stop Go.Extern
theorem as_nil (t : Value) (w : World) :
  Calls Tryz.prog 27 #[.nilIface, t] w fun e w' => e = .returned (.bool false) ∧ w' = w := by
 go_enter Tryz.func27, Tryz.ntmps27
 go_wp2
 go_ret
 exact ⟨rfl, rfl⟩
theorem W_valueOf27 (t : Addr) (w : World) : (ReflectliteValue.unpack (.iface 82 (.pointer (some t)))).run Tryz.prog w
  = .ok (.agg #[.pointer (some ⟨4, 82, none⟩), .pointer (some ⟨w.heap.size, 0, none⟩), .int .u64 150]) (w.alloc (.cells #[.pointer (some t)] 82)) := by kernel_rfl
theorem W_type27 (a : Addr) (w : World) : (ReflectliteValue.methodAny (ReflectliteValue.valueError "reflectlite.Value.Type" 0) (fun t _ _ _ => ReflectliteType.toType t) #[.agg #[.pointer (some ⟨4, 82, none⟩), .pointer (some a), .int .u64 150]]).run Tryz.prog w
  = .ok (.iface 153 (.agg #[.pointer (some ⟨4, 82, none⟩)])) w := by kernel_rfl
theorem W_methodKind (h : Value) (w : World) : (Go.method 306 153 (.agg #[h]) "Kind").run Tryz.prog w = .ok (123, h) w := by kernel_rfl
theorem W_kind27 (w : World) : ((ReflectliteType.abiMethod fun t => (fun a : Nat => Value.int IntKind.u8 (a : Int)) <$> Rtype.kind t) #[.pointer (some ⟨4, 82, none⟩)]).run Tryz.prog w = .ok (.int .u8 22) w := by kernel_rfl
theorem W_kind25 (w : World) : ((ReflectliteType.abiMethod fun t => (fun a : Nat => Value.int IntKind.u8 (a : Int)) <$> Rtype.kind t) #[.pointer (some ⟨4, 81, none⟩)]).run Tryz.prog w = .ok (.int .u8 22) w := by kernel_rfl
theorem rlm (z : Sem Value) (f : TypeId → Addr → Nat → Nat → Sem Value) (v : Value) :
  ReflectliteValue.method z f #[v] = (do match ← ReflectliteValue.parts v with | none => z | some (t, a, fl) => f t a fl (fl % 32)) := rfl
theorem W_parts27 (a : Addr) (w : World) : (ReflectliteValue.parts (.agg #[.pointer (some ⟨4, 82, none⟩), .pointer (some a), .int .u64 150])).run Tryz.prog w = .ok (some (82, a, 150)) w := by kernel_rfl
theorem W_isNil27 (a p : Addr) (W : World) (ha : W.cell? a = some (.pointer (some p))) :
  (ReflectliteValue.method (ReflectliteValue.valueError "reflectlite.Value.IsNil" 0) ReflectliteValue.isNil #[.agg #[.pointer (some ⟨4, 82, none⟩), .pointer (some a), .int .u64 150]]).run Tryz.prog W = .ok (.bool false) W := by
 rw [rlm]
 simp only [Sem.run_bind, W_parts27, Result.andThen]
 simp [ReflectliteValue.isNil, loadVar, isAgg, underlying, Tryz.underlying82, ha, Result.andThen]
theorem W_methodElem (h : Value) (w : World) : (Go.method 306 153 (.agg #[h]) "Elem").run Tryz.prog w = .ok (136, .agg #[h]) w := by kernel_rfl
theorem W_methodImplements (h : Value) (w : World) : (Go.method 306 153 (.agg #[h]) "Implements").run Tryz.prog w = .ok (137, .agg #[h]) w := by kernel_rfl
theorem W_methodAssignableTo (h : Value) (w : World) : (Go.method 306 153 (.agg #[h]) "AssignableTo").run Tryz.prog w = .ok (134, .agg #[h]) w := by kernel_rfl
theorem W_elem27 (w : World) : (ReflectliteType.method ReflectliteType.elem #[.agg #[.pointer (some ⟨4, 82, none⟩)]]).run Tryz.prog w = .ok (.iface 153 (.agg #[.pointer (some ⟨4, 81, none⟩)])) w := by kernel_rfl
theorem W_implements25 (w : World) : (ReflectliteType.relation "Implements" ReflectliteType.implements_ #[.agg #[.pointer (some ⟨4, 81, none⟩)], .iface 153 (.agg #[.pointer (some ⟨4, 59, none⟩)])]).run Tryz.prog w = .ok (.bool true) w := by kernel_rfl
theorem W_typeOf25 (v : Value) (w : World) : (ReflectliteType.typeOf #[.iface 81 v]).run Tryz.prog w = .ok (.iface 153 (.agg #[.pointer (some ⟨4, 81, none⟩)])) w := by kernel_rfl
theorem W_assignable25 (w : World) : (ReflectliteType.relation "AssignableTo" ReflectliteType.assignableTo #[.agg #[.pointer (some ⟨4, 81, none⟩)], .iface 153 (.agg #[.pointer (some ⟨4, 81, none⟩)])]).run Tryz.prog w = .ok (.bool true) w := by kernel_rfl
theorem W_valueOf25 (e : Addr) (w : World) : (ReflectliteValue.unpack (.iface 81 (.pointer (some e)))).run Tryz.prog w
  = .ok (.agg #[.pointer (some ⟨4, 81, none⟩), .pointer (some ⟨w.heap.size, 0, none⟩), .int .u64 150]) (w.alloc (.cells #[.pointer (some e)] 81)) := by kernel_rfl
theorem W_elemOf27 (w : World) : (Rtype.elem? 82).run Tryz.prog w = .ok (some 81) w := by kernel_rfl
theorem W_mk25 (p : Addr) (w : World) : (ReflectliteValue.mk 81 p ReflectliteValue.flagAddr).run Tryz.prog w = .ok (.agg #[.pointer (some ⟨4, 81, none⟩), .pointer (some p), .int .u64 406]) w := by kernel_rfl
theorem W_elemV27 (a p : Addr) (W : World) (ha : W.cell? a = some (.pointer (some p))) :
  (ReflectliteValue.method (ReflectliteValue.valueError "reflectlite.Value.Elem" 0) ReflectliteValue.elem #[.agg #[.pointer (some ⟨4, 82, none⟩), .pointer (some a), .int .u64 150]]).run Tryz.prog W
   = .ok (.agg #[.pointer (some ⟨4, 81, none⟩), .pointer (some p), .int .u64 406]) W := by
 rw [rlm]
 simp only [Sem.run_bind, W_parts27, Result.andThen]
 simp [ReflectliteValue.elem, loadVar, isAgg, underlying, Tryz.underlying82, ha, Result.andThen, W_elemOf27, W_mk25]
theorem rls (v x : Value) : ReflectliteValue.set #[v, x] = (do
  let (some (dst, a, fl), some (src, b, _)) := (← ReflectliteValue.parts v, ← ReflectliteValue.parts x)
   | unsupported (.noEntry "extern/(internal/reflectlite.Value).Set.zeroValue")
  if fl / ReflectliteValue.flagAddr % 2 == 0 then unsupported (.noEntry "extern/(internal/reflectlite.Value).Set.unaddressable")
  let val ← loadVar src b
  if ← Rtype.directlyAssignable dst src then storeVar dst a val
  else if ← Rtype.implements dst src then
   if (← Rtype.kind src) == 20 then
    match val with
    | .nilIface => unsupported (.noEntry "extern/reflectlite: a nil value of one interface type handed on as a value of another")
    | _ => storeVar dst a val
   else storeVar dst a (.iface src val)
  else panicString ("reflectlite.Set: value of type " ++ (← Rtype.spelt src) ++ " is not assignable to type " ++ (← Rtype.spelt dst))
  pure (.tuple #[])) := rfl
theorem W_parts25a (a : Addr) (w : World) : (ReflectliteValue.parts (.agg #[.pointer (some ⟨4, 81, none⟩), .pointer (some a), .int .u64 406])).run Tryz.prog w = .ok (some (81, a, 406)) w := by kernel_rfl
theorem W_parts25 (a : Addr) (w : World) : (ReflectliteValue.parts (.agg #[.pointer (some ⟨4, 81, none⟩), .pointer (some a), .int .u64 150])).run Tryz.prog w = .ok (some (81, a, 150)) w := by kernel_rfl
theorem W_direct25 (w : World) : (Rtype.directlyAssignable 81 81).run Tryz.prog w = .ok true w := by kernel_rfl
theorem W_set25 (ta b e : Addr) (old : Value) (W : World) (hb : W.cell? b = some (.pointer (some e))) (ht : W.cell? ta = some old) (hf : W.frozen? ta = false) :
  (ReflectliteValue.set #[.agg #[.pointer (some ⟨4, 81, none⟩), .pointer (some ta), .int .u64 406], .agg #[.pointer (some ⟨4, 81, none⟩), .pointer (some b), .int .u64 150]]).run Tryz.prog W
   = .ok (.tuple #[]) (W.setCell ta (.pointer (some e))) := by
 rw [rls]
 simp only [Sem.run_bind, W_parts25a, W_parts25, Result.andThen]
 simp [ReflectliteValue.flagAddr, loadVar, isAgg, underlying, Tryz.underlying81, hb, Result.andThen, W_direct25, storeVar, Value.cells, storeCells, Addr.add]
 rw [run_store Tryz.prog W ta _ _ (by rfl)]
 simp [ht, hf]
set_option maxHeartbeats 4000000 in
theorem as_wrong (e t : Addr) (old : Value) (w : World) (hg : w.cell? ⟨0, 0, none⟩ = some (.iface 153 (.agg #[.pointer (some ⟨4, 59, none⟩)]))) (ht0 : w.cell? t = some old) (hf0 : w.frozen? t = false) :
  Calls Tryz.prog 27 #[.iface 81 (.pointer (some e)), .iface 82 (.pointer (some t))] w fun ev w' => ev = .returned (.bool true) ∧ w' = ((((w.alloc (.cells #[.pointer (some t)] 82)).alloc (.cells #[.pointer (some ⟨4, 82, none⟩), .pointer (some ⟨w.heap.size, 0, none⟩), .int .u64 150] 121)).alloc (.cells #[.pointer (some ⟨4, 82, none⟩), .pointer (some ⟨w.heap.size, 0, none⟩), .int .u64 150] 121)).alloc (.cells #[.pointer (some e)] 81)).setCell t (.pointer (some e)) := by
 have h6 := @run_callFunc_extern Tryz.prog 64 _ (fun args => ReflectliteValue.unpack (args.getD 0 (.tuple #[]))) Tryz.func64 (by kernel_rfl) (by kernel_rfl) (by kernel_rfl) (by kernel_rfl)
 have h7 := @run_callFunc_extern Tryz.prog 65 _ (ReflectliteValue.methodAny (ReflectliteValue.valueError "reflectlite.Value.Type" 0) (fun t _ _ _ => ReflectliteType.toType t)) Tryz.func65 (by kernel_rfl) (by kernel_rfl) (by kernel_rfl) (by kernel_rfl)
 have h8 := @run_callFunc_extern Tryz.prog 66 _ (ReflectliteValue.method (ReflectliteValue.valueError "reflectlite.Value.IsNil" 0) ReflectliteValue.isNil) Tryz.func66 (by kernel_rfl) (by kernel_rfl) (by kernel_rfl) (by kernel_rfl)
 have h27 := @run_callFunc_extern Tryz.prog 123 _ (ReflectliteType.abiMethod fun t => do pure (.int .u8 (← Rtype.kind t))) Tryz.func123 (by kernel_rfl) (by kernel_rfl) (by kernel_rfl) (by kernel_rfl)
 have h37 := @run_callFunc_extern Tryz.prog 136 _ (ReflectliteType.method ReflectliteType.elem) Tryz.func136 (by kernel_rfl) (by kernel_rfl) (by kernel_rfl) (by kernel_rfl)
 have h38 := @run_callFunc_extern Tryz.prog 137 _ (ReflectliteType.relation "Implements" ReflectliteType.implements_) Tryz.func137 (by kernel_rfl) (by kernel_rfl) (by kernel_rfl) (by kernel_rfl)
 have h10 := @run_callFunc_extern Tryz.prog 69 _ ReflectliteType.typeOf Tryz.func69 (by kernel_rfl) (by kernel_rfl) (by kernel_rfl) (by kernel_rfl)
 have h35 := @run_callFunc_extern Tryz.prog 134 _ (ReflectliteType.relation "AssignableTo" ReflectliteType.assignableTo) Tryz.func134 (by kernel_rfl) (by kernel_rfl) (by kernel_rfl) (by kernel_rfl)
 have h11 := @run_callFunc_extern Tryz.prog 98 _ (ReflectliteValue.method (ReflectliteValue.valueError "reflectlite.Value.Elem" 0) ReflectliteValue.elem) Tryz.func98 (by kernel_rfl) (by kernel_rfl) (by kernel_rfl) (by kernel_rfl)
 have h12 := @run_callFunc_extern Tryz.prog 99 _ ReflectliteValue.set Tryz.func99 (by kernel_rfl) (by kernel_rfl) (by kernel_rfl) (by kernel_rfl)
 have tO := W_typeOf25
 have mA := W_methodAssignableTo
 have a25 := W_assignable25
 have v25 := W_valueOf25
 have f6 := W_valueOf27
 have f7 := W_type27
 have mK := W_methodKind
 have mE := W_methodElem
 have mI := W_methodImplements
 have k27 := W_kind27
 have k25 := W_kind25
 have e27 := W_elem27
 have i25 := W_implements25
 have n8 := W_isNil27 ⟨w.heap.size, 0, none⟩ t ((w.alloc (.cells #[.pointer (some t)] 82)).alloc (.cells #[.pointer (some ⟨4, 82, none⟩), .pointer (some ⟨w.heap.size, 0, none⟩), .int .u64 150] 121)) (by simp)
 have hlt : 0 < w.heap.size := by
  rcases Nat.eq_zero_or_pos w.heap.size with h0 | h
  ·simp [World.cell?, h0] at hg
  ·exact h
 have hg2 : ((w.alloc (.cells #[.pointer (some t)] 82)).alloc (.cells #[.pointer (some ⟨4, 82, none⟩), .pointer (some ⟨w.heap.size, 0, none⟩), .int .u64 150] 121)).cell? ⟨0, 0, none⟩ = some (.iface 153 (.agg #[.pointer (some ⟨4, 59, none⟩)])) := by
  rw [World.cell?_alloc_lt _ _ ⟨0, 0, none⟩ (by simp), World.cell?_alloc_lt _ _ ⟨0, 0, none⟩ hlt]; exact hg
 have htl : t.block < w.heap.size := by
  rcases Nat.lt_or_ge t.block w.heap.size with h | h
  ·exact h
  ·simp [World.cell?, Array.getElem?_eq_none h] at ht0
 have el := W_elemV27 ⟨w.heap.size, 0, none⟩ t (((w.alloc (.cells #[.pointer (some t)] 82)).alloc (.cells #[.pointer (some ⟨4, 82, none⟩), .pointer (some ⟨w.heap.size, 0, none⟩), .int .u64 150] 121)).alloc (.cells #[.pointer (some ⟨4, 82, none⟩), .pointer (some ⟨w.heap.size, 0, none⟩), .int .u64 150] 121)) (by rw [World.cell?_alloc_lt _ _ ⟨w.heap.size, 0, none⟩ (by simp; omega)]; simp)
 have st := W_set25 t ⟨w.heap.size + 1 + 1 + 1, 0, none⟩ e old ((((w.alloc (.cells #[.pointer (some t)] 82)).alloc (.cells #[.pointer (some ⟨4, 82, none⟩), .pointer (some ⟨w.heap.size, 0, none⟩), .int .u64 150] 121)).alloc (.cells #[.pointer (some ⟨4, 82, none⟩), .pointer (some ⟨w.heap.size, 0, none⟩), .int .u64 150] 121)).alloc (.cells #[.pointer (some e)] 81))
  (by rw [World.cell?_alloc_at _ _ _ _ (by simp)]; rfl)
  (by rw [World.cell?_alloc_lt _ _ t (by simp; omega), World.cell?_alloc_lt _ _ t (by simp; omega), World.cell?_alloc_lt _ _ t (by simp; omega), World.cell?_alloc_lt _ _ t htl]; exact ht0)
  (by rw [World.frozen?_alloc_old _ _ t (by simp; omega), World.frozen?_alloc_old _ _ t (by simp; omega), World.frozen?_alloc_old _ _ t (by simp; omega), World.frozen?_alloc_old _ _ t (Nat.ne_of_lt htl)]; exact hf0)
 go_enter Tryz.func27, Tryz.ntmps27
 go_wp2
 refine wp_loop_rounds 1 ?_
 rw [rounds_succ]
 go_wp2
 go_ret
 exact ⟨rfl, rfl⟩
end Go.Proofs.YtokhibhmlninnaaGreatDoor.CodAs
