/- Texts of this work, put into one. -/
import Derived.Test.YtokhibhmlninnaaGreatDoorGMEb
set_option maxRecDepth 100000
set_option linter.unusedVariables false
set_option linter.unusedSimpArgs false
namespace Go.Proofs.YtokhibhmlninnaaGreatDoor.CodAs
open Go Go.RowKit Go.Extern.Stop Go.Stop Go.Extern
section
variable {P : Program} (w : World)
theorem run_equalIn_iface_int (d : Nat) {ti tn : TypeId} {ms : Array (String × TypeId)} {i : TypeInfo} {k : IntKind} (a b : Int) (hi : P.underlying ti = some (.interface ms)) (hn : P.underlying tn = some (.int k)) (hinfo : P.info? tn = some i) (hcomp : i.comparable = true) :
  (Op.equalIn (d + 2) ti (.iface tn (.int k a)) (.iface tn (.int k b))).run P w = .ok (a == b) w := by
 simp [Op.equalIn, run_underlying hi, run_underlying hn, typeInfo, hinfo, hcomp]
theorem run_eql_iface_int {ti tn : TypeId} {ms : Array (String × TypeId)} {i : TypeInfo} {k : IntKind} (a b : Int) (hi : P.underlying ti = some (.interface ms)) (hn : P.underlying tn = some (.int k)) (hinfo : P.info? tn = some i) (hcomp : i.comparable = true) :
  (binOp .eql ti (.iface tn (.int k a)) (.iface tn (.int k b))).run P w = .ok (.bool (a == b)) w := by
 simp only [binOp]
 simp [Op.equal, Op.maxDepth, run_equalIn_iface_int w 9998 a b hi hn hinfo hcomp]
end
theorem I_noIsW (v : Value) (xT : TypeId) (w : World) : (Instr.typeAssert (.iface 81 v) xT 165 true).run Tryz.prog w = .ok (.tuple #[.nilIface, .bool false]) w := run_typeAssert_lacksB Tryz.underlying165 (by kernel_rfl) (by kernel_rfl) v xT w
theorem I_noIsE (v : Value) (xT : TypeId) (w : World) : (Instr.typeAssert (.iface 30 v) xT 165 true).run Tryz.prog w = .ok (.tuple #[.nilIface, .bool false]) w := run_typeAssert_lacksB Tryz.underlying165 (by kernel_rfl) (by kernel_rfl) v xT w
theorem I_noUnwrapE (v : Value) (xT : TypeId) (w : World) : (Instr.typeAssert (.iface 30 v) xT 160 true).run Tryz.prog w = .ok (.tuple #[.nilIface, .bool false]) w := run_typeAssert_lacksB Tryz.underlying160 (by kernel_rfl) (by kernel_rfl) v xT w
theorem I_noUnwrapsE (v : Value) (xT : TypeId) (w : World) : (Instr.typeAssert (.iface 30 v) xT 162 true).run Tryz.prog w = .ok (.tuple #[.nilIface, .bool false]) w := run_typeAssert_lacksB Tryz.underlying162 (by kernel_rfl) (by kernel_rfl) v xT w
theorem I_isComp : (Tryz.prog.info? 30).map (·.comparable) = some true := by kernel_rfl
theorem I_method (v : Value) (w : World) : (Go.method 306 153 v "Comparable").run Tryz.prog w = .ok (135, v) w := by kernel_rfl
theorem I_comparable (w : World) : ((ReflectliteType.method fun t => do Rtype.noPackHeld "Comparable" t; pure (.bool (← typeInfo t).comparable)) #[.agg #[.pointer (some ⟨4, 30, none⟩)]]).run Tryz.prog w = .ok (.bool true) w := by kernel_rfl
theorem I_call (w : World) : Sem.run Tryz.prog (callFunc 135 #[.agg #[.pointer (some ⟨4, 30, none⟩)]]) w = .ok (Next.value (.bool true)) w := by
 have h := @run_callFunc_extern Tryz.prog 135 _ (ReflectliteType.method fun t => do Rtype.noPackHeld "Comparable" t; pure (.bool (← typeInfo t).comparable)) Tryz.func135 (by kernel_rfl) (by kernel_rfl) (by kernel_rfl) (by kernel_rfl)
 rw [h, I_comparable]; rfl
set_option maxHeartbeats 8000000 in
theorem is_yes (b : Nat) (c d : Int) (w : World) (he : w.cell? ⟨b, 2, none⟩ = some (.iface 30 (.int .i64 c))) (hcd : c = d) :
  Calls Tryz.prog 31 #[.iface 81 (.pointer (some ⟨b, 0, none⟩)), .iface 30 (.int .i64 d)] w fun ev w' => ev = .returned (.bool true) ∧ w' = w := by
 obtain ⟨i, hi, hcmp⟩ := Option.map_eq_some_iff.1 I_isComp
 have h10 := @run_callFunc_extern Tryz.prog 69 _ ReflectliteType.typeOf Tryz.func69 (by kernel_rfl) (by kernel_rfl) (by kernel_rfl) (by kernel_rfl)
 have tO := E_typeOf
 have mR := I_method
 have cT := I_call
 have nW := I_noIsW
 have nE := I_noIsE
 have hu := E_hasUnwrap
 have uE := I_noUnwrapE
 have vE := I_noUnwrapsE
 have mu := E_methodUnwrap
 have heq := run_eql_iface_int (P := Tryz.prog) (k := .i64) w c d Tryz.underlying59 Tryz.underlying30 hi hcmp
 rw [show (c == d) = true by simp [hcd]] at heq
 clear hcd hi hcmp
 have hty := run_eql_iface_types (P := Tryz.prog) 81 30 (.pointer (some ⟨b, 0, none⟩)) (.int .i64 d) Tryz.underlying59 (by decide) w
 go_enter Tryz.func31, Tryz.ntmps31
 go_wp2
 refine wp_loop_rounds 2 ?_
 rw [rounds_succ]
 go_wp2
 rw [rounds_succ]
 go_wp2
 go_ret
 exact ⟨rfl, rfl⟩
set_option maxHeartbeats 8000000 in
theorem is_no (b : Nat) (c d : Int) (w : World) (he : w.cell? ⟨b, 2, none⟩ = some (.iface 30 (.int .i64 c))) (hcd : c ≠ d) :
  Calls Tryz.prog 31 #[.iface 81 (.pointer (some ⟨b, 0, none⟩)), .iface 30 (.int .i64 d)] w fun ev w' => ev = .returned (.bool false) ∧ w' = w := by
 obtain ⟨i, hi, hcmp⟩ := Option.map_eq_some_iff.1 I_isComp
 have h10 := @run_callFunc_extern Tryz.prog 69 _ ReflectliteType.typeOf Tryz.func69 (by kernel_rfl) (by kernel_rfl) (by kernel_rfl) (by kernel_rfl)
 have tO := E_typeOf
 have mR := I_method
 have cT := I_call
 have nW := I_noIsW
 have nE := I_noIsE
 have hu := E_hasUnwrap
 have uE := I_noUnwrapE
 have vE := I_noUnwrapsE
 have mu := E_methodUnwrap
 have heq := run_eql_iface_int (P := Tryz.prog) (k := .i64) w c d Tryz.underlying59 Tryz.underlying30 hi hcmp
 rw [show (c == d) = false by simp [hcd]] at heq
 clear hcd hi hcmp
 have hty := run_eql_iface_types (P := Tryz.prog) 81 30 (.pointer (some ⟨b, 0, none⟩)) (.int .i64 d) Tryz.underlying59 (by decide) w
 go_enter Tryz.func31, Tryz.ntmps31
 go_wp2
 refine wp_loop_rounds 2 ?_
 rw [rounds_succ]
 go_wp2
 rw [rounds_succ]
 go_wp2
 go_ret
 exact ⟨rfl, rfl⟩
end Go.Proofs.YtokhibhmlninnaaGreatDoor.CodAs
