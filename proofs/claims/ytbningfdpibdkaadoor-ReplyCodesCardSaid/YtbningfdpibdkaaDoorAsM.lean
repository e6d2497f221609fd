/-
  errors.As at **api.Fault: a sentinel is none.
-/
import Derived.Test.YtbningfdpibdkaaDoorAsF
import Derived.Test.YtbningfdpibdkaaDoorIs
namespace Go.Proofs.YtbningfdpibdkaaDoor
open Go.RowKit Go.Extern.Stop Go.Stop Go.Extern
set_option linter.unusedVariables false
set_option linter.unusedSimpArgs false

theorem asM_typeOf (v : Value) (w : World) : (ReflectliteType.typeOf #[.iface 104 v]).run Tryd.prog w = .ok (.iface 177 (.agg #[.pointer (some ⟨18, 104, none⟩)])) w := by kernel_rfl
theorem asM_assign (w : World) : (ReflectliteType.relation "AssignableTo" ReflectliteType.assignableTo #[.agg #[.pointer (some ⟨18, 104, none⟩)], .iface 177 (.agg #[.pointer (some ⟨18, 32, none⟩)])]).run Tryd.prog w = .ok (.bool false) w := by kernel_rfl
theorem noAsE (v : Value) (xT : TypeId) (w : World) : (Instr.typeAssert (.iface 104 v) xT 208 true).run Tryd.prog w = .ok (.tuple #[.nilIface, .bool false]) w := run_typeAssert_lacksB Tryd.underlying208 (by kernel_rfl) (by kernel_rfl) v xT w
set_option maxHeartbeats 4000000 in
theorem as_miss (a t : Addr) (old : Value) (w : World) (hg : w.cell? ⟨14, 0, none⟩ = some (.iface 177 (.agg #[.pointer (some ⟨18, 30, none⟩)]))) (ht0 : w.cell? t = some old) :
    Calls Tryd.prog 49 #[.iface 104 (.pointer (some a)), .iface 90 (.pointer (some t))] w fun ev w' => ev = .returned (.bool false) ∧ Below w.heap.size w w' := by
  have h6 := @run_callFunc_extern Tryd.prog 97 _ (fun args => ReflectliteValue.unpack (args.getD 0 (.tuple #[]))) Tryd.func97 (by kernel_rfl) (by kernel_rfl) (by kernel_rfl) (by kernel_rfl)
  have h7 := @run_callFunc_extern Tryd.prog 98 _ (ReflectliteValue.methodAny (ReflectliteValue.valueError "reflectlite.Value.Type" 0) (fun t _ _ _ => ReflectliteType.toType t)) Tryd.func98 (by kernel_rfl) (by kernel_rfl) (by kernel_rfl) (by kernel_rfl)
  have h8 := @run_callFunc_extern Tryd.prog 99 _ (ReflectliteValue.method (ReflectliteValue.valueError "reflectlite.Value.IsNil" 0) ReflectliteValue.isNil) Tryd.func99 (by kernel_rfl) (by kernel_rfl) (by kernel_rfl) (by kernel_rfl)
  have h27 := @run_callFunc_extern Tryd.prog 143 _ (ReflectliteType.abiMethod fun t => do pure (.int .u8 (← Rtype.kind t))) Tryd.func143 (by kernel_rfl) (by kernel_rfl) (by kernel_rfl) (by kernel_rfl)
  have h37 := @run_callFunc_extern Tryd.prog 162 _ (ReflectliteType.method ReflectliteType.elem) Tryd.func162 (by kernel_rfl) (by kernel_rfl) (by kernel_rfl) (by kernel_rfl)
  have h38 := @run_callFunc_extern Tryd.prog 163 _ (ReflectliteType.relation "Implements" ReflectliteType.implements_) Tryd.func163 (by kernel_rfl) (by kernel_rfl) (by kernel_rfl) (by kernel_rfl)
  have h10 := @run_callFunc_extern Tryd.prog 53 _ ReflectliteType.typeOf Tryd.func53 (by kernel_rfl) (by kernel_rfl) (by kernel_rfl) (by kernel_rfl)
  have h35 := @run_callFunc_extern Tryd.prog 160 _ (ReflectliteType.relation "AssignableTo" ReflectliteType.assignableTo) Tryd.func160 (by kernel_rfl) (by kernel_rfl) (by kernel_rfl) (by kernel_rfl)
  have tO := asM_typeOf
  have mA := asF_methodAssignableTo
  have a25 := asM_assign
  have nA := noAsE
  have nU := noUnwrapE
  have nUs := noUnwrapsE
  have f6 := asF_valueOf27
  have f7 := asF_type27
  have mK := asF_methodKind
  have mE := asF_methodElem
  have mI := asF_methodImplements
  have k27 := asF_kind27
  have k25 := asF_kind25
  have e27 := asF_elem27
  have i25 := asF_implements25
  have n8 := asF_isNil27 ⟨w.heap.size, 0, none⟩ t ((w.alloc (.cells #[.pointer (some t)] 90)).alloc (.cells #[.pointer (some ⟨18, 90, none⟩), .pointer (some ⟨w.heap.size, 0, none⟩), .int .u64 150] 167)) (by simp)
  have hlt : 14 < w.heap.size := World.block_lt_of_cell? w ⟨14, 0, none⟩ hg
  have hg2 : ((w.alloc (.cells #[.pointer (some t)] 90)).alloc (.cells #[.pointer (some ⟨18, 90, none⟩), .pointer (some ⟨w.heap.size, 0, none⟩), .int .u64 150] 167)).cell? ⟨14, 0, none⟩ = some (.iface 177 (.agg #[.pointer (some ⟨18, 30, none⟩)])) := by
    rw [World.cell?_alloc_lt _ _ ⟨14, 0, none⟩ (by simp; omega), World.cell?_alloc_lt _ _ ⟨14, 0, none⟩ hlt]; exact hg
  have htl : t.block < w.heap.size := by
    rcases Nat.lt_or_ge t.block w.heap.size with h | h
    · exact h
    · simp [World.cell?, Array.getElem?_eq_none h] at ht0
  go_enter Tryd.func49, Tryd.ntmps49
  go_wp2
  refine wp_loop_rounds 1 ?_
  rw [rounds_succ]
  go_wp2
  go_ret
  have b2 := fun o1 o2 => ((Below.refl w.heap.size w).alloc (Nat.le_refl _) o1).alloc (by simp) o2
  have b3 := fun o1 o2 o3 => (b2 o1 o2).alloc (by simp; omega) o3
  have b4 := fun o1 o2 o3 o4 => (b3 o1 o2 o3).alloc (by simp; omega) o4
  first | exact ⟨rfl, b2 _ _⟩ | exact ⟨rfl, b3 _ _ _⟩ | exact ⟨rfl, b4 _ _ _ _⟩
end Go.Proofs.YtbningfdpibdkaaDoor
