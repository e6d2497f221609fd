/-
  errors.As at a target of type **api.Fault: a nil error, and a Fault.
-/
import Derived.Test.YtbningfdpibdkaaDoorFlt
import Derived.LaidHandle
namespace Go.Proofs.YtbningfdpibdkaaDoor
open Go.RowKit Go.Extern.Stop Go.Stop Go.Extern
set_option linter.unusedVariables false
set_option linter.unusedSimpArgs false
set_option maxRecDepth 100000

theorem as_nil (t : Value) (w : World) :
    Calls Tryd.prog 49 #[.nilIface, t] w fun e w' => e = .returned (.bool false) ∧ w' = w := by
  go_enter Tryd.func49, Tryd.ntmps49
  go_wp2
  go_ret
  exact ⟨rfl, rfl⟩

theorem asF_valueOf27 (t : Addr) (w : World) : (ReflectliteValue.unpack (.iface 90 (.pointer (some t)))).run Tryd.prog w
    = .ok (.agg #[.pointer (some ⟨18, 90, none⟩), .pointer (some ⟨w.heap.size, 0, none⟩), .int .u64 150]) (w.alloc (.cells #[.pointer (some t)] 90)) := by kernel_rfl
theorem asF_type27 (a : Addr) (w : World) : (ReflectliteValue.methodAny (ReflectliteValue.valueError "reflectlite.Value.Type" 0) (fun t _ _ _ => ReflectliteType.toType t) #[.agg #[.pointer (some ⟨18, 90, none⟩), .pointer (some a), .int .u64 150]]).run Tryd.prog w
    = .ok (.iface 177 (.agg #[.pointer (some ⟨18, 90, none⟩)])) w := by kernel_rfl
theorem asF_methodKind (h : Value) (w : World) : (Go.method 360 177 (.agg #[h]) "Kind").run Tryd.prog w = .ok (143, h) w := by kernel_rfl
theorem asF_kind27 (w : World) : ((ReflectliteType.abiMethod fun t => (fun a : Nat => Value.int IntKind.u8 (a : Int)) <$> Rtype.kind t) #[.pointer (some ⟨18, 90, none⟩)]).run Tryd.prog w = .ok (.int .u8 22) w := by kernel_rfl
theorem asF_kind25 (w : World) : ((ReflectliteType.abiMethod fun t => (fun a : Nat => Value.int IntKind.u8 (a : Int)) <$> Rtype.kind t) #[.pointer (some ⟨18, 32, none⟩)]).run Tryd.prog w = .ok (.int .u8 22) w := by kernel_rfl

theorem rlm (z : Sem Value) (f : TypeId → Addr → Nat → Nat → Sem Value) (v : Value) :
    ReflectliteValue.method z f #[v] = (do match ← ReflectliteValue.parts v with | none => z | some (t, a, fl) => f t a fl (fl % 32)) := rfl
theorem asF_parts27 (a : Addr) (w : World) : (ReflectliteValue.parts (.agg #[.pointer (some ⟨18, 90, none⟩), .pointer (some a), .int .u64 150])).run Tryd.prog w = .ok (some (90, a, 150)) w := by kernel_rfl
theorem asF_isNil27 (a p : Addr) (W : World) (ha : W.cell? a = some (.pointer (some p))) :
    (ReflectliteValue.method (ReflectliteValue.valueError "reflectlite.Value.IsNil" 0) ReflectliteValue.isNil #[.agg #[.pointer (some ⟨18, 90, none⟩), .pointer (some a), .int .u64 150]]).run Tryd.prog W = .ok (.bool false) W := by
  rw [rlm]
  simp only [Sem.run_bind, asF_parts27, Result.andThen]
  simp [ReflectliteValue.isNil, loadVar, isAgg, underlying, Tryd.underlying90, ha, Result.andThen]

theorem asF_methodElem (h : Value) (w : World) : (Go.method 360 177 (.agg #[h]) "Elem").run Tryd.prog w = .ok (162, .agg #[h]) w := by kernel_rfl
theorem asF_methodImplements (h : Value) (w : World) : (Go.method 360 177 (.agg #[h]) "Implements").run Tryd.prog w = .ok (163, .agg #[h]) w := by kernel_rfl
theorem asF_methodAssignableTo (h : Value) (w : World) : (Go.method 360 177 (.agg #[h]) "AssignableTo").run Tryd.prog w = .ok (160, .agg #[h]) w := by kernel_rfl
theorem asF_elem27 (w : World) : (ReflectliteType.method ReflectliteType.elem #[.agg #[.pointer (some ⟨18, 90, none⟩)]]).run Tryd.prog w = .ok (.iface 177 (.agg #[.pointer (some ⟨18, 32, none⟩)])) w := by kernel_rfl
theorem asF_implements25 (w : World) : (ReflectliteType.relation "Implements" ReflectliteType.implements_ #[.agg #[.pointer (some ⟨18, 32, none⟩)], .iface 177 (.agg #[.pointer (some ⟨18, 30, none⟩)])]).run Tryd.prog w = .ok (.bool true) w := by kernel_rfl
theorem asF_typeOf25 (v : Value) (w : World) : (ReflectliteType.typeOf #[.iface 32 v]).run Tryd.prog w = .ok (.iface 177 (.agg #[.pointer (some ⟨18, 32, none⟩)])) w := by kernel_rfl
theorem asF_assignable25 (w : World) : (ReflectliteType.relation "AssignableTo" ReflectliteType.assignableTo #[.agg #[.pointer (some ⟨18, 32, none⟩)], .iface 177 (.agg #[.pointer (some ⟨18, 32, none⟩)])]).run Tryd.prog w = .ok (.bool true) w := by kernel_rfl
theorem asF_valueOf25 (e : Addr) (w : World) : (ReflectliteValue.unpack (.iface 32 (.pointer (some e)))).run Tryd.prog w
    = .ok (.agg #[.pointer (some ⟨18, 32, none⟩), .pointer (some ⟨w.heap.size, 0, none⟩), .int .u64 150]) (w.alloc (.cells #[.pointer (some e)] 32)) := by kernel_rfl

theorem asF_elemOf27 (w : World) : (Rtype.elem? 90).run Tryd.prog w = .ok (some 32) w := by kernel_rfl
theorem asF_mk25 (p : Addr) (w : World) : (ReflectliteValue.mk 32 p ReflectliteValue.flagAddr).run Tryd.prog w = .ok (.agg #[.pointer (some ⟨18, 32, none⟩), .pointer (some p), .int .u64 406]) w := by kernel_rfl
theorem asF_elemV27 (a p : Addr) (W : World) (ha : W.cell? a = some (.pointer (some p))) :
    (ReflectliteValue.method (ReflectliteValue.valueError "reflectlite.Value.Elem" 0) ReflectliteValue.elem #[.agg #[.pointer (some ⟨18, 90, none⟩), .pointer (some a), .int .u64 150]]).run Tryd.prog W
      = .ok (.agg #[.pointer (some ⟨18, 32, none⟩), .pointer (some p), .int .u64 406]) W := by
  rw [rlm]
  simp only [Sem.run_bind, asF_parts27, Result.andThen]
  simp [ReflectliteValue.elem, loadVar, isAgg, underlying, Tryd.underlying90, ha, Result.andThen, asF_elemOf27, asF_mk25]
theorem rls (v x : Value) : ReflectliteValue.set #[v, x] = (do
    let (some (dst, a, fl), some (src, b, _)) := (← ReflectliteValue.parts v, ← ReflectliteValue.parts x)
      | unsupported (.noEntry "extern/(internal/reflectlite.Value).Set.zeroValue")
    if fl / ReflectliteValue.flagAddr % 2 == 0 then unsupported (.noEntry "extern/(internal/reflectlite.Value).Set.unaddressable")
    let val ← loadVar src b
    if ← Rtype.directlyAssignable dst src then storeVar dst a val
    else if ← Rtype.implements dst src then
      if (← Rtype.kind src) == 20 then
        match val with
        | .nilIface => unsupported (.noEntry "extern/reflectlite: a nil value of one interface type handed on as a value of another")
        | _ => storeVar dst a val
      else storeVar dst a (.iface src val)
    else panicString ("reflectlite.Set: value of type " ++ (← Rtype.spelt src) ++ " is not assignable to type " ++ (← Rtype.spelt dst))
    pure (.tuple #[])) := rfl
theorem asF_parts25a (a : Addr) (w : World) : (ReflectliteValue.parts (.agg #[.pointer (some ⟨18, 32, none⟩), .pointer (some a), .int .u64 406])).run Tryd.prog w = .ok (some (32, a, 406)) w := by kernel_rfl
theorem asF_parts25 (a : Addr) (w : World) : (ReflectliteValue.parts (.agg #[.pointer (some ⟨18, 32, none⟩), .pointer (some a), .int .u64 150])).run Tryd.prog w = .ok (some (32, a, 150)) w := by kernel_rfl
theorem asF_direct25 (w : World) : (Rtype.directlyAssignable 32 32).run Tryd.prog w = .ok true w := by kernel_rfl
theorem asF_size25 (w : World) : (sizeOf 32).run Tryd.prog w = .ok 1 w := by kernel_rfl
theorem asF_set25 (ta b e : Addr) (old : Value) (W : World) (hb : W.cell? b = some (.pointer (some e))) (ht : W.cell? ta = some old) (hf : W.frozen? ta = false) :
    (ReflectliteValue.set #[.agg #[.pointer (some ⟨18, 32, none⟩), .pointer (some ta), .int .u64 406], .agg #[.pointer (some ⟨18, 32, none⟩), .pointer (some b), .int .u64 150]]).run Tryd.prog W
      = .ok (.tuple #[]) (W.setCell ta (.pointer (some e))) := by
  rw [rls]
  simp only [Sem.run_bind, asF_parts25a, asF_parts25, Result.andThen]
  simp [ReflectliteValue.flagAddr, loadVar, isAgg, underlying, Tryd.underlying32, hb, Result.andThen, asF_direct25, storeVar, Value.cells, storeCells, Addr.add]
  rw [run_store Tryd.prog W ta _ _ (by rfl)]
  simp [ht, hf]

set_option maxHeartbeats 4000000 in
theorem as_hit (e t : Addr) (old : Value) (w : World) (hg : w.cell? ⟨14, 0, none⟩ = some (.iface 177 (.agg #[.pointer (some ⟨18, 30, none⟩)]))) (ht0 : w.cell? t = some old) (hf0 : w.frozen? t = false) :
    Calls Tryd.prog 49 #[.iface 32 (.pointer (some e)), .iface 90 (.pointer (some t))] w fun ev w' => ev = .returned (.bool true) ∧ w' = ((((w.alloc (.cells #[.pointer (some t)] 90)).alloc (.cells #[.pointer (some ⟨18, 90, none⟩), .pointer (some ⟨w.heap.size, 0, none⟩), .int .u64 150] 167)).alloc (.cells #[.pointer (some ⟨18, 90, none⟩), .pointer (some ⟨w.heap.size, 0, none⟩), .int .u64 150] 167)).alloc (.cells #[.pointer (some e)] 32)).setCell t (.pointer (some e)) := by
  have h6 := @run_callFunc_extern Tryd.prog 97 _ (fun args => ReflectliteValue.unpack (args.getD 0 (.tuple #[]))) Tryd.func97 (by kernel_rfl) (by kernel_rfl) (by kernel_rfl) (by kernel_rfl)
  have h7 := @run_callFunc_extern Tryd.prog 98 _ (ReflectliteValue.methodAny (ReflectliteValue.valueError "reflectlite.Value.Type" 0) (fun t _ _ _ => ReflectliteType.toType t)) Tryd.func98 (by kernel_rfl) (by kernel_rfl) (by kernel_rfl) (by kernel_rfl)
  have h8 := @run_callFunc_extern Tryd.prog 99 _ (ReflectliteValue.method (ReflectliteValue.valueError "reflectlite.Value.IsNil" 0) ReflectliteValue.isNil) Tryd.func99 (by kernel_rfl) (by kernel_rfl) (by kernel_rfl) (by kernel_rfl)
  have h27 := @run_callFunc_extern Tryd.prog 143 _ (ReflectliteType.abiMethod fun t => do pure (.int .u8 (← Rtype.kind t))) Tryd.func143 (by kernel_rfl) (by kernel_rfl) (by kernel_rfl) (by kernel_rfl)
  have h37 := @run_callFunc_extern Tryd.prog 162 _ (ReflectliteType.method ReflectliteType.elem) Tryd.func162 (by kernel_rfl) (by kernel_rfl) (by kernel_rfl) (by kernel_rfl)
  have h38 := @run_callFunc_extern Tryd.prog 163 _ (ReflectliteType.relation "Implements" ReflectliteType.implements_) Tryd.func163 (by kernel_rfl) (by kernel_rfl) (by kernel_rfl) (by kernel_rfl)
  have h10 := @run_callFunc_extern Tryd.prog 53 _ ReflectliteType.typeOf Tryd.func53 (by kernel_rfl) (by kernel_rfl) (by kernel_rfl) (by kernel_rfl)
  have h35 := @run_callFunc_extern Tryd.prog 160 _ (ReflectliteType.relation "AssignableTo" ReflectliteType.assignableTo) Tryd.func160 (by kernel_rfl) (by kernel_rfl) (by kernel_rfl) (by kernel_rfl)
  have h11 := @run_callFunc_extern Tryd.prog 114 _ (ReflectliteValue.method (ReflectliteValue.valueError "reflectlite.Value.Elem" 0) ReflectliteValue.elem) Tryd.func114 (by kernel_rfl) (by kernel_rfl) (by kernel_rfl) (by kernel_rfl)
  have h12 := @run_callFunc_extern Tryd.prog 115 _ ReflectliteValue.set Tryd.func115 (by kernel_rfl) (by kernel_rfl) (by kernel_rfl) (by kernel_rfl)
  have tO := asF_typeOf25
  have mA := asF_methodAssignableTo
  have a25 := asF_assignable25
  have v25 := asF_valueOf25
  have f6 := asF_valueOf27
  have f7 := asF_type27
  have mK := asF_methodKind
  have mE := asF_methodElem
  have mI := asF_methodImplements
  have k27 := asF_kind27
  have k25 := asF_kind25
  have e27 := asF_elem27
  have i25 := asF_implements25
  have n8 := asF_isNil27 ⟨w.heap.size, 0, none⟩ t ((w.alloc (.cells #[.pointer (some t)] 90)).alloc (.cells #[.pointer (some ⟨18, 90, none⟩), .pointer (some ⟨w.heap.size, 0, none⟩), .int .u64 150] 167)) (by simp)
  have hlt : 14 < w.heap.size := World.block_lt_of_cell? w ⟨14, 0, none⟩ hg
  have hg2 : ((w.alloc (.cells #[.pointer (some t)] 90)).alloc (.cells #[.pointer (some ⟨18, 90, none⟩), .pointer (some ⟨w.heap.size, 0, none⟩), .int .u64 150] 167)).cell? ⟨14, 0, none⟩ = some (.iface 177 (.agg #[.pointer (some ⟨18, 30, none⟩)])) := by
    rw [World.cell?_alloc_lt _ _ ⟨14, 0, none⟩ (by simp; omega), World.cell?_alloc_lt _ _ ⟨14, 0, none⟩ hlt]; exact hg
  have htl : t.block < w.heap.size := by
    rcases Nat.lt_or_ge t.block w.heap.size with h | h
    · exact h
    · simp [World.cell?, Array.getElem?_eq_none h] at ht0
  have el := asF_elemV27 ⟨w.heap.size, 0, none⟩ t (((w.alloc (.cells #[.pointer (some t)] 90)).alloc (.cells #[.pointer (some ⟨18, 90, none⟩), .pointer (some ⟨w.heap.size, 0, none⟩), .int .u64 150] 167)).alloc (.cells #[.pointer (some ⟨18, 90, none⟩), .pointer (some ⟨w.heap.size, 0, none⟩), .int .u64 150] 167)) (by rw [World.cell?_alloc_lt _ _ ⟨w.heap.size, 0, none⟩ (by simp; omega)]; simp)
  have st := asF_set25 t ⟨w.heap.size + 1 + 1 + 1, 0, none⟩ e old ((((w.alloc (.cells #[.pointer (some t)] 90)).alloc (.cells #[.pointer (some ⟨18, 90, none⟩), .pointer (some ⟨w.heap.size, 0, none⟩), .int .u64 150] 167)).alloc (.cells #[.pointer (some ⟨18, 90, none⟩), .pointer (some ⟨w.heap.size, 0, none⟩), .int .u64 150] 167)).alloc (.cells #[.pointer (some e)] 32))
    (by rw [World.cell?_alloc_at _ _ _ _ (by simp)]; rfl)
    (by rw [World.cell?_alloc_lt _ _ t (by simp; omega), World.cell?_alloc_lt _ _ t (by simp; omega), World.cell?_alloc_lt _ _ t (by simp; omega), World.cell?_alloc_lt _ _ t htl]; exact ht0)
    (by rw [World.frozen?_alloc_old _ _ t (by simp; omega), World.frozen?_alloc_old _ _ t (by simp; omega), World.frozen?_alloc_old _ _ t (by simp; omega), World.frozen?_alloc_old _ _ t (Nat.ne_of_lt htl)]; exact hf0)
  go_enter Tryd.func49, Tryd.ntmps49
  go_wp2
  refine wp_loop_rounds 1 ?_
  rw [rounds_succ]
  go_wp2
  go_ret
  exact ⟨rfl, rfl⟩

/-- What a variable that holds the type error's handle holds. -/
def etV : Value := .iface 177 (.agg #[.pointer (some ⟨18, 30, none⟩)])
theorem as_fault (g tb : Nat) (old : Value) (w : World) (hg : w.cell? ⟨14, 0, none⟩ = some etV) (ht0 : w.cell? ⟨tb, 0, none⟩ = some old) (hf0 : w.frozen? ⟨tb, 0, none⟩ = false) :
    Calls Tryd.prog 49 #[faultV g, .iface 90 (.pointer (some ⟨tb, 0, none⟩))] w fun e w' => e = .returned (.bool true) ∧ w'.cell? ⟨tb, 0, none⟩ = some (.pointer (some ⟨g, 0, none⟩)) ∧ Turns (fun k => k = tb) w w' := by
  refine (as_hit ⟨g, 0, none⟩ ⟨tb, 0, none⟩ old w hg ht0 hf0).mono ?_
  rintro e w' ⟨he, rfl⟩
  have hlt := World.block_lt_of_cell? w ⟨tb, 0, none⟩ ht0
  refine ⟨he, ?_, ?_⟩
  · have h4 : ∀ o1 o2 o3 o4, ((((w.alloc o1).alloc o2).alloc o3).alloc o4).cell? ⟨tb, 0, none⟩ = some old := fun o1 o2 o3 o4 => by
      rw [World.cell?_alloc_lt _ _ ⟨tb, 0, none⟩ (by simp; simp at hlt; omega), World.cell?_alloc_lt _ _ ⟨tb, 0, none⟩ (by simp; simp at hlt; omega), World.cell?_alloc_lt _ _ ⟨tb, 0, none⟩ (by simp; simp at hlt; omega), World.cell?_alloc_lt _ _ ⟨tb, 0, none⟩ hlt]
      exact ht0
    rw [World.cell?_setCell_same _ _ _ (h4 _ _ _ _)]
  · refine Turns.trans (b := _) (Turns.of_below (F := fun k => k = tb) ?_) (Turns.set (F := fun k => k = tb) rfl) (fun _ _ h => h)
    exact ((((Below.refl _ w).alloc (Nat.le_refl _) _).alloc (by simp) _).alloc (by simp; omega) _).alloc (by simp; omega) _
end Go.Proofs.YtbningfdpibdkaaDoor
