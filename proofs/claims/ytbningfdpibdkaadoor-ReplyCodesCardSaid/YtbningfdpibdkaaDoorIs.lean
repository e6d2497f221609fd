/-
  errors.Is by contract, for nil and the sentinels; and the sentinels of this seat.
-/
import Derived.Test.YtbningfdpibdkaaDoorKit
import Derived.LaidEql
import Derived.Stop.Asserts
import Derived.RowKitTokens
namespace Go.Proofs.YtbningfdpibdkaaDoor
open Go.RowKit Go.Extern.Stop Go.Stop Go.Extern

/-- The variable's number of the sentinel of kind k (1 to 14). -/
def gno (k : Nat) : Nat := match k with
  | 1 => 0 | 2 => 3 | 3 => 1 | 4 => 4 | 5 => 5 | 6 => 6 | 7 => 7
  | 8 => 2 | 9 => 8 | 10 => 9 | 11 => 10 | 12 => 11 | 13 => 12 | 14 => 13
  | _ => 0
theorem gno_inj : ∀ j k : Nat, 1 ≤ j → j ≤ 14 → 1 ≤ k → k ≤ 14 → gno j = gno k → j = k := by
  intro j k h1 h2 h3 h4
  have : ∀ j : Fin 15, ∀ k : Fin 15, 1 ≤ j.val → 1 ≤ k.val → gno j.val = gno k.val → j.val = k.val := by decide
  exact fun h => this ⟨j, by omega⟩ ⟨k, by omega⟩ h1 h3 h

/-- The sentinels of the kinds S: their variables' cells, below block B; the pointers differ. -/
structure Errs (B : Nat) (w : World) (S : List Nat) (E : Nat → Addr) : Prop where
  pos : ∀ k ∈ S, 1 ≤ k ∧ k ≤ 14
  var : ∀ k ∈ S, gno k < B ∧ w.cell? ⟨gno k, 0, none⟩ = some (erV E k)
  row : ∀ k ∈ S, (E k).block < B ∧ ∃ c t, w.heap[(E k).block]? = some (.cells c t (0, 0))
  inj : ∀ j ∈ S, ∀ k ∈ S, E j = E k → j = k
theorem Errs.below {B : Nat} {w w' : World} {S : List Nat} {E : Nat → Addr} (h : Errs B w S E) (hb : Below B w w') : Errs B w' S E :=
  ⟨h.pos, fun k hk => ⟨(h.var k hk).1, (hb.cell (p := ⟨gno k, 0, none⟩) (h.var k hk).1).trans (h.var k hk).2⟩, fun k hk => ⟨(h.row k hk).1, by rw [hb.block _ (h.row k hk).1]; exact (h.row k hk).2⟩, h.inj⟩
theorem Errs.drewN {B : Nat} {w : World} {S : List Nat} {E : Nat → Addr} (h : Errs B w S E) (n : Nat) : Errs B (w.drewN n) S E := h.below (below_drewN (Below.refl _ _) n)
def allKinds : List Nat := [1, 2, 3, 4, 5, 6, 7, 8, 9, 10, 11, 12, 13, 14]
theorem mem_allKinds {k : Nat} (h1 : 1 ≤ k) (h2 : k ≤ 14) : k ∈ allKinds := by
  have : ∀ k : Fin 15, 1 ≤ k.val → k.val ∈ allKinds := by decide
  exact this ⟨k, by omega⟩ h1

/-! ### closed facts -/
theorem isTypeOf (v : Value) (w : World) : (Extern.ReflectliteType.typeOf #[.iface 104 v]).run Tryd.prog w = .ok (.iface 177 (.agg #[typeHandle Tryd.prog 104])) w := by kernel_rfl
theorem isComparable (w : World) : ((Extern.ReflectliteType.method fun t => do Go.Extern.Rtype.noPackHeld "Comparable" t; (fun a => Value.bool a.comparable) <$> typeInfo t) #[.agg #[typeHandle Tryd.prog 104]]).run Tryd.prog w = .ok (.bool true) w := by kernel_rfl
theorem isMethodComparable (v : Value) (w : World) : (Go.method 360 177 v "Comparable").run Tryd.prog w = .ok (161, v) w := by kernel_rfl
theorem isComp : (Tryd.prog.info? 104).map (·.comparable) = some true := by kernel_rfl
theorem isSize : (Tryd.prog.info? 106).map (·.size) = some 1 := by kernel_rfl
theorem noIsE (v : Value) (xT : TypeId) (w : World) : (Instr.typeAssert (.iface 104 v) xT 179 true).run Tryd.prog w = .ok (.tuple #[.nilIface, .bool false]) w := run_typeAssert_lacksB Tryd.underlying179 (by kernel_rfl) (by kernel_rfl) v xT w
theorem noUnwrapE (v : Value) (xT : TypeId) (w : World) : (Instr.typeAssert (.iface 104 v) xT 182 true).run Tryd.prog w = .ok (.tuple #[.nilIface, .bool false]) w := run_typeAssert_lacksB Tryd.underlying182 (by kernel_rfl) (by kernel_rfl) v xT w
theorem noUnwrapsE (v : Value) (xT : TypeId) (w : World) : (Instr.typeAssert (.iface 104 v) xT 183 true).run Tryd.prog w = .ok (.tuple #[.nilIface, .bool false]) w := run_typeAssert_lacksB Tryd.underlying183 (by kernel_rfl) (by kernel_rfl) v xT w

theorem errIface : Tryd.prog.underlying 30 = some (.interface (Tryd.prog.methodsAt 30)) := by kernel_rfl
@[go_sem] theorem erV_guard (op : BinOp) (t : TypeId) (x : Operand) (v : Value) (E : Nat → Addr) (k : Nat) : eqGuard op t x (.const v) (erV E k) .nilIface = pure () := by
  by_cases h : k = 0
  · subst h
    cases op <;> first | rfl | (cases x <;> rfl)
  · rw [erV_some E k h]
    cases op <;> rfl
@[go_sem] theorem erV_eql_nil (E : Nat → Addr) (k : Nat) (w : World) : (binOp .eql 30 (erV E k) .nilIface).run Tryd.prog w = .ok (.bool (k == 0)) w := by
  by_cases h : k = 0
  · subst h
    exact run_eql_nil_nil (P := Tryd.prog) _ _ errIface
  · rw [erV_some E k h, run_eql_held_nil (P := Tryd.prog) _ _ _ _ errIface]
    congr 1
    simp [h]
@[go_sem] theorem erV_neq_nil (E : Nat → Addr) (k : Nat) (w : World) : (binOp .neq 30 (erV E k) .nilIface).run Tryd.prog w = .ok (.bool (k != 0)) w := by
  by_cases h : k = 0
  · subst h
    exact run_neq_nil_nil (P := Tryd.prog) _ _ errIface
  · rw [erV_some E k h, run_neq_held_nil (P := Tryd.prog) _ _ _ _ errIface]
    congr 1
    simp [h]
set_option maxRecDepth 100000 in
theorem is_same (a : Addr) (w : World) :
    Calls Tryd.prog 18 #[.iface 104 (.pointer (some a)), .iface 104 (.pointer (some a))] w fun e w' => e = .returned (.bool true) ∧ w = w' := by
  obtain ⟨i, hi, hcmp⟩ := Option.map_eq_some_iff.1 isComp
  obtain ⟨j, hj, hjs⟩ := Option.map_eq_some_iff.1 isSize
  have h8 := @run_callFunc_extern Tryd.prog 53 _ Extern.ReflectliteType.typeOf Tryd.func53 (by kernel_rfl) (by kernel_rfl) (by kernel_rfl) (by kernel_rfl)
  have h32 := @run_callFunc_extern Tryd.prog 161 _ (Extern.ReflectliteType.method fun t => do Go.Extern.Rtype.noPackHeld "Comparable" t; pure (.bool (← typeInfo t).comparable)) Tryd.func161 (by kernel_rfl) (by kernel_rfl) (by kernel_rfl) (by kernel_rfl)
  have tT := isTypeOf
  have cT := isComparable
  have mR := isMethodComparable
  have heq := run_eql_iface_ptr_same (P := Tryd.prog) w a Tryd.underlying30 Tryd.underlying104 hi hcmp hj
  go_enter Tryd.func18, Tryd.ntmps18
  go_wp2
  refine wp_loop_rounds 1 ?_
  rw [rounds_succ]
  go_wp2
  go_ret
  exact ⟨rfl, rfl⟩
set_option maxRecDepth 100000 in
theorem is_nil (b : Addr) (w : World) :
    Calls Tryd.prog 18 #[.nilIface, .iface 104 (.pointer (some b))] w fun e w' => e = .returned (.bool false) ∧ w = w' := by
  have hn := run_eql_iface_nil_left (P := Tryd.prog) w 104 (.pointer (some b)) Tryd.underlying30
  go_enter Tryd.func18, Tryd.ntmps18
  go_wp2
  go_ret
  exact ⟨rfl, rfl⟩
set_option maxRecDepth 100000 in
theorem is_other (a b : Addr) (ca cb : Array Value) (ta tb : TypeId) (w : World) (hne : a ≠ b) (ha : w.heap[a.block]? = some (.cells ca ta (0, 0))) (hb : w.heap[b.block]? = some (.cells cb tb (0, 0))) :
    Calls Tryd.prog 18 #[.iface 104 (.pointer (some a)), .iface 104 (.pointer (some b))] w fun e w' => e = .returned (.bool false) ∧ w = w' := by
  obtain ⟨i, hi, hcmp⟩ := Option.map_eq_some_iff.1 isComp
  obtain ⟨j, hj, hjs⟩ := Option.map_eq_some_iff.1 isSize
  have h8 := @run_callFunc_extern Tryd.prog 53 _ Extern.ReflectliteType.typeOf Tryd.func53 (by kernel_rfl) (by kernel_rfl) (by kernel_rfl) (by kernel_rfl)
  have h32 := @run_callFunc_extern Tryd.prog 161 _ (Extern.ReflectliteType.method fun t => do Go.Extern.Rtype.noPackHeld "Comparable" t; pure (.bool (← typeInfo t).comparable)) Tryd.func161 (by kernel_rfl) (by kernel_rfl) (by kernel_rfl) (by kernel_rfl)
  have tT := isTypeOf
  have cT := isComparable
  have mR := isMethodComparable
  have nE := noIsE
  have uE := noUnwrapE
  have vE := noUnwrapsE
  have heq := run_eql_iface_ptr_other (P := Tryd.prog) w Tryd.underlying30 Tryd.underlying104 hi hcmp hj (by rw [hjs]; decide) hne ha hb
  go_enter Tryd.func18, Tryd.ntmps18
  go_wp2
  refine wp_loop_rounds 1 ?_
  rw [rounds_succ]
  go_wp2
  go_ret
  exact ⟨rfl, rfl⟩

/-- errors.Is between two errors of known kinds. -/
theorem is_erV {B : Nat} {S : List Nat} {E : Nat → Addr} (w : World) (hE : Errs B w S E) (j k : Nat) (hj : j = 0 ∨ j ∈ S) (hk : k ∈ S) :
    Calls Tryd.prog 18 #[erV E j, erV E k] w fun e w' => e = .returned (.bool (j == k)) ∧ w = w' := by
  have hk1 := hE.pos k hk
  rw [erV_some E k (by omega)]
  rcases hj with rfl | hj
  · rw [erV_nil, show ((0 : Nat) == k) = false by simp; omega]
    exact is_nil _ _
  · have hj1 := hE.pos j hj
    rw [erV_some E j (by omega)]
    by_cases h : j = k
    · subst h
      rw [show (j == j) = true by simp]
      exact is_same _ _
    · rw [show (j == k) = false by simpa using h]
      obtain ⟨_, ca, ta, ha⟩ := hE.row j hj
      obtain ⟨_, cb, tb, hb⟩ := hE.row k hk
      exact is_other _ _ ca cb ta tb w (fun e => h (hE.inj j hj k hk e)) ha hb
end Go.Proofs.YtbningfdpibdkaaDoor
