/-
  errors.Is over chains of Faults.
-/
import Derived.Test.YtbningfdpibdkaaDoorIs
import Derived.Test.YtbningfdpibdkaaDoorMem
namespace Go.Proofs.YtbningfdpibdkaaDoor
open Go.RowKit Go.Extern.Stop Go.Stop Go.Extern
set_option linter.unusedVariables false
set_option linter.unusedSimpArgs false

def faultV (g : Nat) : Value := .iface 32 (.pointer (some ⟨g, 0, none⟩))
/-- An error: Faults within one another, and a sentinel's kind within them (0: nil). -/
def Chain (w : World) (E : Nat → Addr) : List (ByteArray × Int) → Nat → Value → Prop
  | [], k, v => v = erV E k
  | (op, z) :: r, k, v => ∃ g v', v = faultV g ∧ Blk w g #[.string op, .int .i64 z, v'] 34 ∧ Chain w E r k v'
theorem Chain.turns {F : Nat → Prop} {w w' : World} {E : Nat → Addr} (ht : ∀ g cs, Blk w g cs 34 → Blk w' g cs 34) : ∀ {l : List (ByteArray × Int)} {k : Nat} {v : Value}, Chain w E l k v → Chain w' E l k v
  | [], _, _, h => h
  | (_, _) :: _, _, _, ⟨g, v', h1, h2, h3⟩ => ⟨g, v', h1, ht _ _ h2, Chain.turns (F := F) ht h3⟩
theorem Chain.below {w w' : World} {E : Nat → Addr} {l : List (ByteArray × Int)} {k : Nat} {v : Value} (h : Chain w E l k v) (hb : Below w.heap.size w w') : Chain w' E l k v :=
  Chain.turns (F := fun _ => False) (fun _ _ hk => hk.below hb) h
theorem Chain.ne_nil {w : World} {E : Nat → Addr} {l : List (ByteArray × Int)} {k : Nat} {v : Value} (h : Chain w E l k v) (h0 : l ≠ [] ∨ k ≠ 0) : ∃ t x, v = .iface t x := by
  cases l with
  | nil =>
    have hk : k ≠ 0 := by rcases h0 with h0 | h0; exact absurd rfl h0; exact h0
    exact ⟨_, _, h.trans (erV_some E k hk)⟩
  | cons p r => obtain ⟨op, z⟩ := p; obtain ⟨g, v', h1, _⟩ := h; exact ⟨_, _, h1⟩
theorem noIsF (v : Value) (xT : TypeId) (w : World) : (Instr.typeAssert (.iface 32 v) xT 179 true).run Tryd.prog w = .ok (.tuple #[.nilIface, .bool false]) w := run_typeAssert_lacksB Tryd.underlying179 (by kernel_rfl) (by kernel_rfl) v xT w
theorem hasUnwrapF (v : Value) (xT : TypeId) (w : World) : (Instr.typeAssert (.iface 32 v) xT 182 true).run Tryd.prog w = .ok (.tuple #[.iface 32 v, .bool true]) w := run_typeAssert_hasB Tryd.underlying182 (by kernel_rfl) v xT w
theorem methodUnwrap (v : Value) (w : World) : (Go.method 360 32 v "Unwrap").run Tryd.prog w = .ok (147, v) w := by kernel_rfl
theorem compF : (Tryd.prog.info? 32).map (·.comparable) = some true := by kernel_rfl
set_option maxRecDepth 100000 in
theorem unwrap_c (g : Nat) (op : ByteArray) (z : Int) (v : Value) (w : World) (h : Hid (Blk w g #[.string op, .int .i64 z, v] 34)) :
    Calls Tryd.prog 147 #[.pointer (some ⟨g, 0, none⟩)] w fun e w' => e = .returned v ∧ w = w' := by
  have c2 := h.out.cell 2 _ rfl
  go_enter Tryd.func147, Tryd.ntmps147
  go_wp2_with fail
  go_ret
  exact ⟨rfl, rfl⟩
set_option maxRecDepth 100000 in
set_option maxHeartbeats 4000000 in
theorem is_chain {B : Nat} {S : List Nat} {E : Nat → Addr} (w : World) (hE : Errs B w S E) (l : List (ByteArray × Int)) (j k : Nat) (v : Value) (hC : Chain w E l j v) (hj : j = 0 ∨ j ∈ S) (hk : k ∈ S) :
    Calls Tryd.prog 18 #[v, erV E k] w fun e w' => e = .returned (.bool (j == k)) ∧ w = w' := by
  cases l with
  | nil =>
    have hv : v = erV E j := hC
    subst hv
    exact is_erV w hE j k hj hk
  | cons p r =>
    obtain ⟨t, x, hv⟩ := hC.ne_nil (.inl (by simp))
    have hk1 := hE.pos k hk
    rw [erV_some E k (by omega)]
    obtain ⟨i, hi, hcmp⟩ := Option.map_eq_some_iff.1 isComp
    obtain ⟨jj, hjj, hjs⟩ := Option.map_eq_some_iff.1 isSize
    have h8 := @run_callFunc_extern Tryd.prog 53 _ Extern.ReflectliteType.typeOf Tryd.func53 (by kernel_rfl) (by kernel_rfl) (by kernel_rfl) (by kernel_rfl)
    have h32 := @run_callFunc_extern Tryd.prog 161 _ (Extern.ReflectliteType.method fun t => do Go.Extern.Rtype.noPackHeld "Comparable" t; pure (.bool (← typeInfo t).comparable)) Tryd.func161 (by kernel_rfl) (by kernel_rfl) (by kernel_rfl) (by kernel_rfl)
    have tT := isTypeOf
    have cT := isComparable
    have mR := isMethodComparable
    have HC := Lib.hid hC
    obtain ⟨ans, hans⟩ : ∃ a, a = (j == k) := ⟨_, rfl⟩
    rw [← hans]
    have HANS := Lib.hid hans
    have HE := Lib.hid hE
    clear hans hE
    subst hv
    clear hC
    go_enter Tryd.func18, Tryd.ntmps18
    go_wp2
    go_loopg [0] (((p :: r).length)) (fun n s0 wx => ∃ (l' : List (ByteArray × Int)) (t : TypeId) (x : Value), s0 = .iface t x ∧ Hid (Chain w E l' j s0) ∧ n = l'.length ∧ w = wx)
    case atStart => exact ⟨p :: r, t, x, rfl, HC.out, rfl, rfl⟩
    case round =>
      obtain ⟨l', t, x, rfl, hC, hn, rfl⟩ := hrel
      cases l' with
      | nil =>
        have hv : Value.iface t x = erV E j := hC.out
        have hj0 : j ≠ 0 := fun e => by subst e; rw [erV_nil] at hv; cases hv
        have hjm : j ∈ S := hj.resolve_left hj0
        rw [erV_some E j hj0] at hv
        cases hv
        by_cases hjk : j = k
        · have hans : Hid (true = ans) := by show _ = _; rw [HANS.out, hjk]; simp
          subst hjk
          have heq := run_eql_iface_ptr_same (P := Tryd.prog) w (E j) Tryd.underlying30 Tryd.underlying104 hi hcmp hjj
          clear hC hn
          go_wp2
          go_ret
          exact ⟨ret_bool hans.out, rfl⟩
        · have hans : Hid (false = ans) := by show _ = _; rw [HANS.out]; exact (beq_eq_false_iff_ne.2 hjk).symm
          obtain ⟨_, ca, ta, ha⟩ := HE.out.row j hjm
          obtain ⟨_, cb, tb, hb⟩ := HE.out.row k hk
          have heq := run_eql_iface_ptr_other (P := Tryd.prog) w Tryd.underlying30 Tryd.underlying104 hi hcmp hjj (by rw [hjs]; decide) (fun e => hjk (HE.out.inj j hjm k hk e)) ha hb
          have nE := noIsE
          have uE := noUnwrapE
          have vE := noUnwrapsE
          clear hC hn ha hb
          go_wp2
          go_ret
          exact ⟨ret_bool hans.out, rfl⟩
      | cons p' r' =>
        obtain ⟨op, z⟩ := p'
        obtain ⟨g, v', hv, hB, hC'⟩ := hC.out
        unfold faultV at hv
        cases hv
        have HB := Lib.hid hB
        have HC' := Lib.hid hC'
        have heq := run_eql_iface_types (P := Tryd.prog) 32 104 (.pointer (some ⟨g, 0, none⟩)) (.pointer (some (E k))) Tryd.underlying30 (by decide) w
        have nF := noIsF
        have uF := hasUnwrapF
        have mF := methodUnwrap
        clear hC hB hC'
        by_cases hend : r' ≠ [] ∨ j ≠ 0
        · obtain ⟨t', x', hv'⟩ := HC'.out.ne_nil hend
          subst hv'
          go_wp2_with (go_at_call 147; refine (unwrap_c g op z _ w HB).mono ?_; rintro e w' ⟨rfl, rfl⟩)
          go_roundg (r'.length)
          case measure => rw [hn]; simp
          case rel => exact ⟨r', t', x', rfl, HC'.out, rfl, rfl⟩
        · have hr0 : r' = [] := Classical.byContradiction fun h => hend (.inl h)
          have hj0 : j = 0 := Classical.byContradiction fun h => hend (.inr h)
          subst hr0
          subst hj0
          have hv' : v' = .nilIface := HC'.out
          subst hv'
          have hans : Hid (false = ans) := by show _ = _; rw [HANS.out]; symm; exact beq_eq_false_iff_ne.2 (by omega)
          clear hend
          go_wp2_with (go_at_call 147; refine (unwrap_c g op z _ w HB).mono ?_; rintro e w' ⟨rfl, rfl⟩)
          go_ret
          exact ⟨ret_bool hans.out, rfl⟩
end Go.Proofs.YtbningfdpibdkaaDoor
