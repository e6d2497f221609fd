/-
  MintExact: form, the equality of two commands, the methods on nil.
-/
import Derived.Test.YtkinbidpbgkaoaaMintE
import Derived.Laws.StructEq
import Derived.ChangeKeysEq
namespace Go.Proofs.Ytkinbidpbgkaoaa
open Go.RowKit
set_option linter.unusedVariables false

theorem rcmdSize' : (Try.prog.info? 36).map (·.size) = some 15 := by kernel_rfl
set_option maxRecDepth 100000 in
set_option maxHeartbeats 1000000 in
theorem form_c (c : Cmd) (w : World) :
    Calls Try.prog 11 #[c.val] w fun e w' => e = .returned c.val ∧ w' = (w.alloc (.cells c.cells.toArray 38)).alloc (.cells c.cells.toArray 36) := by
  obtain ⟨k, id, other, cell, band, win, n, m, p, q, v0, v1, v2, v3, flag⟩ := c
  unfold Cmd.val
  go_enter Try.func11, Try.ntmps11
  go_wp2_with fail
  exact bodyPost_last Try.results11 rfl (w.heap.size + 1) rfl (by simp) _ Try.underlying36 rfl 15 rcmdSize' rfl ⟨rfl, rfl⟩
/-- The nil methods. -/
theorem next_nil (w : World) : Calls Try.prog 9 #[.pointer none] w fun e w' => e = .returned (.int .u64 0) ∧ w' = w := by
  go_enter Try.func9, Try.ntmps9
  go_wp2_with fail
  go_ret
  exact ⟨rfl, rfl⟩
set_option maxRecDepth 100000 in
theorem under_nil (w : World) : Calls Try.prog 7 #[.pointer none, .int .i64 9] w fun e w' => e = .returned (.int .i64 0) ∧ ∃ n, w' = w.drewN n := by
  go_enter Try.func7, Try.ntmps7
  go_wp2_with (go_at_call 9; refine (next_nil _).mono ?_; rintro e w' ⟨rfl, rfl⟩)
  go_ret
  exact ⟨rfl, 0, rfl⟩
set_option maxRecDepth 100000 in
theorem command_nil (w : World) : Calls Try.prog 12 #[.pointer none] w fun e w' => e = .returned Cmd.zero.val ∧ w' = w.alloc (.cells Cmd.zero.cells.toArray 38) := by
  go_enter Try.func12, Try.ntmps12
  go_wp2_with fail
  exact bodyPost_last Try.results12 rfl w.heap.size rfl rfl _ Try.underlying38 rfl 15 cmdSize rfl ⟨rfl, rfl⟩
-- A value of a struct type is equal to itself.

theorem place_eq (d : Nat) (a b c : Int) (w : World) : (Op.equalIn (d + 2) 32 (.agg #[.int .i64 a, .int .i64 b, .int .i64 c]) (.agg #[.int .i64 a, .int .i64 b, .int .i64 c])).run Try.prog w = .ok true w := by
  have hp : Try.prog.stoodInHeld 32 = false := by kernel_rfl
  rw [run_equalIn_agg w (d + 1) 32 _ _ (by kernel_rfl) hp]
  have u3 := Try.underlying3
  simp only [Program.fieldsOf, Try.underlying32]
  go_simp
theorem vec_eq (d : Nat) (a b c e : Int) (w : World) : (Op.equalIn (d + 2) 34 (.agg #[.int .i64 a, .int .i64 b, .int .i64 c, .int .i64 e]) (.agg #[.int .i64 a, .int .i64 b, .int .i64 c, .int .i64 e])).run Try.prog w = .ok true w := by
  have u3 := Try.underlying3
  obtain ⟨i3, hi3⟩ := info_of_underlying u3
  rw [run_equalIn_array w (d + 1) _ _ Try.underlying34 hi3]
  have c3 : Try.prog.cellsOf 3 = 1 := by kernel_rfl
  rw [c3]
  simp only [show List.range 4 = [0, 1, 2, 3] from rfl, Op.eqItems]
  go_simp
set_option maxRecDepth 100000 in
theorem rcmd_neq (c : Cmd) (w : World) : (binOp .neq 36 c.val c.val).run Try.prog w = .ok (.bool false) w := by
  obtain ⟨k, id, other, cell, band, win, n, m, p, q, v0, v1, v2, v3, flag⟩ := c
  have hp : Try.prog.stoodInHeld 36 = false := by kernel_rfl
  simp only [Cmd.val]
  rw [run_neq_struct, show (10000 : Nat) = 9999 + 1 from rfl, run_equalIn_agg w 9999 36 _ _ (by kernel_rfl) hp]
  have u3 := Try.underlying3
  have u4 := Try.underlying4
  have e1 := fun w => place_eq 9997 cell band win w
  have e2 := fun w => vec_eq 9997 v0 v1 v2 v3 w
  simp only [Nat.reduceAdd] at e1 e2
  simp only [Program.fieldsOf, Try.underlying36]
  go_simp
set_option maxRecDepth 100000 in
theorem cmd_eql (c : Cmd) (w : World) : (binOp .eql 38 c.val c.val).run Try.prog w = .ok (.bool true) w := by
  obtain ⟨k, id, other, cell, band, win, n, m, p, q, v0, v1, v2, v3, flag⟩ := c
  have hp : Try.prog.stoodInHeld 38 = false := by kernel_rfl
  simp only [Cmd.val]
  rw [run_eql_struct, show (10000 : Nat) = 9999 + 1 from rfl, run_equalIn_agg w 9999 38 _ _ (by kernel_rfl) hp]
  have u3 := Try.underlying3
  have u4 := Try.underlying4
  have e1 := fun w => place_eq 9997 cell band win w
  have e2 := fun w => vec_eq 9997 v0 v1 v2 v3 w
  simp only [Nat.reduceAdd] at e1 e2
  simp only [Program.fieldsOf, Try.underlying38]
  go_simp
end Go.Proofs.Ytkinbidpbgkaoaa
