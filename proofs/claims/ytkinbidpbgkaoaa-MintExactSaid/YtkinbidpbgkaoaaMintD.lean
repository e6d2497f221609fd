/-
  mint: the command of a throw, by contract.
-/
import Derived.Test.YtkinbidpbgkaoaaMintC
import Derived.Deep.RegionWith
import Derived.Deep.RegionHeld3
namespace Go.Proofs.Ytkinbidpbgkaoaa
open Go.RowKit
set_option linter.unusedVariables false

set_option maxRecDepth 100000 in
theorem command_0 (a b c d e : Int) (w : World) (hb1 : 1 ≤ b) (hb2 : b ≤ 3) (hd1 : 1 ≤ d) (hd2 : d ≤ 5) (he1 : 1 ≤ e) (he2 : e ≤ 12) :
    Calls Try.prog 17 #[.agg #[.int .i64 0, .int .i64 a, .int .i64 b, .int .i64 c, .int .i64 d, .int .i64 e]] w fun r w' => r = .returned (Mi.cmd 0 a b c d e).val ∧ Below w.heap.size w w' := by
  rw [show Mi.cmd 0 a b c d e = ⟨3, a, 0, 1, 0, 0, 0, 0, 0, 0, 4 * d, 4 * d, 4 * d, 4 * d, false⟩ from rfl]
  have hw4 : IntKind.i64.wrap (4 * d) = 4 * d := by rw [IntKind.wrap_i64]; omega
  have hw3 : IntKind.i64.wrap (3 * d) = 3 * d := by rw [IntKind.wrap_i64]; omega
  have ht : e.tmod 2 = e % 2 := Int.tmod_eq_emod_of_nonneg (by omega)
  go_enter Try.func17, Try.ntmps17
  go_wp2_with fail
  go_region_held3 (fun w' => w'.cell? ⟨w.heap.size, 1, none⟩ = some (.int .i64 a) ∧ w'.cell? ⟨w.heap.size, 4, none⟩ = some (.int .i64 d)) (simp [go_sem, World.cell?_alloc_past]) (first | (go_at_call 19; refine (all_c _ _).mono ?_; rintro e w' ⟨rfl, rfl⟩) | (go_at_call 20; refine (place_c _ _ _ _ _ _ _ hb1 hb2).mono ?_; rintro e w' ⟨rfl, rfl⟩) | (go_at_call 21; refine (turn_c _ _ _ _ _ _ _).mono ?_; rintro e w' ⟨rfl, rfl⟩))
  go_wp2_with fail
  refine bodyPost_row Try.results17 rfl (w.heap.size + 1) rfl (Cmd.cells ⟨3, a, 0, 1, 0, 0, 0, 0, 0, 0, 4 * d, 4 * d, 4 * d, 4 * d, false⟩).toArray 38 (0, 0) ?hg _ Try.underlying38 rfl 15 cmdSize ?hn ⟨rfl, ?_⟩
  case hg => repeat (first | (refine alloc_new' ?_; simp; done) | (refine Eq.trans (alloc_old' ?_) ?_; focus (simp; try omega; done)) | refine Eq.trans (drew_get _ _) ?_ | refine Eq.trans (drewN_get _ _ _) ?_)
  case hn => rfl
  repeat (first | exact Below.refl _ _ | refine Below.drew ?_ | refine below_drewN ?_ _ | refine Below.alloc ?_ (by simp; try omega) _)
set_option maxRecDepth 100000 in
theorem command_1 (a b c d e : Int) (w : World) (hb1 : 1 ≤ b) (hb2 : b ≤ 3) (hd1 : 1 ≤ d) (hd2 : d ≤ 5) (he1 : 1 ≤ e) (he2 : e ≤ 12) :
    Calls Try.prog 17 #[.agg #[.int .i64 1, .int .i64 a, .int .i64 b, .int .i64 c, .int .i64 d, .int .i64 e]] w fun r w' => r = .returned (Mi.cmd 1 a b c d e).val ∧ Below w.heap.size w w' := by
  rw [show Mi.cmd 1 a b c d e = ⟨8, 1, 0, 1, c, b - 1, 0, 0, 0, 0, 3 * d, 3 * d, 3 * d, 3 * d, false⟩ from rfl]
  have hw4 : IntKind.i64.wrap (4 * d) = 4 * d := by rw [IntKind.wrap_i64]; omega
  have hw3 : IntKind.i64.wrap (3 * d) = 3 * d := by rw [IntKind.wrap_i64]; omega
  have ht : e.tmod 2 = e % 2 := Int.tmod_eq_emod_of_nonneg (by omega)
  go_enter Try.func17, Try.ntmps17
  go_wp2_with fail
  go_region_held3 (fun w' => w'.cell? ⟨w.heap.size, 0, none⟩ = some (.int .i64 1) ∧ w'.cell? ⟨w.heap.size, 1, none⟩ = some (.int .i64 a) ∧ w'.cell? ⟨w.heap.size, 2, none⟩ = some (.int .i64 b) ∧ w'.cell? ⟨w.heap.size, 3, none⟩ = some (.int .i64 c) ∧ w'.cell? ⟨w.heap.size, 4, none⟩ = some (.int .i64 d) ∧ w'.cell? ⟨w.heap.size, 5, none⟩ = some (.int .i64 e)) (simp [go_sem, World.cell?_alloc_past]) (first | (go_at_call 19; refine (all_c _ _).mono ?_; rintro e w' ⟨rfl, rfl⟩) | (go_at_call 20; refine (place_c _ _ _ _ _ _ _ hb1 hb2).mono ?_; rintro e w' ⟨rfl, rfl⟩) | (go_at_call 21; refine (turn_c _ _ _ _ _ _ _).mono ?_; rintro e w' ⟨rfl, rfl⟩))
  go_wp2_with fail
  refine bodyPost_row Try.results17 rfl (w.heap.size + 1) rfl (Cmd.cells ⟨8, 1, 0, 1, c, b - 1, 0, 0, 0, 0, 3 * d, 3 * d, 3 * d, 3 * d, false⟩).toArray 38 (0, 0) ?hg _ Try.underlying38 rfl 15 cmdSize ?hn ⟨rfl, ?_⟩
  case hg => repeat (first | (refine alloc_new' ?_; simp; done) | (refine Eq.trans (alloc_old' ?_) ?_; focus (simp; try omega; done)) | refine Eq.trans (drew_get _ _) ?_ | refine Eq.trans (drewN_get _ _ _) ?_)
  case hn => rfl
  repeat (first | exact Below.refl _ _ | refine Below.drew ?_ | refine below_drewN ?_ _ | refine Below.alloc ?_ (by simp; try omega) _)
set_option maxRecDepth 100000 in
theorem command_5 (a b c d e : Int) (w : World) (hb1 : 1 ≤ b) (hb2 : b ≤ 3) (hd1 : 1 ≤ d) (hd2 : d ≤ 5) (he1 : 1 ≤ e) (he2 : e ≤ 12) :
    Calls Try.prog 17 #[.agg #[.int .i64 5, .int .i64 a, .int .i64 b, .int .i64 c, .int .i64 d, .int .i64 e]] w fun r w' => r = .returned (Mi.cmd 5 a b c d e).val ∧ Below w.heap.size w w' := by
  rw [show Mi.cmd 5 a b c d e = ⟨16, e, 0, 0, 0, 0, 0, 0, 0, 0, 0, 0, 0, 0, false⟩ from rfl]
  have hw4 : IntKind.i64.wrap (4 * d) = 4 * d := by rw [IntKind.wrap_i64]; omega
  have hw3 : IntKind.i64.wrap (3 * d) = 3 * d := by rw [IntKind.wrap_i64]; omega
  have ht : e.tmod 2 = e % 2 := Int.tmod_eq_emod_of_nonneg (by omega)
  go_enter Try.func17, Try.ntmps17
  go_wp2_with (first | (go_at_call 19; refine (all_c _ _).mono ?_; rintro e w' ⟨rfl, rfl⟩) | (go_at_call 20; refine (place_c _ _ _ _ _ _ _ hb1 hb2).mono ?_; rintro e w' ⟨rfl, rfl⟩) | (go_at_call 21; refine (turn_c _ _ _ _ _ _ _).mono ?_; rintro e w' ⟨rfl, rfl⟩))
  refine bodyPost_row Try.results17 rfl (w.heap.size + 1) rfl (Cmd.cells ⟨16, e, 0, 0, 0, 0, 0, 0, 0, 0, 0, 0, 0, 0, false⟩).toArray 38 (0, 0) ?hg _ Try.underlying38 rfl 15 cmdSize ?hn ⟨rfl, ?_⟩
  case hg => repeat (first | (refine alloc_new' ?_; simp; done) | (refine Eq.trans (alloc_old' ?_) ?_; focus (simp; try omega; done)) | refine Eq.trans (drew_get _ _) ?_ | refine Eq.trans (drewN_get _ _ _) ?_)
  case hn => rfl
  repeat (first | exact Below.refl _ _ | refine Below.drew ?_ | refine below_drewN ?_ _ | refine Below.alloc ?_ (by simp; try omega) _)
set_option maxRecDepth 100000 in
theorem command_6 (a b c d e : Int) (w : World) (hb1 : 1 ≤ b) (hb2 : b ≤ 3) (hd1 : 1 ≤ d) (hd2 : d ≤ 5) (he1 : 1 ≤ e) (he2 : e ≤ 12) :
    Calls Try.prog 17 #[.agg #[.int .i64 6, .int .i64 a, .int .i64 b, .int .i64 c, .int .i64 d, .int .i64 e]] w fun r w' => r = .returned (Mi.cmd 6 a b c d e).val ∧ Below w.heap.size w w' := by
  rw [show Mi.cmd 6 a b c d e = ⟨18, 0, 0, 0, 0, 0, a, 0, 0, 0, 0, 0, 0, 0, false⟩ from rfl]
  have hw4 : IntKind.i64.wrap (4 * d) = 4 * d := by rw [IntKind.wrap_i64]; omega
  have hw3 : IntKind.i64.wrap (3 * d) = 3 * d := by rw [IntKind.wrap_i64]; omega
  have ht : e.tmod 2 = e % 2 := Int.tmod_eq_emod_of_nonneg (by omega)
  go_enter Try.func17, Try.ntmps17
  go_wp2_with (first | (go_at_call 19; refine (all_c _ _).mono ?_; rintro e w' ⟨rfl, rfl⟩) | (go_at_call 20; refine (place_c _ _ _ _ _ _ _ hb1 hb2).mono ?_; rintro e w' ⟨rfl, rfl⟩) | (go_at_call 21; refine (turn_c _ _ _ _ _ _ _).mono ?_; rintro e w' ⟨rfl, rfl⟩))
  refine bodyPost_row Try.results17 rfl (w.heap.size + 1) rfl (Cmd.cells ⟨18, 0, 0, 0, 0, 0, a, 0, 0, 0, 0, 0, 0, 0, false⟩).toArray 38 (0, 0) ?hg _ Try.underlying38 rfl 15 cmdSize ?hn ⟨rfl, ?_⟩
  case hg => repeat (first | (refine alloc_new' ?_; simp; done) | (refine Eq.trans (alloc_old' ?_) ?_; focus (simp; try omega; done)) | refine Eq.trans (drew_get _ _) ?_ | refine Eq.trans (drewN_get _ _ _) ?_)
  case hn => rfl
  repeat (first | exact Below.refl _ _ | refine Below.drew ?_ | refine below_drewN ?_ _ | refine Below.alloc ?_ (by simp; try omega) _)
set_option maxRecDepth 100000 in
theorem command_7 (a b c d e : Int) (w : World) (hb1 : 1 ≤ b) (hb2 : b ≤ 3) (hd1 : 1 ≤ d) (hd2 : d ≤ 5) (he1 : 1 ≤ e) (he2 : e ≤ 12) :
    Calls Try.prog 17 #[.agg #[.int .i64 7, .int .i64 a, .int .i64 b, .int .i64 c, .int .i64 d, .int .i64 e]] w fun r w' => r = .returned (Mi.cmd 7 a b c d e).val ∧ Below w.heap.size w w' := by
  rw [show Mi.cmd 7 a b c d e = ⟨Mi.turnK d, a, 0, 0, 0, 0, 0, 0, 0, 0, 0, 0, 0, 0, false⟩ from rfl]
  have hw4 : IntKind.i64.wrap (4 * d) = 4 * d := by rw [IntKind.wrap_i64]; omega
  have hw3 : IntKind.i64.wrap (3 * d) = 3 * d := by rw [IntKind.wrap_i64]; omega
  have ht : e.tmod 2 = e % 2 := Int.tmod_eq_emod_of_nonneg (by omega)
  go_enter Try.func17, Try.ntmps17
  go_wp2_with (first | (go_at_call 19; refine (all_c _ _).mono ?_; rintro e w' ⟨rfl, rfl⟩) | (go_at_call 20; refine (place_c _ _ _ _ _ _ _ hb1 hb2).mono ?_; rintro e w' ⟨rfl, rfl⟩) | (go_at_call 21; refine (turn_c _ _ _ _ _ _ _).mono ?_; rintro e w' ⟨rfl, rfl⟩))
  refine bodyPost_row Try.results17 rfl (w.heap.size + 1) rfl (Cmd.cells ⟨Mi.turnK d, a, 0, 0, 0, 0, 0, 0, 0, 0, 0, 0, 0, 0, false⟩).toArray 38 (0, 0) ?hg _ Try.underlying38 rfl 15 cmdSize ?hn ⟨rfl, ?_⟩
  case hg => repeat (first | (refine alloc_new' ?_; simp; done) | (refine Eq.trans (alloc_old' ?_) ?_; focus (simp; try omega; done)) | refine Eq.trans (drew_get _ _) ?_ | refine Eq.trans (drewN_get _ _ _) ?_)
  case hn => rfl
  repeat (first | exact Below.refl _ _ | refine Below.drew ?_ | refine below_drewN ?_ _ | refine Below.alloc ?_ (by simp; try omega) _)
set_option maxRecDepth 100000 in
theorem command_8 (a b c d e : Int) (w : World) (hb1 : 1 ≤ b) (hb2 : b ≤ 3) (hd1 : 1 ≤ d) (hd2 : d ≤ 5) (he1 : 1 ≤ e) (he2 : e ≤ 12) :
    Calls Try.prog 17 #[.agg #[.int .i64 8, .int .i64 a, .int .i64 b, .int .i64 c, .int .i64 d, .int .i64 e]] w fun r w' => r = .returned (Mi.cmd 8 a b c d e).val ∧ Below w.heap.size w w' := by
  rw [show Mi.cmd 8 a b c d e = ⟨17, 0, 0, 0, 0, 0, 0, 0, 0, 0, 0, 0, 0, 0, false⟩ from rfl]
  have hw4 : IntKind.i64.wrap (4 * d) = 4 * d := by rw [IntKind.wrap_i64]; omega
  have hw3 : IntKind.i64.wrap (3 * d) = 3 * d := by rw [IntKind.wrap_i64]; omega
  have ht : e.tmod 2 = e % 2 := Int.tmod_eq_emod_of_nonneg (by omega)
  go_enter Try.func17, Try.ntmps17
  go_wp2_with (first | (go_at_call 19; refine (all_c _ _).mono ?_; rintro e w' ⟨rfl, rfl⟩) | (go_at_call 20; refine (place_c _ _ _ _ _ _ _ hb1 hb2).mono ?_; rintro e w' ⟨rfl, rfl⟩) | (go_at_call 21; refine (turn_c _ _ _ _ _ _ _).mono ?_; rintro e w' ⟨rfl, rfl⟩))
  refine bodyPost_row Try.results17 rfl (w.heap.size + 1) rfl (Cmd.cells ⟨17, 0, 0, 0, 0, 0, 0, 0, 0, 0, 0, 0, 0, 0, false⟩).toArray 38 (0, 0) ?hg _ Try.underlying38 rfl 15 cmdSize ?hn ⟨rfl, ?_⟩
  case hg => repeat (first | (refine alloc_new' ?_; simp; done) | (refine Eq.trans (alloc_old' ?_) ?_; focus (simp; try omega; done)) | refine Eq.trans (drew_get _ _) ?_ | refine Eq.trans (drewN_get _ _ _) ?_)
  case hn => rfl
  repeat (first | exact Below.refl _ _ | refine Below.drew ?_ | refine below_drewN ?_ _ | refine Below.alloc ?_ (by simp; try omega) _)
set_option maxRecDepth 100000 in
theorem command_9 (a b c d e : Int) (w : World) (hb1 : 1 ≤ b) (hb2 : b ≤ 3) (hd1 : 1 ≤ d) (hd2 : d ≤ 5) (he1 : 1 ≤ e) (he2 : e ≤ 12) :
    Calls Try.prog 17 #[.agg #[.int .i64 9, .int .i64 a, .int .i64 b, .int .i64 c, .int .i64 d, .int .i64 e]] w fun r w' => r = .returned (Mi.cmd 9 a b c d e).val ∧ Below w.heap.size w w' := by
  rw [show Mi.cmd 9 a b c d e = ⟨13, e, 1, 1, c, b - 1, d, a, 0, 0, 0, 0, 0, 0, e % 2 == 0⟩ from rfl]
  have hw4 : IntKind.i64.wrap (4 * d) = 4 * d := by rw [IntKind.wrap_i64]; omega
  have hw3 : IntKind.i64.wrap (3 * d) = 3 * d := by rw [IntKind.wrap_i64]; omega
  have ht : e.tmod 2 = e % 2 := Int.tmod_eq_emod_of_nonneg (by omega)
  go_enter Try.func17, Try.ntmps17
  go_wp2_with fail
  go_region_held3 (fun w' => w'.cell? ⟨w.heap.size, 0, none⟩ = some (.int .i64 9) ∧ w'.cell? ⟨w.heap.size, 1, none⟩ = some (.int .i64 a) ∧ w'.cell? ⟨w.heap.size, 2, none⟩ = some (.int .i64 b) ∧ w'.cell? ⟨w.heap.size, 3, none⟩ = some (.int .i64 c) ∧ w'.cell? ⟨w.heap.size, 4, none⟩ = some (.int .i64 d) ∧ w'.cell? ⟨w.heap.size, 5, none⟩ = some (.int .i64 e)) (simp [go_sem, World.cell?_alloc_past]) (first | (go_at_call 19; refine (all_c _ _).mono ?_; rintro e w' ⟨rfl, rfl⟩) | (go_at_call 20; refine (place_c _ _ _ _ _ _ _ hb1 hb2).mono ?_; rintro e w' ⟨rfl, rfl⟩) | (go_at_call 21; refine (turn_c _ _ _ _ _ _ _).mono ?_; rintro e w' ⟨rfl, rfl⟩))
  go_wp2_with fail
  refine bodyPost_row Try.results17 rfl (w.heap.size + 1) rfl (Cmd.cells ⟨13, e, 1, 1, c, b - 1, d, a, 0, 0, 0, 0, 0, 0, e % 2 == 0⟩).toArray 38 (0, 0) ?hg _ Try.underlying38 rfl 15 cmdSize ?hn ⟨rfl, ?_⟩
  case hg => repeat (first | (refine alloc_new' ?_; simp; done) | (refine Eq.trans (alloc_old' ?_) ?_; focus (simp; try omega; done)) | refine Eq.trans (drew_get _ _) ?_ | refine Eq.trans (drewN_get _ _ _) ?_)
  case hn => rfl
  repeat (first | exact Below.refl _ _ | refine Below.drew ?_ | refine below_drewN ?_ _ | refine Below.alloc ?_ (by simp; try omega) _)
set_option maxRecDepth 100000 in
theorem command_x (a b c d e : Int) (k : Int) (k0 : k ≠ 0) (k1 : k ≠ 1) (k5 : k ≠ 5) (k6 : k ≠ 6) (k7 : k ≠ 7) (k8 : k ≠ 8) (k9 : k ≠ 9) (w : World) (hb1 : 1 ≤ b) (hb2 : b ≤ 3) (hd1 : 1 ≤ d) (hd2 : d ≤ 5) (he1 : 1 ≤ e) (he2 : e ≤ 12) :
    Calls Try.prog 17 #[.agg #[.int .i64 k, .int .i64 a, .int .i64 b, .int .i64 c, .int .i64 d, .int .i64 e]] w fun r w' => r = .returned (Mi.cmd k a b c d e).val ∧ Below w.heap.size w w' := by
  rw [show Mi.cmd k a b c d e = ⟨15, e, 1, 1, c, 0, b, 1, a, 0, d, 1, 1, 1, false⟩ by simp [Mi.cmd, k0, k1, k5, k6, k7, k8, k9]]
  have d0 : (k == 0) = false := by simpa using k0
  have d1 : (k == 1) = false := by simpa using k1
  have d5 : (k == 5) = false := by simpa using k5
  have d6 : (k == 6) = false := by simpa using k6
  have d7 : (k == 7) = false := by simpa using k7
  have d8 : (k == 8) = false := by simpa using k8
  have d9 : (k == 9) = false := by simpa using k9
  clear k0 k1 k5 k6 k7 k8 k9
  have hw4 : IntKind.i64.wrap (4 * d) = 4 * d := by rw [IntKind.wrap_i64]; omega
  have hw3 : IntKind.i64.wrap (3 * d) = 3 * d := by rw [IntKind.wrap_i64]; omega
  have ht : e.tmod 2 = e % 2 := Int.tmod_eq_emod_of_nonneg (by omega)
  go_enter Try.func17, Try.ntmps17
  go_wp2_with (first | (go_at_call 19; refine (all_c _ _).mono ?_; rintro e w' ⟨rfl, rfl⟩) | (go_at_call 20; refine (place_c _ _ _ _ _ _ _ hb1 hb2).mono ?_; rintro e w' ⟨rfl, rfl⟩) | (go_at_call 21; refine (turn_c _ _ _ _ _ _ _).mono ?_; rintro e w' ⟨rfl, rfl⟩))
  refine bodyPost_row Try.results17 rfl (w.heap.size + 1) rfl (Cmd.cells ⟨15, e, 1, 1, c, 0, b, 1, a, 0, d, 1, 1, 1, false⟩).toArray 38 (0, 0) ?hg _ Try.underlying38 rfl 15 cmdSize ?hn ⟨rfl, ?_⟩
  case hg => repeat (first | (refine alloc_new' ?_; simp; done) | (refine Eq.trans (alloc_old' ?_) ?_; focus (simp; try omega; done)) | refine Eq.trans (drew_get _ _) ?_ | refine Eq.trans (drewN_get _ _ _) ?_)
  case hn => rfl
  repeat (first | exact Below.refl _ _ | refine Below.drew ?_ | refine below_drewN ?_ _ | refine Below.alloc ?_ (by simp; try omega) _)
theorem command_c (k a b c d e : Int) (w : World) (hb1 : 1 ≤ b) (hb2 : b ≤ 3) (hd1 : 1 ≤ d) (hd2 : d ≤ 5) (he1 : 1 ≤ e) (he2 : e ≤ 12) :
    Calls Try.prog 17 #[.agg #[.int .i64 k, .int .i64 a, .int .i64 b, .int .i64 c, .int .i64 d, .int .i64 e]] w fun r w' => r = .returned (Mi.cmd k a b c d e).val ∧ Below w.heap.size w w' := by
  by_cases k0 : k = 0
  · subst k0; exact command_0 a b c d e w hb1 hb2 hd1 hd2 he1 he2
  by_cases k1 : k = 1
  · subst k1; exact command_1 a b c d e w hb1 hb2 hd1 hd2 he1 he2
  by_cases k5 : k = 5
  · subst k5; exact command_5 a b c d e w hb1 hb2 hd1 hd2 he1 he2
  by_cases k6 : k = 6
  · subst k6; exact command_6 a b c d e w hb1 hb2 hd1 hd2 he1 he2
  by_cases k7 : k = 7
  · subst k7; exact command_7 a b c d e w hb1 hb2 hd1 hd2 he1 he2
  by_cases k8 : k = 8
  · subst k8; exact command_8 a b c d e w hb1 hb2 hd1 hd2 he1 he2
  by_cases k9 : k = 9
  · subst k9; exact command_9 a b c d e w hb1 hb2 hd1 hd2 he1 he2
  exact command_x a b c d e k k0 k1 k5 k6 k7 k8 k9 w hb1 hb2 hd1 hd2 he1 he2
end Go.Proofs.Ytkinbidpbgkaoaa
