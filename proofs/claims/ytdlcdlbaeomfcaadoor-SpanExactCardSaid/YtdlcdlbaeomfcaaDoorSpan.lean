/-
  span's functions by contract: what each returns, the world left as it was but for draws.
-/
import Derived.Test.YtdlcdlbaeomfcaaDoorKit
import Derived.RegionTactic
import Derived.Deep.QuietTactic
import Derived.BigQuiet
import Derived.Outline
import Derived.IntWalk
import Derived.Lib.Hide
namespace Go.Proofs.YtdlcdlbaeomfcaaDoor
open Go.RowKit

namespace Sp
def tick (n : Int) : Bool := decide (0 ≤ n ∧ n ≤ 1073741824)
def len (n : Int) : Bool := decide (1 ≤ n ∧ n ≤ 1000)
def at_ (t l : Int) : Int × Nat := if tick t = true ∧ len l = true then (t / l, 0) else (0, 1)
def first (v l : Int) : Int × Nat := if tick v = true ∧ len l = true ∧ tick (v * l) = true then (v * l, 0) else (0, 1)
def left (t l : Int) : Int × Nat := if tick t = true ∧ len l = true then (l - t % l, 0) else (0, 1)
def open_ (v now : Int) : Bool := tick v && tick now && decide (now ≤ v) && decide (v - now < 8)
theorem tick_iff (n : Int) : tick n = true ↔ 0 ≤ n ∧ n ≤ 1073741824 := by simp [tick]
theorem len_iff (n : Int) : len n = true ↔ 1 ≤ n ∧ n ≤ 1000 := by simp [len]
end Sp

section
variable (w : World)
theorem tick_c (n : Int) : Calls Tryd.prog 63 #[.int .i64 n] w fun e w' => e = .returned (.bool (Sp.tick n)) ∧ w = w' := by
  go_enter Tryd.func63, Tryd.ntmps63
  go_wp2
  all_goals (go_ret; exact ⟨ret_bool (by unfold Sp.tick; simp; try omega), rfl⟩)
theorem len_c (n : Int) : Calls Tryd.prog 64 #[.int .i64 n] w fun e w' => e = .returned (.bool (Sp.len n)) ∧ w = w' := by
  go_enter Tryd.func64, Tryd.ntmps64
  go_wp2
  all_goals (go_ret; exact ⟨ret_bool (by unfold Sp.len; simp; try omega), rfl⟩)

theorem at_c (E : Nat → Addr) (hA : w.cell? ⟨0, 0, none⟩ = some (erV E 1)) (t l : Int) :
    Calls Tryd.prog 14 #[.int .i64 t, .int .i64 l] w fun e w' => e = .returned (.tuple #[.int .i64 (Sp.at_ t l).1, erV E (Sp.at_ t l).2]) ∧ ∃ n, w' = w.drewN n := by
  by_cases h1 : Sp.tick t = true
  · by_cases h2 : Sp.len l = true
    · obtain ⟨a1, a2⟩ := (Sp.tick_iff t).1 h1
      obtain ⟨b1, b2⟩ := (Sp.len_iff l).1 h2
      have hv : Sp.at_ t l = (t / l, 0) := if_pos ⟨h1, h2⟩
      rw [hv]; clear hv
      go_enter Tryd.func14, Tryd.ntmps14
      go_wp2_with (first | (go_at_call 63; refine (tick_c _ _).mono ?_; rintro e w' ⟨rfl, rfl⟩) | (go_at_call 64; refine (len_c _ _).mono ?_; rintro e w' ⟨rfl, rfl⟩))
      go_ret2
      exact ⟨rfl, 0, rfl⟩
    · have hv : Sp.at_ t l = (0, 1) := if_neg (by simp [h2])
      rw [hv]; clear hv
      have h3 : Sp.len l = false := by simpa using h2
      clear h2
      go_enter Tryd.func14, Tryd.ntmps14
      go_wp2_with (first | (go_at_call 63; refine (tick_c _ _).mono ?_; rintro e w' ⟨rfl, rfl⟩) | (go_at_call 64; refine (len_c _ _).mono ?_; rintro e w' ⟨rfl, rfl⟩))
      go_quiet (fail)
      go_wp2
      go_ret2
      exact ⟨rfl, _, rfl⟩
  · have hv : Sp.at_ t l = (0, 1) := if_neg (by simp [h1])
    rw [hv]; clear hv
    have h3 : Sp.tick t = false := by simpa using h1
    clear h1
    go_enter Tryd.func14, Tryd.ntmps14
    go_wp2_with (first | (go_at_call 63; refine (tick_c _ _).mono ?_; rintro e w' ⟨rfl, rfl⟩) | (go_at_call 64; refine (len_c _ _).mono ?_; rintro e w' ⟨rfl, rfl⟩))
    go_quiet (fail)
    go_wp2
    go_ret2
    exact ⟨rfl, _, rfl⟩
theorem left_c (E : Nat → Addr) (hA : w.cell? ⟨0, 0, none⟩ = some (erV E 1)) (t l : Int) :
    Calls Tryd.prog 16 #[.int .i64 t, .int .i64 l] w fun e w' => e = .returned (.tuple #[.int .i64 (Sp.left t l).1, erV E (Sp.left t l).2]) ∧ ∃ n, w' = w.drewN n := by
  by_cases h1 : Sp.tick t = true
  · by_cases h2 : Sp.len l = true
    · obtain ⟨a1, a2⟩ := (Sp.tick_iff t).1 h1
      obtain ⟨b1, b2⟩ := (Sp.len_iff l).1 h2
      have c1 : 0 ≤ t % l := Int.emod_nonneg t (by omega)
      have c2 : t % l < l := Int.emod_lt_of_pos t (by omega)
      have hv : Sp.left t l = (l - t % l, 0) := if_pos ⟨h1, h2⟩
      rw [hv]; clear hv
      go_enter Tryd.func16, Tryd.ntmps16
      go_wp2_with (first | (go_at_call 63; refine (tick_c _ _).mono ?_; rintro e w' ⟨rfl, rfl⟩) | (go_at_call 64; refine (len_c _ _).mono ?_; rintro e w' ⟨rfl, rfl⟩))
      go_ret2
      exact ⟨rfl, 0, rfl⟩
    · have hv : Sp.left t l = (0, 1) := if_neg (by simp [h2])
      rw [hv]; clear hv
      have h3 : Sp.len l = false := by simpa using h2
      clear h2
      go_enter Tryd.func16, Tryd.ntmps16
      go_wp2_with (first | (go_at_call 63; refine (tick_c _ _).mono ?_; rintro e w' ⟨rfl, rfl⟩) | (go_at_call 64; refine (len_c _ _).mono ?_; rintro e w' ⟨rfl, rfl⟩))
      go_quiet (fail)
      go_wp2
      go_ret2
      exact ⟨rfl, _, rfl⟩
  · have hv : Sp.left t l = (0, 1) := if_neg (by simp [h1])
    rw [hv]; clear hv
    have h3 : Sp.tick t = false := by simpa using h1
    clear h1
    go_enter Tryd.func16, Tryd.ntmps16
    go_wp2_with (first | (go_at_call 63; refine (tick_c _ _).mono ?_; rintro e w' ⟨rfl, rfl⟩) | (go_at_call 64; refine (len_c _ _).mono ?_; rintro e w' ⟨rfl, rfl⟩))
    go_quiet (fail)
    go_wp2
    go_ret2
    exact ⟨rfl, _, rfl⟩
theorem first_c (E : Nat → Addr) (hA : w.cell? ⟨0, 0, none⟩ = some (erV E 1)) (t l : Int) :
    Calls Tryd.prog 15 #[.int .i64 t, .int .i64 l] w fun e w' => e = .returned (.tuple #[.int .i64 (Sp.first t l).1, erV E (Sp.first t l).2]) ∧ ∃ n, w' = w.drewN n := by
  by_cases h1 : Sp.tick t = true
  · by_cases h2 : Sp.len l = true
    · obtain ⟨a1, a2⟩ := (Sp.tick_iff t).1 h1
      obtain ⟨b1, b2⟩ := (Sp.len_iff l).1 h2
      have c1 : 0 ≤ t * l := Int.mul_nonneg a1 (by omega)
      have c2 : t * l ≤ 1073741824 * 1000 := Int.mul_le_mul a2 b2 (by omega) (by omega)
      by_cases h3 : Sp.tick (t * l) = true
      · have hv : Sp.first t l = (t * l, 0) := if_pos ⟨h1, h2, h3⟩
        rw [hv]; clear hv
        go_enter Tryd.func15, Tryd.ntmps15
        go_wp2_with (first | (go_at_call 63; refine (tick_c _ _).mono ?_; rintro e w' ⟨rfl, rfl⟩) | (go_at_call 64; refine (len_c _ _).mono ?_; rintro e w' ⟨rfl, rfl⟩))
        go_ret2
        exact ⟨rfl, 0, rfl⟩
      · have hv : Sp.first t l = (0, 1) := if_neg (by simp [h3])
        rw [hv]; clear hv
        have h4 : Sp.tick (t * l) = false := by simpa using h3
        clear h3
        go_enter Tryd.func15, Tryd.ntmps15
        go_wp2_with (first | (go_at_call 63; refine (tick_c _ _).mono ?_; rintro e w' ⟨rfl, rfl⟩) | (go_at_call 64; refine (len_c _ _).mono ?_; rintro e w' ⟨rfl, rfl⟩))
        go_quiet (fail)
        go_wp2
        go_ret2
        exact ⟨rfl, _, rfl⟩
    · have hv : Sp.first t l = (0, 1) := if_neg (by simp [h2])
      rw [hv]; clear hv
      have h3 : Sp.len l = false := by simpa using h2
      clear h2
      go_enter Tryd.func15, Tryd.ntmps15
      go_wp2_with (first | (go_at_call 63; refine (tick_c _ _).mono ?_; rintro e w' ⟨rfl, rfl⟩) | (go_at_call 64; refine (len_c _ _).mono ?_; rintro e w' ⟨rfl, rfl⟩))
      go_quiet (fail)
      go_wp2
      go_ret2
      exact ⟨rfl, _, rfl⟩
  · have hv : Sp.first t l = (0, 1) := if_neg (by simp [h1])
    rw [hv]; clear hv
    have h3 : Sp.tick t = false := by simpa using h1
    clear h1
    go_enter Tryd.func15, Tryd.ntmps15
    go_wp2_with (first | (go_at_call 63; refine (tick_c _ _).mono ?_; rintro e w' ⟨rfl, rfl⟩) | (go_at_call 64; refine (len_c _ _).mono ?_; rintro e w' ⟨rfl, rfl⟩))
    go_quiet (fail)
    go_wp2
    go_ret2
    exact ⟨rfl, _, rfl⟩
theorem open_c (v now : Int) : Calls Tryd.prog 19 #[.int .i64 v, .int .i64 now] w fun e w' => e = .returned (.bool (Sp.open_ v now)) ∧ w = w' := by
  cases h1 : Sp.tick v
  · go_enter Tryd.func19, Tryd.ntmps19
    go_wp2_with (first | (go_at_call 63; refine (tick_c _ _).mono ?_; rintro e w' ⟨rfl, rfl⟩))
    go_ret
    exact ⟨ret_bool (by simp [Sp.open_, h1]), rfl⟩
  · obtain ⟨a1, a2⟩ := (Sp.tick_iff v).1 h1
    cases h2 : Sp.tick now
    · go_enter Tryd.func19, Tryd.ntmps19
      go_wp2_with (first | (go_at_call 63; refine (tick_c _ _).mono ?_; rintro e w' ⟨rfl, rfl⟩))
      go_ret
      exact ⟨ret_bool (by simp [Sp.open_, h2]), rfl⟩
    · obtain ⟨b1, b2⟩ := (Sp.tick_iff now).1 h2
      by_cases h3 : now ≤ v
      · go_enter Tryd.func19, Tryd.ntmps19
        go_wp2_with (first | (go_at_call 63; refine (tick_c _ _).mono ?_; rintro e w' ⟨rfl, rfl⟩))
        go_ret
        exact ⟨ret_bool (by simp [Sp.open_, h1, h2, h3]), rfl⟩
      · have hd : decide (now ≤ v) = false := by simpa using h3
        go_enter Tryd.func19, Tryd.ntmps19
        go_wp2_with (first | (go_at_call 63; refine (tick_c _ _).mono ?_; rintro e w' ⟨rfl, rfl⟩))
        go_ret
        exact ⟨ret_bool (by simp [Sp.open_]; omega), rfl⟩
set_option maxRecDepth 100000 in
theorem row_ok (now : Int) (n : Nat) (h1 : Sp.tick now = true) (h2 : 1 ≤ n) (h3 : n ≤ 8) (h4 : Sp.tick (now + n - 1) = true) :
    Calls Tryd.prog 17 #[.int .i64 now, .int .i64 (n : Int)] w fun e w' => ∃ v, e = .returned (.tuple #[v, .nilIface]) ∧ w'.ownsRow w.heap.size 3 1 v n ((List.range n).map fun (i : Nat) => Value.int .i64 (now + (i : Int))) ∧ Below w.heap.size w w' := by
  obtain ⟨a1, a2⟩ := (Sp.tick_iff now).1 h1
  obtain ⟨i0, hi, hz0, hz1, hz2⟩ := info_parts (show (Tryd.prog.info? 3).map (fun i => (i.zero, i.size, i.bytes)) = some (some (.int .i64 0), 1, 8) by kernel_rfl)
  obtain ⟨B, hB⟩ : ∃ B, B = w.heap.size := ⟨_, rfl⟩
  have HB := Lib.hid hB
  rw [← hB]
  clear hB
  go_enter Tryd.func17, Tryd.ntmps17
  go_wp2_with (first | (go_at_call 63; refine (tick_c _ _).mono ?_; rintro e w' ⟨rfl, rfl⟩))
  go_loopw [6, 29] (fun v i wr => ∃ k : Nat, k ≤ n ∧ i = .int .i64 k ∧ wr.ownsRow B 3 1 v k ((List.range k).map fun (i : Nat) => Value.int .i64 (now + (i : Int))) ∧ Below B w wr) (fun _ i _ => n - (intOf i).toNat)
  case atStart => exact ⟨0, Nat.zero_le _, rfl, World.ownsRow_nil _ _ _ _, Below.refl _ _⟩
  case round =>
    obtain ⟨k, hk, rfl, hown, hnx⟩ := hrel
    have hsz := hnx.size
    rw [← HB.out] at hsz
    by_cases hlt : k < n
    · go_wp2_with (first
        | (at_builtin; refine wpList_app1 rfl _ _ 29 rfl B 3 i0 (.int .i64 0) 1 8 Tryd.underlying29 hi hz0 hz1 hz2 rfl (by decide) _ _ _ rfl hown _ rfl ?c1 ?c2 ?c3 ?c4 ?c5 ?_))
      case c1 => rfl
      case c2 => simp [Value.oneCell']
      case c3 => unfold maxLen; omega
      case c4 => omega
      case c5 => exact hsz
      intro v' w1 hown' hg _
      have hnx' := below_app hnx hsz (Nat.le_refl _) hown hg
      clear hown hnx hg
      go_wp2
      go_roundw
      case rel => exact ⟨k + 1, by omega, by go_num, by rw [map_range_succ]; exact hown', hnx'⟩
      case measure => simp [intOf]; omega
    · obtain rfl : k = n := by omega
      go_wp2
      go_ret2
      exact ⟨_, rfl, hown, hnx⟩
end
end Go.Proofs.YtdlcdlbaeomfcaaDoor
