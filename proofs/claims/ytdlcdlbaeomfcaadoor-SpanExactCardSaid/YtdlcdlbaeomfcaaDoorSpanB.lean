/-
  span: Row's other way; the references' functions by contract; awake.
-/
import Derived.Test.YtdlcdlbaeomfcaaDoorSpan
namespace Go.Proofs.YtdlcdlbaeomfcaaDoor
open Go.RowKit

namespace Sp
def rowOk (now n : Int) : Bool := tick now && decide (1 ≤ n) && decide (n ≤ 8) && tick (now + n - 1)
end Sp
section
variable (w : World)
theorem row_bad (E : Nat → Addr) (hA : w.cell? ⟨0, 0, none⟩ = some (erV E 1)) (now n : Int) (h : Sp.rowOk now n = false) :
    Calls Tryd.prog 17 #[.int .i64 now, .int .i64 n] w fun e w' => e = .returned (.tuple #[.slice none 0 0, erV E 1]) ∧ ∃ n, w' = w.drewN n := by
  cases h1 : Sp.tick now
  · clear h
    go_enter Tryd.func17, Tryd.ntmps17
    go_wp2_with (first | (go_at_call 63; refine (tick_c _ _).mono ?_; rintro e w' ⟨rfl, rfl⟩) | (go_at_call 64; refine (len_c _ _).mono ?_; rintro e w' ⟨rfl, rfl⟩))
    go_quiet (fail)
    go_wp2
    go_ret2
    exact ⟨rfl, _, rfl⟩
  · obtain ⟨a1, a2⟩ := (Sp.tick_iff now).1 h1
    by_cases h2 : n < 1
    · clear h
      go_enter Tryd.func17, Tryd.ntmps17
      go_wp2_with (first | (go_at_call 63; refine (tick_c _ _).mono ?_; rintro e w' ⟨rfl, rfl⟩) | (go_at_call 64; refine (len_c _ _).mono ?_; rintro e w' ⟨rfl, rfl⟩))
      go_quiet (fail)
      go_wp2
      go_ret2
      exact ⟨rfl, _, rfl⟩
    · have h2' : 1 ≤ n := by omega
      have hd2 : decide (n < 1) = false := by simpa using h2'
      by_cases h3 : 8 < n
      · clear h h2
        go_enter Tryd.func17, Tryd.ntmps17
        go_wp2_with (first | (go_at_call 63; refine (tick_c _ _).mono ?_; rintro e w' ⟨rfl, rfl⟩) | (go_at_call 64; refine (len_c _ _).mono ?_; rintro e w' ⟨rfl, rfl⟩))
        go_quiet (fail)
        go_wp2
        go_ret2
        exact ⟨rfl, _, rfl⟩
      · have h3' : n ≤ 8 := by omega
        have hd3 : decide (8 < n) = false := by simpa using h3'
        have h4 : Sp.tick (now + n - 1) = false := by simpa [Sp.rowOk, h1, h2', h3'] using h
        clear h h2 h3
        go_enter Tryd.func17, Tryd.ntmps17
        go_wp2_with (first | (go_at_call 63; refine (tick_c _ _).mono ?_; rintro e w' ⟨rfl, rfl⟩) | (go_at_call 64; refine (len_c _ _).mono ?_; rintro e w' ⟨rfl, rfl⟩))
        go_quiet (fail)
        go_wp2
        go_ret2
        exact ⟨rfl, _, rfl⟩

theorem rtick_c (n : Int) : Calls Tryd.prog 67 #[.int .i64 n] w fun e w' => e = .returned (.bool (Sp.tick n)) ∧ w = w' := by
  go_enter Tryd.func67, Tryd.ntmps67
  go_wp2
  all_goals (go_ret; exact ⟨ret_bool (by unfold Sp.tick; simp; try omega), rfl⟩)
theorem rlen_c (n : Int) : Calls Tryd.prog 68 #[.int .i64 n] w fun e w' => e = .returned (.bool (Sp.len n)) ∧ w = w' := by
  go_enter Tryd.func68, Tryd.ntmps68
  go_wp2
  all_goals (go_ret; exact ⟨ret_bool (by unfold Sp.len; simp; try omega), rfl⟩)
theorem rat_c (t l : Int) :
    Calls Tryd.prog 20 #[.int .i64 t, .int .i64 l] w fun e w' => e = .returned (.tuple #[.int .i64 (Sp.at_ t l).1, .int .i64 ((Sp.at_ t l).2 : Int)]) ∧ w = w' := by
  by_cases h1 : Sp.tick t = true
  · by_cases h2 : Sp.len l = true
    · obtain ⟨a1, a2⟩ := (Sp.tick_iff t).1 h1
      obtain ⟨b1, b2⟩ := (Sp.len_iff l).1 h2
      have hv : Sp.at_ t l = (t / l, 0) := if_pos ⟨h1, h2⟩
      rw [hv]; clear hv
      go_enter Tryd.func20, Tryd.ntmps20
      go_wp2_with (first | (go_at_call 67; refine (rtick_c _ _).mono ?_; rintro e w' ⟨rfl, rfl⟩) | (go_at_call 68; refine (rlen_c _ _).mono ?_; rintro e w' ⟨rfl, rfl⟩))
      go_ret2
      exact ⟨rfl, rfl⟩
    · have hv : Sp.at_ t l = (0, 1) := if_neg (by simp [h2])
      rw [hv]; clear hv
      have h3 : Sp.len l = false := by simpa using h2
      clear h2
      go_enter Tryd.func20, Tryd.ntmps20
      go_wp2_with (first | (go_at_call 67; refine (rtick_c _ _).mono ?_; rintro e w' ⟨rfl, rfl⟩) | (go_at_call 68; refine (rlen_c _ _).mono ?_; rintro e w' ⟨rfl, rfl⟩))
      go_ret2
      exact ⟨rfl, rfl⟩
  · have hv : Sp.at_ t l = (0, 1) := if_neg (by simp [h1])
    rw [hv]; clear hv
    have h3 : Sp.tick t = false := by simpa using h1
    clear h1
    go_enter Tryd.func20, Tryd.ntmps20
    go_wp2_with (first | (go_at_call 67; refine (rtick_c _ _).mono ?_; rintro e w' ⟨rfl, rfl⟩) | (go_at_call 68; refine (rlen_c _ _).mono ?_; rintro e w' ⟨rfl, rfl⟩))
    go_ret2
    exact ⟨rfl, rfl⟩
theorem rleft_c (t l : Int) :
    Calls Tryd.prog 22 #[.int .i64 t, .int .i64 l] w fun e w' => e = .returned (.tuple #[.int .i64 (Sp.left t l).1, .int .i64 ((Sp.left t l).2 : Int)]) ∧ w = w' := by
  by_cases h1 : Sp.tick t = true
  · by_cases h2 : Sp.len l = true
    · obtain ⟨a1, a2⟩ := (Sp.tick_iff t).1 h1
      obtain ⟨b1, b2⟩ := (Sp.len_iff l).1 h2
      have c1 : 0 ≤ t % l := Int.emod_nonneg t (by omega)
      have c2 : t % l < l := Int.emod_lt_of_pos t (by omega)
      have hv : Sp.left t l = (l - t % l, 0) := if_pos ⟨h1, h2⟩
      rw [hv]; clear hv
      go_enter Tryd.func22, Tryd.ntmps22
      go_wp2_with (first | (go_at_call 67; refine (rtick_c _ _).mono ?_; rintro e w' ⟨rfl, rfl⟩) | (go_at_call 68; refine (rlen_c _ _).mono ?_; rintro e w' ⟨rfl, rfl⟩))
      go_ret2
      exact ⟨rfl, rfl⟩
    · have hv : Sp.left t l = (0, 1) := if_neg (by simp [h2])
      rw [hv]; clear hv
      have h3 : Sp.len l = false := by simpa using h2
      clear h2
      go_enter Tryd.func22, Tryd.ntmps22
      go_wp2_with (first | (go_at_call 67; refine (rtick_c _ _).mono ?_; rintro e w' ⟨rfl, rfl⟩) | (go_at_call 68; refine (rlen_c _ _).mono ?_; rintro e w' ⟨rfl, rfl⟩))
      go_ret2
      exact ⟨rfl, rfl⟩
  · have hv : Sp.left t l = (0, 1) := if_neg (by simp [h1])
    rw [hv]; clear hv
    have h3 : Sp.tick t = false := by simpa using h1
    clear h1
    go_enter Tryd.func22, Tryd.ntmps22
    go_wp2_with (first | (go_at_call 67; refine (rtick_c _ _).mono ?_; rintro e w' ⟨rfl, rfl⟩) | (go_at_call 68; refine (rlen_c _ _).mono ?_; rintro e w' ⟨rfl, rfl⟩))
    go_ret2
    exact ⟨rfl, rfl⟩
theorem rfirst_c (t l : Int) :
    Calls Tryd.prog 21 #[.int .i64 t, .int .i64 l] w fun e w' => e = .returned (.tuple #[.int .i64 (Sp.first t l).1, .int .i64 ((Sp.first t l).2 : Int)]) ∧ w = w' := by
  by_cases h1 : Sp.tick t = true
  · by_cases h2 : Sp.len l = true
    · obtain ⟨a1, a2⟩ := (Sp.tick_iff t).1 h1
      obtain ⟨b1, b2⟩ := (Sp.len_iff l).1 h2
      have c1 : 0 ≤ t * l := Int.mul_nonneg a1 (by omega)
      have c2 : t * l ≤ 1073741824 * 1000 := Int.mul_le_mul a2 b2 (by omega) (by omega)
      by_cases h3 : 1073741824 < t * l
      · have hv : Sp.first t l = (0, 1) := if_neg (by simp [Sp.tick]; omega)
        rw [hv]; clear hv
        go_enter Tryd.func21, Tryd.ntmps21
        go_wp2_with (first | (go_at_call 67; refine (rtick_c _ _).mono ?_; rintro e w' ⟨rfl, rfl⟩) | (go_at_call 68; refine (rlen_c _ _).mono ?_; rintro e w' ⟨rfl, rfl⟩))
        go_ret2
        exact ⟨rfl, rfl⟩
      · have h3' : t * l ≤ 1073741824 := by omega
        have hv : Sp.first t l = (t * l, 0) := if_pos ⟨h1, h2, by simp [Sp.tick, c1, h3']⟩
        rw [hv]; clear hv
        go_enter Tryd.func21, Tryd.ntmps21
        go_wp2_with (first | (go_at_call 67; refine (rtick_c _ _).mono ?_; rintro e w' ⟨rfl, rfl⟩) | (go_at_call 68; refine (rlen_c _ _).mono ?_; rintro e w' ⟨rfl, rfl⟩))
        go_ret2
        exact ⟨rfl, rfl⟩
    · have hv : Sp.first t l = (0, 1) := if_neg (by simp [h2])
      rw [hv]; clear hv
      have h3 : Sp.len l = false := by simpa using h2
      clear h2
      go_enter Tryd.func21, Tryd.ntmps21
      go_wp2_with (first | (go_at_call 67; refine (rtick_c _ _).mono ?_; rintro e w' ⟨rfl, rfl⟩) | (go_at_call 68; refine (rlen_c _ _).mono ?_; rintro e w' ⟨rfl, rfl⟩))
      go_ret2
      exact ⟨rfl, rfl⟩
  · have hv : Sp.first t l = (0, 1) := if_neg (by simp [h1])
    rw [hv]; clear hv
    have h3 : Sp.tick t = false := by simpa using h1
    clear h1
    go_enter Tryd.func21, Tryd.ntmps21
    go_wp2_with (first | (go_at_call 67; refine (rtick_c _ _).mono ?_; rintro e w' ⟨rfl, rfl⟩) | (go_at_call 68; refine (rlen_c _ _).mono ?_; rintro e w' ⟨rfl, rfl⟩))
    go_ret2
    exact ⟨rfl, rfl⟩
theorem ropen_c (v now : Int) : Calls Tryd.prog 25 #[.int .i64 v, .int .i64 now] w fun e w' => e = .returned (.bool (Sp.open_ v now)) ∧ w = w' := by
  cases h1 : Sp.tick v
  · go_enter Tryd.func25, Tryd.ntmps25
    go_wp2_with (first | (go_at_call 67; refine (rtick_c _ _).mono ?_; rintro e w' ⟨rfl, rfl⟩) | (go_at_call 68; refine (rlen_c _ _).mono ?_; rintro e w' ⟨rfl, rfl⟩))
    go_ret
    exact ⟨ret_bool (by simp [Sp.open_, h1]), rfl⟩
  · obtain ⟨a1, a2⟩ := (Sp.tick_iff v).1 h1
    cases h2 : Sp.tick now
    · go_enter Tryd.func25, Tryd.ntmps25
      go_wp2_with (first | (go_at_call 67; refine (rtick_c _ _).mono ?_; rintro e w' ⟨rfl, rfl⟩) | (go_at_call 68; refine (rlen_c _ _).mono ?_; rintro e w' ⟨rfl, rfl⟩))
      go_ret
      exact ⟨ret_bool (by simp [Sp.open_, h2]), rfl⟩
    · obtain ⟨b1, b2⟩ := (Sp.tick_iff now).1 h2
      by_cases h3 : now ≤ v
      · go_enter Tryd.func25, Tryd.ntmps25
        go_wp2_with (first | (go_at_call 67; refine (rtick_c _ _).mono ?_; rintro e w' ⟨rfl, rfl⟩) | (go_at_call 68; refine (rlen_c _ _).mono ?_; rintro e w' ⟨rfl, rfl⟩))
        go_ret
        exact ⟨ret_bool (by simp [Sp.open_, h1, h2, h3]), rfl⟩
      · have hd : decide (now ≤ v) = false := by simpa using h3
        go_enter Tryd.func25, Tryd.ntmps25
        go_wp2_with (first | (go_at_call 67; refine (rtick_c _ _).mono ?_; rintro e w' ⟨rfl, rfl⟩) | (go_at_call 68; refine (rlen_c _ _).mono ?_; rintro e w' ⟨rfl, rfl⟩))
        go_ret
        exact ⟨ret_bool (by simp [Sp.open_]; omega), rfl⟩
set_option maxRecDepth 100000 in
theorem rrow_ok (now : Int) (n : Nat) (h1 : Sp.tick now = true) (h2 : 1 ≤ n) (h3 : n ≤ 8) (h4 : Sp.tick (now + n - 1) = true) :
    Calls Tryd.prog 23 #[.int .i64 now, .int .i64 (n : Int)] w fun e w' => ∃ v, e = .returned (.tuple #[v, .int .i64 0]) ∧ w'.ownsRow w.heap.size 3 1 v n ((List.range n).map fun (i : Nat) => Value.int .i64 (now + (i : Int))) ∧ Below w.heap.size w w' := by
  obtain ⟨a1, a2⟩ := (Sp.tick_iff now).1 h1
  obtain ⟨i0, hi, hz0, hz1, hz2⟩ := info_parts (show (Tryd.prog.info? 3).map (fun i => (i.zero, i.size, i.bytes)) = some (some (.int .i64 0), 1, 8) by kernel_rfl)
  obtain ⟨B, hB⟩ : ∃ B, B = w.heap.size := ⟨_, rfl⟩
  have HB := Lib.hid hB
  rw [← hB]
  clear hB
  go_enter Tryd.func23, Tryd.ntmps23
  go_wp2_with (first | (go_at_call 67; refine (rtick_c _ _).mono ?_; rintro e w' ⟨rfl, rfl⟩) | (go_at_call 68; refine (rlen_c _ _).mono ?_; rintro e w' ⟨rfl, rfl⟩))
  go_loopw [6, 7] (fun v i wr => ∃ k : Nat, k ≤ n ∧ i = .int .i64 k ∧ wr.ownsRow B 3 1 v k ((List.range k).map fun (i : Nat) => Value.int .i64 (now + (i : Int))) ∧ Below B w wr) (fun _ i _ => n - (intOf i).toNat)
  case atStart => exact ⟨0, Nat.zero_le _, rfl, own_empty (by rw [HB.out]; exact Nat.le_refl _) , (Below.refl _ _).alloc (by rw [HB.out]; exact Nat.le_refl _) _⟩
  case round =>
    obtain ⟨k, hk, rfl, hown, hnx⟩ := hrel
    have hsz := hnx.size
    rw [← HB.out] at hsz
    by_cases hlt : k < n
    · go_wp2_with (first
        | (at_builtin; refine wpList_app1 rfl _ _ 29 rfl B 3 i0 (.int .i64 0) 1 8 Tryd.underlying29 hi hz0 hz1 hz2 rfl (by decide) _ _ _ rfl hown _ rfl ?c1 ?c2 ?c3 ?c4 ?c5 ?_))
      case c1 => rfl
      case c2 => simp [Value.oneCell']
      case c3 => unfold maxLen; omega
      case c4 => omega
      case c5 => exact hsz
      intro v' w1 hown' hg _
      have hnx' := below_app hnx hsz (Nat.le_refl _) hown hg
      clear hown hnx hg
      go_wp2
      go_roundw
      case rel => exact ⟨k + 1, by omega, by go_num, by rw [map_range_succ]; exact hown', hnx'⟩
      case measure => simp [intOf]; omega
    · obtain rfl : k = n := by omega
      go_wp2
      go_ret2
      exact ⟨_, rfl, hown, hnx⟩
theorem rrow_bad (now n : Int) (h : Sp.rowOk now n = false) :
    Calls Tryd.prog 23 #[.int .i64 now, .int .i64 n] w fun e w' => e = .returned (.tuple #[.slice none 0 0, .int .i64 1]) ∧ w = w' := by
  cases h1 : Sp.tick now
  · clear h
    go_enter Tryd.func23, Tryd.ntmps23
    go_wp2_with (first | (go_at_call 67; refine (rtick_c _ _).mono ?_; rintro e w' ⟨rfl, rfl⟩) | (go_at_call 68; refine (rlen_c _ _).mono ?_; rintro e w' ⟨rfl, rfl⟩))
    go_ret2
    exact ⟨rfl, rfl⟩
  · obtain ⟨a1, a2⟩ := (Sp.tick_iff now).1 h1
    by_cases h2 : n < 1
    · clear h
      go_enter Tryd.func23, Tryd.ntmps23
      go_wp2_with (first | (go_at_call 67; refine (rtick_c _ _).mono ?_; rintro e w' ⟨rfl, rfl⟩) | (go_at_call 68; refine (rlen_c _ _).mono ?_; rintro e w' ⟨rfl, rfl⟩))
      go_ret2
      exact ⟨rfl, rfl⟩
    · have h2' : 1 ≤ n := by omega
      have hd2 : decide (n < 1) = false := by simpa using h2'
      by_cases h3 : 8 < n
      · clear h h2
        go_enter Tryd.func23, Tryd.ntmps23
        go_wp2_with (first | (go_at_call 67; refine (rtick_c _ _).mono ?_; rintro e w' ⟨rfl, rfl⟩) | (go_at_call 68; refine (rlen_c _ _).mono ?_; rintro e w' ⟨rfl, rfl⟩))
        go_ret2
        exact ⟨rfl, rfl⟩
      · have h3' : n ≤ 8 := by omega
        have hd3 : decide (8 < n) = false := by simpa using h3'
        have h4 : Sp.tick (now + n - 1) = false := by simpa [Sp.rowOk, h1, h2', h3'] using h
        clear h h2 h3
        go_enter Tryd.func23, Tryd.ntmps23
        go_wp2_with (first | (go_at_call 67; refine (rtick_c _ _).mono ?_; rintro e w' ⟨rfl, rfl⟩) | (go_at_call 68; refine (rlen_c _ _).mono ?_; rintro e w' ⟨rfl, rfl⟩))
        go_ret2
        exact ⟨rfl, rfl⟩
set_option maxRecDepth 100000 in
theorem awake09_c (E : Nat → Addr) (hA : w.cell? ⟨0, 0, none⟩ = some (erV E 1)) :
    Calls Tryd.prog 13 #[] w fun e w' => e = .returned (.bool true) ∧ Below w.heap.size w w' := by
  have e1 : Sp.at_ 25 10 = (2, 0) := by decide
  have e2 : Sp.left 25 10 = (5, 0) := by decide
  have e3 : Sp.open_ 10 3 = true := by decide
  have e4 : Sp.open_ 11 3 = false := by decide
  have e0 : erV E 0 = .nilIface := rfl
  go_enter Tryd.func13, Tryd.ntmps13
  go_wp2_with fail
  refine (at_c _ E ?_ 25 10).mono ?_
  exact hA
  rintro e w' ⟨rfl, n1, rfl⟩
  go_wp2_with fail
  refine (left_c _ E ?_ 25 10).mono ?_
  exact hA
  rintro e w' ⟨rfl, n2, rfl⟩
  go_wp2_with fail
  refine (row_ok _ 3 2 (by decide) (by omega) (by omega) (by decide)).mono ?_
  rintro e w1 ⟨v, rfl, hown, hb⟩
  obtain ⟨g, cap, rfl, hcap, hbg, hgl, hcell⟩ := own_open hown (by omega)
  have hc1 : w1.cell? ⟨g, 1, none⟩ = some (.int .i64 4) := hcell 1 _ rfl
  clear hcell hown
  go_wp2_with (first | (go_at_call 19; refine (open_c _ _ _).mono ?_; rintro e w' ⟨rfl, rfl⟩))
  go_ret
  exact ⟨rfl, (below_drewN (Below.refl _ _) _).trans hb⟩
end
end Go.Proofs.YtdlcdlbaeomfcaaDoor
