/-
  SpanRows: the walk.
-/
import Derived.Test.YtdlcdlbaeomfcaaDoorSpanTicks
import Derived.Deep.RegionHeld3
namespace Go.Proofs.YtdlcdlbaeomfcaaDoor
open Go.RowKit

namespace Sp
theorem rowOk_iff (now n : Int) : rowOk now n = true ↔ tick now = true ∧ 1 ≤ n ∧ n ≤ 8 ∧ tick (now + n - 1) = true := by
  simp [rowOk, and_assoc]
theorem open_in (now : Int) (n i : Nat) (h1 : tick now = true) (h2 : i < n) (h3 : n ≤ 8) (h4 : tick (now + n - 1) = true) : open_ (now + i) now = true := by
  obtain ⟨a1, a2⟩ := (tick_iff now).1 h1
  obtain ⟨b1, b2⟩ := (tick_iff _).1 h4
  simp [open_, tick]
  omega
theorem open_pred (now : Int) : open_ (now - 1) now = false := by
  simp [open_]
  omega
theorem open_eight (now : Int) : open_ (now + 8) now = false := by
  simp [open_]
  omega
end Sp

set_option maxRecDepth 100000 in
theorem spanRows_walk (now n : Int) (E : Nat → Addr) (w : World) (hE : Errs w.heap.size w [1] E) :
    Calls Tryd.prog 4 #[.int .i64 now, .int .i64 n] w fun e w' => e = .returned (.bool true) ∧ Below w.heap.size w w' := by
  have HE := Lib.hid hE
  clear hE
  cases hok : Sp.rowOk now n
  · have HO := Lib.hid hok
    clear hok
    go_enter Tryd.func4, Tryd.ntmps4
    go_wp2_with fail
    refine (awake09_c _ E (HE.out.var 1 (by simp)).2).mono ?_
    rintro e w1 ⟨rfl, hb1⟩
    have hA1 : w1.cell? ⟨0, 0, none⟩ = some (erV E 1) := ((HE.out.below hb1).var 1 (by simp)).2
    go_wp2_with fail
    refine (row_bad _ E hA1 now n HO.out).mono ?_
    rintro e w' ⟨rfl, m1, rfl⟩
    go_wp2_with fail
    refine (is_erV (S := [1]) _ ((HE.out.below hb1).drewN m1) 1 1 (.inr (by simp)) (by simp)).mono ?_
    rintro e w' ⟨rfl, rfl⟩
    go_wp2_with fail
    go_ret
    exact ⟨rfl, hb1.trans (below_drewN (Below.refl _ _) _)⟩
  · obtain ⟨h1, h2, h3, h4⟩ := (Sp.rowOk_iff now n).1 hok
    obtain ⟨N, rfl⟩ := Int.eq_ofNat_of_zero_le (show 0 ≤ n by omega)
    have HO : Hid (∀ i : Nat, i < N → Sp.open_ (now + i) now = true) := fun i hi => Sp.open_in now N i h1 hi (by omega) h4
    obtain ⟨a1, a2⟩ := (Sp.tick_iff now).1 h1
    have o1 := Sp.open_pred now
    have o2 := Sp.open_eight now
    have HT := Lib.hid h4
    clear hok h4
    go_enter Tryd.func4, Tryd.ntmps4
    go_wp2_with fail
    refine (awake09_c _ E (HE.out.var 1 (by simp)).2).mono ?_
    rintro e w1 ⟨rfl, hb1⟩
    go_wp2_with fail
    refine (row_ok w1 now N h1 (by omega) (by omega) HT.out).mono ?_
    rintro e w2 ⟨v, rfl, hown, hb2⟩
    obtain ⟨g, cap, rfl, hcap, hbg, hgl, hcell⟩ := own_open hown (by omega)
    have hb : Below w.heap.size w w2 := hb1.trans (hb2.mono hb1.size)
    have HC : Hid (∀ i : Nat, i < N → w2.cell? ⟨g, i, none⟩ = some (.int .i64 (now + i))) := fun i hi => hcell i _ (by simp [hi])
    clear hcell hown
    go_wp2_with fail
    go_loop [7] (fun i => ∃ k : Nat, k ≤ N ∧ i = .int .i64 k) (fun i => N - (intOf i).toNat)
    case atStart => exact ⟨0, by omega, rfl⟩
    case round =>
      obtain ⟨k, hk, rfl⟩ := hrel
      by_cases hlt : k < N
      · have hc := HC.out k hlt
        have ho := HO.out k hlt
        go_wp2_with (first | (go_at_call 19; refine (open_c _ _ _).mono ?_; rintro e w' ⟨rfl, rfl⟩))
        go_round
        case rel => exact ⟨k + 1, by omega, by go_num⟩
        case measure => simp [intOf]; omega
      · obtain rfl : k = N := by omega
        go_wp2_with (first | (go_at_call 19; refine (open_c _ _ _).mono ?_; rintro e w' ⟨rfl, rfl⟩))
        go_ret
        exact ⟨rfl, hb⟩
end Go.Proofs.YtdlcdlbaeomfcaaDoor
