/-
  SpanExact: the walk.
-/
import Derived.Test.YtdlcdlbaeomfcaaDoorSpanRows
import Derived.Test.YtdlcdlbaeomfcaaDoorKind09
namespace Go.Proofs.YtdlcdlbaeomfcaaDoor
open Go.RowKit

namespace Sp
theorem at_le (a b : Int) : (at_ a b).2 ≤ 14 := by unfold at_; split <;> simp
theorem first_le (a b : Int) : (first a b).2 ≤ 14 := by unfold first; split <;> simp
theorem left_le (a b : Int) : (left a b).2 ≤ 14 := by unfold left; split <;> simp
end Sp

set_option maxRecDepth 100000 in
set_option maxHeartbeats 1000000 in
theorem spanExact_bad (a b : Int) (E : Nat → Addr) (w : World) (hE : Errs w.heap.size w allKinds E) (hok : Sp.rowOk a b = false) : 
    Calls Tryd.prog 5 #[.int .i64 a, .int .i64 b] w fun e w' => e = .returned (.bool true) ∧ Below w.heap.size w w' := by
  have HE := Lib.hid hE
  clear hE
  have HO := Lib.hid hok
  clear hok
  have m1 := mem_allKinds (k := 1) (by omega) (by omega)
  go_enter Tryd.func5, Tryd.ntmps5
  go_wp2_with fail
  refine (awake09_c _ E (HE.out.var 1 m1).2).mono ?_
  rintro e w1 ⟨rfl, hb1⟩
  have hA1 : w1.cell? ⟨0, 0, none⟩ = some (erV E 1) := ((HE.out.below hb1).var 1 m1).2
  go_wp2_with fail
  refine (at_c _ E ?_ a b).mono ?_
  exact hA1
  rintro e w' ⟨rfl, n1, rfl⟩
  go_wp2_with fail
  refine (first_c _ E ?_ a b).mono ?_
  exact hA1
  rintro e w' ⟨rfl, n2, rfl⟩
  go_wp2_with fail
  refine (left_c _ E ?_ a b).mono ?_
  exact hA1
  rintro e w' ⟨rfl, n3, rfl⟩
  go_wp2_with fail
  refine (row_bad _ E ?_ a b HO.out).mono ?_
  exact hA1
  rintro e w' ⟨rfl, n4, rfl⟩
  go_wp2_with fail
  refine (rat_c _ a b).mono ?_
  rintro e w' ⟨rfl, rfl⟩
  go_wp2_with fail
  refine (rfirst_c _ a b).mono ?_
  rintro e w' ⟨rfl, rfl⟩
  go_wp2_with fail
  refine (rleft_c _ a b).mono ?_
  rintro e w' ⟨rfl, rfl⟩
  go_wp2_with fail
  refine (rrow_bad _ a b HO.out).mono ?_
  rintro e w' ⟨rfl, rfl⟩
  go_wp2_with fail
  obtain ⟨W, hW⟩ : ∃ W, W = w1.drewN (n1 + n2 + n3 + n4) := ⟨_, rfl⟩
  rw [← hW]
  have hbW : Below w.heap.size w W := by rw [hW]; exact hb1.trans (below_drewN (Below.refl _ _) _)
  clear hW
  refine (kind09_c W hbW.size (HE.out.below hbW) _ (Sp.at_le a b)).mono ?_
  rintro e W1 ⟨rfl, hk1⟩
  have hbW1 := hbW.trans (hk1.mono hbW.size)
  go_wp2_with fail
  refine (kind09_c W1 hbW1.size (HE.out.below hbW1) _ (Sp.first_le a b)).mono ?_
  rintro e W2 ⟨rfl, hk2⟩
  have hbW2 := hbW1.trans (hk2.mono hbW1.size)
  go_wp2_with fail
  refine (kind09_c W2 hbW2.size (HE.out.below hbW2) _ (Sp.left_le a b)).mono ?_
  rintro e W3 ⟨rfl, hk3⟩
  have hbW3 := hbW2.trans (hk3.mono hbW2.size)
  go_wp2_with fail
  refine (kind09_c W3 hbW3.size (HE.out.below hbW3) 1 (by omega)).mono ?_
  rintro e W4 ⟨rfl, hk4⟩
  have hbW4 := hbW3.trans (hk4.mono hbW3.size)
  go_wp2_with (first | (go_at_call 19; refine (open_c _ _ _).mono ?_; rintro e w' ⟨rfl, rfl⟩) | (go_at_call 25; refine (ropen_c _ _ _).mono ?_; rintro e w' ⟨rfl, rfl⟩))
  refine wp_loop_rounds 1 ?_
  rw [rounds_succ]
  go_wp2_with fail
  go_ret
  exact ⟨rfl, hbW4⟩

set_option maxRecDepth 100000 in
set_option maxHeartbeats 1000000 in
theorem spanExact_good (a : Int) (N : Nat) (E : Nat → Addr) (w : World) (hE : Errs w.heap.size w allKinds E) (h1 : Sp.tick a = true) (h2 : 1 ≤ N) (h3 : N ≤ 8) (h4 : Sp.tick (a + N - 1) = true) : 
    Calls Tryd.prog 5 #[.int .i64 a, .int .i64 (N : Int)] w fun e w' => e = .returned (.bool true) ∧ Below w.heap.size w w' := by
  have HE := Lib.hid hE
  clear hE
  have HT := Lib.hid h4
  have HT1 := Lib.hid h1
  have e0 : erV E 0 = .nilIface := rfl
  clear h4 h1
  have m1 := mem_allKinds (k := 1) (by omega) (by omega)
  go_enter Tryd.func5, Tryd.ntmps5
  go_wp2_with fail
  refine (awake09_c _ E (HE.out.var 1 m1).2).mono ?_
  rintro e w1 ⟨rfl, hb1⟩
  have hA1 : w1.cell? ⟨0, 0, none⟩ = some (erV E 1) := ((HE.out.below hb1).var 1 m1).2
  go_wp2_with fail
  refine (at_c _ E ?_ a (N : Int)).mono ?_
  exact hA1
  rintro e w' ⟨rfl, n1, rfl⟩
  go_wp2_with fail
  refine (first_c _ E ?_ a (N : Int)).mono ?_
  exact hA1
  rintro e w' ⟨rfl, n2, rfl⟩
  go_wp2_with fail
  refine (left_c _ E ?_ a (N : Int)).mono ?_
  exact hA1
  rintro e w' ⟨rfl, n3, rfl⟩
  go_wp2_with fail
  refine (row_ok _ a N HT1.out h2 h3 HT.out).mono ?_
  rintro e w2 ⟨v, rfl, hown, hb2⟩
  obtain ⟨g, cap, rfl, hcap, hbg, hgl, hcell⟩ := own_open hown (by omega)
  have hb2' : Below w.heap.size w w2 := (hb1.trans (below_drewN (Below.refl _ _) _)).trans (hb2.mono hb1.size)
  have HC : Hid (∀ i : Nat, i < N → w2.cell? ⟨g, i, none⟩ = some (.int .i64 (a + i))) := fun i hi => hcell i _ (by simp [hi])
  clear hcell hown
  go_wp2_with fail
  refine (rat_c _ a (N : Int)).mono ?_
  rintro e w' ⟨rfl, rfl⟩
  go_wp2_with fail
  refine (rfirst_c _ a (N : Int)).mono ?_
  rintro e w' ⟨rfl, rfl⟩
  go_wp2_with fail
  refine (rleft_c _ a (N : Int)).mono ?_
  rintro e w' ⟨rfl, rfl⟩
  go_wp2_with fail
  refine (rrow_ok _ a N HT1.out h2 h3 HT.out).mono ?_
  rintro e W ⟨v', rfl, hown', hb3⟩
  obtain ⟨g', cap', rfl, hcap', hbg', hgl', hcell'⟩ := own_open hown' (by omega)
  have hbW : Below w.heap.size w W := hb2'.trans (hb3.mono hb2'.size)
  have HC' : Hid (∀ i : Nat, i < N → W.cell? ⟨g', i, none⟩ = some (.int .i64 (a + i))) := fun i hi => hcell' i _ (by simp [hi])
  have HC2 : Hid (∀ i : Nat, i < N → W.cell? ⟨g, i, none⟩ = some (.int .i64 (a + i))) := fun i hi => (hb3.cell (p := ⟨g, i, none⟩) hgl).trans (HC.out i hi)
  clear hcell' hown' HC
  go_wp2_with fail
  refine (kind09_c W hbW.size (HE.out.below hbW) _ (Sp.at_le a (N : Int))).mono ?_
  rintro e W1 ⟨rfl, hk1⟩
  have hbW1 := hbW.trans (hk1.mono hbW.size)
  go_wp2_with fail
  refine (kind09_c W1 hbW1.size (HE.out.below hbW1) _ (Sp.first_le a (N : Int))).mono ?_
  rintro e W2 ⟨rfl, hk2⟩
  have hbW2 := hbW1.trans (hk2.mono hbW1.size)
  go_wp2_with fail
  refine (kind09_c W2 hbW2.size (HE.out.below hbW2) _ (Sp.left_le a (N : Int))).mono ?_
  rintro e W3 ⟨rfl, hk3⟩
  have hbW3 := hbW2.trans (hk3.mono hbW2.size)
  go_wp2_with fail
  refine (kind09_nil W3 hbW3.size (HE.out.below hbW3)).mono ?_
  rintro e W4 ⟨rfl, hk4⟩
  have hbW4 := hbW3.trans (hk4.mono hbW3.size)
  have hk : Below W.heap.size W W4 := ((hk1.trans (hk2.mono hk1.size)).trans (hk3.mono (Nat.le_trans hk1.size hk2.size))).trans (hk4.mono (Nat.le_trans (Nat.le_trans hk1.size hk2.size) hk3.size))
  go_wp2_with (first | (go_at_call 19; refine (open_c _ _ _).mono ?_; rintro e w' ⟨rfl, rfl⟩) | (go_at_call 25; refine (ropen_c _ _ _).mono ?_; rintro e w' ⟨rfl, rfl⟩))
  go_loopw [21] (fun i wr => ∃ k m : Nat, k ≤ N ∧ i = .int .i64 k ∧ wr = W4.drewN m) (fun i _ => N - (intOf i).toNat)
  case atStart => exact ⟨0, 0, by omega, rfl, rfl⟩
  case round =>
    obtain ⟨k, m, hk', rfl, rfl⟩ := hrel
    by_cases hlt : k < N
    · have c1 : W4.cell? ⟨g, k, none⟩ = some (.int .i64 (a + k)) := (hk.cell (p := ⟨g, k, none⟩) (Nat.lt_of_lt_of_le hgl hb3.size)).trans (HC2.out k hlt)
      have c2 : W4.cell? ⟨g', k, none⟩ = some (.int .i64 (a + k)) := (hk.cell (p := ⟨g', k, none⟩) hgl').trans (HC'.out k hlt)
      go_wp2_with fail
      go_quiet (fail)
      go_wp2_with fail
      go_roundw
      case rel => exact ⟨k + 1, _, by omega, by go_num, rfl⟩
      case measure => simp [intOf]; omega
    · obtain rfl : k = N := by omega
      go_wp2_with fail
      go_ret
      exact ⟨rfl, below_drewN hbW4 _⟩

theorem spanExact_walk (a b : Int) (E : Nat → Addr) (w : World) (hE : Errs w.heap.size w allKinds E) :
    Calls Tryd.prog 5 #[.int .i64 a, .int .i64 b] w fun e w' => e = .returned (.bool true) ∧ Below w.heap.size w w' := by
  cases hok : Sp.rowOk a b
  · exact spanExact_bad a b E w hE hok
  · obtain ⟨h1, h2, h3, h4⟩ := (Sp.rowOk_iff a b).1 hok
    obtain ⟨N, rfl⟩ := Int.eq_ofNat_of_zero_le (show 0 ≤ b by omega)
    exact spanExact_good a N E w hE h1 (by omega) (by omega) h4
end Go.Proofs.YtdlcdlbaeomfcaaDoor
