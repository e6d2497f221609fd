/-
  book.Order: the order in which orders count; the binary search.
-/
import Derived.Test.YtdebldpmloignaaDoorSlOrd
namespace Go.Proofs.YtdebldpmloignaaDoor
open Go.RowKit
set_option linter.unusedVariables false
set_option linter.unusedSimpArgs false

/-- Which of two numbers is the less. -/
def cmpI (a b : Int) : Int := if a < b then -1 else if b < a then 1 else 0
set_option maxRecDepth 100000 in
theorem isNaN_c (a : Int) (w : World) : Calls Tryd.prog 113 #[.int .i64 a] w fun e w' => e = .returned (.bool false) ∧ w = w' := by
  go_enter Tryd.func113, Tryd.ntmps113
  go_wp2_with fail
  go_ret
  exact ⟨rfl, rfl⟩
set_option maxRecDepth 100000 in
theorem ccmp_c (a b : Int) (w : World) : Calls Tryd.prog 100 #[.int .i64 a, .int .i64 b] w fun e w' => e = .returned (.int .i64 (cmpI a b)) ∧ w = w' := by
  have h : (a < b ∧ cmpI a b = -1) ∨ (¬ a < b ∧ b < a ∧ cmpI a b = 1) ∨ (¬ a < b ∧ ¬ b < a ∧ cmpI a b = 0) := by unfold cmpI; split <;> (try split) <;> omega
  rcases h with ⟨h1, he⟩ | ⟨h1, h2, he⟩ | ⟨h1, h2, he⟩
  · rw [he]
    clear he
    have d1 : decide (a < b) = true := decide_eq_true h1
    clear h1
    go_enter Tryd.func100, Tryd.ntmps100
    go_wp2_with fail
    refine (isNaN_c a w).mono ?_
    rintro e y ⟨rfl, rfl⟩
    go_wp2_with fail
    refine (isNaN_c b w).mono ?_
    rintro e y ⟨rfl, rfl⟩
    go_wp2_with fail
    go_ret
    exact ⟨rfl, rfl⟩
  · rw [he]
    clear he
    have d1 : decide (a < b) = false := decide_eq_false h1
    have d2 : decide (b < a) = true := decide_eq_true h2
    clear h1 h2
    go_enter Tryd.func100, Tryd.ntmps100
    go_wp2_with fail
    refine (isNaN_c a w).mono ?_
    rintro e y ⟨rfl, rfl⟩
    go_wp2_with fail
    refine (isNaN_c b w).mono ?_
    rintro e y ⟨rfl, rfl⟩
    go_wp2_with fail
    go_ret
    exact ⟨rfl, rfl⟩
  · rw [he]
    clear he
    have d1 : decide (a < b) = false := decide_eq_false h1
    have d2 : decide (b < a) = false := decide_eq_false h2
    clear h1 h2
    go_enter Tryd.func100, Tryd.ntmps100
    go_wp2_with fail
    refine (isNaN_c a w).mono ?_
    rintro e y ⟨rfl, rfl⟩
    go_wp2_with fail
    refine (isNaN_c b w).mono ?_
    rintro e y ⟨rfl, rfl⟩
    go_wp2_with fail
    go_ret
    exact ⟨rfl, rfl⟩
def orI (a b : Int) : Int := if a = 0 then b else a
set_option maxRecDepth 100000 in
theorem cor_c (g : Nat) (a b : Int) (w : World) (h0 : w.cell? ⟨g, 0, none⟩ = some (.int .i64 a)) (h1 : w.cell? ⟨g, 1, none⟩ = some (.int .i64 b)) : Calls Tryd.prog 101 #[.slice (some ⟨g, 0, none⟩) 2 2] w fun e w' => e = .returned (.int .i64 (orI a b)) ∧ w = w' := by
  by_cases ha : a = 0
  · have he : orI a b = b := if_pos ha
    rw [he]
    clear he
    subst ha
    by_cases hb : b = 0
    · subst hb
      go_enter Tryd.func101, Tryd.ntmps101
      go_wp2_with fail
      refine wp_loop_rounds 3 ?_
      rw [rounds_succ]
      go_wp2_with fail
      rw [rounds_succ]
      go_wp2_with fail
      rw [rounds_succ]
      go_wp2_with fail
      go_ret
      exact ⟨rfl, rfl⟩
    · have d2 : (b != 0) = true := by rw [bne_iff_ne]; exact hb
      go_enter Tryd.func101, Tryd.ntmps101
      go_wp2_with fail
      refine wp_loop_rounds 3 ?_
      rw [rounds_succ]
      go_wp2_with fail
      rw [rounds_succ]
      go_wp2_with fail
      go_ret
      exact ⟨rfl, rfl⟩
  · have he : orI a b = a := if_neg ha
    rw [he]
    clear he
    have d1 : (a != 0) = true := by rw [bne_iff_ne]; exact ha
    go_enter Tryd.func101, Tryd.ntmps101
    go_wp2_with fail
    refine wp_loop_rounds 3 ?_
    rw [rounds_succ]
    go_wp2_with fail
    go_ret
    exact ⟨rfl, rfl⟩
/-- Which of two orders of one side counts ahead. -/
def cmpO (x y : Ord) : Int := orI (if x.sell = true then cmpI x.price y.price else -cmpI x.price y.price) (cmpI x.seq y.seq)
theorem cmpI_range (a b : Int) : cmpI a b = -1 ∨ cmpI a b = 0 ∨ cmpI a b = 1 := by unfold cmpI; split <;> (try split) <;> simp
set_option maxRecDepth 100000 in
set_option maxHeartbeats 1000000 in
theorem compare_c (x y : Ord) (w : World) : Calls Tryd.prog 84 #[.agg x.cells.toArray, .agg y.cells.toArray] w fun e w' => e = .returned (.int .i64 (cmpO x y)) ∧ Below w.heap.size w w' := by
  obtain ⟨id, tenant, sell, price, lots, seq⟩ := x
  obtain ⟨id2, tenant2, sell2, price2, lots2, seq2⟩ := y
  have HO : Hid (cmpO ⟨id, tenant, sell, price, lots, seq⟩ ⟨id2, tenant2, sell2, price2, lots2, seq2⟩ = orI (if sell = true then cmpI price price2 else -cmpI price price2) (cmpI seq seq2)) := rfl
  simp only [Ord.cells]
  have hr := cmpI_range price price2
  go_enter Tryd.func84, Tryd.ntmps84
  go_wp2_with fail
  refine (ccmp_c price price2 _).mono ?_
  rintro e w1 ⟨rfl, rfl⟩
  obtain ⟨p, hp⟩ : ∃ p, p = cmpI price price2 := ⟨_, rfl⟩
  rw [← hp] at hr ⊢
  have HP := Lib.hid hp
  have e1 : wrap64 (-p) = -p := by unfold wrap64; omega
  have hlo : -1 ≤ p := by omega
  have hhi : p ≤ 1 := by omega
  clear hp hr
  obtain ⟨W, hW⟩ : ∃ W : World, W = (w.alloc (.cells #[.int .i64 id, .int .i64 tenant, .bool sell, .int .i64 price, .int .i64 lots, .int .i64 seq] 67)).alloc (.cells #[.int .i64 id2, .int .i64 tenant2, .bool sell2, .int .i64 price2, .int .i64 lots2, .int .i64 seq2] 67) := ⟨_, rfl⟩
  cases sell with
  | true =>
    go_wp2_with fail
    refine (ccmp_c seq seq2 _).mono ?_
    rintro e w1 ⟨rfl, rfl⟩
    go_wp2_with fail
    refine (cor_c _ p (cmpI seq seq2) _ ?_ ?_).mono ?_
    rotate_left 2
    · rintro e w1 ⟨rfl, rfl⟩
      go_wp2_with fail
      go_ret
      refine ⟨?_, (((Below.refl _ w).alloc (Nat.le_refl _) _).alloc (by simp) _).alloc (by simp; omega) _⟩
      rw [HO.out, HP.out]; rfl
    all_goals (go_simp; try rfl)
  | false =>
    go_wp2_with fail
    refine (ccmp_c seq seq2 _).mono ?_
    rintro e w1 ⟨rfl, rfl⟩
    go_wp2_with fail
    refine (cor_c _ (-p) (cmpI seq seq2) _ ?_ ?_).mono ?_
    rotate_left 2
    · rintro e w1 ⟨rfl, rfl⟩
      go_wp2_with fail
      go_ret
      refine ⟨?_, (((Below.refl _ w).alloc (Nat.le_refl _) _).alloc (by simp) _).alloc (by simp; omega) _⟩
      rw [HO.out, HP.out]; rfl
    all_goals (go_simp; try rfl)
end Go.Proofs.YtdebldpmloignaaDoor
