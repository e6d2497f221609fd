/-
  SpanTicks: the plain law and the walk.
-/
import Derived.Test.YtdlcdlbaeomfcaaDoorSpanB
import Derived.Test.YtdlcdlbaeomfcaaDoorIs
namespace Go.Proofs.YtdlcdlbaeomfcaaDoor
open Go.RowKit

theorem umod_range (x m : Int) (hm : 0 < m) (hm2 : m ≤ 4611686018427387904) : 0 ≤ wrap64 ((IntKind.u64.wrap x).tmod m) ∧ wrap64 ((IntKind.u64.wrap x).tmod m) < m := by
  have h0 : 0 ≤ IntKind.u64.wrap x := by simp [IntKind.wrap, IntKind.signed, IntKind.bits]; omega
  rw [Int.tmod_eq_emod_of_nonneg h0]
  have h1 : 0 ≤ (IntKind.u64.wrap x) % m := Int.emod_nonneg _ (by omega)
  have h2 : (IntKind.u64.wrap x) % m < m := Int.emod_lt_of_pos _ hm
  unfold wrap64
  omega

theorem ticks_law (t n : Int) (h1 : 0 ≤ t) (h2 : t < 1073739824) (h3 : 1 ≤ n) (h4 : n ≤ 1000) :
    ∃ q f k x y : Int, Sp.at_ t n = (q, 0) ∧ Sp.first q n = (f, 0) ∧ Sp.left t n = (k, 0) ∧ Sp.at_ (t + 1) n = (x, 0) ∧ Sp.first (q + 1) n = (y, 0) ∧
      0 ≤ q ∧ q ≤ 1073741824 ∧ 0 ≤ f ∧ f ≤ t ∧ t - f < n ∧ t + k = y ∧ 1 ≤ k ∧ k ≤ n ∧ (k = 1 → x = q + 1) ∧ (1 < k → x = q) := by
  have hl : Sp.len n = true := (Sp.len_iff n).2 ⟨h3, h4⟩
  have hq0 : 0 ≤ t / n := Int.ediv_nonneg h1 (by omega)
  have hd := Int.mul_ediv_add_emod t n
  have hr0 : 0 ≤ t % n := Int.emod_nonneg t (by omega)
  have hr1 : t % n < n := Int.emod_lt_of_pos t (by omega)
  have hmul : n * (t / n) = (t / n) * n := Int.mul_comm _ _
  have hq1 : t / n ≤ t := Int.ediv_le_self n h1
  have hf0 : 0 ≤ (t / n) * n := Int.mul_nonneg hq0 (by omega)
  have hs : (t / n + 1) * n = (t / n) * n + n := by rw [Int.add_mul]; omega
  refine ⟨t / n, (t / n) * n, n - t % n, (t + 1) / n, (t / n + 1) * n, ?_, ?_, ?_, ?_, ?_, hq0, by omega, by omega, by omega, by omega, by omega, by omega, by omega, ?_, ?_⟩
  · exact if_pos ⟨(Sp.tick_iff _).2 ⟨h1, by omega⟩, hl⟩
  · exact if_pos ⟨(Sp.tick_iff _).2 ⟨hq0, by omega⟩, hl, (Sp.tick_iff _).2 ⟨by omega, by omega⟩⟩
  · exact if_pos ⟨(Sp.tick_iff _).2 ⟨h1, by omega⟩, hl⟩
  · exact if_pos ⟨(Sp.tick_iff _).2 ⟨by omega, by omega⟩, hl⟩
  · exact if_pos ⟨(Sp.tick_iff _).2 ⟨by omega, by omega⟩, hl, (Sp.tick_iff _).2 ⟨by omega, by omega⟩⟩
  · intro hk
    have : t + 1 = n * (t / n + 1) := by rw [Int.mul_add]; omega
    rw [this, Int.mul_ediv_cancel_left _ (by omega)]
  · intro hk
    have : t + 1 = (t % n + 1) + n * (t / n) := by omega
    rw [this, Int.add_mul_ediv_left _ _ (by omega), Int.ediv_eq_zero_of_lt (by omega) (by omega)]
    omega

set_option maxRecDepth 100000 in
theorem spanTicks_walk (tick length : Int) (E : Nat → Addr) (w : World) (hE : Errs w.heap.size w [1] E) :
    Calls Tryd.prog 3 #[.int .i64 tick, .int .i64 length] w fun e w' => e = .returned (.bool true) ∧ Below w.heap.size w w' := by
  go_enter Tryd.func3, Tryd.ntmps3
  go_wp2_with fail
  refine (awake09_c _ E (hE.var 1 (by simp)).2).mono ?_
  rintro e w1 ⟨rfl, hb1⟩
  have hA1 : w1.cell? ⟨0, 0, none⟩ = some (erV E 1) := ((hE.below hb1).var 1 (by simp)).2
  clear hE
  go_wp2_with fail
  obtain ⟨l1, l2⟩ := umod_range length 1000 (by omega) (by omega)
  rw [show wrap64 (1 + wrap64 ((IntKind.u64.wrap length).tmod 1000)) = 1 + wrap64 ((IntKind.u64.wrap length).tmod 1000) by unfold wrap64 at *; omega]
  obtain ⟨t1, t2⟩ := umod_range tick 1073739824 (by omega) (by omega)
  generalize wrap64 ((IntKind.u64.wrap tick).tmod 1073739824) = t at *
  generalize wrap64 ((IntKind.u64.wrap length).tmod 1000) = l at *
  obtain ⟨n, hn⟩ : ∃ n, n = 1 + l := ⟨_, rfl⟩
  rw [← hn]
  have n1 : 1 ≤ n := by omega
  have n2 : n ≤ 1000 := by omega
  clear hn l1 l2
  obtain ⟨q, f, k, x, y, e1, e2, e3, e4, e5, q0, q1, f0, f1, f2, hy, k0, k1, hx1, hx2⟩ := ticks_law t n t1 t2 n1 n2
  have e0 : erV E 0 = .nilIface := rfl
  subst hy
  have HX1 := Lib.hid hx1
  have HX2 := Lib.hid hx2
  clear hx1 hx2
  refine (at_c _ E ?_ t n).mono ?_
  exact hA1
  rintro e w' ⟨rfl, m1, rfl⟩
  go_wp2_with fail
  refine (first_c _ E ?_ q n).mono ?_
  exact hA1
  rintro e w' ⟨rfl, m2, rfl⟩
  go_wp2_with fail
  refine (left_c _ E ?_ t n).mono ?_
  exact hA1
  rintro e w' ⟨rfl, m3, rfl⟩
  go_wp2_with fail
  refine (at_c _ E ?_ (t + 1) n).mono ?_
  exact hA1
  rintro e w' ⟨rfl, m4, rfl⟩
  go_wp2_with fail
  refine (first_c _ E ?_ (q + 1) n).mono ?_
  exact hA1
  rintro e w' ⟨rfl, m5, rfl⟩
  by_cases hk : k = 1
  · obtain rfl := HX1.out hk
    subst hk
    go_wp2_with fail
    go_ret
    exact ⟨rfl, hb1.trans (below_drewN (Below.refl _ _) _)⟩
  · have hk2 : 1 < k := by omega
    obtain rfl := HX2.out hk2
    have hd : (k == 1) = false := by simpa using hk
    clear hk
    go_wp2_with fail
    go_ret
    exact ⟨rfl, hb1.trans (below_drewN (Below.refl _ _) _)⟩
end Go.Proofs.YtdlcdlbaeomfcaaDoor
