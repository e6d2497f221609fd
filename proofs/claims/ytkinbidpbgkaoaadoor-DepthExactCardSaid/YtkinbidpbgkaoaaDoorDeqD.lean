/-
  DepthExact: the walk.
-/
import Derived.Test.YtkinbidpbgkaoaaDoorDepF
import Derived.Test.YtkinbidpbgkaoaaDoorDeqC
import Derived.Deep.DeepCutAuto
namespace Go.Proofs.YtkinbidpbgkaoaaDoor
open Go.RowKit
set_option linter.unusedVariables false

theorem step_neq_same (a b c d : Int) (w : World) : (binOp .neq 92 (.agg #[.int .i64 a, .int .i64 b, .int .i64 c, .int .i64 d]) (.agg #[.int .i64 a, .int .i64 b, .int .i64 c, .int .i64 d])).run Tryd.prog w = .ok (.bool false) w := by
  have hp : Tryd.prog.stoodInHeld 92 = false := by kernel_rfl
  rw [run_neq_struct, show (10000 : Nat) = 9999 + 1 from rfl, run_equalIn_agg w 9999 92 _ _ (by kernel_rfl) hp]
  have u3 := Tryd.underlying3
  simp only [Program.fieldsOf, Tryd.underlying92]
  go_simp
set_option maxRecDepth 100000 in
set_option maxHeartbeats 1000000 in
theorem depthExact_long1 (E : Nat → Addr) (A : Option Addr) (n c : Nat) (xs : List Ord) (B : Option Addr) (m d : Nat) (ys : List Ord) (lots : Int) (w : World) (hE : Errs w.heap.size w [1] E) (hl0 : -9223372036854775808 ≤ lots) (hl1 : lots ≤ 9223372036854775807)
    (hr : Hid (RdRows w w.heap.size Ord.cells 6 A n xs)) (hr2 : Hid (RdRows w w.heap.size Ord.cells 6 B m ys)) (hcn : n ≤ c) (hcm : m ≤ d) (hn : 30 < n) :
    Calls Tryd.prog 8 #[.slice A n c, .slice B m d, .int .i64 lots] w fun e w' => e = .returned (.bool true) ∧ Below w.heap.size w w' := by
  have hd : decide ((30 : Int) < n) = true := by simp; omega
  go_enter Tryd.func8, Tryd.ntmps8
  go_wp2_with fail
  refine (awake34_c w).mono ?_
  rintro e w1 ⟨rfl, hb1⟩
  go_wp2_with fail
  go_ret
  exact ⟨rfl, hb1⟩
set_option maxRecDepth 100000 in
set_option maxHeartbeats 1000000 in
theorem depthExact_long2 (E : Nat → Addr) (A : Option Addr) (n c : Nat) (xs : List Ord) (B : Option Addr) (m d : Nat) (ys : List Ord) (lots : Int) (w : World) (hE : Errs w.heap.size w [1] E) (hl0 : -9223372036854775808 ≤ lots) (hl1 : lots ≤ 9223372036854775807)
    (hr : Hid (RdRows w w.heap.size Ord.cells 6 A n xs)) (hr2 : Hid (RdRows w w.heap.size Ord.cells 6 B m ys)) (hcn : n ≤ c) (hcm : m ≤ d) (hn : n ≤ 30) (hm : 30 < m) :
    Calls Tryd.prog 8 #[.slice A n c, .slice B m d, .int .i64 lots] w fun e w' => e = .returned (.bool true) ∧ Below w.heap.size w w' := by
  have hd : decide ((30 : Int) < n) = false := by simp; omega
  have hd2 : decide ((30 : Int) < m) = true := by simp; omega
  go_enter Tryd.func8, Tryd.ntmps8
  go_wp2_with fail
  refine (awake34_c w).mono ?_
  rintro e w1 ⟨rfl, hb1⟩
  go_wp2_with fail
  go_ret
  exact ⟨rfl, hb1⟩
set_option maxRecDepth 100000 in
set_option maxHeartbeats 2000000 in
theorem depthExact_bad (E : Nat → Addr) (A : Option Addr) (n c : Nat) (xs : List Ord) (B : Option Addr) (m d : Nat) (ys : List Ord) (lots : Int) (w : World) (hE : Errs w.heap.size w [1] E) (hl0 : -9223372036854775808 ≤ lots) (hl1 : lots ≤ 9223372036854775807)
    (hr : Hid (RdRows w w.heap.size Ord.cells 6 A n xs)) (hr2 : Hid (RdRows w w.heap.size Ord.cells 6 B m ys)) (hcn : n ≤ c) (hcm : m ≤ d) (hn : n ≤ 30) (hm : m ≤ 30) (hs : side xs = false) :
    Calls Tryd.prog 8 #[.slice A n c, .slice B m d, .int .i64 lots] w fun e w' => e = .returned (.bool true) ∧ Below w.heap.size w w' := by
  have HC : Hid (costF' xs lots = (0, 0)) := by show _ = _; unfold costF'; rw [hs]; rfl
  have HSP : Hid (spreadO xs ys = (0, false)) := by show _ = _; unfold spreadO bothO; rw [hs]; rfl
  have HS : Hid (side xs = false) := hs
  have hd : decide ((30 : Int) < n) = false := by simp; omega
  have hd2 : decide ((30 : Int) < m) = false := by simp; omega
  have hla := hr.out.1
  have hlb := hr2.out.1
  have hnM : n ≤ maxLen := by unfold maxLen; omega
  have hmM : m ≤ maxLen := by unfold maxLen; omega
  go_enter Tryd.func8, Tryd.ntmps8
  go_wp2_with fail
  refine (awake34_c w).mono ?_
  rintro e w1 ⟨rfl, hb1⟩
  have ha1 : Hid (RdRows w1 w1.heap.size Ord.cells 6 A n xs) := (hr.out.below hb1 (Nat.le_refl _)).mono hb1.size
  have hbw1 := hb1
  clear hb1
  go_wp2_with fail
  refine (forms_c A n c xs w1 ha1 (by omega)).mono ?_
  rintro e w2 ⟨v2, rfl, hown2, hb2⟩
  obtain ⟨A2, cap2, rfl, hc2, hu2⟩ := own_rows Ord.k6 hown2 hla
  have hbw2 := hbw1.trans (hb2.mono hbw1.size)
  have HU2 := Lib.hid hu2
  clear ha1 hown2 hu2 hb2 hbw1
  have hb22 : Hid (RdRows w2 w2.heap.size Ord.cells 6 B m ys) := (hr2.out.below hbw2 (Nat.le_refl _)).mono hbw2.size
  go_wp2_with fail
  refine (forms_c B m d ys w2 hb22 (by omega)).mono ?_
  rintro e w3 ⟨v3, rfl, hown3, hb3⟩
  obtain ⟨B2, cap3, rfl, hc3, hu3⟩ := own_rows Ord.k6 hown3 hlb
  have hbw3 := hbw2.trans (hb3.mono hbw2.size)
  have HV3 := Lib.hid hu3
  have HU3 : Hid (RdRows w3 w3.heap.size Ord.cells 6 A2 n xs) := (HU2.out.below hb3 (Nat.le_refl _)).mono hb3.size
  clear hb22 hown3 hu3 hb3 HU2 hbw2
  have ha3 : Hid (RdRows w3 w3.heap.size Ord.cells 6 A n xs) := (hr.out.below hbw3 (Nat.le_refl _)).mono hbw3.size
  go_wp2_with fail
  refine (steps_err E A n c xs w3 ⟨Nat.lt_of_lt_of_le (hE.var 1 (by simp)).1 hbw3.size, ((hE.below hbw3).var 1 (by simp)).2⟩ ha3 hnM hs).mono ?_
  rintro e w4 ⟨rfl, hb4⟩
  have hbw4 := hbw3.trans (hb4.mono hbw3.size)
  have HU4 : Hid (RdRows w4 w4.heap.size Ord.cells 6 A2 n xs) := (HU3.out.below hb4 (Nat.le_refl _)).mono hb4.size
  have HV4 : Hid (RdRows w4 w4.heap.size Ord.cells 6 B2 m ys) := (HV3.out.below hb4 (Nat.le_refl _)).mono hb4.size
  have ha4 : Hid (RdRows w4 w4.heap.size Ord.cells 6 A n xs) := (hr.out.below hbw4 (Nat.le_refl _)).mono hbw4.size
  clear hb4 HU3 HV3 ha3 hbw3
  go_wp2_with fail
  refine (cost_c A n c xs lots w4 hl0 hl1 ha4 hnM).mono ?_
  rintro e w5 ⟨rfl, hb5⟩
  rw [HC.out]
  have hbw5 := hbw4.trans (hb5.mono hbw4.size)
  have HU5 : Hid (RdRows w5 w5.heap.size Ord.cells 6 A2 n xs) := (HU4.out.below hb5 (Nat.le_refl _)).mono hb5.size
  have HV5 : Hid (RdRows w5 w5.heap.size Ord.cells 6 B2 m ys) := (HV4.out.below hb5 (Nat.le_refl _)).mono hb5.size
  have ha5 : Hid (RdRows w5 w5.heap.size Ord.cells 6 A n xs) := (hr.out.below hbw5 (Nat.le_refl _)).mono hbw5.size
  clear hb5 HU4 HV4 ha4 hbw4
  have hb25 : Hid (RdRows w5 w5.heap.size Ord.cells 6 B m ys) := (hr2.out.below hbw5 (Nat.le_refl _)).mono hbw5.size
  go_wp2_with fail
  refine (spread_c A n c xs B m d ys w5 ha5 hnM hb25 hmM).mono ?_
  rintro e w6 ⟨rfl, hb6⟩
  rw [HSP.out]
  clear hb25
  have hbw6 := hbw5.trans (hb6.mono hbw5.size)
  have HU6 : Hid (RdRows w6 w6.heap.size Ord.cells 6 A2 n xs) := (HU5.out.below hb6 (Nat.le_refl _)).mono hb6.size
  have HV6 : Hid (RdRows w6 w6.heap.size Ord.cells 6 B2 m ys) := (HV5.out.below hb6 (Nat.le_refl _)).mono hb6.size
  have ha6 : Hid (RdRows w6 w6.heap.size Ord.cells 6 A n xs) := (hr.out.below hbw6 (Nat.le_refl _)).mono hbw6.size
  clear hb6 HU5 HV5 ha5 hbw5
  go_wp2_with fail
  refine (rside_c A2 n cap2 xs w6 HU6 hnM).mono ?_
  rintro e w7 ⟨rfl, hb7⟩
  rw [HS.out]
  have hbw7 := hbw6.trans (hb7.mono hbw6.size)
  have HU7 : Hid (RdRows w7 w7.heap.size Ord.cells 6 A2 n xs) := (HU6.out.below hb7 (Nat.le_refl _)).mono hb7.size
  have HV7 : Hid (RdRows w7 w7.heap.size Ord.cells 6 B2 m ys) := (HV6.out.below hb7 (Nat.le_refl _)).mono hb7.size
  have ha7 : Hid (RdRows w7 w7.heap.size Ord.cells 6 A n xs) := (hr.out.below hbw7 (Nat.le_refl _)).mono hbw7.size
  clear hb7 HU6 HV6 ha6 hbw6
  have hv1 : w7.cell? ⟨0, 0, none⟩ = some (erV E 1) := ((hE.below hbw7).var 1 (by simp)).2
  have hE70 := Lib.hid (hE.below hbw7)
  clear ha7 HU7 HV7
  go_wp2_with fail
  go_quiet (fail)
  have hE7 := hE70.out.drewN nq
  go_wp2_with fail
  refine (is_erV _ hE7 1 1 (.inr (by simp)) (by simp)).mono ?_
  rintro e w8 ⟨rfl, rfl⟩
  go_wp2_with fail
  go_ret
  exact ⟨rfl, below_drewN hbw7 _⟩
set_option maxRecDepth 100000 in
set_option maxHeartbeats 2000000 in
theorem depthExact_good (E : Nat → Addr) (A : Option Addr) (n c : Nat) (xs : List Ord) (B : Option Addr) (m d : Nat) (ys : List Ord) (lots : Int) (w : World) (hE : Errs w.heap.size w [1] E) (hl0 : -9223372036854775808 ≤ lots) (hl1 : lots ≤ 9223372036854775807)
    (hr : Hid (RdRows w w.heap.size Ord.cells 6 A n xs)) (hr2 : Hid (RdRows w w.heap.size Ord.cells 6 B m ys)) (hcn : n ≤ c) (hcm : m ≤ d) (hn : n ≤ 30) (hm : m ≤ 30) (hs : side xs = true) :
    Calls Tryd.prog 8 #[.slice A n c, .slice B m d, .int .i64 lots] w fun e w' => e = .returned (.bool true) ∧ Below w.heap.size w w' := by
  have HS : Hid (side xs = true) := hs
  have hd : decide ((30 : Int) < n) = false := by simp; omega
  have hd2 : decide ((30 : Int) < m) = false := by simp; omega
  have hla := hr.out.1
  have hlb := hr2.out.1
  have hnM : n ≤ maxLen := by unfold maxLen; omega
  have hmM : m ≤ maxLen := by unfold maxLen; omega
  go_enter Tryd.func8, Tryd.ntmps8
  go_wp2_with fail
  refine (awake34_c w).mono ?_
  rintro e w1 ⟨rfl, hb1⟩
  have ha1 : Hid (RdRows w1 w1.heap.size Ord.cells 6 A n xs) := (hr.out.below hb1 (Nat.le_refl _)).mono hb1.size
  have hbw1 := hb1
  clear hb1
  go_wp2_with fail
  refine (forms_c A n c xs w1 ha1 (by omega)).mono ?_
  rintro e w2 ⟨v2, rfl, hown2, hb2⟩
  obtain ⟨A2, cap2, rfl, hc2, hu2⟩ := own_rows Ord.k6 hown2 hla
  have hbw2 := hbw1.trans (hb2.mono hbw1.size)
  have HU2 := Lib.hid hu2
  clear ha1 hown2 hu2 hb2 hbw1
  have hb22 : Hid (RdRows w2 w2.heap.size Ord.cells 6 B m ys) := (hr2.out.below hbw2 (Nat.le_refl _)).mono hbw2.size
  go_wp2_with fail
  refine (forms_c B m d ys w2 hb22 (by omega)).mono ?_
  rintro e w3 ⟨v3, rfl, hown3, hb3⟩
  obtain ⟨B2, cap3, rfl, hc3, hu3⟩ := own_rows Ord.k6 hown3 hlb
  have hbw3 := hbw2.trans (hb3.mono hbw2.size)
  have HV3 := Lib.hid hu3
  have HU3 : Hid (RdRows w3 w3.heap.size Ord.cells 6 A2 n xs) := (HU2.out.below hb3 (Nat.le_refl _)).mono hb3.size
  clear hb22 hown3 hu3 hb3 HU2 hbw2
  have ha3 : Hid (RdRows w3 w3.heap.size Ord.cells 6 A n xs) := (hr.out.below hbw3 (Nat.le_refl _)).mono hbw3.size
  go_wp2_with fail
  refine (steps_ok A n c xs w3 ha3 hnM hs).mono ?_
  rintro e w4 ⟨v4, rfl, hown4, hb4⟩
  obtain ⟨A4, cap4, rfl, hc4, hl4⟩ := own_rows Stp.k4 hown4 rfl
  have HL4 := Lib.hid hl4
  clear hown4 hl4
  have hbw4 := hbw3.trans (hb4.mono hbw3.size)
  have HU4 : Hid (RdRows w4 w4.heap.size Ord.cells 6 A2 n xs) := (HU3.out.below hb4 (Nat.le_refl _)).mono hb4.size
  have HV4 : Hid (RdRows w4 w4.heap.size Ord.cells 6 B2 m ys) := (HV3.out.below hb4 (Nat.le_refl _)).mono hb4.size
  have ha4 : Hid (RdRows w4 w4.heap.size Ord.cells 6 A n xs) := (hr.out.below hbw4 (Nat.le_refl _)).mono hbw4.size
  clear hb4 HU3 HV3 ha3 hbw3
  go_wp2_with fail
  refine (cost_c A n c xs lots w4 hl0 hl1 ha4 hnM).mono ?_
  rintro e w5 ⟨rfl, hb5⟩
  have hbw5 := hbw4.trans (hb5.mono hbw4.size)
  have HU5 : Hid (RdRows w5 w5.heap.size Ord.cells 6 A2 n xs) := (HU4.out.below hb5 (Nat.le_refl _)).mono hb5.size
  have HV5 : Hid (RdRows w5 w5.heap.size Ord.cells 6 B2 m ys) := (HV4.out.below hb5 (Nat.le_refl _)).mono hb5.size
  have ha5 : Hid (RdRows w5 w5.heap.size Ord.cells 6 A n xs) := (hr.out.below hbw5 (Nat.le_refl _)).mono hbw5.size
  have HL5 : Hid (RdRows w5 w5.heap.size Stp.cells 4 A4 (stepsO xs).length (stepsO xs)) := (HL4.out.below hb5 (Nat.le_refl _)).mono hb5.size
  clear HL4
  clear hb5 HU4 HV4 ha4 hbw4
  have hb25 : Hid (RdRows w5 w5.heap.size Ord.cells 6 B m ys) := (hr2.out.below hbw5 (Nat.le_refl _)).mono hbw5.size
  go_wp2_with fail
  refine (spread_c A n c xs B m d ys w5 ha5 hnM hb25 hmM).mono ?_
  rintro e w6 ⟨rfl, hb6⟩
  clear hb25
  have hbw6 := hbw5.trans (hb6.mono hbw5.size)
  have HU6 : Hid (RdRows w6 w6.heap.size Ord.cells 6 A2 n xs) := (HU5.out.below hb6 (Nat.le_refl _)).mono hb6.size
  have HV6 : Hid (RdRows w6 w6.heap.size Ord.cells 6 B2 m ys) := (HV5.out.below hb6 (Nat.le_refl _)).mono hb6.size
  have ha6 : Hid (RdRows w6 w6.heap.size Ord.cells 6 A n xs) := (hr.out.below hbw6 (Nat.le_refl _)).mono hbw6.size
  have HL6 : Hid (RdRows w6 w6.heap.size Stp.cells 4 A4 (stepsO xs).length (stepsO xs)) := (HL5.out.below hb6 (Nat.le_refl _)).mono hb6.size
  clear HL5
  clear hb6 HU5 HV5 ha5 hbw5
  go_wp2_with fail
  refine (rside_c A2 n cap2 xs w6 HU6 hnM).mono ?_
  rintro e w7 ⟨rfl, hb7⟩
  rw [HS.out]
  have hbw7 := hbw6.trans (hb7.mono hbw6.size)
  have HU7 : Hid (RdRows w7 w7.heap.size Ord.cells 6 A2 n xs) := (HU6.out.below hb7 (Nat.le_refl _)).mono hb7.size
  have HV7 : Hid (RdRows w7 w7.heap.size Ord.cells 6 B2 m ys) := (HV6.out.below hb7 (Nat.le_refl _)).mono hb7.size
  have ha7 : Hid (RdRows w7 w7.heap.size Ord.cells 6 A n xs) := (hr.out.below hbw7 (Nat.le_refl _)).mono hbw7.size
  have HL7 : Hid (RdRows w7 w7.heap.size Stp.cells 4 A4 (stepsO xs).length (stepsO xs)) := (HL6.out.below hb7 (Nat.le_refl _)).mono hb7.size
  clear HL6
  clear hb7 HU6 HV6 ha6 hbw6
  go_upto_region 11 with fail
  go_cut [16] (fun s16 wx => s16 = .bool (bothO xs ys) ∧ ∃ w8 : World, w8 = wx ∧ Below w7.heap.size w7 w8)
  case first =>
    have hside2 := rside_c B2 m cap3 ys w7 HV7 hmM
    cases h4 : side ys with
    | false =>
      rw [h4] at hside2
      have hbo : Hid (bothO xs ys = false) := by show _ = _; simp [bothO, h4]
      have HSV := Lib.hid hside2
      clear hside2 h4
      go_wp2_with fail
      refine HSV.out.mono ?_
      rintro e w8 ⟨rfl, hb8⟩
      go_wp2_with fail
      go_meet
      exact ⟨by rw [hbo.out], _, rfl, hb8⟩
    | true =>
      rw [h4] at hside2
      have HSV := Lib.hid hside2
      clear hside2
      by_cases hn0 : n = 0
      · have hbo : Hid (bothO xs ys = false) := by show _ = _; simp [bothO, hla, hn0]
        have hdn : decide ((0 : Int) < n) = false := by simp; omega
        have hdn' : decide (0 < n) = false := by simp; omega
        have hdn2 : ¬ 0 < n := by omega
        clear h4 hn0
        go_wp2_with fail
        refine HSV.out.mono ?_
        rintro e w8 ⟨rfl, hb8⟩
        go_wp2_with fail
        go_meet
        exact ⟨by rw [hbo.out], _, rfl, hb8⟩
      have hdn : decide ((0 : Int) < n) = true := by simp; omega
      by_cases hm0 : m = 0
      · have hbo : Hid (bothO xs ys = false) := by show _ = _; simp [bothO, hlb, hm0]
        have hdm : decide ((0 : Int) < m) = false := by simp; omega
        have hdm' : decide (0 < m) = false := by simp; omega
        have hdm2 : ¬ 0 < m := by omega
        have n0n : 0 < n := by omega
        clear h4 hm0 hn0
        go_wp2_with fail
        refine HSV.out.mono ?_
        rintro e w8 ⟨rfl, hb8⟩
        go_wp2_with fail
        go_meet
        exact ⟨by rw [hbo.out], _, rfl, hb8⟩
      have hdm : decide ((0 : Int) < m) = true := by simp; omega
      obtain ⟨ba, oa, hAe, hba, hra⟩ := hr.out.2 (by omega)
      obtain ⟨bb, ob, hBe, hbb, hrb⟩ := hr2.out.2 (by omega)
      subst hAe
      subst hBe
      obtain ⟨x, hx, hxs, hxp⟩ := head_get (l := xs) (by omega)
      obtain ⟨y, hy, hys, hyp⟩ := head_get (l := ys) (by omega)
      have hCA : Hid (∀ w2, Below w.heap.size w w2 → w2.cell? ⟨ba, oa + 2, none⟩ = some (.bool (headB xs))) := fun w2 hb => by
        rw [hxs]
        have r := rangeAt_below (hra 0 x hx) hb hba
        rw [Nat.zero_mul, Nat.add_zero] at r
        exact r 2 _ rfl
      have hCB : Hid (∀ w2, Below w.heap.size w w2 → w2.cell? ⟨bb, ob + 2, none⟩ = some (.bool (headB ys))) := fun w2 hb => by
        rw [hys]
        have r := rangeAt_below (hrb 0 y hy) hb hbb
        rw [Nat.zero_mul, Nat.add_zero] at r
        exact r 2 _ rfl
      have n0i : (0 : Int) < n := by omega
      have m0i : (0 : Int) < m := by omega
      have n0n : 0 < n := by omega
      have m0n : 0 < m := by omega
      have hbo : Hid (bothO xs ys = (headB xs && !headB ys)) := by show _ = _; simp [bothO, hla, hlb, hs, h4, n0n, m0n]
      clear hra hrb hx hy hxs hxp hys hyp h4 hn0 hm0
      generalize headB xs = sx at hCA hbo
      generalize headB ys = sy at hCB hbo
      cases sx <;> cases sy <;> (
        go_wp2_with fail
        refine HSV.out.mono ?_
        rintro e w8 ⟨rfl, hb8⟩
        have hbw8 := hbw7.trans (hb8.mono hbw7.size)
        have cA := hCA.out w8 hbw8
        have cB := hCB.out w8 hbw8
        go_wp2_with fail
        go_meet
        exact ⟨by rw [hbo.out]; rfl, _, rfl, hb8⟩)
  case rest =>
    obtain ⟨rfl, w8, rfl, hb8⟩ := hcut
    cases hbo : bothO xs ys with
    | false =>
      have hsp : spreadO xs ys = (0, false) := by simp [spreadO, hbo]
      rw [hsp]
      clear hsp hbo
      go_wp2_with fail
      go_quiet (fail)
      obtain ⟨w9, hw9⟩ : ∃ Z : World, Z = w8.drewN nq := ⟨_, rfl⟩
      rw [← hw9]
      have hb9 : Below w7.heap.size w7 w9 := by rw [hw9]; exact below_drewN hb8 _
      clear hw9
      have hbw9 := hbw7.trans (hb9.mono hbw7.size)
      have HU9 : Hid (RdRows w9 w9.heap.size Ord.cells 6 A2 n xs) := (HU7.out.below hb9 (Nat.le_refl _)).mono hb9.size
      have HL9 : Hid (RdRows w9 w9.heap.size Stp.cells 4 A4 (stepsO xs).length (stepsO xs)) := (HL7.out.below hb9 (Nat.le_refl _)).mono hb9.size
      clear hb8 hb9 HU7 HV7 ha7 HL7 hbw7
      go_wp2_with fail
      refine (rsteps_c A2 n cap2 xs w9 HU9 hnM hs).mono ?_
      rintro e w10 ⟨v10, rfl, hown10, hb10⟩
      obtain ⟨A10, cap10, rfl, hc10, hl10⟩ := own_rows Stp.k4 hown10 rfl
      have HW10 := Lib.hid hl10
      have hbw10 := hbw9.trans (hb10.mono hbw9.size)
      have HU10 : Hid (RdRows w10 w10.heap.size Ord.cells 6 A2 n xs) := (HU9.out.below hb10 (Nat.le_refl _)).mono hb10.size
      have HL10 : Hid (RdRows w10 w10.heap.size Stp.cells 4 A4 (stepsO xs).length (stepsO xs)) := (HL9.out.below hb10 (Nat.le_refl _)).mono hb10.size
      clear hown10 hl10 hb10 HU9 HL9 hbw9
      go_wp2_with fail
      refine (rcost_c A2 n cap2 xs lots w10 hl0 hl1 HU10 hnM hs).mono ?_
      rintro e w11 ⟨rfl, hb11⟩
      have HW11 : Hid (RdRows w11 w11.heap.size Stp.cells 4 A10 (stepsO xs).length (stepsO xs)) := (HW10.out.below hb11 (Nat.le_refl _)).mono hb11.size
      have HL11 : Hid (RdRows w11 w11.heap.size Stp.cells 4 A4 (stepsO xs).length (stepsO xs)) := (HL10.out.below hb11 (Nat.le_refl _)).mono hb11.size
      have hbw11 := hbw10.trans (hb11.mono hbw10.size)
      clear hb11 HU10 HL10 HW10 hbw10
      generalize costF' xs lots = cc
      have hNs : (stepsO xs).length ≤ 30 := by
        have := (stepsOk_to xs (okO_of_side hs).2 xs.length (Nat.le_refl _)).1
        rw [foldTo_all] at this
        have h2 : (stepsO xs).length ≤ xs.length := this
        omega
      generalize stepsO xs = so at HW11 HL11 hNs ⊢
      go_wp2_with fail
      go_loopw [20] (fun s20 wx => ∃ (k : Nat) (wz : World), wz = wx ∧ k ≤ so.length ∧ s20 = .int .i64 k ∧ Below w11.heap.size w11 wz) (fun s20 _ => so.length - (intOf s20).toNat)
      case atStart => exact ⟨0, _, rfl, Nat.zero_le _, rfl, Below.refl _ _⟩
      case round =>
        obtain ⟨k, wz, rfl, hk, rfl, hbl⟩ := hrel
        by_cases hkl : k < so.length
        · obtain ⟨b1, o1, hA1, hb1, hr1⟩ := HL11.out.2 (by omega)
          obtain ⟨b2, o2, hA2, hb2, hr2'⟩ := HW11.out.2 (by omega)
          subst hA1
          subst hA2
          obtain ⟨x, hx⟩ : ∃ x, so[k]? = some x := ⟨_, List.getElem?_eq_getElem hkl⟩
          have r1 := rangeAt_below (hr1 k x hx) hbl hb1
          have r2 := rangeAt_below (hr2' k x hx) hbl hb2
          obtain ⟨a0, a1, a2, a3⟩ := x
          have c0 : wz.cell? ⟨b1, o1 + k * 4, none⟩ = some (.int .i64 a0) := r1 0 _ rfl
          have c1 : wz.cell? ⟨b1, o1 + k * 4 + 1, none⟩ = some (.int .i64 a1) := r1 1 _ rfl
          have c2 : wz.cell? ⟨b1, o1 + k * 4 + 2, none⟩ = some (.int .i64 a2) := r1 2 _ rfl
          have c3 : wz.cell? ⟨b1, o1 + k * 4 + 3, none⟩ = some (.int .i64 a3) := r1 3 _ rfl
          have e0 : wz.cell? ⟨b2, o2 + k * 4, none⟩ = some (.int .i64 a0) := r2 0 _ rfl
          have e1 : wz.cell? ⟨b2, o2 + k * 4 + 1, none⟩ = some (.int .i64 a1) := r2 1 _ rfl
          have e2 : wz.cell? ⟨b2, o2 + k * 4 + 2, none⟩ = some (.int .i64 a2) := r2 2 _ rfl
          have e3 : wz.cell? ⟨b2, o2 + k * 4 + 3, none⟩ = some (.int .i64 a3) := r2 3 _ rfl
          have hne := fun w => step_neq_same a0 a1 a2 a3 w
          have hgd := step_guard .neq
          clear hr1 hr2' hx r1 r2
          go_wp2_with fail
          go_quiet (fail)
          go_wp2_with fail
          go_roundw
          case rel => exact ⟨k + 1, _, rfl, by omega, by go_num, below_drewN hbl _⟩
          case measure => simp [intOf]; omega
        · obtain rfl : k = so.length := by omega
          go_wp2_with fail
          go_ret
          exact ⟨rfl, hbw11.trans (hbl.mono hbw11.size)⟩
    | true =>
      have hsp : spreadO xs ys = (headP xs - headP ys, true) := by simp [spreadO, hbo]
      rw [hsp]
      have hbo2 := hbo
      simp only [bothO, Bool.and_eq_true, decide_eq_true_eq] at hbo2
      obtain ⟨⟨⟨⟨⟨hs1, hs2⟩, hs3⟩, hs4⟩, _⟩, _⟩ := hbo2
      obtain ⟨pa1, pa2⟩ := headP_range hs3 hs1
      obtain ⟨pb1, pb2⟩ := headP_range hs4 hs2
      have hwr : wrap64 (headP xs - headP ys) = headP xs - headP ys := by unfold wrap64; omega
      obtain ⟨ba, oa, hAe, hba, hra⟩ := hr.out.2 (by omega)
      obtain ⟨bb, ob, hBe, hbb, hrb⟩ := hr2.out.2 (by omega)
      subst hAe
      subst hBe
      obtain ⟨x, hx, hxs, hxp⟩ := head_get (l := xs) (by omega)
      obtain ⟨y, hy, hys, hyp⟩ := head_get (l := ys) (by omega)
      have hbw8 := hbw7.trans (hb8.mono hbw7.size)
      have cA : w8.cell? ⟨ba, oa + 3, none⟩ = some (.int .i64 (headP xs)) := by
        rw [hxp]
        have r := rangeAt_below (hra 0 x hx) hbw8 hba
        rw [Nat.zero_mul, Nat.add_zero] at r
        exact r 3 _ rfl
      have cB : w8.cell? ⟨bb, ob + 3, none⟩ = some (.int .i64 (headP ys)) := by
        rw [hyp]
        have r := rangeAt_below (hrb 0 y hy) hbw8 hbb
        rw [Nat.zero_mul, Nat.add_zero] at r
        exact r 3 _ rfl
      have n0i : (0 : Int) < n := by omega
      have m0i : (0 : Int) < m := by omega
      have n0n : 0 < n := by omega
      have m0n : 0 < m := by omega
      clear hra hrb hx hy hxs hxp hys hyp hsp hbo hs1 hs2 pa1 pa2 pb1 pb2 hbw8
      go_wp2_with fail
      go_quiet (fail)
      obtain ⟨w9, hw9⟩ : ∃ Z : World, Z = w8.drewN nq := ⟨_, rfl⟩
      rw [← hw9]
      have hb9 : Below w7.heap.size w7 w9 := by rw [hw9]; exact below_drewN hb8 _
      clear hw9
      have hbw9 := hbw7.trans (hb9.mono hbw7.size)
      have HU9 : Hid (RdRows w9 w9.heap.size Ord.cells 6 A2 n xs) := (HU7.out.below hb9 (Nat.le_refl _)).mono hb9.size
      have HL9 : Hid (RdRows w9 w9.heap.size Stp.cells 4 A4 (stepsO xs).length (stepsO xs)) := (HL7.out.below hb9 (Nat.le_refl _)).mono hb9.size
      clear hb8 hb9 HU7 HV7 ha7 HL7 hbw7
      go_wp2_with fail
      refine (rsteps_c A2 n cap2 xs w9 HU9 hnM hs).mono ?_
      rintro e w10 ⟨v10, rfl, hown10, hb10⟩
      obtain ⟨A10, cap10, rfl, hc10, hl10⟩ := own_rows Stp.k4 hown10 rfl
      have HW10 := Lib.hid hl10
      have hbw10 := hbw9.trans (hb10.mono hbw9.size)
      have HU10 : Hid (RdRows w10 w10.heap.size Ord.cells 6 A2 n xs) := (HU9.out.below hb10 (Nat.le_refl _)).mono hb10.size
      have HL10 : Hid (RdRows w10 w10.heap.size Stp.cells 4 A4 (stepsO xs).length (stepsO xs)) := (HL9.out.below hb10 (Nat.le_refl _)).mono hb10.size
      clear hown10 hl10 hb10 HU9 HL9 hbw9
      go_wp2_with fail
      refine (rcost_c A2 n cap2 xs lots w10 hl0 hl1 HU10 hnM hs).mono ?_
      rintro e w11 ⟨rfl, hb11⟩
      have HW11 : Hid (RdRows w11 w11.heap.size Stp.cells 4 A10 (stepsO xs).length (stepsO xs)) := (HW10.out.below hb11 (Nat.le_refl _)).mono hb11.size
      have HL11 : Hid (RdRows w11 w11.heap.size Stp.cells 4 A4 (stepsO xs).length (stepsO xs)) := (HL10.out.below hb11 (Nat.le_refl _)).mono hb11.size
      have hbw11 := hbw10.trans (hb11.mono hbw10.size)
      clear hb11 HU10 HL10 HW10 hbw10
      generalize costF' xs lots = cc
      have hNs : (stepsO xs).length ≤ 30 := by
        have := (stepsOk_to xs (okO_of_side hs).2 xs.length (Nat.le_refl _)).1
        rw [foldTo_all] at this
        have h2 : (stepsO xs).length ≤ xs.length := this
        omega
      generalize stepsO xs = so at HW11 HL11 hNs ⊢
      go_wp2_with fail
      go_loopw [20] (fun s20 wx => ∃ (k : Nat) (wz : World), wz = wx ∧ k ≤ so.length ∧ s20 = .int .i64 k ∧ Below w11.heap.size w11 wz) (fun s20 _ => so.length - (intOf s20).toNat)
      case atStart => exact ⟨0, _, rfl, Nat.zero_le _, rfl, Below.refl _ _⟩
      case round =>
        obtain ⟨k, wz, rfl, hk, rfl, hbl⟩ := hrel
        by_cases hkl : k < so.length
        · obtain ⟨b1, o1, hA1, hb1, hr1⟩ := HL11.out.2 (by omega)
          obtain ⟨b2, o2, hA2, hb2, hr2'⟩ := HW11.out.2 (by omega)
          subst hA1
          subst hA2
          obtain ⟨x, hx⟩ : ∃ x, so[k]? = some x := ⟨_, List.getElem?_eq_getElem hkl⟩
          have r1 := rangeAt_below (hr1 k x hx) hbl hb1
          have r2 := rangeAt_below (hr2' k x hx) hbl hb2
          obtain ⟨a0, a1, a2, a3⟩ := x
          have c0 : wz.cell? ⟨b1, o1 + k * 4, none⟩ = some (.int .i64 a0) := r1 0 _ rfl
          have c1 : wz.cell? ⟨b1, o1 + k * 4 + 1, none⟩ = some (.int .i64 a1) := r1 1 _ rfl
          have c2 : wz.cell? ⟨b1, o1 + k * 4 + 2, none⟩ = some (.int .i64 a2) := r1 2 _ rfl
          have c3 : wz.cell? ⟨b1, o1 + k * 4 + 3, none⟩ = some (.int .i64 a3) := r1 3 _ rfl
          have e0 : wz.cell? ⟨b2, o2 + k * 4, none⟩ = some (.int .i64 a0) := r2 0 _ rfl
          have e1 : wz.cell? ⟨b2, o2 + k * 4 + 1, none⟩ = some (.int .i64 a1) := r2 1 _ rfl
          have e2 : wz.cell? ⟨b2, o2 + k * 4 + 2, none⟩ = some (.int .i64 a2) := r2 2 _ rfl
          have e3 : wz.cell? ⟨b2, o2 + k * 4 + 3, none⟩ = some (.int .i64 a3) := r2 3 _ rfl
          have hne := fun w => step_neq_same a0 a1 a2 a3 w
          have hgd := step_guard .neq
          clear hr1 hr2' hx r1 r2
          go_wp2_with fail
          go_quiet (fail)
          go_wp2_with fail
          go_roundw
          case rel => exact ⟨k + 1, _, rfl, by omega, by go_num, below_drewN hbl _⟩
          case measure => simp [intOf]; omega
        · obtain rfl : k = so.length := by omega
          go_wp2_with fail
          go_ret
          exact ⟨rfl, hbw11.trans (hbl.mono hbw11.size)⟩
theorem depthExact_walk (E : Nat → Addr) (A : Option Addr) (n c : Nat) (xs : List Ord) (B : Option Addr) (m d : Nat) (ys : List Ord) (lots : Int) (w : World) (hE : Errs w.heap.size w [1] E) (hl0 : -9223372036854775808 ≤ lots) (hl1 : lots ≤ 9223372036854775807)
    (hr : Hid (RdRows w w.heap.size Ord.cells 6 A n xs)) (hr2 : Hid (RdRows w w.heap.size Ord.cells 6 B m ys)) (hcn : n ≤ c) (hcm : m ≤ d) :
    Calls Tryd.prog 8 #[.slice A n c, .slice B m d, .int .i64 lots] w fun e w' => e = .returned (.bool true) ∧ Below w.heap.size w w' := by
  by_cases hn : n ≤ 30
  · by_cases hm : m ≤ 30
    · cases hs : side xs with
      | false => exact depthExact_bad E A n c xs B m d ys lots w hE hl0 hl1 hr hr2 hcn hcm hn hm hs
      | true => exact depthExact_good E A n c xs B m d ys lots w hE hl0 hl1 hr hr2 hcn hcm hn hm hs
    · exact depthExact_long2 E A n c xs B m d ys lots w hE hl0 hl1 hr hr2 hcn hcm hn (by omega)
  · exact depthExact_long1 E A n c xs B m d ys lots w hE hl0 hl1 hr hr2 hcn hcm (by omega)
end Go.Proofs.YtkinbidpbgkaoaaDoor
