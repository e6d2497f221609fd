/-
  wire: the nil reader's Vec; the law WireReads.
-/
import Derived.Test.YtdebldpmloignaaDoorWirS
import Derived.Test.YtdebldpmloignaaDoorLaidW
import Derived.Test.YtdebldpmloignaaDoorWirP2
import Derived.Deep.CutRange
import Derived.Deep.CutBlock
namespace Go.Proofs.YtdebldpmloignaaDoor
open Go.RowKit
set_option linter.unusedVariables false

set_option maxRecDepth 100000 in
set_option maxHeartbeats 4000000 in
theorem ivec_nil (E : Nat → Addr) (w : World) (hE : w.cell? ⟨0, 0, none⟩ = some (erV E 2)) : Calls Tryd.prog 26 #[.pointer none] w fun e w' => e = .returned (vecV 0 0 0 0) ∧ Below w.heap.size w w' := by
  have hNL := World.block_lt_of_cell? w ⟨0, 0, none⟩ hE
  have HEN : Hid (∀ w', Below w.heap.size w w' → w'.cell? ⟨0, 0, none⟩ = some (erV E 2)) := fun w' hb => (hb.cell hNL).trans hE
  obtain ⟨V, hV⟩ : ∃ V, V = w.heap.size + 1 := ⟨_, rfl⟩
  obtain ⟨R, hR⟩ : ∃ R, R = w.heap.size := ⟨_, rfl⟩
  have HRV : Hid (¬ R = V) := by show ¬ _; omega
  have HVW : Hid (w.heap.size ≤ V) := by show _ ≤ _; omega
  have HRW : Hid (w.heap.size ≤ R) := by show _ ≤ _; omega
  clear hE hNL
  go_enter Tryd.func26, Tryd.ntmps26
  go_wp2_with fail
  obtain ⟨v0, hv0⟩ : ∃ v0, v0 = (w.alloc (.cells #[.int .i64 0, .int .i64 0, .int .i64 0, .int .i64 0] 43)).alloc (.cells #[.int .i64 0, .int .i64 0, .int .i64 0, .int .i64 0] 43) := ⟨_, rfl⟩
  have HV0 : Hid (Blk v0 V #[.int .i64 0, .int .i64 0, .int .i64 0, .int .i64 0] 43) := by
    show Blk _ _ _ _
    rw [hv0, hV]
    have := Blk.new (w.alloc (.cells #[.int .i64 0, .int .i64 0, .int .i64 0, .int .i64 0] 43)) #[.int .i64 0, .int .i64 0, .int .i64 0, .int .i64 0] 43
    simpa using this
  have HRB0 : Hid (Blk v0 R #[.int .i64 0, .int .i64 0, .int .i64 0, .int .i64 0] 43) := by
    show Blk _ _ _ _
    rw [hv0, hR]
    exact (Blk.new w #[.int .i64 0, .int .i64 0, .int .i64 0, .int .i64 0] 43).below ((Below.refl _ _).alloc (Nat.le_refl _) _)
  have HB0 : Hid (Below w.heap.size w v0) := by show Below _ _ _; rw [hv0]; exact ((Below.refl _ w).alloc (Nat.le_refl _) _).alloc (by simp) _
  rw [← hV, ← hR, ← hv0]
  clear hV hR hv0
  refine wp_loop_rounds 5 ?_
  rw [rounds_succ]
  go_wp2_with fail
  refine (iint_nil v0).mono ?_
  rintro e y ⟨rfl, rfl⟩
  have f0 := HV0.out.free 0
  have c0 := HV0.out.cell 0 _ rfl
  go_wp2_with fail
  obtain ⟨v1, hv1⟩ : ∃ Z, Z = v0.setCell ⟨V, 0, none⟩ (.int .i64 0) := ⟨_, rfl⟩
  have htt : Turns (fun k => k = V) v0 v1 := by rw [hv1]; exact Turns.set (F := fun k => k = V) rfl
  have HV1 : Hid (Blk v1 V #[.int .i64 0, .int .i64 0, .int .i64 0, .int .i64 0] 43) := by show Blk _ _ _ _; rw [hv1]; exact HV0.out.set 0 _
  have HRB1 := Lib.hid (htt.blk HRB0.out HRV.out)
  have HB1 : Hid (Below w.heap.size w v1) := HB0.out.trans (htt.below HB0.out.size (fun k hk => by rw [hk]; exact HVW.out))
  rw [← hv1]
  clear htt hv1 HV0 HRB0 HB0 c0 f0
  rw [rounds_succ]
  go_wp2_with fail
  refine (iint_nil v1).mono ?_
  rintro e y ⟨rfl, rfl⟩
  have f1 := HV1.out.free 1
  have c1 := HV1.out.cell 1 _ rfl
  go_wp2_with fail
  obtain ⟨v2, hv2⟩ : ∃ Z, Z = v1.setCell ⟨V, 1, none⟩ (.int .i64 0) := ⟨_, rfl⟩
  have htt : Turns (fun k => k = V) v1 v2 := by rw [hv2]; exact Turns.set (F := fun k => k = V) rfl
  have HV2 : Hid (Blk v2 V #[.int .i64 0, .int .i64 0, .int .i64 0, .int .i64 0] 43) := by show Blk _ _ _ _; rw [hv2]; exact HV1.out.set 1 _
  have HRB2 := Lib.hid (htt.blk HRB1.out HRV.out)
  have HB2 : Hid (Below w.heap.size w v2) := HB1.out.trans (htt.below HB1.out.size (fun k hk => by rw [hk]; exact HVW.out))
  rw [← hv2]
  clear htt hv2 HV1 HRB1 HB1 c1 f1
  rw [rounds_succ]
  go_wp2_with fail
  refine (iint_nil v2).mono ?_
  rintro e y ⟨rfl, rfl⟩
  have f2 := HV2.out.free 2
  have c2 := HV2.out.cell 2 _ rfl
  go_wp2_with fail
  obtain ⟨v3, hv3⟩ : ∃ Z, Z = v2.setCell ⟨V, 2, none⟩ (.int .i64 0) := ⟨_, rfl⟩
  have htt : Turns (fun k => k = V) v2 v3 := by rw [hv3]; exact Turns.set (F := fun k => k = V) rfl
  have HV3 : Hid (Blk v3 V #[.int .i64 0, .int .i64 0, .int .i64 0, .int .i64 0] 43) := by show Blk _ _ _ _; rw [hv3]; exact HV2.out.set 2 _
  have HRB3 := Lib.hid (htt.blk HRB2.out HRV.out)
  have HB3 : Hid (Below w.heap.size w v3) := HB2.out.trans (htt.below HB2.out.size (fun k hk => by rw [hk]; exact HVW.out))
  rw [← hv3]
  clear htt hv3 HV2 HRB2 HB2 c2 f2
  rw [rounds_succ]
  go_wp2_with fail
  refine (iint_nil v3).mono ?_
  rintro e y ⟨rfl, rfl⟩
  have f3 := HV3.out.free 3
  have c3 := HV3.out.cell 3 _ rfl
  go_wp2_with fail
  obtain ⟨v4, hv4⟩ : ∃ Z, Z = v3.setCell ⟨V, 3, none⟩ (.int .i64 0) := ⟨_, rfl⟩
  have htt : Turns (fun k => k = V) v3 v4 := by rw [hv4]; exact Turns.set (F := fun k => k = V) rfl
  have HV4 : Hid (Blk v4 V #[.int .i64 0, .int .i64 0, .int .i64 0, .int .i64 0] 43) := by show Blk _ _ _ _; rw [hv4]; exact HV3.out.set 3 _
  have HRB4 := Lib.hid (htt.blk HRB3.out HRV.out)
  have HB4 : Hid (Below w.heap.size w v4) := HB3.out.trans (htt.below HB3.out.size (fun k hk => by rw [hk]; exact HVW.out))
  rw [← hv4]
  clear htt hv4 HV3 HRB3 HB3 c3 f3
  rw [rounds_succ]
  have HERR := Lib.hid (err_nil E v4 (HEN.out _ HB4.out))
  rw [erV_some E 2 (by decide)] at HERR
  go_wp2_with fail
  refine HERR.out.mono ?_
  rintro e y ⟨rfl, rfl⟩
  have r0 := HRB4.out.cell 0 _ rfl
  have r1 := HRB4.out.cell 1 _ rfl
  have r2 := HRB4.out.cell 2 _ rfl
  have r3 := HRB4.out.cell 3 _ rfl
  have k0 := HRB4.out.free 0
  have k1 := HRB4.out.free 1
  have k2 := HRB4.out.free 2
  have k3 := HRB4.out.free 3
  have HW5 := Lib.hid (set4 HRB4.out (.int .i64 0) (.int .i64 0) (.int .i64 0) (.int .i64 0))
  have HFIN : Hid (∀ w', Turns (fun k => k = R) v4 w' → Below w.heap.size w w') := fun w' ht => HB4.out.trans (ht.below HB4.out.size (fun k hk => by rw [hk]; exact HRW.out))
  go_wp2_with fail
  exact bodyPost_row Tryd.results26 rfl R rfl #[.int .i64 0, .int .i64 0, .int .i64 0, .int .i64 0] 43 (0, 0) HW5.out.1 _ Tryd.underlying43 rfl 4 sizeVec rfl ⟨rfl, HFIN.out _ HW5.out.2⟩
theorem InV.fault {w : World} {E : Nat → Addr} {q : Nat} {s : ByteArray} {pos g z : Nat} (h : InV w E q s pos (faultV g) (some z)) : Blk w g #[.string RD, .int .i64 z, erV E 3] 133 := by
  obtain ⟨g', h1, h2⟩ := h.er_some
  have e : g = g' := by unfold faultV at h1; simpa using h1
  rw [e]
  exact h2
set_option maxRecDepth 100000 in
set_option maxHeartbeats 8000000 in
theorem wireReads_walk (E : Nat → Addr) (B : Nat) (s : ByteArray) (A : Option Addr) (len cap : Nat) (ds : List Wact) (w : World) (hE : Hid (Env w E B)) (hz : Hid (RdRows w w.heap.size Wact.cells 8 A len ds)) (hcap : len ≤ cap) (hcm : cap ≤ maxLen) :
    Calls Tryd.prog 4 #[.string s, .slice A len cap] w fun e w' => e = .returned (.bool true) ∧ Below w.heap.size w w' := by
  have hlM : (len : Int) ≤ 9223372036854775807 := by unfold maxLen at hcm; omega
  have HENV : Hid (∀ w', Below w.heap.size w w' → ErrForm w' E) := fun w' hb => (hE.out.below (hb.mono hE.out.low)).form
  have HEN : Hid (∀ w', Below w.heap.size w w' → Env w' E B) := fun w' hb => hE.out.below (hb.mono hE.out.low)
  by_cases hs : (1024 : Int) < (s.size : Int)
  · go_enter Tryd.func4, Tryd.ntmps4
    go_wp2_with fail
    refine (awake03_c E B w hE).mono ?_
    rintro e w1 ⟨rfl, hb1⟩
    have HB1 := Lib.hid hb1
    clear hb1
    go_wp2_with fail
    go_ret
    exact ⟨rfl, HB1.out⟩
  · have hsz : s.size ≤ 1024 := by omega
    have HSM : Hid (s.size ≤ 1000000) := Nat.le_trans hsz (by decide)
    have HNL : Hid (∀ w', Below w.heap.size w w' → w'.cell? ⟨0, 0, none⟩ = some (.iface 202 (.pointer (some (E 2))))) := fun w' hb => by rw [← erV_some E 2 (by decide)]; exact (HEN.out w' hb).nil
    have HERN : Hid (∀ W, Below w.heap.size w W → Calls Tryd.prog 18 #[.pointer none] W fun e w' => e = .returned (.iface 202 (.pointer (some (E 2)))) ∧ W = w') := fun W hb => by rw [← erV_some E 2 (by decide)]; exact err_nil E W (HEN.out W hb).nil
    have HEDN : Hid (∀ W, Below w.heap.size w W → Calls Tryd.prog 21 #[.pointer none] W fun e w' => e = .returned (.iface 202 (.pointer (some (E 2)))) ∧ W = w') := fun W hb => by rw [← erV_some E 2 (by decide)]; exact iend_nil E W (HEN.out W hb).nil
    have HIS : Hid (∀ W, Below w.heap.size w W → Calls Tryd.prog 31 #[.iface 202 (.pointer (some (E 2))), .iface 202 (.pointer (some (E 2)))] W fun e w' => e = .returned (.bool true) ∧ W = w') := fun W hb => by
      have h := is_erV W (HEN.out W hb).errs 2 2 (.inr (by simp)) (by simp)
      rw [erV_some E 2 (by decide)] at h
      exact h
    clear hsz
    go_enter Tryd.func4, Tryd.ntmps4
    go_wp2_with fail
    refine (awake03_c E B w hE).mono ?_
    rintro e w1 ⟨rfl, hb1⟩
    have HB1 := Lib.hid hb1
    clear hb1
    go_wp2_with fail
    refine (of_c E s w1).mono ?_
    rintro e w2 ⟨rfl, hi2, hb2⟩
    obtain ⟨q, hq⟩ : ∃ q, q = w1.heap.size := ⟨_, rfl⟩
    rw [← hq] at hi2 ⊢
    have HWQ : Hid (w.heap.size ≤ q) := by show _ ≤ _; rw [hq]; exact HB1.out.size
    have HB2 : Hid (Below w.heap.size w w2) := HB1.out.trans (hb2.mono HB1.out.size)
    have HI2 := Lib.hid hi2
    clear hq hb2 hi2 hs HB1
    go_wp2_with fail
    refine (rof_c s w2).mono ?_
    rintro e w3 ⟨rfl, hr3, hb3⟩
    obtain ⟨u, hu⟩ : ∃ u, u = w2.heap.size := ⟨_, rfl⟩
    rw [← hu] at hr3 ⊢
    have HQU : Hid (¬ q = u) := by have := HI2.out.blk.lt; show ¬ _; omega
    have HUQ : Hid (¬ u = q) := fun e => HQU.out e.symm
    have HWU : Hid (w.heap.size ≤ u) := by show _ ≤ _; rw [hu]; exact HB2.out.size
    have HI3 := Lib.hid (HI2.out.below hb3)
    have HB3 : Hid (Below w.heap.size w w3) := HB2.out.trans (hb3.mono HB2.out.size)
    have HR3 := Lib.hid hr3
    clear hu hb3 hr3 HI2 HB2
    go_wp2_with fail
    go_loopw [7, 8, 9] (fun s7 _ _ wx => ∃ (k : Nat) (p : St) (W0 : World), W0 = wx ∧ k ≤ 40 ∧ k ≤ len ∧ s7 = .int .i64 k ∧ Hid (InW W0 E q s p) ∧ Hid (RefV W0 u s p) ∧ Hid (Below w.heap.size w W0)) (fun s7 _ _ _ => 40 - (intOf s7).toNat)
    case atStart => exact ⟨0, (0, none), _, rfl, by omega, by omega, rfl, ⟨_, HI3.out⟩, HR3, HB3⟩
    case round =>
      obtain ⟨k, ⟨pos, bad⟩, W0, rfl, hk, hkl, rfl, HI00, HR0, HB0⟩ := hrel
      clear HI3 HR3 HB3
      obtain ⟨er, hi0⟩ := HI00.out
      have HI0 : Hid (InV W0 E q s pos er bad) := hi0
      clear hi0 HI00
      by_cases h1 : k < len
      · by_cases h2 : k < 40
        · obtain ⟨bb, off, rfl, hbb, hrows⟩ := hz.out.2 (by omega)
          obtain ⟨x, hx⟩ : ∃ x, ds[k]? = some x := ⟨_, List.getElem?_eq_getElem (by have := hz.out.1; omega)⟩
          have r1 := rangeAt_below (hrows k x hx) HB0.out hbb
          obtain ⟨xk, xn, xs, xa, xb, xc, xd, xf⟩ := x
          have hk1 : (k : Int) < (len : Int) := by omega
          have hk2 : (k : Int) < 40 := by omega
          obtain ⟨X, hX⟩ : ∃ X, X = W0.heap.size := ⟨_, rfl⟩
          obtain ⟨W1, hW1⟩ : ∃ Z : World, Z = W0.alloc (.cells #[.int .i64 xk, .int .i64 xn, .string xs, .int .i64 xa, .int .i64 xb, .int .i64 xc, .int .i64 xd, .bool xf] 45) := ⟨_, rfl⟩
          have HX1 : Hid (Blk W1 X #[.int .i64 xk, .int .i64 xn, .string xs, .int .i64 xa, .int .i64 xb, .int .i64 xc, .int .i64 xd, .bool xf] 45) := by show Blk _ _ _ _; rw [hW1, hX]; exact Blk.new W0 _ _
          have HI1 : Hid (InV W1 E q s pos er bad) := by show InV _ _ _ _ _ _ _; rw [hW1]; exact HI0.out.below ((Below.refl _ W0).alloc (Nat.le_refl _) _)
          have HR1 : Hid (RefV W1 u s (pos, bad)) := by show RefV _ _ _ _; rw [hW1]; exact HR0.out.below ((Below.refl _ W0).alloc (Nat.le_refl _) _)
          have HB1 : Hid (Below w.heap.size w W1) := by show Below _ _ _; rw [hW1]; exact HB0.out.alloc HB0.out.size _
          have HXQ : Hid (¬ X = q) := by have := HI0.out.blk.lt; show ¬ _; omega
          have HXU : Hid (¬ X = u) := by have := HR0.out.blk.lt; show ¬ _; omega
          clear hrows hx
          go_upto_region 11 with (refine wpList_load_mid rfl 45 _ rfl bb (off + k * 8) rfl [.int .i64 xk, .int .i64 xn, .string xs, .int .i64 xa, .int .i64 xb, .int .i64 xc, .int .i64 xd, .bool xf] _ r1 Tryd.underlying45 rfl size_wact ?_)
          rw [← hW1, ← hX]
          clear r1 hW1 HI0 HR0 HB0 hX
          have g0 := HX1.out.cell 0 _ rfl
          have g1 := HX1.out.cell 1 _ rfl
          go_upto_block 2 with fail
          go_cut [7] from 20 to 126 (fun s7 wx => s7 = .int .i64 k ∧ ∃ (p : St) (W9 : World), W9 = wx ∧ Hid (InW W9 E q s p) ∧ Hid (RefV W9 u s p) ∧ Hid (Below w.heap.size w W9))
          case first =>
            by_cases k5 : xk = 5
            · subst k5
              obtain ⟨⟨z, p1⟩, hr⟩ : ∃ r, rdI s (pos, bad) = r := ⟨_, rfl⟩
              have HC1 := Lib.hid (fun (W : World) (hi : Hid (InV W E q s pos er bad)) (he : Hid (ErrForm W E)) => iint_c E q s pos er bad W hi HSM.out he)
              have HC2 := Lib.hid (fun (W : World) (hr : Hid (RefV W u s (pos, bad))) => rrint_c u s pos bad W hr HSM.out)
              rw [hr] at HC1 HC2
              clear hr
              go_wp2_with fail
              refine (HC1.out W1 HI1 (Lib.hid (HENV.out _ HB1.out))).mono ?_
              rintro e W2 ⟨rfl, ⟨er2, hi2⟩, ht2⟩
              have HR2 := Lib.hid (HR1.out.turns ht2 HUQ.out)
              have HB2 := Lib.hid (HB1.out.trans (ht2.below HB1.out.size (fun k hk => by rw [hk]; exact HWQ.out)))
              have HI2 := Lib.hid hi2
              clear hi2 ht2
              go_wp2_with fail
              refine (HC2.out W2 HR2).mono ?_
              rintro e W3 ⟨rfl, hr3, ht3⟩
              have HI3 := Lib.hid (HI2.out.turns ht3 HQU.out (fun g cs hg => blk_ne HR2.out.blk hg (by decide)))
              have HB3 := Lib.hid (HB2.out.trans (ht3.below HB2.out.size (fun k hk => by rw [hk]; exact HWU.out)))
              have HR3 := Lib.hid hr3
              clear hr3 ht3
              go_wp2_with fail
              go_meet
              exact ⟨rfl, _, W3, rfl, ⟨_, HI3.out⟩, HR3, HB3⟩
            · have n5 : (xk == 5) = false := by simpa using k5
              by_cases k6 : xk = 6
              · subst k6
                obtain ⟨⟨t, p1⟩, hr⟩ : ∃ r, rdT s xn (pos, bad) = r := ⟨_, rfl⟩
                have HC1 := Lib.hid (fun (W : World) (hi : Hid (InV W E q s pos er bad)) (he : Hid (ErrForm W E)) => itext_c E q s pos er bad xn W hi HSM.out he)
                have HC2 := Lib.hid (fun (W : World) (hr : Hid (RefV W u s (pos, bad))) => rrtext_c u s pos bad xn W hr HSM.out)
                rw [hr] at HC1 HC2
                clear hr
                go_wp2_with fail
                refine wp_region_noPanic ?_
                refine wp_region_held_drew (S := (fun w' => w'.cell? ⟨X, 1, none⟩ = some (.int .i64 xn))) (by kernel_rfl) g1 (fun hHeld => ?_)
                have HI := HI1.out.drew
                have HR := HR1.out.drew
                have HX : Blk W1.drew X #[.int .i64 6, .int .i64 xn, .string xs, .int .i64 xa, .int .i64 xb, .int .i64 xc, .int .i64 xd, .bool xf] 45 := HX1.out
                have HB := HB1.out.drew
                refine wpAnyH_take (i := 0) (v := ?_) rfl (by kernel_rfl) (by kernel_rfl) (by kernel_rfl) (fun _ _ _ h => h) (Or.inl ⟨by rfl, ?_⟩) hHeld ?_
                rotate_left
                focus
                  intro w hSw
                  clear hSw
                  go_simp
                  try with_reducible rfl
                try simp only [Act.put, List.getElem_toArray, List.getElem_cons_zero, List.getElem_cons_succ, List.setIfInBounds_toArray, List.set_cons_zero, List.set_cons_succ]
                refine wpAnyH_take (i := 1) (v := ?_) rfl (by kernel_rfl) (by kernel_rfl) (by kernel_rfl) (fun _ _ _ h => h) (Or.inl ⟨by rfl, ?_⟩) hHeld ?_
                rotate_left
                focus
                  intro w hSw
                  clear hSw
                  go_simp
                  try with_reducible rfl
                try simp only [Act.put, List.getElem_toArray, List.getElem_cons_zero, List.getElem_cons_succ, List.setIfInBounds_toArray, List.set_cons_zero, List.set_cons_succ]
                refine wpAnyH_take (i := 2) (v := ?_) rfl (by kernel_rfl) (by kernel_rfl) (by kernel_rfl) (fun _ _ _ h => h) (Or.inl ⟨by rfl, ?_⟩) hHeld ?_
                rotate_left
                focus
                  intro w hSw
                  (try dsimp only at hSw)
                  go_simp
                  try with_reducible rfl
                try simp only [Act.put, List.getElem_toArray, List.getElem_cons_zero, List.getElem_cons_succ, List.setIfInBounds_toArray, List.set_cons_zero, List.set_cons_succ]
                refine wpAnyH_take (i := 4) (v := ?_) rfl (by kernel_rfl) (by kernel_rfl) (by kernel_rfl) (fun _ _ _ h => h) (Or.inl ⟨by rfl, ?_⟩) hHeld ?_
                rotate_left
                focus
                  intro w hSw
                  clear hSw
                  go_simp
                  try with_reducible rfl
                try simp only [Act.put, List.getElem_toArray, List.getElem_cons_zero, List.getElem_cons_succ, List.setIfInBounds_toArray, List.set_cons_zero, List.set_cons_succ]
                refine wpAnyH_take (i := 5) (v := ?_) rfl (by kernel_rfl) (by kernel_rfl) (by kernel_rfl) (fun _ _ _ h => h) (Or.inl ⟨by rfl, ?_⟩) hHeld ?_
                rotate_left
                focus
                  intro w hSw
                  clear hSw
                  go_simp
                  try with_reducible rfl
                try simp only [Act.put, List.getElem_toArray, List.getElem_cons_zero, List.getElem_cons_succ, List.setIfInBounds_toArray, List.set_cons_zero, List.set_cons_succ]
                refine wpAnyH_take (i := 6) (v := ?_) rfl (by kernel_rfl) (by kernel_rfl) (by kernel_rfl) (fun _ _ _ h => h) (Or.inl ⟨by rfl, ?_⟩) hHeld ?_
                rotate_left
                focus
                  intro w hSw
                  (try dsimp only at hSw)
                  go_simp
                  try with_reducible rfl
                try simp only [Act.put, List.getElem_toArray, List.getElem_cons_zero, List.getElem_cons_succ, List.setIfInBounds_toArray, List.set_cons_zero, List.set_cons_succ]
                refine wpAnyH_ready (rs := [3]) (by kernel_rfl) (by simp) ?_
                refine AllReadyH.cons rfl (fun K hK => ?_) AllReadyH.nil
                go_simp
                refine (HC1.out _ (Lib.hid HI) (Lib.hid (HENV.out _ HB))).mono ?_
                rintro e y ⟨rfl, ⟨er2, hi⟩, ht⟩
                have HR := HR.turns ht HUQ.out
                have HX := ht.blk HX HXQ.out
                have HB := HB.trans (ht.below HB.size (fun k hk => by rw [hk]; exact HWQ.out))
                have HI := hi
                have g1 := HX.cell 1 _ rfl
                clear hi ht
                refine hK.out _ _ g1 (fun hHeld => ?_)
                clear hK K
                try simp only [Act.put, List.getElem_toArray, List.getElem_cons_zero, List.getElem_cons_succ, List.setIfInBounds_toArray, List.set_cons_zero, List.set_cons_succ]
                refine wpAnyH_ready (rs := [7]) (by kernel_rfl) (by simp) ?_
                refine AllReadyH.cons rfl (fun K hK => ?_) AllReadyH.nil
                go_simp
                refine (HC2.out _ (Lib.hid HR)).mono ?_
                rintro e y ⟨rfl, hr, ht⟩
                have HI := HI.turns ht HQU.out (fun g cs hg => blk_ne HR.blk hg (by decide))
                have HX := ht.blk HX HXU.out
                have HB := HB.trans (ht.below HB.size (fun k hk => by rw [hk]; exact HWU.out))
                have HR := hr
                have g1 := HX.cell 1 _ rfl
                clear hr ht
                refine hK.out _ _ g1 (fun hHeld => ?_)
                clear hK K
                try simp only [Act.put, List.getElem_toArray, List.getElem_cons_zero, List.getElem_cons_succ, List.setIfInBounds_toArray, List.set_cons_zero, List.set_cons_succ]
                refine wpAnyH_take (i := 8) (v := ?_) rfl (by kernel_rfl) (by kernel_rfl) (by kernel_rfl) (fun _ _ _ h => h) (Or.inl ⟨by rfl, ?_⟩) hHeld ?_
                rotate_left
                focus
                  intro w hSw
                  clear hSw
                  go_simp
                  try with_reducible rfl
                try simp only [Act.put, List.getElem_toArray, List.getElem_cons_zero, List.getElem_cons_succ, List.setIfInBounds_toArray, List.set_cons_zero, List.set_cons_succ]
                refine wpAnyH_done (by kernel_rfl) ?_ _
                refine NoPanic.normal ?_
                go_wp2_with fail
                go_meet
                exact ⟨rfl, _, _, rfl, ⟨_, HI⟩, HR, HB⟩
              · have n6 : (xk == 6) = false := by simpa using k6
                by_cases k7 : xk = 7
                · subst k7
                  obtain ⟨⟨⟨z1, z2, z3, z4⟩, p1⟩, hr⟩ : ∃ r, rdV s (pos, bad) = r := ⟨_, rfl⟩
                  have HC1 := Lib.hid (fun (W : World) (hi : Hid (InV W E q s pos er bad)) (he : Hid (ErrForm W E)) => ivec_c E q s pos er bad W hi HSM.out he)
                  have HC2 := Lib.hid (fun (W : World) (hr : Hid (RefV W u s (pos, bad))) => rrvec_c u s pos bad W hr HSM.out)
                  rw [hr] at HC1 HC2
                  clear hr
                  have vn := vec_eq_self z1 z2 z3 z4
                  have vg := vecGuard
                  go_wp2_with fail
                  refine (HC1.out W1 HI1 (Lib.hid (HENV.out _ HB1.out))).mono ?_
                  rintro e W2 ⟨rfl, ⟨er2, hi2⟩, ht2⟩
                  have HR2 := Lib.hid (HR1.out.turns ht2 HUQ.out)
                  have HB2 := Lib.hid (HB1.out.trans (ht2.below HB1.out.size (fun k hk => by rw [hk]; exact HWQ.out)))
                  have HI2 := Lib.hid hi2
                  clear hi2 ht2
                  unfold vecV
                  go_wp2_with fail
                  refine (HC2.out W2 HR2).mono ?_
                  rintro e W3 ⟨rfl, hr3, ht3⟩
                  have HI3 := Lib.hid (HI2.out.turns ht3 HQU.out (fun g cs hg => blk_ne HR2.out.blk hg (by decide)))
                  have HB3 := Lib.hid (HB2.out.trans (ht3.below HB2.out.size (fun k hk => by rw [hk]; exact HWU.out)))
                  have HR3 := Lib.hid hr3
                  clear hr3 ht3
                  unfold vecV
                  go_wp2_with fail
                  go_meet
                  exact ⟨rfl, _, W3, rfl, ⟨_, HI3.out⟩, HR3, HB3⟩
                · have n7 : (xk == 7) = false := by simpa using k7
                  obtain ⟨⟨z, p1⟩, hr⟩ : ∃ r, rdB s (pos, bad) = r := ⟨_, rfl⟩
                  have HC1 := Lib.hid (fun (W : World) (hi : Hid (InV W E q s pos er bad)) (he : Hid (ErrForm W E)) => ibool_c E q s pos er bad W hi HSM.out he)
                  have HC2 := Lib.hid (fun (W : World) (hr : Hid (RefV W u s (pos, bad))) => rrbool_c u s pos bad W hr HSM.out)
                  rw [hr] at HC1 HC2
                  clear hr
                  go_wp2_with fail
                  refine (HC1.out W1 HI1 (Lib.hid (HENV.out _ HB1.out))).mono ?_
                  rintro e W2 ⟨rfl, ⟨er2, hi2⟩, ht2⟩
                  have HR2 := Lib.hid (HR1.out.turns ht2 HUQ.out)
                  have HB2 := Lib.hid (HB1.out.trans (ht2.below HB1.out.size (fun k hk => by rw [hk]; exact HWQ.out)))
                  have HI2 := Lib.hid hi2
                  clear hi2 ht2
                  go_wp2_with fail
                  refine (HC2.out W2 HR2).mono ?_
                  rintro e W3 ⟨rfl, hr3, ht3⟩
                  have HI3 := Lib.hid (HI2.out.turns ht3 HQU.out (fun g cs hg => blk_ne HR2.out.blk hg (by decide)))
                  have HB3 := Lib.hid (HB2.out.trans (ht3.below HB2.out.size (fun k hk => by rw [hk]; exact HWU.out)))
                  have HR3 := Lib.hid hr3
                  clear hr3 ht3
                  go_wp2_with fail
                  go_meet
                  exact ⟨rfl, _, W3, rfl, ⟨_, HI3.out⟩, HR3, HB3⟩
          case rest =>
            obtain ⟨rfl, ⟨pos, bad⟩, W9, rfl, HI00, HR9, HB9⟩ := hcut
            clear HX1 HI1 HR1 HB1 g0 g1
            obtain ⟨er, hi0⟩ := HI00.out
            have HI9 : Hid (InV W9 E q s pos er bad) := hi0
            clear hi0 HI00
            obtain ⟨d, hd⟩ : ∃ d, d = s.size - pos := ⟨_, rfl⟩
            have hle : pos ≤ s.size := HI9.out.le
            have HLEFT : Hid (∀ W, Hid (InV W E q s pos er bad) → Calls Tryd.prog 16 #[.pointer (some ⟨q, 0, none⟩)] W fun e w' => e = .returned (.int .i64 (d : Int)) ∧ Below W.heap.size W w') := fun W hi => by rw [hd]; exact left_c E q s pos er bad W hi HSM.out
            have e0 : IntKind.i64.wrap ((s.size : Int) - (pos : Int)) = (d : Int) := by rw [IntKind.wrap_i64]; omega
            have e0' : (s.size : Int) - (pos : Int) = (d : Int) := by omega
            have e0'' : IntKind.i64.wrap (d : Int) = (d : Int) := by rw [IntKind.wrap_i64]; omega
            clear hd
            have c1 : W9.cell? ⟨u, 1, none⟩ = some (.int .i64 pos) := HR9.out.blk.cell 1 _ rfl
            have c2' := HR9.out.blk.cell 2 _ rfl
            cases bad with
            | some z =>
              obtain ⟨g, rfl, hg⟩ := HI9.out.er_some
              have c2 : W9.cell? ⟨u, 2, none⟩ = some (.int .i64 (z : Int)) := c2'
              clear c2'
              clear hg
              go_wp2_with fail
              refine wp_region_noPanic ?_
              refine wp_region_held_drew (S := (fun w' => w'.cell? ⟨u, 1, none⟩ = some (.int .i64 pos) ∧ w'.cell? ⟨u, 2, none⟩ = some (.int .i64 z))) (by kernel_rfl) ⟨c1, c2⟩ (fun hHeld => ?_)
              have HI := HI9.out.drew
              have HR := HR9.out.drew
              have HB := HB9.out.drew
              refine wpAnyH_take (i := 0) (v := ?_) rfl (by kernel_rfl) (by kernel_rfl) (by kernel_rfl) (fun _ _ _ h => h) (Or.inl ⟨by rfl, ?_⟩) hHeld ?_
              rotate_left
              focus
                intro w hSw
                clear hSw
                go_simp
                try with_reducible rfl
              try simp only [Act.put, List.getElem_toArray, List.getElem_cons_zero, List.getElem_cons_succ, List.setIfInBounds_toArray, List.set_cons_zero, List.set_cons_succ]
              refine wpAnyH_take (i := 2) (v := ?_) rfl (by kernel_rfl) (by kernel_rfl) (by kernel_rfl) (fun _ _ _ h => h) (Or.inl ⟨by rfl, ?_⟩) hHeld ?_
              rotate_left
              focus
                intro w hSw
                clear hSw
                go_simp
                try with_reducible rfl
              try simp only [Act.put, List.getElem_toArray, List.getElem_cons_zero, List.getElem_cons_succ, List.setIfInBounds_toArray, List.set_cons_zero, List.set_cons_succ]
              refine wpAnyH_take (i := 3) (v := ?_) rfl (by kernel_rfl) (by kernel_rfl) (by kernel_rfl) (fun _ _ _ h => h) (Or.inl ⟨by rfl, ?_⟩) hHeld ?_
              rotate_left
              focus
                intro w hSw
                clear hSw
                go_simp
                try with_reducible rfl
              try simp only [Act.put, List.getElem_toArray, List.getElem_cons_zero, List.getElem_cons_succ, List.setIfInBounds_toArray, List.set_cons_zero, List.set_cons_succ]
              refine wpAnyH_take (i := 4) (v := ?_) rfl (by kernel_rfl) (by kernel_rfl) (by kernel_rfl) (fun _ _ _ h => h) (Or.inl ⟨by rfl, ?_⟩) hHeld ?_
              rotate_left
              focus
                intro w hSw
                clear hSw
                go_simp
                try with_reducible rfl
              try simp only [Act.put, List.getElem_toArray, List.getElem_cons_zero, List.getElem_cons_succ, List.setIfInBounds_toArray, List.set_cons_zero, List.set_cons_succ]
              refine wpAnyH_take (i := 5) (v := ?_) rfl (by kernel_rfl) (by kernel_rfl) (by kernel_rfl) (fun _ _ _ h => h) (Or.inl ⟨by rfl, ?_⟩) hHeld ?_
              rotate_left
              focus
                intro w hSw
                clear hSw
                go_simp
                try with_reducible rfl
              try simp only [Act.put, List.getElem_toArray, List.getElem_cons_zero, List.getElem_cons_succ, List.setIfInBounds_toArray, List.set_cons_zero, List.set_cons_succ]
              refine wpAnyH_take (i := 6) (v := ?_) rfl (by kernel_rfl) (by kernel_rfl) (by kernel_rfl) (fun _ _ _ h => h) (Or.inl ⟨by rfl, ?_⟩) hHeld ?_
              rotate_left
              focus
                intro w hSw
                clear hSw
                go_simp
                try with_reducible rfl
              try simp only [Act.put, List.getElem_toArray, List.getElem_cons_zero, List.getElem_cons_succ, List.setIfInBounds_toArray, List.set_cons_zero, List.set_cons_succ]
              refine wpAnyH_take (i := 7) (v := ?_) rfl (by kernel_rfl) (by kernel_rfl) (by kernel_rfl) (fun _ _ _ h => h) (Or.inl ⟨by rfl, ?_⟩) hHeld ?_
              rotate_left
              focus
                intro w hSw
                (try dsimp only at hSw)
                go_simp
                try with_reducible rfl
              try simp only [Act.put, List.getElem_toArray, List.getElem_cons_zero, List.getElem_cons_succ, List.setIfInBounds_toArray, List.set_cons_zero, List.set_cons_succ]
              refine wpAnyH_take (i := 8) (v := ?_) rfl (by kernel_rfl) (by kernel_rfl) (by kernel_rfl) (fun _ _ _ h => h) (Or.inl ⟨by rfl, ?_⟩) hHeld ?_
              rotate_left
              focus
                intro w hSw
                clear hSw
                go_simp
                try with_reducible rfl
              try simp only [Act.put, List.getElem_toArray, List.getElem_cons_zero, List.getElem_cons_succ, List.setIfInBounds_toArray, List.set_cons_zero, List.set_cons_succ]
              refine wpAnyH_ready (rs := [1]) (by kernel_rfl) (by simp) ?_
              refine AllReadyH.cons rfl (fun K hK => ?_) AllReadyH.nil
              go_simp
              refine (HLEFT.out _ (Lib.hid HI)).mono ?_
              rintro e y ⟨rfl, hb⟩
              have HI := HI.below hb
              have HR := HR.below hb
              have HB := HB.trans (hb.mono HB.size)
              have c1 : y.cell? ⟨u, 1, none⟩ = some (.int .i64 pos) := HR.blk.cell 1 _ rfl
              have c2 : y.cell? ⟨u, 2, none⟩ = some (.int .i64 z) := HR.blk.cell 2 _ rfl
              clear hb
              refine hK.out _ _ ⟨c1, c2⟩ (fun hHeld => ?_)
              clear hK K
              try simp only [Act.put, List.getElem_toArray, List.getElem_cons_zero, List.getElem_cons_succ, List.setIfInBounds_toArray, List.set_cons_zero, List.set_cons_succ]
              refine wpAnyH_take (i := 9) (v := ?_) rfl (by kernel_rfl) (by kernel_rfl) (by kernel_rfl) (fun _ _ _ h => h) (Or.inl ⟨by rfl, ?_⟩) hHeld ?_
              rotate_left
              focus
                intro w hSw
                clear hSw
                go_simp
                try with_reducible rfl
              try simp only [Act.put, List.getElem_toArray, List.getElem_cons_zero, List.getElem_cons_succ, List.setIfInBounds_toArray, List.set_cons_zero, List.set_cons_succ]
              refine wpAnyH_take (i := 10) (v := ?_) rfl (by kernel_rfl) (by kernel_rfl) (by kernel_rfl) (fun _ _ _ h => h) (Or.inl ⟨by rfl, ?_⟩) hHeld ?_
              rotate_left
              focus
                intro w hSw
                clear hSw
                go_simp
                try with_reducible rfl
              try simp only [Act.put, List.getElem_toArray, List.getElem_cons_zero, List.getElem_cons_succ, List.setIfInBounds_toArray, List.set_cons_zero, List.set_cons_succ]
              refine wpAnyH_take (i := 11) (v := ?_) rfl (by kernel_rfl) (by kernel_rfl) (by kernel_rfl) (fun _ _ _ h => h) (Or.inl ⟨by rfl, ?_⟩) hHeld ?_
              rotate_left
              focus
                intro w hSw
                clear hSw
                go_simp
                try with_reducible rfl
              try simp only [Act.put, List.getElem_toArray, List.getElem_cons_zero, List.getElem_cons_succ, List.setIfInBounds_toArray, List.set_cons_zero, List.set_cons_succ]
              refine wpAnyH_take (i := 14) (v := ?_) rfl (by kernel_rfl) (by kernel_rfl) (by kernel_rfl) (fun _ _ _ h => h) (Or.inl ⟨by rfl, ?_⟩) hHeld ?_
              rotate_left
              focus
                intro w hSw
                clear hSw
                go_simp
                try with_reducible rfl
              try simp only [Act.put, List.getElem_toArray, List.getElem_cons_zero, List.getElem_cons_succ, List.setIfInBounds_toArray, List.set_cons_zero, List.set_cons_succ]
              refine wpAnyH_take (i := 15) (v := ?_) rfl (by kernel_rfl) (by kernel_rfl) (by kernel_rfl) (fun _ _ _ h => h) (Or.inl ⟨by rfl, ?_⟩) hHeld ?_
              rotate_left
              focus
                intro w hSw
                clear hSw
                go_simp
                try with_reducible rfl
              try simp only [Act.put, List.getElem_toArray, List.getElem_cons_zero, List.getElem_cons_succ, List.setIfInBounds_toArray, List.set_cons_zero, List.set_cons_succ]
              refine wpAnyH_take (i := 16) (v := ?_) rfl (by kernel_rfl) (by kernel_rfl) (by kernel_rfl) (fun _ _ _ h => h) (Or.inl ⟨by rfl, ?_⟩) hHeld ?_
              rotate_left
              focus
                intro w hSw
                clear hSw
                go_simp
                try with_reducible rfl
              try simp only [Act.put, List.getElem_toArray, List.getElem_cons_zero, List.getElem_cons_succ, List.setIfInBounds_toArray, List.set_cons_zero, List.set_cons_succ]
              refine wpAnyH_take (i := 17) (v := ?_) rfl (by kernel_rfl) (by kernel_rfl) (by kernel_rfl) (fun _ _ _ h => h) (Or.inl ⟨by rfl, ?_⟩) hHeld ?_
              rotate_left
              focus
                intro w hSw
                (try dsimp only at hSw)
                go_simp
                try with_reducible rfl
              try simp only [Act.put, List.getElem_toArray, List.getElem_cons_zero, List.getElem_cons_succ, List.setIfInBounds_toArray, List.set_cons_zero, List.set_cons_succ]
              refine wpAnyH_ready (rs := [12]) (by kernel_rfl) (by simp) ?_
              refine AllReadyH.cons rfl (fun K hK => ?_) AllReadyH.nil
              go_simp
              refine (err_c E q s pos (faultV g) (some z) _ (Lib.hid HI)).mono ?_
              rintro e y ⟨rfl, rfl⟩
              unfold faultV
              refine hK.out _ _ ⟨c1, c2⟩ (fun hHeld => ?_)
              clear hK K
              try simp only [Act.put, List.getElem_toArray, List.getElem_cons_zero, List.getElem_cons_succ, List.setIfInBounds_toArray, List.set_cons_zero, List.set_cons_succ]
              refine wpAnyH_ready (rs := [13]) (by kernel_rfl) (by simp) ?_
              refine AllReadyH.cons rfl (fun K hK => ?_) AllReadyH.nil
              go_simp
              refine (at_hit E B g RD z _ (Lib.hid (HEN.out _ HB)) (Lib.hid HI.fault)).mono ?_
              rintro e y ⟨rfl, hb⟩
              have HI := HI.below hb
              have HR := HR.below hb
              have HB := HB.trans (hb.mono HB.size)
              have c1 : y.cell? ⟨u, 1, none⟩ = some (.int .i64 pos) := HR.blk.cell 1 _ rfl
              have c2 : y.cell? ⟨u, 2, none⟩ = some (.int .i64 z) := HR.blk.cell 2 _ rfl
              clear hb
              refine hK.out _ _ ⟨c1, c2⟩ (fun hHeld => ?_)
              clear hK K
              try simp only [Act.put, List.getElem_toArray, List.getElem_cons_zero, List.getElem_cons_succ, List.setIfInBounds_toArray, List.set_cons_zero, List.set_cons_succ]
              refine wpAnyH_take (i := 18) (v := ?_) rfl (by kernel_rfl) (by kernel_rfl) (by kernel_rfl) (fun _ _ _ h => h) (Or.inl ⟨by rfl, ?_⟩) hHeld ?_
              rotate_left
              focus
                intro w hSw
                clear hSw
                go_simp
                try with_reducible rfl
              try simp only [Act.put, List.getElem_toArray, List.getElem_cons_zero, List.getElem_cons_succ, List.setIfInBounds_toArray, List.set_cons_zero, List.set_cons_succ]
              refine wpAnyH_take (i := 19) (v := ?_) rfl (by kernel_rfl) (by kernel_rfl) (by kernel_rfl) (fun _ _ _ h => h) (Or.inl ⟨by rfl, ?_⟩) hHeld ?_
              rotate_left
              focus
                intro w hSw
                clear hSw
                go_simp
                try with_reducible rfl
              try simp only [Act.put, List.getElem_toArray, List.getElem_cons_zero, List.getElem_cons_succ, List.setIfInBounds_toArray, List.set_cons_zero, List.set_cons_succ]
              refine wpAnyH_take (i := 20) (v := ?_) rfl (by kernel_rfl) (by kernel_rfl) (by kernel_rfl) (fun _ _ _ h => h) (Or.inl ⟨by rfl, ?_⟩) hHeld ?_
              rotate_left
              focus
                intro w hSw
                clear hSw
                go_simp
                try with_reducible rfl
              try simp only [Act.put, List.getElem_toArray, List.getElem_cons_zero, List.getElem_cons_succ, List.setIfInBounds_toArray, List.set_cons_zero, List.set_cons_succ]
              refine wpAnyH_take (i := 21) (v := ?_) rfl (by kernel_rfl) (by kernel_rfl) (by kernel_rfl) (fun _ _ _ h => h) (Or.inl ⟨by rfl, ?_⟩) hHeld ?_
              rotate_left
              focus
                intro w hSw
                clear hSw
                go_simp
                try with_reducible rfl
              try simp only [Act.put, List.getElem_toArray, List.getElem_cons_zero, List.getElem_cons_succ, List.setIfInBounds_toArray, List.set_cons_zero, List.set_cons_succ]
              refine wpAnyH_take (i := 24) (v := ?_) rfl (by kernel_rfl) (by kernel_rfl) (by kernel_rfl) (fun _ _ _ h => h) (Or.inl ⟨by rfl, ?_⟩) hHeld ?_
              rotate_left
              focus
                intro w hSw
                clear hSw
                go_simp
                try with_reducible rfl
              try simp only [Act.put, List.getElem_toArray, List.getElem_cons_zero, List.getElem_cons_succ, List.setIfInBounds_toArray, List.set_cons_zero, List.set_cons_succ]
              refine wpAnyH_take (i := 25) (v := ?_) rfl (by kernel_rfl) (by kernel_rfl) (by kernel_rfl) (fun _ _ _ h => h) (Or.inl ⟨by rfl, ?_⟩) hHeld ?_
              rotate_left
              focus
                intro w hSw
                clear hSw
                go_simp
                try with_reducible rfl
              try simp only [Act.put, List.getElem_toArray, List.getElem_cons_zero, List.getElem_cons_succ, List.setIfInBounds_toArray, List.set_cons_zero, List.set_cons_succ]
              refine wpAnyH_take (i := 26) (v := ?_) rfl (by kernel_rfl) (by kernel_rfl) (by kernel_rfl) (fun _ _ _ h => h) (Or.inl ⟨by rfl, ?_⟩) hHeld ?_
              rotate_left
              focus
                intro w hSw
                clear hSw
                go_simp
                try with_reducible rfl
              try simp only [Act.put, List.getElem_toArray, List.getElem_cons_zero, List.getElem_cons_succ, List.setIfInBounds_toArray, List.set_cons_zero, List.set_cons_succ]
              refine wpAnyH_take (i := 27) (v := ?_) rfl (by kernel_rfl) (by kernel_rfl) (by kernel_rfl) (fun _ _ _ h => h) (Or.inl ⟨by rfl, ?_⟩) hHeld ?_
              rotate_left
              focus
                intro w hSw
                (try dsimp only at hSw)
                go_simp
                try with_reducible rfl
              try simp only [Act.put, List.getElem_toArray, List.getElem_cons_zero, List.getElem_cons_succ, List.setIfInBounds_toArray, List.set_cons_zero, List.set_cons_succ]
              refine wpAnyH_take (i := 28) (v := ?_) rfl (by kernel_rfl) (by kernel_rfl) (by kernel_rfl) (fun _ _ _ h => h) (Or.inl ⟨by rfl, ?_⟩) hHeld ?_
              rotate_left
              focus
                intro w hSw
                clear hSw
                go_simp
                try with_reducible rfl
              try simp only [Act.put, List.getElem_toArray, List.getElem_cons_zero, List.getElem_cons_succ, List.setIfInBounds_toArray, List.set_cons_zero, List.set_cons_succ]
              refine wpAnyH_ready (rs := [22]) (by kernel_rfl) (by simp) ?_
              refine AllReadyH.cons rfl (fun K hK => ?_) AllReadyH.nil
              go_simp
              refine (err_c E q s pos (faultV g) (some z) _ (Lib.hid HI)).mono ?_
              rintro e y ⟨rfl, rfl⟩
              unfold faultV
              refine hK.out _ _ ⟨c1, c2⟩ (fun hHeld => ?_)
              clear hK K
              try simp only [Act.put, List.getElem_toArray, List.getElem_cons_zero, List.getElem_cons_succ, List.setIfInBounds_toArray, List.set_cons_zero, List.set_cons_succ]
              refine wpAnyH_take (i := 23) (v := ?_) rfl (by kernel_rfl) (by kernel_rfl) (by kernel_rfl) (fun _ _ _ h => h) (Or.inl ⟨by rfl, ?_⟩) hHeld ?_
              rotate_left
              focus
                intro w hSw
                clear hSw
                go_simp
                try with_reducible rfl
              try simp only [Act.put, List.getElem_toArray, List.getElem_cons_zero, List.getElem_cons_succ, List.setIfInBounds_toArray, List.set_cons_zero, List.set_cons_succ]
              refine wpAnyH_take (i := 29) (v := ?_) rfl (by kernel_rfl) (by kernel_rfl) (by kernel_rfl) (fun _ _ _ h => h) (Or.inl ⟨by rfl, ?_⟩) hHeld ?_
              rotate_left
              focus
                intro w hSw
                clear hSw
                go_simp
                try with_reducible rfl
              try simp only [Act.put, List.getElem_toArray, List.getElem_cons_zero, List.getElem_cons_succ, List.setIfInBounds_toArray, List.set_cons_zero, List.set_cons_succ]
              refine wpAnyH_take (i := 30) (v := ?_) rfl (by kernel_rfl) (by kernel_rfl) (by kernel_rfl) (fun _ _ _ h => h) (Or.inl ⟨by rfl, ?_⟩) hHeld ?_
              rotate_left
              focus
                intro w hSw
                clear hSw
                go_simp
                try with_reducible rfl
              try simp only [Act.put, List.getElem_toArray, List.getElem_cons_zero, List.getElem_cons_succ, List.setIfInBounds_toArray, List.set_cons_zero, List.set_cons_succ]
              refine wpAnyH_done (by kernel_rfl) ?_ _
              refine NoPanic.normal ?_
              have HI9b := Lib.hid HI
              have HR9b := Lib.hid HR
              have HB9b := Lib.hid HB
              clear HI HR HB HI9 HR9 HB9 c1 c2
              go_wp2_with fail
              refine (iend_c E q s pos (faultV g) (some z) _ HI9b HSM.out (Lib.hid (HENV.out _ HB9b.out))).mono ?_
              rintro e W10 ⟨v, rfl, hv, hb⟩
              have HI10 := Lib.hid (HI9b.out.below hb)
              have HR10 := Lib.hid (HR9b.out.below hb)
              have HB10 := Lib.hid (HB9b.out.trans (hb.mono HB9b.out.size))
              have c1 : W10.cell? ⟨u, 1, none⟩ = some (.int .i64 pos) := HR10.out.blk.cell 1 _ rfl
              have c2 : W10.cell? ⟨u, 2, none⟩ = some (.int .i64 z) := HR10.out.blk.cell 2 _ rfl
              clear hb HI9b HR9b HB9b
              obtain ⟨g2, rfl, hg2⟩ : ∃ g, v = faultV g ∧ Blk W10 g #[.string RD, .int .i64 z, erV E 3] 133 := hv
              unfold faultV
              go_wp2_with fail
              refine wp_region_noPanic ?_
              refine wp_region_held_drew (S := (fun w' => w'.cell? ⟨u, 1, none⟩ = some (.int .i64 pos) ∧ w'.cell? ⟨u, 2, none⟩ = some (.int .i64 z))) (by kernel_rfl) ⟨c1, c2⟩ (fun hHeld => ?_)
              have HI := HI10.out.drew
              have HR := HR10.out.drew
              have HB := HB10.out.drew
              have HG2 : Blk W10.drew g2 #[.string RD, .int .i64 z, erV E 3] 133 := hg2
              refine wpAnyH_take (i := 0) (v := ?_) rfl (by kernel_rfl) (by kernel_rfl) (by kernel_rfl) (fun _ _ _ h => h) (Or.inl ⟨by rfl, ?_⟩) hHeld ?_
              rotate_left
              focus
                intro w hSw
                clear hSw
                go_simp
                try with_reducible rfl
              try simp only [Act.put, List.getElem_toArray, List.getElem_cons_zero, List.getElem_cons_succ, List.setIfInBounds_toArray, List.set_cons_zero, List.set_cons_succ]
              refine wpAnyH_take (i := 2) (v := ?_) rfl (by kernel_rfl) (by kernel_rfl) (by kernel_rfl) (fun _ _ _ h => h) (Or.inl ⟨by rfl, ?_⟩) hHeld ?_
              rotate_left
              focus
                intro w hSw
                clear hSw
                go_simp
                try with_reducible rfl
              try simp only [Act.put, List.getElem_toArray, List.getElem_cons_zero, List.getElem_cons_succ, List.setIfInBounds_toArray, List.set_cons_zero, List.set_cons_succ]
              refine wpAnyH_take (i := 3) (v := ?_) rfl (by kernel_rfl) (by kernel_rfl) (by kernel_rfl) (fun _ _ _ h => h) (Or.inl ⟨by rfl, ?_⟩) hHeld ?_
              rotate_left
              focus
                intro w hSw
                clear hSw
                go_simp
                try with_reducible rfl
              try simp only [Act.put, List.getElem_toArray, List.getElem_cons_zero, List.getElem_cons_succ, List.setIfInBounds_toArray, List.set_cons_zero, List.set_cons_succ]
              refine wpAnyH_take (i := 4) (v := ?_) rfl (by kernel_rfl) (by kernel_rfl) (by kernel_rfl) (fun _ _ _ h => h) (Or.inl ⟨by rfl, ?_⟩) hHeld ?_
              rotate_left
              focus
                intro w hSw
                clear hSw
                go_simp
                try with_reducible rfl
              try simp only [Act.put, List.getElem_toArray, List.getElem_cons_zero, List.getElem_cons_succ, List.setIfInBounds_toArray, List.set_cons_zero, List.set_cons_succ]
              refine wpAnyH_take (i := 5) (v := ?_) rfl (by kernel_rfl) (by kernel_rfl) (by kernel_rfl) (fun _ _ _ h => h) (Or.inl ⟨by rfl, ?_⟩) hHeld ?_
              rotate_left
              focus
                intro w hSw
                (try dsimp only at hSw)
                go_simp
                try with_reducible rfl
              try simp only [Act.put, List.getElem_toArray, List.getElem_cons_zero, List.getElem_cons_succ, List.setIfInBounds_toArray, List.set_cons_zero, List.set_cons_succ]
              refine wpAnyH_ready (rs := [1]) (by kernel_rfl) (by simp) ?_
              refine AllReadyH.cons rfl (fun K hK => ?_) AllReadyH.nil
              go_simp
              refine (at_hit E B g2 RD z _ (Lib.hid (HEN.out _ HB)) (Lib.hid HG2)).mono ?_
              rintro e y ⟨rfl, hb⟩
              have HI := HI.below hb
              have HR := HR.below hb
              have HB := HB.trans (hb.mono HB.size)
              have c1 : y.cell? ⟨u, 1, none⟩ = some (.int .i64 pos) := HR.blk.cell 1 _ rfl
              have c2 : y.cell? ⟨u, 2, none⟩ = some (.int .i64 z) := HR.blk.cell 2 _ rfl
              clear hb
              refine hK.out _ _ ⟨c1, c2⟩ (fun hHeld => ?_)
              clear hK K
              try simp only [Act.put, List.getElem_toArray, List.getElem_cons_zero, List.getElem_cons_succ, List.setIfInBounds_toArray, List.set_cons_zero, List.set_cons_succ]
              refine wpAnyH_take (i := 6) (v := ?_) rfl (by kernel_rfl) (by kernel_rfl) (by kernel_rfl) (fun _ _ _ h => h) (Or.inl ⟨by rfl, ?_⟩) hHeld ?_
              rotate_left
              focus
                intro w hSw
                clear hSw
                go_simp
                try with_reducible rfl
              try simp only [Act.put, List.getElem_toArray, List.getElem_cons_zero, List.getElem_cons_succ, List.setIfInBounds_toArray, List.set_cons_zero, List.set_cons_succ]
              refine wpAnyH_done (by kernel_rfl) ?_ _
              refine NoPanic.normal ?_
              have HIz := Lib.hid HI
              have HRz := Lib.hid HR
              have HBz := Lib.hid HB
              clear HI HR HB
              go_wp2_with fail
              refine ⟨⟨k + 1, (pos, (some z)), _, rfl, by omega, by omega, by go_num, ⟨_, HIz.out⟩, HRz, HBz⟩, by simp [intOf]; omega⟩
            | none =>
              obtain rfl := HI9.out.er_nil
              have c2 : W9.cell? ⟨u, 2, none⟩ = some (.int .i64 (-1)) := c2'
              clear c2'
              by_cases hps : pos = s.size
              · have hpn : ¬ (pos : Int) < (s.size : Int) := by omega
                have HPS := Lib.hid hps
                clear hps
                go_wp2_with fail
                refine wp_region_noPanic ?_
                refine wp_region_held_drew (S := (fun w' => w'.cell? ⟨u, 1, none⟩ = some (.int .i64 pos) ∧ w'.cell? ⟨u, 2, none⟩ = some (.int .i64 (-1)))) (by kernel_rfl) ⟨c1, c2⟩ (fun hHeld => ?_)
                have HI := HI9.out.drew
                have HR := HR9.out.drew
                have HB := HB9.out.drew
                refine wpAnyH_take (i := 0) (v := ?_) rfl (by kernel_rfl) (by kernel_rfl) (by kernel_rfl) (fun _ _ _ h => h) (Or.inl ⟨by rfl, ?_⟩) hHeld ?_
                rotate_left
                focus
                  intro w hSw
                  clear hSw
                  go_simp
                  try with_reducible rfl
                try simp only [Act.put, List.getElem_toArray, List.getElem_cons_zero, List.getElem_cons_succ, List.setIfInBounds_toArray, List.set_cons_zero, List.set_cons_succ]
                refine wpAnyH_take (i := 2) (v := ?_) rfl (by kernel_rfl) (by kernel_rfl) (by kernel_rfl) (fun _ _ _ h => h) (Or.inl ⟨by rfl, ?_⟩) hHeld ?_
                rotate_left
                focus
                  intro w hSw
                  clear hSw
                  go_simp
                  try with_reducible rfl
                try simp only [Act.put, List.getElem_toArray, List.getElem_cons_zero, List.getElem_cons_succ, List.setIfInBounds_toArray, List.set_cons_zero, List.set_cons_succ]
                refine wpAnyH_take (i := 3) (v := ?_) rfl (by kernel_rfl) (by kernel_rfl) (by kernel_rfl) (fun _ _ _ h => h) (Or.inl ⟨by rfl, ?_⟩) hHeld ?_
                rotate_left
                focus
                  intro w hSw
                  clear hSw
                  go_simp
                  try with_reducible rfl
                try simp only [Act.put, List.getElem_toArray, List.getElem_cons_zero, List.getElem_cons_succ, List.setIfInBounds_toArray, List.set_cons_zero, List.set_cons_succ]
                refine wpAnyH_take (i := 4) (v := ?_) rfl (by kernel_rfl) (by kernel_rfl) (by kernel_rfl) (fun _ _ _ h => h) (Or.inl ⟨by rfl, ?_⟩) hHeld ?_
                rotate_left
                focus
                  intro w hSw
                  clear hSw
                  go_simp
                  try with_reducible rfl
                try simp only [Act.put, List.getElem_toArray, List.getElem_cons_zero, List.getElem_cons_succ, List.setIfInBounds_toArray, List.set_cons_zero, List.set_cons_succ]
                refine wpAnyH_take (i := 5) (v := ?_) rfl (by kernel_rfl) (by kernel_rfl) (by kernel_rfl) (fun _ _ _ h => h) (Or.inl ⟨by rfl, ?_⟩) hHeld ?_
                rotate_left
                focus
                  intro w hSw
                  clear hSw
                  go_simp
                  try with_reducible rfl
                try simp only [Act.put, List.getElem_toArray, List.getElem_cons_zero, List.getElem_cons_succ, List.setIfInBounds_toArray, List.set_cons_zero, List.set_cons_succ]
                refine wpAnyH_take (i := 6) (v := ?_) rfl (by kernel_rfl) (by kernel_rfl) (by kernel_rfl) (fun _ _ _ h => h) (Or.inl ⟨by rfl, ?_⟩) hHeld ?_
                rotate_left
                focus
                  intro w hSw
                  clear hSw
                  go_simp
                  try with_reducible rfl
                try simp only [Act.put, List.getElem_toArray, List.getElem_cons_zero, List.getElem_cons_succ, List.setIfInBounds_toArray, List.set_cons_zero, List.set_cons_succ]
                refine wpAnyH_take (i := 7) (v := ?_) rfl (by kernel_rfl) (by kernel_rfl) (by kernel_rfl) (fun _ _ _ h => h) (Or.inl ⟨by rfl, ?_⟩) hHeld ?_
                rotate_left
                focus
                  intro w hSw
                  (try dsimp only at hSw)
                  go_simp
                  try with_reducible rfl
                try simp only [Act.put, List.getElem_toArray, List.getElem_cons_zero, List.getElem_cons_succ, List.setIfInBounds_toArray, List.set_cons_zero, List.set_cons_succ]
                refine wpAnyH_take (i := 8) (v := ?_) rfl (by kernel_rfl) (by kernel_rfl) (by kernel_rfl) (fun _ _ _ h => h) (Or.inl ⟨by rfl, ?_⟩) hHeld ?_
                rotate_left
                focus
                  intro w hSw
                  clear hSw
                  go_simp
                  try with_reducible rfl
                try simp only [Act.put, List.getElem_toArray, List.getElem_cons_zero, List.getElem_cons_succ, List.setIfInBounds_toArray, List.set_cons_zero, List.set_cons_succ]
                refine wpAnyH_ready (rs := [1]) (by kernel_rfl) (by simp) ?_
                refine AllReadyH.cons rfl (fun K hK => ?_) AllReadyH.nil
                go_simp
                refine (HLEFT.out _ (Lib.hid HI)).mono ?_
                rintro e y ⟨rfl, hb⟩
                have HI := HI.below hb
                have HR := HR.below hb
                have HB := HB.trans (hb.mono HB.size)
                have c1 : y.cell? ⟨u, 1, none⟩ = some (.int .i64 pos) := HR.blk.cell 1 _ rfl
                have c2 : y.cell? ⟨u, 2, none⟩ = some (.int .i64 (-1)) := HR.blk.cell 2 _ rfl
                clear hb
                refine hK.out _ _ ⟨c1, c2⟩ (fun hHeld => ?_)
                clear hK K
                try simp only [Act.put, List.getElem_toArray, List.getElem_cons_zero, List.getElem_cons_succ, List.setIfInBounds_toArray, List.set_cons_zero, List.set_cons_succ]
                refine wpAnyH_take (i := 9) (v := ?_) rfl (by kernel_rfl) (by kernel_rfl) (by kernel_rfl) (fun _ _ _ h => h) (Or.inl ⟨by rfl, ?_⟩) hHeld ?_
                rotate_left
                focus
                  intro w hSw
                  clear hSw
                  go_simp
                  try with_reducible rfl
                try simp only [Act.put, List.getElem_toArray, List.getElem_cons_zero, List.getElem_cons_succ, List.setIfInBounds_toArray, List.set_cons_zero, List.set_cons_succ]
                refine wpAnyH_take (i := 10) (v := ?_) rfl (by kernel_rfl) (by kernel_rfl) (by kernel_rfl) (fun _ _ _ h => h) (Or.inl ⟨by rfl, ?_⟩) hHeld ?_
                rotate_left
                focus
                  intro w hSw
                  clear hSw
                  go_simp
                  try with_reducible rfl
                try simp only [Act.put, List.getElem_toArray, List.getElem_cons_zero, List.getElem_cons_succ, List.setIfInBounds_toArray, List.set_cons_zero, List.set_cons_succ]
                refine wpAnyH_take (i := 11) (v := ?_) rfl (by kernel_rfl) (by kernel_rfl) (by kernel_rfl) (fun _ _ _ h => h) (Or.inl ⟨by rfl, ?_⟩) hHeld ?_
                rotate_left
                focus
                  intro w hSw
                  clear hSw
                  go_simp
                  try with_reducible rfl
                try simp only [Act.put, List.getElem_toArray, List.getElem_cons_zero, List.getElem_cons_succ, List.setIfInBounds_toArray, List.set_cons_zero, List.set_cons_succ]
                refine wpAnyH_take (i := 14) (v := ?_) rfl (by kernel_rfl) (by kernel_rfl) (by kernel_rfl) (fun _ _ _ h => h) (Or.inl ⟨by rfl, ?_⟩) hHeld ?_
                rotate_left
                focus
                  intro w hSw
                  clear hSw
                  go_simp
                  try with_reducible rfl
                try simp only [Act.put, List.getElem_toArray, List.getElem_cons_zero, List.getElem_cons_succ, List.setIfInBounds_toArray, List.set_cons_zero, List.set_cons_succ]
                refine wpAnyH_take (i := 15) (v := ?_) rfl (by kernel_rfl) (by kernel_rfl) (by kernel_rfl) (fun _ _ _ h => h) (Or.inl ⟨by rfl, ?_⟩) hHeld ?_
                rotate_left
                focus
                  intro w hSw
                  clear hSw
                  go_simp
                  try with_reducible rfl
                try simp only [Act.put, List.getElem_toArray, List.getElem_cons_zero, List.getElem_cons_succ, List.setIfInBounds_toArray, List.set_cons_zero, List.set_cons_succ]
                refine wpAnyH_take (i := 16) (v := ?_) rfl (by kernel_rfl) (by kernel_rfl) (by kernel_rfl) (fun _ _ _ h => h) (Or.inl ⟨by rfl, ?_⟩) hHeld ?_
                rotate_left
                focus
                  intro w hSw
                  clear hSw
                  go_simp
                  try with_reducible rfl
                try simp only [Act.put, List.getElem_toArray, List.getElem_cons_zero, List.getElem_cons_succ, List.setIfInBounds_toArray, List.set_cons_zero, List.set_cons_succ]
                refine wpAnyH_take (i := 17) (v := ?_) rfl (by kernel_rfl) (by kernel_rfl) (by kernel_rfl) (fun _ _ _ h => h) (Or.inl ⟨by rfl, ?_⟩) hHeld ?_
                rotate_left
                focus
                  intro w hSw
                  (try dsimp only at hSw)
                  go_simp
                  try with_reducible rfl
                try simp only [Act.put, List.getElem_toArray, List.getElem_cons_zero, List.getElem_cons_succ, List.setIfInBounds_toArray, List.set_cons_zero, List.set_cons_succ]
                refine wpAnyH_ready (rs := [12]) (by kernel_rfl) (by simp) ?_
                refine AllReadyH.cons rfl (fun K hK => ?_) AllReadyH.nil
                go_simp
                refine (err_c E q s pos .nilIface none _ (Lib.hid HI)).mono ?_
                rintro e y ⟨rfl, rfl⟩
                refine hK.out _ _ ⟨c1, c2⟩ (fun hHeld => ?_)
                clear hK K
                try simp only [Act.put, List.getElem_toArray, List.getElem_cons_zero, List.getElem_cons_succ, List.setIfInBounds_toArray, List.set_cons_zero, List.set_cons_succ]
                refine wpAnyH_ready (rs := [13]) (by kernel_rfl) (by simp) ?_
                refine AllReadyH.cons rfl (fun K hK => ?_) AllReadyH.nil
                go_simp
                refine (at_nil RD _).mono ?_
                rintro e y ⟨rfl, hb⟩
                have HI := HI.below hb
                have HR := HR.below hb
                have HB := HB.trans (hb.mono HB.size)
                have c1 : y.cell? ⟨u, 1, none⟩ = some (.int .i64 pos) := HR.blk.cell 1 _ rfl
                have c2 : y.cell? ⟨u, 2, none⟩ = some (.int .i64 (-1)) := HR.blk.cell 2 _ rfl
                clear hb
                refine hK.out _ _ ⟨c1, c2⟩ (fun hHeld => ?_)
                clear hK K
                try simp only [Act.put, List.getElem_toArray, List.getElem_cons_zero, List.getElem_cons_succ, List.setIfInBounds_toArray, List.set_cons_zero, List.set_cons_succ]
                refine wpAnyH_take (i := 18) (v := ?_) rfl (by kernel_rfl) (by kernel_rfl) (by kernel_rfl) (fun _ _ _ h => h) (Or.inl ⟨by rfl, ?_⟩) hHeld ?_
                rotate_left
                focus
                  intro w hSw
                  clear hSw
                  go_simp
                  try with_reducible rfl
                try simp only [Act.put, List.getElem_toArray, List.getElem_cons_zero, List.getElem_cons_succ, List.setIfInBounds_toArray, List.set_cons_zero, List.set_cons_succ]
                refine wpAnyH_take (i := 19) (v := ?_) rfl (by kernel_rfl) (by kernel_rfl) (by kernel_rfl) (fun _ _ _ h => h) (Or.inl ⟨by rfl, ?_⟩) hHeld ?_
                rotate_left
                focus
                  intro w hSw
                  clear hSw
                  go_simp
                  try with_reducible rfl
                try simp only [Act.put, List.getElem_toArray, List.getElem_cons_zero, List.getElem_cons_succ, List.setIfInBounds_toArray, List.set_cons_zero, List.set_cons_succ]
                refine wpAnyH_take (i := 20) (v := ?_) rfl (by kernel_rfl) (by kernel_rfl) (by kernel_rfl) (fun _ _ _ h => h) (Or.inl ⟨by rfl, ?_⟩) hHeld ?_
                rotate_left
                focus
                  intro w hSw
                  clear hSw
                  go_simp
                  try with_reducible rfl
                try simp only [Act.put, List.getElem_toArray, List.getElem_cons_zero, List.getElem_cons_succ, List.setIfInBounds_toArray, List.set_cons_zero, List.set_cons_succ]
                refine wpAnyH_take (i := 21) (v := ?_) rfl (by kernel_rfl) (by kernel_rfl) (by kernel_rfl) (fun _ _ _ h => h) (Or.inl ⟨by rfl, ?_⟩) hHeld ?_
                rotate_left
                focus
                  intro w hSw
                  clear hSw
                  go_simp
                  try with_reducible rfl
                try simp only [Act.put, List.getElem_toArray, List.getElem_cons_zero, List.getElem_cons_succ, List.setIfInBounds_toArray, List.set_cons_zero, List.set_cons_succ]
                refine wpAnyH_take (i := 24) (v := ?_) rfl (by kernel_rfl) (by kernel_rfl) (by kernel_rfl) (fun _ _ _ h => h) (Or.inl ⟨by rfl, ?_⟩) hHeld ?_
                rotate_left
                focus
                  intro w hSw
                  clear hSw
                  go_simp
                  try with_reducible rfl
                try simp only [Act.put, List.getElem_toArray, List.getElem_cons_zero, List.getElem_cons_succ, List.setIfInBounds_toArray, List.set_cons_zero, List.set_cons_succ]
                refine wpAnyH_take (i := 25) (v := ?_) rfl (by kernel_rfl) (by kernel_rfl) (by kernel_rfl) (fun _ _ _ h => h) (Or.inl ⟨by rfl, ?_⟩) hHeld ?_
                rotate_left
                focus
                  intro w hSw
                  clear hSw
                  go_simp
                  try with_reducible rfl
                try simp only [Act.put, List.getElem_toArray, List.getElem_cons_zero, List.getElem_cons_succ, List.setIfInBounds_toArray, List.set_cons_zero, List.set_cons_succ]
                refine wpAnyH_take (i := 26) (v := ?_) rfl (by kernel_rfl) (by kernel_rfl) (by kernel_rfl) (fun _ _ _ h => h) (Or.inl ⟨by rfl, ?_⟩) hHeld ?_
                rotate_left
                focus
                  intro w hSw
                  clear hSw
                  go_simp
                  try with_reducible rfl
                try simp only [Act.put, List.getElem_toArray, List.getElem_cons_zero, List.getElem_cons_succ, List.setIfInBounds_toArray, List.set_cons_zero, List.set_cons_succ]
                refine wpAnyH_take (i := 27) (v := ?_) rfl (by kernel_rfl) (by kernel_rfl) (by kernel_rfl) (fun _ _ _ h => h) (Or.inl ⟨by rfl, ?_⟩) hHeld ?_
                rotate_left
                focus
                  intro w hSw
                  (try dsimp only at hSw)
                  go_simp
                  try with_reducible rfl
                try simp only [Act.put, List.getElem_toArray, List.getElem_cons_zero, List.getElem_cons_succ, List.setIfInBounds_toArray, List.set_cons_zero, List.set_cons_succ]
                refine wpAnyH_take (i := 28) (v := ?_) rfl (by kernel_rfl) (by kernel_rfl) (by kernel_rfl) (fun _ _ _ h => h) (Or.inl ⟨by rfl, ?_⟩) hHeld ?_
                rotate_left
                focus
                  intro w hSw
                  clear hSw
                  go_simp
                  try with_reducible rfl
                try simp only [Act.put, List.getElem_toArray, List.getElem_cons_zero, List.getElem_cons_succ, List.setIfInBounds_toArray, List.set_cons_zero, List.set_cons_succ]
                refine wpAnyH_ready (rs := [22]) (by kernel_rfl) (by simp) ?_
                refine AllReadyH.cons rfl (fun K hK => ?_) AllReadyH.nil
                go_simp
                refine (err_c E q s pos .nilIface none _ (Lib.hid HI)).mono ?_
                rintro e y ⟨rfl, rfl⟩
                refine hK.out _ _ ⟨c1, c2⟩ (fun hHeld => ?_)
                clear hK K
                try simp only [Act.put, List.getElem_toArray, List.getElem_cons_zero, List.getElem_cons_succ, List.setIfInBounds_toArray, List.set_cons_zero, List.set_cons_succ]
                refine wpAnyH_take (i := 23) (v := ?_) rfl (by kernel_rfl) (by kernel_rfl) (by kernel_rfl) (fun _ _ _ h => h) (Or.inl ⟨by rfl, ?_⟩) hHeld ?_
                rotate_left
                focus
                  intro w hSw
                  clear hSw
                  go_simp
                  try with_reducible rfl
                try simp only [Act.put, List.getElem_toArray, List.getElem_cons_zero, List.getElem_cons_succ, List.setIfInBounds_toArray, List.set_cons_zero, List.set_cons_succ]
                refine wpAnyH_take (i := 29) (v := ?_) rfl (by kernel_rfl) (by kernel_rfl) (by kernel_rfl) (fun _ _ _ h => h) (Or.inl ⟨by rfl, ?_⟩) hHeld ?_
                rotate_left
                focus
                  intro w hSw
                  clear hSw
                  go_simp
                  try with_reducible rfl
                try simp only [Act.put, List.getElem_toArray, List.getElem_cons_zero, List.getElem_cons_succ, List.setIfInBounds_toArray, List.set_cons_zero, List.set_cons_succ]
                refine wpAnyH_take (i := 30) (v := ?_) rfl (by kernel_rfl) (by kernel_rfl) (by kernel_rfl) (fun _ _ _ h => h) (Or.inl ⟨by rfl, ?_⟩) hHeld ?_
                rotate_left
                focus
                  intro w hSw
                  clear hSw
                  go_simp
                  try with_reducible rfl
                try simp only [Act.put, List.getElem_toArray, List.getElem_cons_zero, List.getElem_cons_succ, List.setIfInBounds_toArray, List.set_cons_zero, List.set_cons_succ]
                refine wpAnyH_done (by kernel_rfl) ?_ _
                refine NoPanic.normal ?_
                have HI9b := Lib.hid HI
                have HR9b := Lib.hid HR
                have HB9b := Lib.hid HB
                clear HI HR HB HI9 HR9 HB9 c1 c2
                go_wp2_with fail
                refine (iend_c E q s pos .nilIface none _ HI9b HSM.out (Lib.hid (HENV.out _ HB9b.out))).mono ?_
                rintro e W10 ⟨v, rfl, hv, hb⟩
                have HI10 := Lib.hid (HI9b.out.below hb)
                have HR10 := Lib.hid (HR9b.out.below hb)
                have HB10 := Lib.hid (HB9b.out.trans (hb.mono HB9b.out.size))
                have c1 : W10.cell? ⟨u, 1, none⟩ = some (.int .i64 pos) := HR10.out.blk.cell 1 _ rfl
                have c2 : W10.cell? ⟨u, 2, none⟩ = some (.int .i64 (-1)) := HR10.out.blk.cell 2 _ rfl
                clear hb HI9b HR9b HB9b
                obtain rfl : v = .nilIface := by
                  unfold EndIs at hv
                  simp only at hv
                  rwa [if_pos HPS.out] at hv
                clear hv
                have HI := HI10.out
                have HR := HR10.out
                have HB := HB10.out
                have HIz := Lib.hid HI
                have HRz := Lib.hid HR
                have HBz := Lib.hid HB
                clear HI HR HB
                go_wp2_with fail
                refine ⟨⟨k + 1, (pos, none), _, rfl, by omega, by omega, by go_num, ⟨_, HIz.out⟩, HRz, HBz⟩, by simp [intOf]; omega⟩
              · have hpn : (pos : Int) < (s.size : Int) := by omega
                have HPS := Lib.hid hps
                clear hps
                go_wp2_with fail
                refine wp_region_noPanic ?_
                refine wp_region_held_drew (S := (fun w' => w'.cell? ⟨u, 1, none⟩ = some (.int .i64 pos) ∧ w'.cell? ⟨u, 2, none⟩ = some (.int .i64 (-1)))) (by kernel_rfl) ⟨c1, c2⟩ (fun hHeld => ?_)
                have HI := HI9.out.drew
                have HR := HR9.out.drew
                have HB := HB9.out.drew
                refine wpAnyH_take (i := 0) (v := ?_) rfl (by kernel_rfl) (by kernel_rfl) (by kernel_rfl) (fun _ _ _ h => h) (Or.inl ⟨by rfl, ?_⟩) hHeld ?_
                rotate_left
                focus
                  intro w hSw
                  clear hSw
                  go_simp
                  try with_reducible rfl
                try simp only [Act.put, List.getElem_toArray, List.getElem_cons_zero, List.getElem_cons_succ, List.setIfInBounds_toArray, List.set_cons_zero, List.set_cons_succ]
                refine wpAnyH_take (i := 2) (v := ?_) rfl (by kernel_rfl) (by kernel_rfl) (by kernel_rfl) (fun _ _ _ h => h) (Or.inl ⟨by rfl, ?_⟩) hHeld ?_
                rotate_left
                focus
                  intro w hSw
                  clear hSw
                  go_simp
                  try with_reducible rfl
                try simp only [Act.put, List.getElem_toArray, List.getElem_cons_zero, List.getElem_cons_succ, List.setIfInBounds_toArray, List.set_cons_zero, List.set_cons_succ]
                refine wpAnyH_take (i := 3) (v := ?_) rfl (by kernel_rfl) (by kernel_rfl) (by kernel_rfl) (fun _ _ _ h => h) (Or.inl ⟨by rfl, ?_⟩) hHeld ?_
                rotate_left
                focus
                  intro w hSw
                  clear hSw
                  go_simp
                  try with_reducible rfl
                try simp only [Act.put, List.getElem_toArray, List.getElem_cons_zero, List.getElem_cons_succ, List.setIfInBounds_toArray, List.set_cons_zero, List.set_cons_succ]
                refine wpAnyH_take (i := 4) (v := ?_) rfl (by kernel_rfl) (by kernel_rfl) (by kernel_rfl) (fun _ _ _ h => h) (Or.inl ⟨by rfl, ?_⟩) hHeld ?_
                rotate_left
                focus
                  intro w hSw
                  clear hSw
                  go_simp
                  try with_reducible rfl
                try simp only [Act.put, List.getElem_toArray, List.getElem_cons_zero, List.getElem_cons_succ, List.setIfInBounds_toArray, List.set_cons_zero, List.set_cons_succ]
                refine wpAnyH_take (i := 5) (v := ?_) rfl (by kernel_rfl) (by kernel_rfl) (by kernel_rfl) (fun _ _ _ h => h) (Or.inl ⟨by rfl, ?_⟩) hHeld ?_
                rotate_left
                focus
                  intro w hSw
                  clear hSw
                  go_simp
                  try with_reducible rfl
                try simp only [Act.put, List.getElem_toArray, List.getElem_cons_zero, List.getElem_cons_succ, List.setIfInBounds_toArray, List.set_cons_zero, List.set_cons_succ]
                refine wpAnyH_take (i := 6) (v := ?_) rfl (by kernel_rfl) (by kernel_rfl) (by kernel_rfl) (fun _ _ _ h => h) (Or.inl ⟨by rfl, ?_⟩) hHeld ?_
                rotate_left
                focus
                  intro w hSw
                  clear hSw
                  go_simp
                  try with_reducible rfl
                try simp only [Act.put, List.getElem_toArray, List.getElem_cons_zero, List.getElem_cons_succ, List.setIfInBounds_toArray, List.set_cons_zero, List.set_cons_succ]
                refine wpAnyH_take (i := 7) (v := ?_) rfl (by kernel_rfl) (by kernel_rfl) (by kernel_rfl) (fun _ _ _ h => h) (Or.inl ⟨by rfl, ?_⟩) hHeld ?_
                rotate_left
                focus
                  intro w hSw
                  (try dsimp only at hSw)
                  go_simp
                  try with_reducible rfl
                try simp only [Act.put, List.getElem_toArray, List.getElem_cons_zero, List.getElem_cons_succ, List.setIfInBounds_toArray, List.set_cons_zero, List.set_cons_succ]
                refine wpAnyH_take (i := 8) (v := ?_) rfl (by kernel_rfl) (by kernel_rfl) (by kernel_rfl) (fun _ _ _ h => h) (Or.inl ⟨by rfl, ?_⟩) hHeld ?_
                rotate_left
                focus
                  intro w hSw
                  clear hSw
                  go_simp
                  try with_reducible rfl
                try simp only [Act.put, List.getElem_toArray, List.getElem_cons_zero, List.getElem_cons_succ, List.setIfInBounds_toArray, List.set_cons_zero, List.set_cons_succ]
                refine wpAnyH_ready (rs := [1]) (by kernel_rfl) (by simp) ?_
                refine AllReadyH.cons rfl (fun K hK => ?_) AllReadyH.nil
                go_simp
                refine (HLEFT.out _ (Lib.hid HI)).mono ?_
                rintro e y ⟨rfl, hb⟩
                have HI := HI.below hb
                have HR := HR.below hb
                have HB := HB.trans (hb.mono HB.size)
                have c1 : y.cell? ⟨u, 1, none⟩ = some (.int .i64 pos) := HR.blk.cell 1 _ rfl
                have c2 : y.cell? ⟨u, 2, none⟩ = some (.int .i64 (-1)) := HR.blk.cell 2 _ rfl
                clear hb
                refine hK.out _ _ ⟨c1, c2⟩ (fun hHeld => ?_)
                clear hK K
                try simp only [Act.put, List.getElem_toArray, List.getElem_cons_zero, List.getElem_cons_succ, List.setIfInBounds_toArray, List.set_cons_zero, List.set_cons_succ]
                refine wpAnyH_take (i := 9) (v := ?_) rfl (by kernel_rfl) (by kernel_rfl) (by kernel_rfl) (fun _ _ _ h => h) (Or.inl ⟨by rfl, ?_⟩) hHeld ?_
                rotate_left
                focus
                  intro w hSw
                  clear hSw
                  go_simp
                  try with_reducible rfl
                try simp only [Act.put, List.getElem_toArray, List.getElem_cons_zero, List.getElem_cons_succ, List.setIfInBounds_toArray, List.set_cons_zero, List.set_cons_succ]
                refine wpAnyH_take (i := 10) (v := ?_) rfl (by kernel_rfl) (by kernel_rfl) (by kernel_rfl) (fun _ _ _ h => h) (Or.inl ⟨by rfl, ?_⟩) hHeld ?_
                rotate_left
                focus
                  intro w hSw
                  clear hSw
                  go_simp
                  try with_reducible rfl
                try simp only [Act.put, List.getElem_toArray, List.getElem_cons_zero, List.getElem_cons_succ, List.setIfInBounds_toArray, List.set_cons_zero, List.set_cons_succ]
                refine wpAnyH_take (i := 11) (v := ?_) rfl (by kernel_rfl) (by kernel_rfl) (by kernel_rfl) (fun _ _ _ h => h) (Or.inl ⟨by rfl, ?_⟩) hHeld ?_
                rotate_left
                focus
                  intro w hSw
                  clear hSw
                  go_simp
                  try with_reducible rfl
                try simp only [Act.put, List.getElem_toArray, List.getElem_cons_zero, List.getElem_cons_succ, List.setIfInBounds_toArray, List.set_cons_zero, List.set_cons_succ]
                refine wpAnyH_take (i := 14) (v := ?_) rfl (by kernel_rfl) (by kernel_rfl) (by kernel_rfl) (fun _ _ _ h => h) (Or.inl ⟨by rfl, ?_⟩) hHeld ?_
                rotate_left
                focus
                  intro w hSw
                  clear hSw
                  go_simp
                  try with_reducible rfl
                try simp only [Act.put, List.getElem_toArray, List.getElem_cons_zero, List.getElem_cons_succ, List.setIfInBounds_toArray, List.set_cons_zero, List.set_cons_succ]
                refine wpAnyH_take (i := 15) (v := ?_) rfl (by kernel_rfl) (by kernel_rfl) (by kernel_rfl) (fun _ _ _ h => h) (Or.inl ⟨by rfl, ?_⟩) hHeld ?_
                rotate_left
                focus
                  intro w hSw
                  clear hSw
                  go_simp
                  try with_reducible rfl
                try simp only [Act.put, List.getElem_toArray, List.getElem_cons_zero, List.getElem_cons_succ, List.setIfInBounds_toArray, List.set_cons_zero, List.set_cons_succ]
                refine wpAnyH_take (i := 16) (v := ?_) rfl (by kernel_rfl) (by kernel_rfl) (by kernel_rfl) (fun _ _ _ h => h) (Or.inl ⟨by rfl, ?_⟩) hHeld ?_
                rotate_left
                focus
                  intro w hSw
                  clear hSw
                  go_simp
                  try with_reducible rfl
                try simp only [Act.put, List.getElem_toArray, List.getElem_cons_zero, List.getElem_cons_succ, List.setIfInBounds_toArray, List.set_cons_zero, List.set_cons_succ]
                refine wpAnyH_take (i := 17) (v := ?_) rfl (by kernel_rfl) (by kernel_rfl) (by kernel_rfl) (fun _ _ _ h => h) (Or.inl ⟨by rfl, ?_⟩) hHeld ?_
                rotate_left
                focus
                  intro w hSw
                  (try dsimp only at hSw)
                  go_simp
                  try with_reducible rfl
                try simp only [Act.put, List.getElem_toArray, List.getElem_cons_zero, List.getElem_cons_succ, List.setIfInBounds_toArray, List.set_cons_zero, List.set_cons_succ]
                refine wpAnyH_ready (rs := [12]) (by kernel_rfl) (by simp) ?_
                refine AllReadyH.cons rfl (fun K hK => ?_) AllReadyH.nil
                go_simp
                refine (err_c E q s pos .nilIface none _ (Lib.hid HI)).mono ?_
                rintro e y ⟨rfl, rfl⟩
                refine hK.out _ _ ⟨c1, c2⟩ (fun hHeld => ?_)
                clear hK K
                try simp only [Act.put, List.getElem_toArray, List.getElem_cons_zero, List.getElem_cons_succ, List.setIfInBounds_toArray, List.set_cons_zero, List.set_cons_succ]
                refine wpAnyH_ready (rs := [13]) (by kernel_rfl) (by simp) ?_
                refine AllReadyH.cons rfl (fun K hK => ?_) AllReadyH.nil
                go_simp
                refine (at_nil RD _).mono ?_
                rintro e y ⟨rfl, hb⟩
                have HI := HI.below hb
                have HR := HR.below hb
                have HB := HB.trans (hb.mono HB.size)
                have c1 : y.cell? ⟨u, 1, none⟩ = some (.int .i64 pos) := HR.blk.cell 1 _ rfl
                have c2 : y.cell? ⟨u, 2, none⟩ = some (.int .i64 (-1)) := HR.blk.cell 2 _ rfl
                clear hb
                refine hK.out _ _ ⟨c1, c2⟩ (fun hHeld => ?_)
                clear hK K
                try simp only [Act.put, List.getElem_toArray, List.getElem_cons_zero, List.getElem_cons_succ, List.setIfInBounds_toArray, List.set_cons_zero, List.set_cons_succ]
                refine wpAnyH_take (i := 18) (v := ?_) rfl (by kernel_rfl) (by kernel_rfl) (by kernel_rfl) (fun _ _ _ h => h) (Or.inl ⟨by rfl, ?_⟩) hHeld ?_
                rotate_left
                focus
                  intro w hSw
                  clear hSw
                  go_simp
                  try with_reducible rfl
                try simp only [Act.put, List.getElem_toArray, List.getElem_cons_zero, List.getElem_cons_succ, List.setIfInBounds_toArray, List.set_cons_zero, List.set_cons_succ]
                refine wpAnyH_take (i := 19) (v := ?_) rfl (by kernel_rfl) (by kernel_rfl) (by kernel_rfl) (fun _ _ _ h => h) (Or.inl ⟨by rfl, ?_⟩) hHeld ?_
                rotate_left
                focus
                  intro w hSw
                  clear hSw
                  go_simp
                  try with_reducible rfl
                try simp only [Act.put, List.getElem_toArray, List.getElem_cons_zero, List.getElem_cons_succ, List.setIfInBounds_toArray, List.set_cons_zero, List.set_cons_succ]
                refine wpAnyH_take (i := 20) (v := ?_) rfl (by kernel_rfl) (by kernel_rfl) (by kernel_rfl) (fun _ _ _ h => h) (Or.inl ⟨by rfl, ?_⟩) hHeld ?_
                rotate_left
                focus
                  intro w hSw
                  clear hSw
                  go_simp
                  try with_reducible rfl
                try simp only [Act.put, List.getElem_toArray, List.getElem_cons_zero, List.getElem_cons_succ, List.setIfInBounds_toArray, List.set_cons_zero, List.set_cons_succ]
                refine wpAnyH_take (i := 21) (v := ?_) rfl (by kernel_rfl) (by kernel_rfl) (by kernel_rfl) (fun _ _ _ h => h) (Or.inl ⟨by rfl, ?_⟩) hHeld ?_
                rotate_left
                focus
                  intro w hSw
                  clear hSw
                  go_simp
                  try with_reducible rfl
                try simp only [Act.put, List.getElem_toArray, List.getElem_cons_zero, List.getElem_cons_succ, List.setIfInBounds_toArray, List.set_cons_zero, List.set_cons_succ]
                refine wpAnyH_take (i := 24) (v := ?_) rfl (by kernel_rfl) (by kernel_rfl) (by kernel_rfl) (fun _ _ _ h => h) (Or.inl ⟨by rfl, ?_⟩) hHeld ?_
                rotate_left
                focus
                  intro w hSw
                  clear hSw
                  go_simp
                  try with_reducible rfl
                try simp only [Act.put, List.getElem_toArray, List.getElem_cons_zero, List.getElem_cons_succ, List.setIfInBounds_toArray, List.set_cons_zero, List.set_cons_succ]
                refine wpAnyH_take (i := 25) (v := ?_) rfl (by kernel_rfl) (by kernel_rfl) (by kernel_rfl) (fun _ _ _ h => h) (Or.inl ⟨by rfl, ?_⟩) hHeld ?_
                rotate_left
                focus
                  intro w hSw
                  clear hSw
                  go_simp
                  try with_reducible rfl
                try simp only [Act.put, List.getElem_toArray, List.getElem_cons_zero, List.getElem_cons_succ, List.setIfInBounds_toArray, List.set_cons_zero, List.set_cons_succ]
                refine wpAnyH_take (i := 26) (v := ?_) rfl (by kernel_rfl) (by kernel_rfl) (by kernel_rfl) (fun _ _ _ h => h) (Or.inl ⟨by rfl, ?_⟩) hHeld ?_
                rotate_left
                focus
                  intro w hSw
                  clear hSw
                  go_simp
                  try with_reducible rfl
                try simp only [Act.put, List.getElem_toArray, List.getElem_cons_zero, List.getElem_cons_succ, List.setIfInBounds_toArray, List.set_cons_zero, List.set_cons_succ]
                refine wpAnyH_take (i := 27) (v := ?_) rfl (by kernel_rfl) (by kernel_rfl) (by kernel_rfl) (fun _ _ _ h => h) (Or.inl ⟨by rfl, ?_⟩) hHeld ?_
                rotate_left
                focus
                  intro w hSw
                  (try dsimp only at hSw)
                  go_simp
                  try with_reducible rfl
                try simp only [Act.put, List.getElem_toArray, List.getElem_cons_zero, List.getElem_cons_succ, List.setIfInBounds_toArray, List.set_cons_zero, List.set_cons_succ]
                refine wpAnyH_take (i := 28) (v := ?_) rfl (by kernel_rfl) (by kernel_rfl) (by kernel_rfl) (fun _ _ _ h => h) (Or.inl ⟨by rfl, ?_⟩) hHeld ?_
                rotate_left
                focus
                  intro w hSw
                  clear hSw
                  go_simp
                  try with_reducible rfl
                try simp only [Act.put, List.getElem_toArray, List.getElem_cons_zero, List.getElem_cons_succ, List.setIfInBounds_toArray, List.set_cons_zero, List.set_cons_succ]
                refine wpAnyH_ready (rs := [22]) (by kernel_rfl) (by simp) ?_
                refine AllReadyH.cons rfl (fun K hK => ?_) AllReadyH.nil
                go_simp
                refine (err_c E q s pos .nilIface none _ (Lib.hid HI)).mono ?_
                rintro e y ⟨rfl, rfl⟩
                refine hK.out _ _ ⟨c1, c2⟩ (fun hHeld => ?_)
                clear hK K
                try simp only [Act.put, List.getElem_toArray, List.getElem_cons_zero, List.getElem_cons_succ, List.setIfInBounds_toArray, List.set_cons_zero, List.set_cons_succ]
                refine wpAnyH_take (i := 23) (v := ?_) rfl (by kernel_rfl) (by kernel_rfl) (by kernel_rfl) (fun _ _ _ h => h) (Or.inl ⟨by rfl, ?_⟩) hHeld ?_
                rotate_left
                focus
                  intro w hSw
                  clear hSw
                  go_simp
                  try with_reducible rfl
                try simp only [Act.put, List.getElem_toArray, List.getElem_cons_zero, List.getElem_cons_succ, List.setIfInBounds_toArray, List.set_cons_zero, List.set_cons_succ]
                refine wpAnyH_take (i := 29) (v := ?_) rfl (by kernel_rfl) (by kernel_rfl) (by kernel_rfl) (fun _ _ _ h => h) (Or.inl ⟨by rfl, ?_⟩) hHeld ?_
                rotate_left
                focus
                  intro w hSw
                  clear hSw
                  go_simp
                  try with_reducible rfl
                try simp only [Act.put, List.getElem_toArray, List.getElem_cons_zero, List.getElem_cons_succ, List.setIfInBounds_toArray, List.set_cons_zero, List.set_cons_succ]
                refine wpAnyH_take (i := 30) (v := ?_) rfl (by kernel_rfl) (by kernel_rfl) (by kernel_rfl) (fun _ _ _ h => h) (Or.inl ⟨by rfl, ?_⟩) hHeld ?_
                rotate_left
                focus
                  intro w hSw
                  clear hSw
                  go_simp
                  try with_reducible rfl
                try simp only [Act.put, List.getElem_toArray, List.getElem_cons_zero, List.getElem_cons_succ, List.setIfInBounds_toArray, List.set_cons_zero, List.set_cons_succ]
                refine wpAnyH_done (by kernel_rfl) ?_ _
                refine NoPanic.normal ?_
                have HI9b := Lib.hid HI
                have HR9b := Lib.hid HR
                have HB9b := Lib.hid HB
                clear HI HR HB HI9 HR9 HB9 c1 c2
                go_wp2_with fail
                refine (iend_c E q s pos .nilIface none _ HI9b HSM.out (Lib.hid (HENV.out _ HB9b.out))).mono ?_
                rintro e W10 ⟨v, rfl, hv, hb⟩
                have HI10 := Lib.hid (HI9b.out.below hb)
                have HR10 := Lib.hid (HR9b.out.below hb)
                have HB10 := Lib.hid (HB9b.out.trans (hb.mono HB9b.out.size))
                have c1 : W10.cell? ⟨u, 1, none⟩ = some (.int .i64 pos) := HR10.out.blk.cell 1 _ rfl
                have c2 : W10.cell? ⟨u, 2, none⟩ = some (.int .i64 (-1)) := HR10.out.blk.cell 2 _ rfl
                clear hb HI9b HR9b HB9b
                obtain ⟨g2, rfl, hg2⟩ : ∃ g, v = faultV g ∧ Blk W10 g #[.string EN, .int .i64 pos, erV E 3] 133 := by
                  unfold EndIs at hv
                  simp only at hv
                  rwa [if_neg HPS.out] at hv
                clear hv
                unfold faultV
                go_wp2_with fail
                refine wp_region_noPanic ?_
                refine wp_region_held_drew (S := (fun w' => w'.cell? ⟨u, 1, none⟩ = some (.int .i64 pos) ∧ w'.cell? ⟨u, 2, none⟩ = some (.int .i64 (-1)))) (by kernel_rfl) ⟨c1, c2⟩ (fun hHeld => ?_)
                have HI := HI10.out.drew
                have HR := HR10.out.drew
                have HB := HB10.out.drew
                have HG2 : Blk W10.drew g2 #[.string EN, .int .i64 pos, erV E 3] 133 := hg2
                refine wpAnyH_take (i := 0) (v := ?_) rfl (by kernel_rfl) (by kernel_rfl) (by kernel_rfl) (fun _ _ _ h => h) (Or.inl ⟨by rfl, ?_⟩) hHeld ?_
                rotate_left
                focus
                  intro w hSw
                  clear hSw
                  go_simp
                  try with_reducible rfl
                try simp only [Act.put, List.getElem_toArray, List.getElem_cons_zero, List.getElem_cons_succ, List.setIfInBounds_toArray, List.set_cons_zero, List.set_cons_succ]
                refine wpAnyH_take (i := 2) (v := ?_) rfl (by kernel_rfl) (by kernel_rfl) (by kernel_rfl) (fun _ _ _ h => h) (Or.inl ⟨by rfl, ?_⟩) hHeld ?_
                rotate_left
                focus
                  intro w hSw
                  clear hSw
                  go_simp
                  try with_reducible rfl
                try simp only [Act.put, List.getElem_toArray, List.getElem_cons_zero, List.getElem_cons_succ, List.setIfInBounds_toArray, List.set_cons_zero, List.set_cons_succ]
                refine wpAnyH_take (i := 3) (v := ?_) rfl (by kernel_rfl) (by kernel_rfl) (by kernel_rfl) (fun _ _ _ h => h) (Or.inl ⟨by rfl, ?_⟩) hHeld ?_
                rotate_left
                focus
                  intro w hSw
                  clear hSw
                  go_simp
                  try with_reducible rfl
                try simp only [Act.put, List.getElem_toArray, List.getElem_cons_zero, List.getElem_cons_succ, List.setIfInBounds_toArray, List.set_cons_zero, List.set_cons_succ]
                refine wpAnyH_take (i := 4) (v := ?_) rfl (by kernel_rfl) (by kernel_rfl) (by kernel_rfl) (fun _ _ _ h => h) (Or.inl ⟨by rfl, ?_⟩) hHeld ?_
                rotate_left
                focus
                  intro w hSw
                  clear hSw
                  go_simp
                  try with_reducible rfl
                try simp only [Act.put, List.getElem_toArray, List.getElem_cons_zero, List.getElem_cons_succ, List.setIfInBounds_toArray, List.set_cons_zero, List.set_cons_succ]
                refine wpAnyH_take (i := 5) (v := ?_) rfl (by kernel_rfl) (by kernel_rfl) (by kernel_rfl) (fun _ _ _ h => h) (Or.inl ⟨by rfl, ?_⟩) hHeld ?_
                rotate_left
                focus
                  intro w hSw
                  (try dsimp only at hSw)
                  go_simp
                  try with_reducible rfl
                try simp only [Act.put, List.getElem_toArray, List.getElem_cons_zero, List.getElem_cons_succ, List.setIfInBounds_toArray, List.set_cons_zero, List.set_cons_succ]
                refine wpAnyH_ready (rs := [1]) (by kernel_rfl) (by simp) ?_
                refine AllReadyH.cons rfl (fun K hK => ?_) AllReadyH.nil
                go_simp
                refine (at_hit E B g2 EN pos _ (Lib.hid (HEN.out _ HB)) (Lib.hid HG2)).mono ?_
                rintro e y ⟨rfl, hb⟩
                have HI := HI.below hb
                have HR := HR.below hb
                have HB := HB.trans (hb.mono HB.size)
                have c1 : y.cell? ⟨u, 1, none⟩ = some (.int .i64 pos) := HR.blk.cell 1 _ rfl
                have c2 : y.cell? ⟨u, 2, none⟩ = some (.int .i64 (-1)) := HR.blk.cell 2 _ rfl
                clear hb
                refine hK.out _ _ ⟨c1, c2⟩ (fun hHeld => ?_)
                clear hK K
                try simp only [Act.put, List.getElem_toArray, List.getElem_cons_zero, List.getElem_cons_succ, List.setIfInBounds_toArray, List.set_cons_zero, List.set_cons_succ]
                refine wpAnyH_take (i := 6) (v := ?_) rfl (by kernel_rfl) (by kernel_rfl) (by kernel_rfl) (fun _ _ _ h => h) (Or.inl ⟨by rfl, ?_⟩) hHeld ?_
                rotate_left
                focus
                  intro w hSw
                  clear hSw
                  go_simp
                  try with_reducible rfl
                try simp only [Act.put, List.getElem_toArray, List.getElem_cons_zero, List.getElem_cons_succ, List.setIfInBounds_toArray, List.set_cons_zero, List.set_cons_succ]
                refine wpAnyH_done (by kernel_rfl) ?_ _
                refine NoPanic.normal ?_
                have HIz := Lib.hid HI
                have HRz := Lib.hid HR
                have HBz := Lib.hid HB
                clear HI HR HB
                go_wp2_with fail
                refine ⟨⟨k + 1, (pos, none), _, rfl, by omega, by omega, by go_num, ⟨_, HIz.out⟩, HRz, HBz⟩, by simp [intOf]; omega⟩
        · have hk1 : (k : Int) < (len : Int) := by omega
          have hk2 : ¬ (k : Int) < 40 := by omega
          have gN := HNL.out _ HB0.out
          have vn := vec_eq_self 0 0 0 0
          have vg := vecGuard
          clear HI0 HR0
          go_wp2_with fail
          refine wp_region_noPanic ?_
          refine wp_region_held_drew (S := (fun w' => w'.cell? ⟨0, 0, none⟩ = some (.iface 202 (.pointer (some (E 2)))))) (by kernel_rfl) gN (fun hHeld => ?_)
          have HB := HB0.out.drew
          refine wpAnyH_take (i := 0) (v := ?_) rfl (by kernel_rfl) (by kernel_rfl) (by kernel_rfl) (fun _ _ _ h => h) (Or.inl ⟨by rfl, ?_⟩) hHeld ?_
          rotate_left
          focus
            intro w hSw
            clear hSw
            go_simp
            try with_reducible rfl
          try simp only [Act.put, List.getElem_toArray, List.getElem_cons_zero, List.getElem_cons_succ, List.setIfInBounds_toArray, List.set_cons_zero, List.set_cons_succ]
          refine wpAnyH_ready (rs := [1]) (by kernel_rfl) (by simp) ?_
          refine AllReadyH.cons rfl (fun K hK => ?_) AllReadyH.nil
          go_simp
          refine (iint_nil _).mono ?_
          rintro e y ⟨rfl, rfl⟩
          refine hK.out _ _ gN (fun hHeld => ?_)
          clear hK K
          try simp only [Act.put, List.getElem_toArray, List.getElem_cons_zero, List.getElem_cons_succ, List.setIfInBounds_toArray, List.set_cons_zero, List.set_cons_succ]
          refine wpAnyH_take (i := 2) (v := ?_) rfl (by kernel_rfl) (by kernel_rfl) (by kernel_rfl) (fun _ _ _ h => h) (Or.inl ⟨by rfl, ?_⟩) hHeld ?_
          rotate_left
          focus
            intro w hSw
            clear hSw
            go_simp
            try with_reducible rfl
          try simp only [Act.put, List.getElem_toArray, List.getElem_cons_zero, List.getElem_cons_succ, List.setIfInBounds_toArray, List.set_cons_zero, List.set_cons_succ]
          refine wpAnyH_take (i := 3) (v := ?_) rfl (by kernel_rfl) (by kernel_rfl) (by kernel_rfl) (fun _ _ _ h => h) (Or.inl ⟨by rfl, ?_⟩) hHeld ?_
          rotate_left
          focus
            intro w hSw
            clear hSw
            go_simp
            try with_reducible rfl
          try simp only [Act.put, List.getElem_toArray, List.getElem_cons_zero, List.getElem_cons_succ, List.setIfInBounds_toArray, List.set_cons_zero, List.set_cons_succ]
          refine wpAnyH_take (i := 4) (v := ?_) rfl (by kernel_rfl) (by kernel_rfl) (by kernel_rfl) (fun _ _ _ h => h) (Or.inl ⟨by rfl, ?_⟩) hHeld ?_
          rotate_left
          focus
            intro w hSw
            clear hSw
            go_simp
            try with_reducible rfl
          try simp only [Act.put, List.getElem_toArray, List.getElem_cons_zero, List.getElem_cons_succ, List.setIfInBounds_toArray, List.set_cons_zero, List.set_cons_succ]
          refine wpAnyH_ready (rs := [5]) (by kernel_rfl) (by simp) ?_
          refine AllReadyH.cons rfl (fun K hK => ?_) AllReadyH.nil
          go_simp
          refine (itext_nil 9 _).mono ?_
          rintro e y ⟨rfl, rfl⟩
          refine hK.out _ _ gN (fun hHeld => ?_)
          clear hK K
          try simp only [Act.put, List.getElem_toArray, List.getElem_cons_zero, List.getElem_cons_succ, List.setIfInBounds_toArray, List.set_cons_zero, List.set_cons_succ]
          refine wpAnyH_take (i := 6) (v := ?_) rfl (by kernel_rfl) (by kernel_rfl) (by kernel_rfl) (fun _ _ _ h => h) (Or.inl ⟨by rfl, ?_⟩) hHeld ?_
          rotate_left
          focus
            intro w hSw
            clear hSw
            go_simp
            try with_reducible rfl
          try simp only [Act.put, List.getElem_toArray, List.getElem_cons_zero, List.getElem_cons_succ, List.setIfInBounds_toArray, List.set_cons_zero, List.set_cons_succ]
          refine wpAnyH_take (i := 7) (v := ?_) rfl (by kernel_rfl) (by kernel_rfl) (by kernel_rfl) (fun _ _ _ h => h) (Or.inl ⟨by rfl, ?_⟩) hHeld ?_
          rotate_left
          focus
            intro w hSw
            clear hSw
            go_simp
            try with_reducible rfl
          try simp only [Act.put, List.getElem_toArray, List.getElem_cons_zero, List.getElem_cons_succ, List.setIfInBounds_toArray, List.set_cons_zero, List.set_cons_succ]
          refine wpAnyH_take (i := 8) (v := ?_) rfl (by kernel_rfl) (by kernel_rfl) (by kernel_rfl) (fun _ _ _ h => h) (Or.inl ⟨by rfl, ?_⟩) hHeld ?_
          rotate_left
          focus
            intro w hSw
            clear hSw
            go_simp
            try with_reducible rfl
          try simp only [Act.put, List.getElem_toArray, List.getElem_cons_zero, List.getElem_cons_succ, List.setIfInBounds_toArray, List.set_cons_zero, List.set_cons_succ]
          refine wpAnyH_take (i := 9) (v := ?_) rfl (by kernel_rfl) (by kernel_rfl) (by kernel_rfl) (fun _ _ _ h => h) (Or.inl ⟨by rfl, ?_⟩) hHeld ?_
          rotate_left
          focus
            intro w hSw
            clear hSw
            go_simp
            try with_reducible rfl
          try simp only [Act.put, List.getElem_toArray, List.getElem_cons_zero, List.getElem_cons_succ, List.setIfInBounds_toArray, List.set_cons_zero, List.set_cons_succ]
          refine wpAnyH_take (i := 11) (v := ?_) rfl (by kernel_rfl) (by kernel_rfl) (by kernel_rfl) (fun _ _ _ h => h) (Or.inl ⟨by rfl, ?_⟩) hHeld ?_
          rotate_left
          focus
            intro w hSw
            clear hSw
            go_simp
            try with_reducible rfl
          try simp only [Act.put, List.getElem_toArray, List.getElem_cons_zero, List.getElem_cons_succ, List.setIfInBounds_toArray, List.set_cons_zero, List.set_cons_succ]
          refine wpAnyH_ready (rs := [10]) (by kernel_rfl) (by simp) ?_
          refine AllReadyH.cons rfl (fun K hK => ?_) AllReadyH.nil
          go_simp
          refine (ivec_nil E _ (by rw [erV_some E 2 (by decide)]; exact gN)).mono ?_
          rintro e y ⟨rfl, hb⟩
          have HB := HB.trans (hb.mono HB.size)
          have gN := HNL.out _ HB
          clear hb
          unfold vecV
          refine hK.out _ _ gN (fun hHeld => ?_)
          clear hK K
          try simp only [Act.put, List.getElem_toArray, List.getElem_cons_zero, List.getElem_cons_succ, List.setIfInBounds_toArray, List.set_cons_zero, List.set_cons_succ]
          refine wpAnyH_take (i := 12) (v := ?_) rfl (by kernel_rfl) (by kernel_rfl) (by kernel_rfl) (fun _ _ _ h => h) (Or.inl ⟨by rfl, ?_⟩) hHeld ?_
          rotate_left
          focus
            intro w hSw
            clear hSw
            go_simp
            try with_reducible rfl
          try simp only [Act.put, List.getElem_toArray, List.getElem_cons_zero, List.getElem_cons_succ, List.setIfInBounds_toArray, List.set_cons_zero, List.set_cons_succ]
          refine wpAnyH_take (i := 13) (v := ?_) rfl (by kernel_rfl) (by kernel_rfl) (by kernel_rfl) (fun _ _ _ h => h) (Or.inl ⟨by rfl, ?_⟩) hHeld ?_
          rotate_left
          focus
            intro w hSw
            clear hSw
            go_simp
            try with_reducible rfl
          try simp only [Act.put, List.getElem_toArray, List.getElem_cons_zero, List.getElem_cons_succ, List.setIfInBounds_toArray, List.set_cons_zero, List.set_cons_succ]
          refine wpAnyH_take (i := 14) (v := ?_) rfl (by kernel_rfl) (by kernel_rfl) (by kernel_rfl) (fun _ _ _ h => h) (Or.inl ⟨by rfl, ?_⟩) hHeld ?_
          rotate_left
          focus
            intro w hSw
            clear hSw
            go_simp
            try with_reducible rfl
          try simp only [Act.put, List.getElem_toArray, List.getElem_cons_zero, List.getElem_cons_succ, List.setIfInBounds_toArray, List.set_cons_zero, List.set_cons_succ]
          refine wpAnyH_take (i := 15) (v := ?_) rfl (by kernel_rfl) (by kernel_rfl) (by kernel_rfl) (fun _ _ _ h => h) (Or.inl ⟨by rfl, ?_⟩) hHeld ?_
          rotate_left
          focus
            intro w hSw
            clear hSw
            go_simp
            try with_reducible rfl
          try simp only [Act.put, List.getElem_toArray, List.getElem_cons_zero, List.getElem_cons_succ, List.setIfInBounds_toArray, List.set_cons_zero, List.set_cons_succ]
          refine wpAnyH_ready (rs := [16]) (by kernel_rfl) (by simp) ?_
          refine AllReadyH.cons rfl (fun K hK => ?_) AllReadyH.nil
          go_simp
          refine (ibool_nil _).mono ?_
          rintro e y ⟨rfl, rfl⟩
          refine hK.out _ _ gN (fun hHeld => ?_)
          clear hK K
          try simp only [Act.put, List.getElem_toArray, List.getElem_cons_zero, List.getElem_cons_succ, List.setIfInBounds_toArray, List.set_cons_zero, List.set_cons_succ]
          refine wpAnyH_take (i := 17) (v := ?_) rfl (by kernel_rfl) (by kernel_rfl) (by kernel_rfl) (fun _ _ _ h => h) (Or.inl ⟨by rfl, ?_⟩) hHeld ?_
          rotate_left
          focus
            intro w hSw
            clear hSw
            go_simp
            try with_reducible rfl
          try simp only [Act.put, List.getElem_toArray, List.getElem_cons_zero, List.getElem_cons_succ, List.setIfInBounds_toArray, List.set_cons_zero, List.set_cons_succ]
          refine wpAnyH_take (i := 18) (v := ?_) rfl (by kernel_rfl) (by kernel_rfl) (by kernel_rfl) (fun _ _ _ h => h) (Or.inl ⟨by rfl, ?_⟩) hHeld ?_
          rotate_left
          focus
            intro w hSw
            clear hSw
            go_simp
            try with_reducible rfl
          try simp only [Act.put, List.getElem_toArray, List.getElem_cons_zero, List.getElem_cons_succ, List.setIfInBounds_toArray, List.set_cons_zero, List.set_cons_succ]
          refine wpAnyH_take (i := 19) (v := ?_) rfl (by kernel_rfl) (by kernel_rfl) (by kernel_rfl) (fun _ _ _ h => h) (Or.inl ⟨by rfl, ?_⟩) hHeld ?_
          rotate_left
          focus
            intro w hSw
            clear hSw
            go_simp
            try with_reducible rfl
          try simp only [Act.put, List.getElem_toArray, List.getElem_cons_zero, List.getElem_cons_succ, List.setIfInBounds_toArray, List.set_cons_zero, List.set_cons_succ]
          refine wpAnyH_take (i := 20) (v := ?_) rfl (by kernel_rfl) (by kernel_rfl) (by kernel_rfl) (fun _ _ _ h => h) (Or.inl ⟨by rfl, ?_⟩) hHeld ?_
          rotate_left
          focus
            intro w hSw
            clear hSw
            go_simp
            try with_reducible rfl
          try simp only [Act.put, List.getElem_toArray, List.getElem_cons_zero, List.getElem_cons_succ, List.setIfInBounds_toArray, List.set_cons_zero, List.set_cons_succ]
          refine wpAnyH_ready (rs := [21]) (by kernel_rfl) (by simp) ?_
          refine AllReadyH.cons rfl (fun K hK => ?_) AllReadyH.nil
          go_simp
          refine (left_nil _).mono ?_
          rintro e y ⟨rfl, rfl⟩
          refine hK.out _ _ gN (fun hHeld => ?_)
          clear hK K
          try simp only [Act.put, List.getElem_toArray, List.getElem_cons_zero, List.getElem_cons_succ, List.setIfInBounds_toArray, List.set_cons_zero, List.set_cons_succ]
          refine wpAnyH_take (i := 22) (v := ?_) rfl (by kernel_rfl) (by kernel_rfl) (by kernel_rfl) (fun _ _ _ h => h) (Or.inl ⟨by rfl, ?_⟩) hHeld ?_
          rotate_left
          focus
            intro w hSw
            clear hSw
            go_simp
            try with_reducible rfl
          try simp only [Act.put, List.getElem_toArray, List.getElem_cons_zero, List.getElem_cons_succ, List.setIfInBounds_toArray, List.set_cons_zero, List.set_cons_succ]
          refine wpAnyH_take (i := 23) (v := ?_) rfl (by kernel_rfl) (by kernel_rfl) (by kernel_rfl) (fun _ _ _ h => h) (Or.inl ⟨by rfl, ?_⟩) hHeld ?_
          rotate_left
          focus
            intro w hSw
            clear hSw
            go_simp
            try with_reducible rfl
          try simp only [Act.put, List.getElem_toArray, List.getElem_cons_zero, List.getElem_cons_succ, List.setIfInBounds_toArray, List.set_cons_zero, List.set_cons_succ]
          refine wpAnyH_take (i := 24) (v := ?_) rfl (by kernel_rfl) (by kernel_rfl) (by kernel_rfl) (fun _ _ _ h => h) (Or.inl ⟨by rfl, ?_⟩) hHeld ?_
          rotate_left
          focus
            intro w hSw
            clear hSw
            go_simp
            try with_reducible rfl
          try simp only [Act.put, List.getElem_toArray, List.getElem_cons_zero, List.getElem_cons_succ, List.setIfInBounds_toArray, List.set_cons_zero, List.set_cons_succ]
          refine wpAnyH_take (i := 25) (v := ?_) rfl (by kernel_rfl) (by kernel_rfl) (by kernel_rfl) (fun _ _ _ h => h) (Or.inl ⟨by rfl, ?_⟩) hHeld ?_
          rotate_left
          focus
            intro w hSw
            clear hSw
            go_simp
            try with_reducible rfl
          try simp only [Act.put, List.getElem_toArray, List.getElem_cons_zero, List.getElem_cons_succ, List.setIfInBounds_toArray, List.set_cons_zero, List.set_cons_succ]
          refine wpAnyH_take (i := 27) (v := ?_) rfl (by kernel_rfl) (by kernel_rfl) (by kernel_rfl) (fun _ _ _ h => h) (Or.inl ⟨by rfl, ?_⟩) hHeld ?_
          rotate_left
          focus
            intro w hSw
            (try dsimp only at hSw)
            go_simp
            try with_reducible rfl
          try simp only [Act.put, List.getElem_toArray, List.getElem_cons_zero, List.getElem_cons_succ, List.setIfInBounds_toArray, List.set_cons_zero, List.set_cons_succ]
          refine wpAnyH_ready (rs := [26]) (by kernel_rfl) (by simp) ?_
          refine AllReadyH.cons rfl (fun K hK => ?_) AllReadyH.nil
          go_simp
          refine (HERN.out _ HB).mono ?_
          rintro e y ⟨rfl, rfl⟩
          refine hK.out _ _ gN (fun hHeld => ?_)
          clear hK K
          try simp only [Act.put, List.getElem_toArray, List.getElem_cons_zero, List.getElem_cons_succ, List.setIfInBounds_toArray, List.set_cons_zero, List.set_cons_succ]
          refine wpAnyH_ready (rs := [28]) (by kernel_rfl) (by simp) ?_
          refine AllReadyH.cons rfl (fun K hK => ?_) AllReadyH.nil
          go_simp
          refine (HIS.out _ HB).mono ?_
          rintro e y ⟨rfl, rfl⟩
          refine hK.out _ _ gN (fun hHeld => ?_)
          clear hK K
          try simp only [Act.put, List.getElem_toArray, List.getElem_cons_zero, List.getElem_cons_succ, List.setIfInBounds_toArray, List.set_cons_zero, List.set_cons_succ]
          refine wpAnyH_take (i := 29) (v := ?_) rfl (by kernel_rfl) (by kernel_rfl) (by kernel_rfl) (fun _ _ _ h => h) (Or.inl ⟨by rfl, ?_⟩) hHeld ?_
          rotate_left
          focus
            intro w hSw
            clear hSw
            go_simp
            try with_reducible rfl
          try simp only [Act.put, List.getElem_toArray, List.getElem_cons_zero, List.getElem_cons_succ, List.setIfInBounds_toArray, List.set_cons_zero, List.set_cons_succ]
          refine wpAnyH_take (i := 30) (v := ?_) rfl (by kernel_rfl) (by kernel_rfl) (by kernel_rfl) (fun _ _ _ h => h) (Or.inl ⟨by rfl, ?_⟩) hHeld ?_
          rotate_left
          focus
            intro w hSw
            clear hSw
            go_simp
            try with_reducible rfl
          try simp only [Act.put, List.getElem_toArray, List.getElem_cons_zero, List.getElem_cons_succ, List.setIfInBounds_toArray, List.set_cons_zero, List.set_cons_succ]
          refine wpAnyH_take (i := 31) (v := ?_) rfl (by kernel_rfl) (by kernel_rfl) (by kernel_rfl) (fun _ _ _ h => h) (Or.inl ⟨by rfl, ?_⟩) hHeld ?_
          rotate_left
          focus
            intro w hSw
            clear hSw
            go_simp
            try with_reducible rfl
          try simp only [Act.put, List.getElem_toArray, List.getElem_cons_zero, List.getElem_cons_succ, List.setIfInBounds_toArray, List.set_cons_zero, List.set_cons_succ]
          refine wpAnyH_take (i := 33) (v := ?_) rfl (by kernel_rfl) (by kernel_rfl) (by kernel_rfl) (fun _ _ _ h => h) (Or.inl ⟨by rfl, ?_⟩) hHeld ?_
          rotate_left
          focus
            intro w hSw
            (try dsimp only at hSw)
            go_simp
            try with_reducible rfl
          try simp only [Act.put, List.getElem_toArray, List.getElem_cons_zero, List.getElem_cons_succ, List.setIfInBounds_toArray, List.set_cons_zero, List.set_cons_succ]
          refine wpAnyH_ready (rs := [32]) (by kernel_rfl) (by simp) ?_
          refine AllReadyH.cons rfl (fun K hK => ?_) AllReadyH.nil
          go_simp
          refine (HEDN.out _ HB).mono ?_
          rintro e y ⟨rfl, rfl⟩
          refine hK.out _ _ gN (fun hHeld => ?_)
          clear hK K
          try simp only [Act.put, List.getElem_toArray, List.getElem_cons_zero, List.getElem_cons_succ, List.setIfInBounds_toArray, List.set_cons_zero, List.set_cons_succ]
          refine wpAnyH_ready (rs := [34]) (by kernel_rfl) (by simp) ?_
          refine AllReadyH.cons rfl (fun K hK => ?_) AllReadyH.nil
          go_simp
          refine (HIS.out _ HB).mono ?_
          rintro e y ⟨rfl, rfl⟩
          refine hK.out _ _ gN (fun hHeld => ?_)
          clear hK K
          try simp only [Act.put, List.getElem_toArray, List.getElem_cons_zero, List.getElem_cons_succ, List.setIfInBounds_toArray, List.set_cons_zero, List.set_cons_succ]
          refine wpAnyH_take (i := 35) (v := ?_) rfl (by kernel_rfl) (by kernel_rfl) (by kernel_rfl) (fun _ _ _ h => h) (Or.inl ⟨by rfl, ?_⟩) hHeld ?_
          rotate_left
          focus
            intro w hSw
            clear hSw
            go_simp
            try with_reducible rfl
          try simp only [Act.put, List.getElem_toArray, List.getElem_cons_zero, List.getElem_cons_succ, List.setIfInBounds_toArray, List.set_cons_zero, List.set_cons_succ]
          refine wpAnyH_take (i := 36) (v := ?_) rfl (by kernel_rfl) (by kernel_rfl) (by kernel_rfl) (fun _ _ _ h => h) (Or.inl ⟨by rfl, ?_⟩) hHeld ?_
          rotate_left
          focus
            intro w hSw
            clear hSw
            go_simp
            try with_reducible rfl
          try simp only [Act.put, List.getElem_toArray, List.getElem_cons_zero, List.getElem_cons_succ, List.setIfInBounds_toArray, List.set_cons_zero, List.set_cons_succ]
          refine wpAnyH_done (by kernel_rfl) ?_ _
          refine NoPanic.normal ?_
          go_wp2_with fail
          go_ret
          exact ⟨rfl, HB⟩
      · have hk1 : ¬ (k : Int) < (len : Int) := by omega
        have gN := HNL.out _ HB0.out
        have vn := vec_eq_self 0 0 0 0
        have vg := vecGuard
        clear HI0 HR0
        go_wp2_with fail
        refine wp_region_noPanic ?_
        refine wp_region_held_drew (S := (fun w' => w'.cell? ⟨0, 0, none⟩ = some (.iface 202 (.pointer (some (E 2)))))) (by kernel_rfl) gN (fun hHeld => ?_)
        have HB := HB0.out.drew
        refine wpAnyH_take (i := 0) (v := ?_) rfl (by kernel_rfl) (by kernel_rfl) (by kernel_rfl) (fun _ _ _ h => h) (Or.inl ⟨by rfl, ?_⟩) hHeld ?_
        rotate_left
        focus
          intro w hSw
          clear hSw
          go_simp
          try with_reducible rfl
        try simp only [Act.put, List.getElem_toArray, List.getElem_cons_zero, List.getElem_cons_succ, List.setIfInBounds_toArray, List.set_cons_zero, List.set_cons_succ]
        refine wpAnyH_ready (rs := [1]) (by kernel_rfl) (by simp) ?_
        refine AllReadyH.cons rfl (fun K hK => ?_) AllReadyH.nil
        go_simp
        refine (iint_nil _).mono ?_
        rintro e y ⟨rfl, rfl⟩
        refine hK.out _ _ gN (fun hHeld => ?_)
        clear hK K
        try simp only [Act.put, List.getElem_toArray, List.getElem_cons_zero, List.getElem_cons_succ, List.setIfInBounds_toArray, List.set_cons_zero, List.set_cons_succ]
        refine wpAnyH_take (i := 2) (v := ?_) rfl (by kernel_rfl) (by kernel_rfl) (by kernel_rfl) (fun _ _ _ h => h) (Or.inl ⟨by rfl, ?_⟩) hHeld ?_
        rotate_left
        focus
          intro w hSw
          clear hSw
          go_simp
          try with_reducible rfl
        try simp only [Act.put, List.getElem_toArray, List.getElem_cons_zero, List.getElem_cons_succ, List.setIfInBounds_toArray, List.set_cons_zero, List.set_cons_succ]
        refine wpAnyH_take (i := 3) (v := ?_) rfl (by kernel_rfl) (by kernel_rfl) (by kernel_rfl) (fun _ _ _ h => h) (Or.inl ⟨by rfl, ?_⟩) hHeld ?_
        rotate_left
        focus
          intro w hSw
          clear hSw
          go_simp
          try with_reducible rfl
        try simp only [Act.put, List.getElem_toArray, List.getElem_cons_zero, List.getElem_cons_succ, List.setIfInBounds_toArray, List.set_cons_zero, List.set_cons_succ]
        refine wpAnyH_take (i := 4) (v := ?_) rfl (by kernel_rfl) (by kernel_rfl) (by kernel_rfl) (fun _ _ _ h => h) (Or.inl ⟨by rfl, ?_⟩) hHeld ?_
        rotate_left
        focus
          intro w hSw
          clear hSw
          go_simp
          try with_reducible rfl
        try simp only [Act.put, List.getElem_toArray, List.getElem_cons_zero, List.getElem_cons_succ, List.setIfInBounds_toArray, List.set_cons_zero, List.set_cons_succ]
        refine wpAnyH_ready (rs := [5]) (by kernel_rfl) (by simp) ?_
        refine AllReadyH.cons rfl (fun K hK => ?_) AllReadyH.nil
        go_simp
        refine (itext_nil 9 _).mono ?_
        rintro e y ⟨rfl, rfl⟩
        refine hK.out _ _ gN (fun hHeld => ?_)
        clear hK K
        try simp only [Act.put, List.getElem_toArray, List.getElem_cons_zero, List.getElem_cons_succ, List.setIfInBounds_toArray, List.set_cons_zero, List.set_cons_succ]
        refine wpAnyH_take (i := 6) (v := ?_) rfl (by kernel_rfl) (by kernel_rfl) (by kernel_rfl) (fun _ _ _ h => h) (Or.inl ⟨by rfl, ?_⟩) hHeld ?_
        rotate_left
        focus
          intro w hSw
          clear hSw
          go_simp
          try with_reducible rfl
        try simp only [Act.put, List.getElem_toArray, List.getElem_cons_zero, List.getElem_cons_succ, List.setIfInBounds_toArray, List.set_cons_zero, List.set_cons_succ]
        refine wpAnyH_take (i := 7) (v := ?_) rfl (by kernel_rfl) (by kernel_rfl) (by kernel_rfl) (fun _ _ _ h => h) (Or.inl ⟨by rfl, ?_⟩) hHeld ?_
        rotate_left
        focus
          intro w hSw
          clear hSw
          go_simp
          try with_reducible rfl
        try simp only [Act.put, List.getElem_toArray, List.getElem_cons_zero, List.getElem_cons_succ, List.setIfInBounds_toArray, List.set_cons_zero, List.set_cons_succ]
        refine wpAnyH_take (i := 8) (v := ?_) rfl (by kernel_rfl) (by kernel_rfl) (by kernel_rfl) (fun _ _ _ h => h) (Or.inl ⟨by rfl, ?_⟩) hHeld ?_
        rotate_left
        focus
          intro w hSw
          clear hSw
          go_simp
          try with_reducible rfl
        try simp only [Act.put, List.getElem_toArray, List.getElem_cons_zero, List.getElem_cons_succ, List.setIfInBounds_toArray, List.set_cons_zero, List.set_cons_succ]
        refine wpAnyH_take (i := 9) (v := ?_) rfl (by kernel_rfl) (by kernel_rfl) (by kernel_rfl) (fun _ _ _ h => h) (Or.inl ⟨by rfl, ?_⟩) hHeld ?_
        rotate_left
        focus
          intro w hSw
          clear hSw
          go_simp
          try with_reducible rfl
        try simp only [Act.put, List.getElem_toArray, List.getElem_cons_zero, List.getElem_cons_succ, List.setIfInBounds_toArray, List.set_cons_zero, List.set_cons_succ]
        refine wpAnyH_take (i := 11) (v := ?_) rfl (by kernel_rfl) (by kernel_rfl) (by kernel_rfl) (fun _ _ _ h => h) (Or.inl ⟨by rfl, ?_⟩) hHeld ?_
        rotate_left
        focus
          intro w hSw
          clear hSw
          go_simp
          try with_reducible rfl
        try simp only [Act.put, List.getElem_toArray, List.getElem_cons_zero, List.getElem_cons_succ, List.setIfInBounds_toArray, List.set_cons_zero, List.set_cons_succ]
        refine wpAnyH_ready (rs := [10]) (by kernel_rfl) (by simp) ?_
        refine AllReadyH.cons rfl (fun K hK => ?_) AllReadyH.nil
        go_simp
        refine (ivec_nil E _ (by rw [erV_some E 2 (by decide)]; exact gN)).mono ?_
        rintro e y ⟨rfl, hb⟩
        have HB := HB.trans (hb.mono HB.size)
        have gN := HNL.out _ HB
        clear hb
        unfold vecV
        refine hK.out _ _ gN (fun hHeld => ?_)
        clear hK K
        try simp only [Act.put, List.getElem_toArray, List.getElem_cons_zero, List.getElem_cons_succ, List.setIfInBounds_toArray, List.set_cons_zero, List.set_cons_succ]
        refine wpAnyH_take (i := 12) (v := ?_) rfl (by kernel_rfl) (by kernel_rfl) (by kernel_rfl) (fun _ _ _ h => h) (Or.inl ⟨by rfl, ?_⟩) hHeld ?_
        rotate_left
        focus
          intro w hSw
          clear hSw
          go_simp
          try with_reducible rfl
        try simp only [Act.put, List.getElem_toArray, List.getElem_cons_zero, List.getElem_cons_succ, List.setIfInBounds_toArray, List.set_cons_zero, List.set_cons_succ]
        refine wpAnyH_take (i := 13) (v := ?_) rfl (by kernel_rfl) (by kernel_rfl) (by kernel_rfl) (fun _ _ _ h => h) (Or.inl ⟨by rfl, ?_⟩) hHeld ?_
        rotate_left
        focus
          intro w hSw
          clear hSw
          go_simp
          try with_reducible rfl
        try simp only [Act.put, List.getElem_toArray, List.getElem_cons_zero, List.getElem_cons_succ, List.setIfInBounds_toArray, List.set_cons_zero, List.set_cons_succ]
        refine wpAnyH_take (i := 14) (v := ?_) rfl (by kernel_rfl) (by kernel_rfl) (by kernel_rfl) (fun _ _ _ h => h) (Or.inl ⟨by rfl, ?_⟩) hHeld ?_
        rotate_left
        focus
          intro w hSw
          clear hSw
          go_simp
          try with_reducible rfl
        try simp only [Act.put, List.getElem_toArray, List.getElem_cons_zero, List.getElem_cons_succ, List.setIfInBounds_toArray, List.set_cons_zero, List.set_cons_succ]
        refine wpAnyH_take (i := 15) (v := ?_) rfl (by kernel_rfl) (by kernel_rfl) (by kernel_rfl) (fun _ _ _ h => h) (Or.inl ⟨by rfl, ?_⟩) hHeld ?_
        rotate_left
        focus
          intro w hSw
          clear hSw
          go_simp
          try with_reducible rfl
        try simp only [Act.put, List.getElem_toArray, List.getElem_cons_zero, List.getElem_cons_succ, List.setIfInBounds_toArray, List.set_cons_zero, List.set_cons_succ]
        refine wpAnyH_ready (rs := [16]) (by kernel_rfl) (by simp) ?_
        refine AllReadyH.cons rfl (fun K hK => ?_) AllReadyH.nil
        go_simp
        refine (ibool_nil _).mono ?_
        rintro e y ⟨rfl, rfl⟩
        refine hK.out _ _ gN (fun hHeld => ?_)
        clear hK K
        try simp only [Act.put, List.getElem_toArray, List.getElem_cons_zero, List.getElem_cons_succ, List.setIfInBounds_toArray, List.set_cons_zero, List.set_cons_succ]
        refine wpAnyH_take (i := 17) (v := ?_) rfl (by kernel_rfl) (by kernel_rfl) (by kernel_rfl) (fun _ _ _ h => h) (Or.inl ⟨by rfl, ?_⟩) hHeld ?_
        rotate_left
        focus
          intro w hSw
          clear hSw
          go_simp
          try with_reducible rfl
        try simp only [Act.put, List.getElem_toArray, List.getElem_cons_zero, List.getElem_cons_succ, List.setIfInBounds_toArray, List.set_cons_zero, List.set_cons_succ]
        refine wpAnyH_take (i := 18) (v := ?_) rfl (by kernel_rfl) (by kernel_rfl) (by kernel_rfl) (fun _ _ _ h => h) (Or.inl ⟨by rfl, ?_⟩) hHeld ?_
        rotate_left
        focus
          intro w hSw
          clear hSw
          go_simp
          try with_reducible rfl
        try simp only [Act.put, List.getElem_toArray, List.getElem_cons_zero, List.getElem_cons_succ, List.setIfInBounds_toArray, List.set_cons_zero, List.set_cons_succ]
        refine wpAnyH_take (i := 19) (v := ?_) rfl (by kernel_rfl) (by kernel_rfl) (by kernel_rfl) (fun _ _ _ h => h) (Or.inl ⟨by rfl, ?_⟩) hHeld ?_
        rotate_left
        focus
          intro w hSw
          clear hSw
          go_simp
          try with_reducible rfl
        try simp only [Act.put, List.getElem_toArray, List.getElem_cons_zero, List.getElem_cons_succ, List.setIfInBounds_toArray, List.set_cons_zero, List.set_cons_succ]
        refine wpAnyH_take (i := 20) (v := ?_) rfl (by kernel_rfl) (by kernel_rfl) (by kernel_rfl) (fun _ _ _ h => h) (Or.inl ⟨by rfl, ?_⟩) hHeld ?_
        rotate_left
        focus
          intro w hSw
          clear hSw
          go_simp
          try with_reducible rfl
        try simp only [Act.put, List.getElem_toArray, List.getElem_cons_zero, List.getElem_cons_succ, List.setIfInBounds_toArray, List.set_cons_zero, List.set_cons_succ]
        refine wpAnyH_ready (rs := [21]) (by kernel_rfl) (by simp) ?_
        refine AllReadyH.cons rfl (fun K hK => ?_) AllReadyH.nil
        go_simp
        refine (left_nil _).mono ?_
        rintro e y ⟨rfl, rfl⟩
        refine hK.out _ _ gN (fun hHeld => ?_)
        clear hK K
        try simp only [Act.put, List.getElem_toArray, List.getElem_cons_zero, List.getElem_cons_succ, List.setIfInBounds_toArray, List.set_cons_zero, List.set_cons_succ]
        refine wpAnyH_take (i := 22) (v := ?_) rfl (by kernel_rfl) (by kernel_rfl) (by kernel_rfl) (fun _ _ _ h => h) (Or.inl ⟨by rfl, ?_⟩) hHeld ?_
        rotate_left
        focus
          intro w hSw
          clear hSw
          go_simp
          try with_reducible rfl
        try simp only [Act.put, List.getElem_toArray, List.getElem_cons_zero, List.getElem_cons_succ, List.setIfInBounds_toArray, List.set_cons_zero, List.set_cons_succ]
        refine wpAnyH_take (i := 23) (v := ?_) rfl (by kernel_rfl) (by kernel_rfl) (by kernel_rfl) (fun _ _ _ h => h) (Or.inl ⟨by rfl, ?_⟩) hHeld ?_
        rotate_left
        focus
          intro w hSw
          clear hSw
          go_simp
          try with_reducible rfl
        try simp only [Act.put, List.getElem_toArray, List.getElem_cons_zero, List.getElem_cons_succ, List.setIfInBounds_toArray, List.set_cons_zero, List.set_cons_succ]
        refine wpAnyH_take (i := 24) (v := ?_) rfl (by kernel_rfl) (by kernel_rfl) (by kernel_rfl) (fun _ _ _ h => h) (Or.inl ⟨by rfl, ?_⟩) hHeld ?_
        rotate_left
        focus
          intro w hSw
          clear hSw
          go_simp
          try with_reducible rfl
        try simp only [Act.put, List.getElem_toArray, List.getElem_cons_zero, List.getElem_cons_succ, List.setIfInBounds_toArray, List.set_cons_zero, List.set_cons_succ]
        refine wpAnyH_take (i := 25) (v := ?_) rfl (by kernel_rfl) (by kernel_rfl) (by kernel_rfl) (fun _ _ _ h => h) (Or.inl ⟨by rfl, ?_⟩) hHeld ?_
        rotate_left
        focus
          intro w hSw
          clear hSw
          go_simp
          try with_reducible rfl
        try simp only [Act.put, List.getElem_toArray, List.getElem_cons_zero, List.getElem_cons_succ, List.setIfInBounds_toArray, List.set_cons_zero, List.set_cons_succ]
        refine wpAnyH_take (i := 27) (v := ?_) rfl (by kernel_rfl) (by kernel_rfl) (by kernel_rfl) (fun _ _ _ h => h) (Or.inl ⟨by rfl, ?_⟩) hHeld ?_
        rotate_left
        focus
          intro w hSw
          (try dsimp only at hSw)
          go_simp
          try with_reducible rfl
        try simp only [Act.put, List.getElem_toArray, List.getElem_cons_zero, List.getElem_cons_succ, List.setIfInBounds_toArray, List.set_cons_zero, List.set_cons_succ]
        refine wpAnyH_ready (rs := [26]) (by kernel_rfl) (by simp) ?_
        refine AllReadyH.cons rfl (fun K hK => ?_) AllReadyH.nil
        go_simp
        refine (HERN.out _ HB).mono ?_
        rintro e y ⟨rfl, rfl⟩
        refine hK.out _ _ gN (fun hHeld => ?_)
        clear hK K
        try simp only [Act.put, List.getElem_toArray, List.getElem_cons_zero, List.getElem_cons_succ, List.setIfInBounds_toArray, List.set_cons_zero, List.set_cons_succ]
        refine wpAnyH_ready (rs := [28]) (by kernel_rfl) (by simp) ?_
        refine AllReadyH.cons rfl (fun K hK => ?_) AllReadyH.nil
        go_simp
        refine (HIS.out _ HB).mono ?_
        rintro e y ⟨rfl, rfl⟩
        refine hK.out _ _ gN (fun hHeld => ?_)
        clear hK K
        try simp only [Act.put, List.getElem_toArray, List.getElem_cons_zero, List.getElem_cons_succ, List.setIfInBounds_toArray, List.set_cons_zero, List.set_cons_succ]
        refine wpAnyH_take (i := 29) (v := ?_) rfl (by kernel_rfl) (by kernel_rfl) (by kernel_rfl) (fun _ _ _ h => h) (Or.inl ⟨by rfl, ?_⟩) hHeld ?_
        rotate_left
        focus
          intro w hSw
          clear hSw
          go_simp
          try with_reducible rfl
        try simp only [Act.put, List.getElem_toArray, List.getElem_cons_zero, List.getElem_cons_succ, List.setIfInBounds_toArray, List.set_cons_zero, List.set_cons_succ]
        refine wpAnyH_take (i := 30) (v := ?_) rfl (by kernel_rfl) (by kernel_rfl) (by kernel_rfl) (fun _ _ _ h => h) (Or.inl ⟨by rfl, ?_⟩) hHeld ?_
        rotate_left
        focus
          intro w hSw
          clear hSw
          go_simp
          try with_reducible rfl
        try simp only [Act.put, List.getElem_toArray, List.getElem_cons_zero, List.getElem_cons_succ, List.setIfInBounds_toArray, List.set_cons_zero, List.set_cons_succ]
        refine wpAnyH_take (i := 31) (v := ?_) rfl (by kernel_rfl) (by kernel_rfl) (by kernel_rfl) (fun _ _ _ h => h) (Or.inl ⟨by rfl, ?_⟩) hHeld ?_
        rotate_left
        focus
          intro w hSw
          clear hSw
          go_simp
          try with_reducible rfl
        try simp only [Act.put, List.getElem_toArray, List.getElem_cons_zero, List.getElem_cons_succ, List.setIfInBounds_toArray, List.set_cons_zero, List.set_cons_succ]
        refine wpAnyH_take (i := 33) (v := ?_) rfl (by kernel_rfl) (by kernel_rfl) (by kernel_rfl) (fun _ _ _ h => h) (Or.inl ⟨by rfl, ?_⟩) hHeld ?_
        rotate_left
        focus
          intro w hSw
          (try dsimp only at hSw)
          go_simp
          try with_reducible rfl
        try simp only [Act.put, List.getElem_toArray, List.getElem_cons_zero, List.getElem_cons_succ, List.setIfInBounds_toArray, List.set_cons_zero, List.set_cons_succ]
        refine wpAnyH_ready (rs := [32]) (by kernel_rfl) (by simp) ?_
        refine AllReadyH.cons rfl (fun K hK => ?_) AllReadyH.nil
        go_simp
        refine (HEDN.out _ HB).mono ?_
        rintro e y ⟨rfl, rfl⟩
        refine hK.out _ _ gN (fun hHeld => ?_)
        clear hK K
        try simp only [Act.put, List.getElem_toArray, List.getElem_cons_zero, List.getElem_cons_succ, List.setIfInBounds_toArray, List.set_cons_zero, List.set_cons_succ]
        refine wpAnyH_ready (rs := [34]) (by kernel_rfl) (by simp) ?_
        refine AllReadyH.cons rfl (fun K hK => ?_) AllReadyH.nil
        go_simp
        refine (HIS.out _ HB).mono ?_
        rintro e y ⟨rfl, rfl⟩
        refine hK.out _ _ gN (fun hHeld => ?_)
        clear hK K
        try simp only [Act.put, List.getElem_toArray, List.getElem_cons_zero, List.getElem_cons_succ, List.setIfInBounds_toArray, List.set_cons_zero, List.set_cons_succ]
        refine wpAnyH_take (i := 35) (v := ?_) rfl (by kernel_rfl) (by kernel_rfl) (by kernel_rfl) (fun _ _ _ h => h) (Or.inl ⟨by rfl, ?_⟩) hHeld ?_
        rotate_left
        focus
          intro w hSw
          clear hSw
          go_simp
          try with_reducible rfl
        try simp only [Act.put, List.getElem_toArray, List.getElem_cons_zero, List.getElem_cons_succ, List.setIfInBounds_toArray, List.set_cons_zero, List.set_cons_succ]
        refine wpAnyH_take (i := 36) (v := ?_) rfl (by kernel_rfl) (by kernel_rfl) (by kernel_rfl) (fun _ _ _ h => h) (Or.inl ⟨by rfl, ?_⟩) hHeld ?_
        rotate_left
        focus
          intro w hSw
          clear hSw
          go_simp
          try with_reducible rfl
        try simp only [Act.put, List.getElem_toArray, List.getElem_cons_zero, List.getElem_cons_succ, List.setIfInBounds_toArray, List.set_cons_zero, List.set_cons_succ]
        refine wpAnyH_done (by kernel_rfl) ?_ _
        refine NoPanic.normal ?_
        go_wp2_with fail
        go_ret
        exact ⟨rfl, HB⟩
end Go.Proofs.YtdebldpmloignaaDoor
