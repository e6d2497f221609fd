/-
  QueueBands: the walk.
-/
import Derived.Test.YtkinbidpbgkaoaaDoorQueG
import Derived.Test.YtkinbidpbgkaoaaDoorQueP
namespace Go.Proofs.YtkinbidpbgkaoaaDoor
open Go.RowKit
set_option linter.unusedVariables false

set_option maxRecDepth 100000 in
set_option maxHeartbeats 2000000 in
theorem queueBands_walk (Er : Nat → Addr) (A : Option Addr) (len cap : Nat) (zs : List Int) (w : World) (hE : Errs w.heap.size w allKinds Er) (hz : Hid (RdInts w w.heap.size A len zs)) (hcap : len ≤ cap) (hcm : cap ≤ maxLen) :
    Calls Tryd.prog 4 #[.slice A len cap] w fun e w' => e = .returned (.bool true) ∧ Below w.heap.size w w' := by
  obtain ⟨nn, hnn⟩ : ∃ nn : Nat, nn = if 60 < len then 60 else len := ⟨_, rfl⟩
  have hmin : (if (60 : Int) < (len : Int) then (60 : Int) else (len : Int)) = (nn : Int) := by
    rw [hnn]
    by_cases h : 60 < len
    · rw [if_pos (by omega), if_pos h]; rfl
    · rw [if_neg (by omega), if_neg h]
  have hn1 : nn ≤ 60 ∧ nn ≤ len := by rw [hnn]; split <;> omega
  have HMIN := Lib.hid hmin
  clear hnn hmin
  have hlM : (len : Int) ≤ 9223372036854775807 := by unfold maxLen at hcm; omega
  go_enter Tryd.func4, Tryd.ntmps4
  go_wp2_with fail
  refine (awake21_c Er w hE).mono ?_
  rintro e w1 ⟨rfl, hb1⟩
  go_wp2_with fail
  refine (qnew_c w1).mono ?_
  rintro e w2 ⟨rfl, ⟨v2, hq2⟩, hb2⟩
  have hbw2 := hb1.trans (hb2.mono hb1.size)
  have hs1 := hb1.size
  have HQ2 := Lib.hid hq2
  have hmin := HMIN.out
  clear hq2 hb2 hb1
  go_wp2_with fail
  clear hmin
  go_loopw [5] (fun s5 wx => ∃ (k : Nat) (v : Nat → Value) (wr : World), wr = wx ∧ k ≤ nn ∧ s5 = .int .i64 k ∧ QV wr w1.heap.size w1.heap.size (lN zs k) v ∧ Below w.heap.size w wr) (fun s5 _ => nn - (intOf s5).toNat)
  case atStart => exact ⟨0, v2, _, rfl, by omega, rfl, HQ2.out, hbw2⟩
  case round =>
    obtain ⟨k, v, wr, rfl, hk, rfl, hqv, hbl⟩ := hrel
    have HQ := Lib.hid hqv
    by_cases hlt : k < nn
    · obtain ⟨b, off, rfl, hb, hcell⟩ := hz.out.2 (by omega)
      have cq : wr.cell? ⟨b, off + k, none⟩ = some (.int .i64 (zs.getD k 0)) := (hbl.cell (p := ⟨b, off + k, none⟩) hb).trans (hcell k (by omega))
      have hbz := Lib.hid (bz_cast zs k)
      have hb3 := bz_lt zs k
      have hub := ub_range (zs.getD k 0)
      have hw : wrap64 ((IntKind.u64.wrap (zs.getD k 0)).tmod 3) = (bz zs k : Int) := by
        rw [hbz.out]
        show wrap64 (ub (zs.getD k 0)) = ub (zs.getD k 0)
        unfold wrap64
        omega
      have hsucc := Lib.hid (lN_succ zs k)
      have hnew := Lib.hid (cat_new zs k)
      have hlen := Lib.hid (cat_len zs k)
      have hkl : (k : Int) < (len : Int) := by omega
      have hneg : wrap64 (-(k : Int)) = -(k : Int) := by unfold wrap64; omega
      clear hcell hqv hub
      generalize zs.getD k 0 = z at cq hw hbz
      generalize bz zs k = bk at hw hsucc hb3
      go_wp2_with fail
      refine (push_ok w1.heap.size w1.heap.size (lN zs k) v (tskN k) bk hb3 wr (Nat.le_of_lt HQ.out.lt) (show Hid _ from HQ.out) (by rw [hlen.out]; omega) hnew.out).mono ?_
      rintro e w4 ⟨rfl, v4, hq4, hs4⟩
      have hbl4 := hbl.trans ((hs4.below HQ.out).mono hs1)
      clear hs4 cq
      go_wp2_with fail
      go_roundw
      case rel => exact ⟨k + 1, v4, _, rfl, by omega, by go_num, by rw [hsucc.out]; exact hq4, hbl4⟩
      case measure => simp [intOf]; omega
    · obtain rfl : k = nn := by omega
      have hlen := cat_len zs k
      go_wp2_with fail
      refine (qlist_c w1.heap.size w1.heap.size (lN zs k) wr (show Hid _ from ⟨v, HQ.out⟩) (by rw [hlen]; omega)).mono ?_
      rintro e w5 ⟨v5, rfl, hown5, hb5⟩
      have hq5 := HQ.out.below hb5
      have hbl5 := hbl.trans (hb5.mono hbl.size)
      rw [hlen] at hown5
      obtain ⟨A5, c5, rfl, _, hrd5⟩ := own_rows Tsk.k2 hown5 hlen
      have HR5 := Lib.hid hrd5
      have HLEN := Lib.hid hlen
      clear hown5 hrd5 hb5 hqv hlen
      go_wp2_with fail
      go_loopw [7, 8, 9] (fun s7 _ _ wx => ∃ (p : Nat) (wy : World), wy = wx ∧ 1 ≤ p ∧ (p ≤ 1 ∨ p ≤ k) ∧ s7 = .int .i64 p ∧ Below w5.heap.size w5 wy) (fun s7 _ _ _ => k - (intOf s7).toNat)
      case atStart => exact ⟨1, _, rfl, by omega, by omega, rfl, Below.refl _ _⟩
      case round =>
        obtain ⟨p, wy, rfl, hp1, hp2, rfl, hb8⟩ := hrel
        by_cases hpk : p < k
        · obtain ⟨m, rfl⟩ : ∃ m, p = m + 1 := ⟨p - 1, by omega⟩
          obtain ⟨i, j, hi, hj, hik, hjk, hord⟩ := cat_next (zs := zs) hpk
          obtain ⟨b, off, rfl, hb, hcell⟩ := hz.out.2 (by omega)
          obtain ⟨g, o, hA5, hg, hrows⟩ := HR5.out.2 (by omega)
          subst hA5
          have hbw8 := hbl5.trans (hb8.mono hbl5.size)
          have t1 : wy.cell? ⟨g, o + m * 2, none⟩ = some (.int .i64 (i : Int)) := rangeAt_below (hrows m _ hi) hb8 hg 0 _ rfl
          have t2 : wy.cell? ⟨g, o + (m + 1) * 2, none⟩ = some (.int .i64 (j : Int)) := rangeAt_below (hrows (m + 1) _ hj) hb8 hg 0 _ rfl
          have b1 : wy.cell? ⟨b, off + i, none⟩ = some (.int .i64 (zs.getD i 0)) := (hbw8.cell (p := ⟨b, off + i, none⟩) hb).trans (hcell i (by omega))
          have b2 : wy.cell? ⟨b, off + j, none⟩ = some (.int .i64 (zs.getD j 0)) := (hbw8.cell (p := ⟨b, off + j, none⟩) hb).trans (hcell j (by omega))
          have u1 := bz_cast zs i
          have u2 := bz_cast zs j
          unfold ub at u1 u2
          have hil : (i : Int) < (len : Int) := by omega
          have hjl : (j : Int) < (len : Int) := by omega
          have hiln : i < len := by omega
          have hjln : j < len := by omega
          clear hcell hrows hi hj hbw8
          generalize zs.getD i 0 = zi at b1 u1
          generalize zs.getD j 0 = zj at b2 u2
          rcases hord with hlt | ⟨heq, hij⟩
          · have d1 : decide ((IntKind.u64.wrap zj).tmod 3 < (IntKind.u64.wrap zi).tmod 3) = false := by simp; omega
            have d2 : ((IntKind.u64.wrap zi).tmod 3 == (IntKind.u64.wrap zj).tmod 3) = false := by simp; omega
            clear u1 u2 hlt
            go_wp2_with fail
            go_quiet (fail)
            go_wp2_with fail
            go_roundw
            case rel => exact ⟨m + 1 + 1, _, rfl, by omega, by omega, by go_num, below_drewN' hb8⟩
            case measure => simp [intOf]; omega
          · have d1 : decide ((IntKind.u64.wrap zj).tmod 3 < (IntKind.u64.wrap zi).tmod 3) = false := by simp; omega
            have d2 : ((IntKind.u64.wrap zi).tmod 3 == (IntKind.u64.wrap zj).tmod 3) = true := by simp; omega
            have d3 : decide ((j : Int) ≤ (i : Int)) = false := by simp; omega
            have d3n : decide (j ≤ i) = false := by simp; omega
            clear u1 u2 heq
            go_wp2_with fail
            go_quiet (fail)
            go_wp2_with fail
            go_roundw
            case rel => exact ⟨m + 1 + 1, _, rfl, by omega, by omega, by go_num, below_drewN' hb8⟩
            case measure => simp [intOf]; omega
        · have hkp : ¬ (p : Int) < (k : Int) := by omega
          have hq8 := hq5.below hb8
          have hL := qlen_c w1.heap.size w1.heap.size (lN zs k) wy (show Hid _ from ⟨v, hq8⟩) (by rw [HLEN.out]; omega)
          rw [HLEN.out] at hL
          have HL := Lib.hid hL
          clear hL
          go_wp2_with fail
          refine HL.out.mono ?_
          rintro e w9 ⟨rfl, hb9⟩
          go_wp2_with fail
          go_ret
          exact ⟨rfl, (hbl5.trans (hb8.mono hbl5.size)).trans (hb9.mono (Nat.le_trans hbl5.size hb8.size))⟩
end Go.Proofs.YtkinbidpbgkaoaaDoor
