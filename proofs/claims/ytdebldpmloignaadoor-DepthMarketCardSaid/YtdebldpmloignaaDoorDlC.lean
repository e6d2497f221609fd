/-
  deal: Match.
-/
import Derived.Test.YtdebldpmloignaaDoorDlM
namespace Go.Proofs.YtdebldpmloignaaDoor
open Go.RowKit
set_option linter.unusedVariables false
set_option linter.unusedSimpArgs false

set_option maxRecDepth 100000 in
set_option maxHeartbeats 2000000 in
theorem match_ok (B q : Nat) (l : Bool → List Ord) (v : Bool → Value) (came : Nat) (o : Ord) (w : World) (h : Hid (BV w B q l v came)) (hI : Inv l came) (hc : came ≤ 1000000) (hBw : B ≤ w.heap.size) (hk : addK l o = 0) :
    Calls Tryd.prog 49 #[.pointer (some ⟨q, 0, none⟩), .agg o.cells.toArray] w (MatchQ w B q v l o came) := by
  obtain ⟨i0, hi, hz0, hz1_, hz2⟩ := info_parts info_fill
  have hb2 : Below w.heap.size w (w.alloc (.cells o.cells.toArray 67)) := (Below.refl _ w).alloc (Nat.le_refl _) _
  have HCK := Lib.hid (check_ok B q l v came o (w.alloc (.cells o.cells.toArray 67)) (Lib.hid (h.out.below hb2)) hI.small hk)
  have HB2 := Lib.hid hb2
  have HO2 : Hid (Blk (w.alloc (.cells o.cells.toArray 67)) w.heap.size o.cells.toArray 67) := Blk.new w _ _
  have HOL : Hid (1 ≤ o.lots ∧ o.lots ≤ 1000) := by
    have := (addK_parts hk).1
    unfold Ord.good at this
    simp at this
    show _ ∧ _
    omega
  have HML0 : Hid (ML o l came [] o.lots (l (!o.sell))) := ML.start hI (by have := HOL.out; omega)
  have HC6 := Lib.hid hc
  have HK := Lib.hid hk
  clear hb2 hI hc hk
  obtain ⟨oi, ot, os, op, ol, oq⟩ := o
  simp only [Ord.cells] at HCK HB2 HO2 ⊢
  simp only at HML0
  cases os with
  | true =>
    simp only [Bool.not_true] at *
    go_enter Tryd.func49, Tryd.ntmps49
    go_wp2_with fail
    refine HCK.out.mono ?_
    rintro e w3 ⟨rfl, hb3⟩
    have HM3 : Hid (MC w w3 B q (updL l false (l false)) v v came ⟨oi, ot, true, op, ol, oq⟩ (.slice none 0 0) []) := by
      have hbw : Below w.heap.size w w3 := HB2.out.trans (hb3.mono HB2.out.size)
      show MC _ _ _ _ _ _ _ _ _ _ _
      rw [updL_self]
      exact ⟨BS.ofBelow h.out hbw, HO2.out.below hb3, h.out.away (Nat.le_refl _), ⟨rfl, .inl ⟨rfl, rfl⟩⟩⟩
    have r3 := HM3.out.r3
    have r3 : w3.rangeAt w.heap.size 0 [.int .i64 oi, .int .i64 ot, .bool true, .int .i64 op, .int .i64 ol, .int .i64 oq] := r3
    clear hb3
    go_wp2_with (refine wpList_load_mid rfl 67 _ rfl w.heap.size 0 rfl [.int .i64 oi, .int .i64 ot, .bool true, .int .i64 op, .int .i64 ol, .int .i64 oq] _ r3 Tryd.underlying67 rfl size_ord ?_)
    refine (next_any ⟨oi, ot, true, op, ol, oq⟩ l came [] ol (l false) B q v w3 HML0.out (Lib.hid HM3.out.bv)).mono ?_
    rintro e w4 ⟨fa, fb_, fc, fd, fe, fl, rfl, hf, hb4⟩
    have HF0 := Lib.hid hf
    have HM4 := Lib.hid (HM3.out.below hb4)
    have HM5 := Lib.hid (HM4.out.below (W' := w4.alloc (.cells #[.int .i64 fa, .int .i64 fb_, .int .i64 fc, .int .i64 fd, .int .i64 fe, .int .i64 fl] 82)) ((Below.refl _ w4).alloc (Nat.le_refl _) _))
    have HFB0 : Hid (Blk (w4.alloc (.cells #[.int .i64 fa, .int .i64 fb_, .int .i64 fc, .int .i64 fd, .int .i64 fe, .int .i64 fl] 82)) w4.heap.size #[.int .i64 fa, .int .i64 fb_, .int .i64 fc, .int .i64 fd, .int .i64 fe, .int .i64 fl] 82) := Blk.new w4 _ _
    have HLO0 : Hid (w.heap.size ≤ w4.heap.size) := HM4.out.sz
    clear hf hb4 r3
    go_wp2_with fail
    go_loopw [8, 9, 10, 11, 12] (fun s8 s9 s10 _ _ wx => ∃ (fs : List Fill) (z : Int) (S : List Ord) (v' : Bool → Value) (f : Fill) (fb : Nat) (W0 : World), W0 = wx ∧ s9 = .pointer (some ⟨fb, 0, none⟩) ∧ s10 = .bool (nextOk ⟨oi, ot, true, op, ol, oq⟩ z S) ∧ Hid (ML ⟨oi, ot, true, op, ol, oq⟩ l came fs z S) ∧ Hid (nextOk ⟨oi, ot, true, op, ol, oq⟩ z S = true → ∃ x r, S = x :: r ∧ f = fillO ⟨oi, ot, true, op, ol, oq⟩ x (minL z x)) ∧ Hid (MC w W0 B q (updL l false S) v v' came ⟨oi, ot, true, op, z, oq⟩ s8 fs) ∧ Hid (Blk W0 fb f.cells.toArray 82) ∧ Hid (w.heap.size ≤ fb) ∧ Hid (s8.ownBlock ≠ some fb)) (fun _ _ _ _ _ wx => lotsAt w.heap.size wx)
    case atStart => exact ⟨[], ol, l false, v, ⟨fa, fb_, fc, fd, fe, fl⟩, _, _, rfl, rfl, rfl, HML0, HF0, HM5, HFB0, HLO0, Lib.hid (fun e => by cases e)⟩
    case round =>
      obtain ⟨fs, z, S, v', f, fb, W0, rfl, rfl, rfl, HML, HF, HM, HFB, HLO, HNE⟩ := hrel
      clear HM3 HM4 HM5 HFB0 HLO0 HF0
      obtain ⟨a8, c8, rfl⟩ := own_len HM.out.own
      cases hn : nextOk ⟨oi, ot, true, op, ol, oq⟩ z S with
      | true =>
        obtain ⟨x, r, hS, hf⟩ := HF.out hn
        subst hS
        subst hf
        obtain ⟨HST, hcz, m1, m2, m3⟩ := HML.out.step hn
        have HST := Lib.hid HST
        have HNX := Lib.hid hn
        have hz1 : z ≤ 1000 := by have := HML.out.z1; have := HOL.out; simp only at *; omega
        have HFL : Hid (fs.length ≤ 1000) := by have := HML.out.z1; have := HML.out.z0; have := HOL.out; show _ ≤ _; simp only at *; omega
        have HCUT := Lib.hid (fun (W : World) (hb : BV W B q (updL l false (x :: r)) v' came) => cut_head ⟨oi, ot, true, op, ol, oq⟩ x l came fs z r B q v' W HML.out hn (Lib.hid hb))
        obtain ⟨mn, hmn⟩ : ∃ mn, mn = minL z x := ⟨_, rfl⟩
        rw [hcz] at HST
        rw [← hmn] at HST HFB HCUT m1 m2 m3 hcz
        obtain ⟨xi, xt, xs, xp, xl, xq⟩ := x
        have HFB : Hid (Blk W0 fb #[.int .i64 oi, .int .i64 xi, .int .i64 ot, .int .i64 xt, .int .i64 xp, .int .i64 mn] 82) := HFB
        have HST : Hid (ML ⟨oi, ot, true, op, ol, oq⟩ l came (fs ++ [⟨oi, xi, ot, xt, xp, mn⟩]) (z - mn) (cutS z (⟨xi, xt, xs, xp, xl, xq⟩ :: r))) := HST
        simp only at HCUT m2
        have f0 := HFB.out.cell 0 _ rfl
        have f1 := HFB.out.cell 1 _ rfl
        have f5 := HFB.out.cell 5 _ rfl
        simp only [List.getElem_toArray, List.getElem_cons_zero, List.getElem_cons_succ] at f0 f1 f5
        have k2 := HM.out.k2
        have k2 : W0.cell? ⟨w.heap.size, 2, none⟩ = some (.bool true) := k2
        clear hmn hcz hn HF
        go_wp2_with fail
        refine (HCUT.out W0 HM.out.bv).mono ?_
        rintro e W1 ⟨rfl, v1, hs1⟩
        have HM1 := Lib.hid (HM.out.book hs1)
        have HFB1 := Lib.hid (HM.out.keepF hs1 HFB.out)
        have HM2 := Lib.hid (HM1.out.setl (z - mn))
        have HFB2 := Lib.hid (HM1.out.setl_far (z := z - mn) HFB1.out)
        have k4 := HM1.out.k4
        have k4 : W1.cell? ⟨w.heap.size, 4, none⟩ = some (.int .i64 z) := k4
        have f4 := HM1.out.f4
        have f5 := HFB1.out.cell 5 _ rfl
        simp only [List.getElem_toArray, List.getElem_cons_zero, List.getElem_cons_succ] at f5
        have rf : (W1.setCell ⟨w.heap.size, 4, none⟩ (.int .i64 (z - mn))).rangeAt fb 0 [.int .i64 oi, .int .i64 xi, .int .i64 ot, .int .i64 xt, .int .i64 xp, .int .i64 mn] := rangeAt_blk HFB2.out
        have hsz2 : w.heap.size ≤ (W1.setCell ⟨w.heap.size, 4, none⟩ (.int .i64 (z - mn))).heap.size := HM2.out.sz
        clear hs1 f0 f1 k2 HCUT
        go_wp2_with (first
          | (refine wpList_load_mid rfl 82 _ rfl fb 0 rfl [.int .i64 oi, .int .i64 xi, .int .i64 ot, .int .i64 xt, .int .i64 xp, .int .i64 mn] _ rf Tryd.underlying82 rfl size_fill ?_)
          | (at_builtin; refine wpList_app1 rfl _ _ 78 rfl w.heap.size 82 i0 (.agg #[.int .i64 0, .int .i64 0, .int .i64 0, .int .i64 0, .int .i64 0, .int .i64 0]) 6 48 Tryd.underlying78 hi hz0 hz1_ hz2 rfl (by decide) _ _ _ rfl HM2.out.own [.int .i64 oi, .int .i64 xi, .int .i64 ot, .int .i64 xt, .int .i64 xp, .int .i64 mn] _ rfl ?ca0 ?ca1 ?ca2 ?ca3 ?ca4 hsz2 ?_))
        case ca0 => simp [World.setCell]
        case ca1 => rfl
        case ca2 => simp [Value.oneCell']
        case ca3 => have := HFL.out; unfold maxLen; omega
        case ca4 => have := HFL.out; omega
        intro s8' W3 hown3 hg3 _
        have hown3 : W3.ownsRow w.heap.size 82 6 s8' (fs ++ [(⟨oi, xi, ot, xt, xp, mn⟩ : Fill)]).length (flatOf Fill.cells (fs ++ [(⟨oi, xi, ot, xt, xp, mn⟩ : Fill)])) := by
          rw [List.length_append, flatOf_append, flatOf_one]
          exact hown3
        have HM3 := Lib.hid (HM2.out.app (f := ⟨oi, xi, ot, xt, xp, mn⟩) hg3 hown3)
        have HFB3 : Hid (Blk W3 fb #[.int .i64 oi, .int .i64 xi, .int .i64 ot, .int .i64 xt, .int .i64 xp, .int .i64 mn] 82) := (Turns.of_grown hg3).blk HFB2.out (fun e => HNE.out e)
        have rf : W3.rangeAt fb 0 [.int .i64 oi, .int .i64 xi, .int .i64 ot, .int .i64 xt, .int .i64 xp, .int .i64 mn] := rangeAt_blk HFB3.out
        have hb4 : Below W3.heap.size W3 (W3.alloc (.cells #[.int .i64 oi, .int .i64 xi, .int .i64 ot, .int .i64 xt, .int .i64 xp, .int .i64 mn] 82)) := (Below.refl _ _).alloc (Nat.le_refl _) _
        have HM4 := Lib.hid (HM3.out.below hb4)
        have HFB4 : Hid (Blk (W3.alloc (.cells #[.int .i64 oi, .int .i64 xi, .int .i64 ot, .int .i64 xt, .int .i64 xp, .int .i64 mn] 82)) W3.heap.size #[.int .i64 oi, .int .i64 xi, .int .i64 ot, .int .i64 xt, .int .i64 xp, .int .i64 mn] 82) := Blk.new W3 _ _
        have r3 : (W3.alloc (.cells #[.int .i64 oi, .int .i64 xi, .int .i64 ot, .int .i64 xt, .int .i64 xp, .int .i64 mn] 82)).rangeAt w.heap.size 0 [.int .i64 oi, .int .i64 ot, .bool true, .int .i64 op, .int .i64 (z - mn), .int .i64 oq] := HM4.out.r3
        have HOW3 : Hid (∀ g, s8'.ownBlock = some g → g < W3.heap.size) := fun g hg => (hown3.lt g hg).2
        obtain ⟨a9, c9, rfl⟩ := own_len hown3
        clear hown3 hg3 hb4 k4 f4 f5
        go_wp2_with (first
          | (refine wpList_load_mid rfl 82 _ rfl fb 0 rfl [.int .i64 oi, .int .i64 xi, .int .i64 ot, .int .i64 xt, .int .i64 xp, .int .i64 mn] _ rf Tryd.underlying82 rfl size_fill ?_)
          | (refine wpList_load_mid rfl 67 _ rfl w.heap.size 0 rfl [.int .i64 oi, .int .i64 ot, .bool true, .int .i64 op, .int .i64 (z - mn), .int .i64 oq] _ r3 Tryd.underlying67 rfl size_ord ?_))
        refine (next_any ⟨oi, ot, true, op, ol, oq⟩ l came (fs ++ [⟨oi, xi, ot, xt, xp, mn⟩]) (z - mn) (cutS z (⟨xi, xt, xs, xp, xl, xq⟩ :: r)) B q v1 _ HST.out (Lib.hid HM4.out.bv)).mono ?_
        rintro e W5 ⟨fa, fb_, fc, fd, fe, fl, rfl, hf2, hb5⟩
        have HF2 := Lib.hid hf2
        have HM5 := Lib.hid (HM4.out.below hb5)
        have hR5 : W5.heap[W3.heap.size]? = some (.cells #[.int .i64 oi, .int .i64 xi, .int .i64 ot, .int .i64 xt, .int .i64 xp, .int .i64 mn] 82 (0, 0)) := HFB4.out.below hb5
        have hne5 : (Value.slice a9 (fs ++ [(⟨oi, xi, ot, xt, xp, mn⟩ : Fill)]).length c9).ownBlock ≠ some W3.heap.size := fun e => by have := HOW3.out _ e; omega
        have HM6 := Lib.hid (HM5.out.row (ds := #[.int .i64 fa, .int .i64 fb_, .int .i64 fc, .int .i64 fd, .int .i64 fe, .int .i64 fl]) hR5 HM3.out.sz hne5)
        have HFB6 : Hid (Blk (W5.setRow W3.heap.size #[.int .i64 fa, .int .i64 fb_, .int .i64 fc, .int .i64 fd, .int .i64 fe, .int .i64 fl]) W3.heap.size #[.int .i64 fa, .int .i64 fb_, .int .i64 fc, .int .i64 fd, .int .i64 fe, .int .i64 fl] 82) := Blk.setRow_same hR5
        have HNE6 := Lib.hid hne5
        have hl9 : (fs ++ [(⟨oi, xi, ot, xt, xp, mn⟩ : Fill)]).length = fs.length + 1 := by simp
        rw [hl9] at HM6 HNE6
        have HLO6 := Lib.hid HM3.out.sz
        clear hf2 hb5 hne5 rf r3
        go_wp2_with (refine wpList_store_row rfl 82 _ _ rfl W3.heap.size #[.int .i64 fa, .int .i64 fb_, .int .i64 fc, .int .i64 fd, .int .i64 fe, .int .i64 fl] rfl rfl 82 #[.int .i64 oi, .int .i64 xi, .int .i64 ot, .int .i64 xt, .int .i64 xp, .int .i64 mn] hR5 size_fill rfl (by simp [Value.oneCell']) ?_)
        go_roundw
        case rel => exact ⟨fs ++ [(⟨oi, xi, ot, xt, xp, mn⟩ : Fill)], z - mn, _, v1, ⟨fa, fb_, fc, fd, fe, fl⟩, _, _, rfl, rfl, rfl, HST, HF2, HM6, HFB6, HLO6, HNE6⟩
        case measure =>
          rw [lotsAt_of HM6.out.k4, lotsAt_of HM.out.k4]
          show (z - mn).toNat < z.toNat
          omega
      | false =>
        have HSTOP := Lib.hid (HML.out.stop hn)
        have k4 : W0.cell? ⟨w.heap.size, 4, none⟩ = some (.int .i64 z) := HM.out.k4
        have HZ0 := Lib.hid HML.out.z0
        by_cases hz : z = 0
        · have HEND : Hid (MatchQ w B q v l ⟨oi, ot, true, op, ol, oq⟩ came (.returned (.tuple #[.slice a8 fs.length c8, .int .i64 0, .nilIface])) W0) := by
            have e1 : dealF l ⟨oi, ot, true, op, ol, oq⟩ = fs := by unfold dealF; rw [HSTOP.out]
            have e2 : dealZ l ⟨oi, ot, true, op, ol, oq⟩ = 0 := by unfold dealZ; rw [HSTOP.out]; exact hz
            have e3 : dealS l ⟨oi, ot, true, op, ol, oq⟩ = S := by unfold dealS; rw [HSTOP.out]
            show MatchQ _ _ _ _ _ _ _ _ _
            unfold MatchQ dealL dealC
            rw [e1, e2, e3, if_pos rfl, if_pos rfl]
            exact ⟨_, v', rfl, HM.out.own, HM.out.st⟩
          have hz' : (z == 0) = true := by simpa using hz
          clear hn hz
          go_wp2_with fail
          go_ret3
          exact HEND.out
        · have HEND : Hid (∀ v9 W9, MC w W9 B q (addL (updL l false S) ⟨oi, ot, true, op, z, oq⟩ came) v v9 (came + 1) ⟨oi, ot, true, op, z, oq⟩ (.slice a8 fs.length c8) fs → MatchQ w B q v l ⟨oi, ot, true, op, ol, oq⟩ came (.returned (.tuple #[.slice a8 fs.length c8, .int .i64 z, .nilIface])) W9) := fun v9 W9 hm => by
            have e1 : dealF l ⟨oi, ot, true, op, ol, oq⟩ = fs := by unfold dealF; rw [HSTOP.out]
            have e2 : dealZ l ⟨oi, ot, true, op, ol, oq⟩ = z := by unfold dealZ; rw [HSTOP.out]
            have e3 : dealS l ⟨oi, ot, true, op, ol, oq⟩ = S := by unfold dealS; rw [HSTOP.out]
            unfold MatchQ dealL dealC
            rw [e1, e2, e3, if_neg hz, if_neg hz]
            exact ⟨_, v9, rfl, hm.own, hm.st⟩
          have HADD : Hid (∀ W, MC w W B q (updL l false S) v v' came ⟨oi, ot, true, op, z, oq⟩ (.slice a8 fs.length c8) fs → Calls Tryd.prog 41 #[.pointer (some ⟨q, 0, none⟩), .agg #[.int .i64 oi, .int .i64 ot, .bool true, .int .i64 op, .int .i64 z, .int .i64 oq]] W (AddQ W B q v' (addL (updL l false S) ⟨oi, ot, true, op, z, oq⟩ came) (came + 1))) := fun W hm =>
            add_c B q _ v' came ⟨oi, ot, true, op, z, oq⟩ W (Lib.hid hm.bv) (fun s => Nat.le_trans (HML.out.inv.len s) (by decide)) HML.out.inv HC6.out (Nat.le_trans hBw hm.sz) (HML.out.addK HK.out hz)
          have hz' : (z == 0) = false := by simpa using hz
          have HZN := Lib.hid hz
          clear hn hz
          have r3 : W0.rangeAt w.heap.size 0 [.int .i64 oi, .int .i64 ot, .bool true, .int .i64 op, .int .i64 z, .int .i64 oq] := HM.out.r3
          go_wp2_with fail
          refine wp_region_noPanic ?_
          refine wp_region_held_drew (S := (fun w' => w'.cell? ⟨w.heap.size, 4, none⟩ = some (.int .i64 z) ∧ w'.rangeAt w.heap.size 0 [.int .i64 oi, .int .i64 ot, .bool true, .int .i64 op, .int .i64 z, .int .i64 oq])) (by kernel_rfl) ⟨k4, r3⟩ (fun hHeld => ?_)
          refine wpAnyH_take (i := 0) (v := ?_) rfl (by kernel_rfl) (by kernel_rfl) (by kernel_rfl) (fun _ _ _ h => h) (Or.inl ⟨by rfl, ?_⟩) hHeld ?_
          rotate_left
          focus
            intro w hSw
            clear hSw
            go_simp
            try with_reducible rfl
          try simp only [Act.put, List.getElem_toArray, List.getElem_cons_zero, List.getElem_cons_succ, List.setIfInBounds_toArray, List.set_cons_zero, List.set_cons_succ]
          refine wpAnyH_take (i := 1) (v := ?_) rfl (by kernel_rfl) (by kernel_rfl) (by kernel_rfl) (fun _ _ _ h => h) (Or.inl ⟨by rfl, ?_⟩) hHeld ?_
          rotate_left
          focus
            intro w hSw
            clear hSw
            go_simp
            try with_reducible rfl
          try simp only [Act.put, List.getElem_toArray, List.getElem_cons_zero, List.getElem_cons_succ, List.setIfInBounds_toArray, List.set_cons_zero, List.set_cons_succ]
          refine wpAnyH_take (i := 2) (v := ?_) rfl (by kernel_rfl) (by kernel_rfl) (by kernel_rfl) (fun _ _ _ h => h) (Or.inl ⟨by rfl, ?_⟩) hHeld ?_
          rotate_left
          focus
            intro w hSw
            (try dsimp only at hSw)
            go_simp
            try with_reducible rfl
          try simp only [Act.put, List.getElem_toArray, List.getElem_cons_zero, List.getElem_cons_succ, List.setIfInBounds_toArray, List.set_cons_zero, List.set_cons_succ]
          refine wpAnyH_take (i := 3) (v := ?_) rfl (by kernel_rfl) (by kernel_rfl) (by kernel_rfl) (fun _ _ _ h => h) (Or.inl ⟨by rfl, ?_⟩) hHeld ?_
          rotate_left
          focus
            intro w hSw
            clear hSw
            go_simp
            try with_reducible rfl
          try simp only [Act.put, List.getElem_toArray, List.getElem_cons_zero, List.getElem_cons_succ, List.setIfInBounds_toArray, List.set_cons_zero, List.set_cons_succ]
          refine wpAnyH_take (i := 4) rfl (by kernel_rfl) (by kernel_rfl) (by kernel_rfl) (fun _ _ _ h => h) (yieldsIf_load_mid (by rfl) 67 _ rfl w.heap.size (0) rfl [.int .i64 oi, .int .i64 ot, .bool true, .int .i64 op, .int .i64 z, .int .i64 oq] _ (fun w h => h.2) Tryd.underlying67 rfl size_ord) hHeld ?_
          try simp only [Act.put, List.getElem_toArray, List.getElem_cons_zero, List.getElem_cons_succ, List.setIfInBounds_toArray, List.set_cons_zero, List.set_cons_succ]
          refine wpAnyH_ready (rs := [5]) (by kernel_rfl) (by simp) ?_
          refine AllReadyH.cons rfl (fun K hK => ?_) AllReadyH.nil
          go_simp
          refine (HADD.out W0.drew (HM.out.drew)).mono ?_
          rintro e W9 ⟨rfl, v9, hs9⟩
          have HM9 := Lib.hid (HM.out.drew.book hs9)
          have k4 := HM9.out.k4
          have r3 := HM9.out.r3
          clear hs9
          refine hK.out _ _ ⟨k4, r3⟩ (fun hHeld => ?_)
          clear hK K
          try simp only [Act.put, List.getElem_toArray, List.getElem_cons_zero, List.getElem_cons_succ, List.setIfInBounds_toArray, List.set_cons_zero, List.set_cons_succ]
          refine wpAnyH_take (i := 6) (v := ?_) rfl (by kernel_rfl) (by kernel_rfl) (by kernel_rfl) (fun _ _ _ h => h) (Or.inl ⟨by rfl, ?_⟩) hHeld ?_
          rotate_left
          focus
            intro w hSw
            clear hSw
            go_simp
            try with_reducible rfl
          try simp only [Act.put, List.getElem_toArray, List.getElem_cons_zero, List.getElem_cons_succ, List.setIfInBounds_toArray, List.set_cons_zero, List.set_cons_succ]
          refine wpAnyH_take (i := 7) (v := ?_) rfl (by kernel_rfl) (by kernel_rfl) (by kernel_rfl) (fun _ _ _ h => h) (Or.inl ⟨by rfl, ?_⟩) hHeld ?_
          rotate_left
          focus
            intro w hSw
            clear hSw
            go_simp
            try with_reducible rfl
          try simp only [Act.put, List.getElem_toArray, List.getElem_cons_zero, List.getElem_cons_succ, List.setIfInBounds_toArray, List.set_cons_zero, List.set_cons_succ]
          refine wpAnyH_take (i := 8) (v := ?_) rfl (by kernel_rfl) (by kernel_rfl) (by kernel_rfl) (fun _ _ _ h => h) (Or.inl ⟨by rfl, ?_⟩) hHeld ?_
          rotate_left
          focus
            intro w hSw
            clear hSw
            go_simp
            try with_reducible rfl
          try simp only [Act.put, List.getElem_toArray, List.getElem_cons_zero, List.getElem_cons_succ, List.setIfInBounds_toArray, List.set_cons_zero, List.set_cons_succ]
          refine wpAnyH_done (by kernel_rfl) ?_ _
          refine NoPanic.normal ?_
          go_wp2_with fail
          go_ret3
          exact HEND.out _ _ HM9.out
  | false =>
    simp only [Bool.not_false] at *
    go_enter Tryd.func49, Tryd.ntmps49
    go_wp2_with fail
    refine HCK.out.mono ?_
    rintro e w3 ⟨rfl, hb3⟩
    have HM3 : Hid (MC w w3 B q (updL l true (l true)) v v came ⟨oi, ot, false, op, ol, oq⟩ (.slice none 0 0) []) := by
      have hbw : Below w.heap.size w w3 := HB2.out.trans (hb3.mono HB2.out.size)
      show MC _ _ _ _ _ _ _ _ _ _ _
      rw [updL_self]
      exact ⟨BS.ofBelow h.out hbw, HO2.out.below hb3, h.out.away (Nat.le_refl _), ⟨rfl, .inl ⟨rfl, rfl⟩⟩⟩
    have r3 := HM3.out.r3
    have r3 : w3.rangeAt w.heap.size 0 [.int .i64 oi, .int .i64 ot, .bool false, .int .i64 op, .int .i64 ol, .int .i64 oq] := r3
    clear hb3
    go_wp2_with (refine wpList_load_mid rfl 67 _ rfl w.heap.size 0 rfl [.int .i64 oi, .int .i64 ot, .bool false, .int .i64 op, .int .i64 ol, .int .i64 oq] _ r3 Tryd.underlying67 rfl size_ord ?_)
    refine (next_any ⟨oi, ot, false, op, ol, oq⟩ l came [] ol (l true) B q v w3 HML0.out (Lib.hid HM3.out.bv)).mono ?_
    rintro e w4 ⟨fa, fb_, fc, fd, fe, fl, rfl, hf, hb4⟩
    have HF0 := Lib.hid hf
    have HM4 := Lib.hid (HM3.out.below hb4)
    have HM5 := Lib.hid (HM4.out.below (W' := w4.alloc (.cells #[.int .i64 fa, .int .i64 fb_, .int .i64 fc, .int .i64 fd, .int .i64 fe, .int .i64 fl] 82)) ((Below.refl _ w4).alloc (Nat.le_refl _) _))
    have HFB0 : Hid (Blk (w4.alloc (.cells #[.int .i64 fa, .int .i64 fb_, .int .i64 fc, .int .i64 fd, .int .i64 fe, .int .i64 fl] 82)) w4.heap.size #[.int .i64 fa, .int .i64 fb_, .int .i64 fc, .int .i64 fd, .int .i64 fe, .int .i64 fl] 82) := Blk.new w4 _ _
    have HLO0 : Hid (w.heap.size ≤ w4.heap.size) := HM4.out.sz
    clear hf hb4 r3
    go_wp2_with fail
    go_loopw [8, 9, 10, 11, 12] (fun s8 s9 s10 _ _ wx => ∃ (fs : List Fill) (z : Int) (S : List Ord) (v' : Bool → Value) (f : Fill) (fb : Nat) (W0 : World), W0 = wx ∧ s9 = .pointer (some ⟨fb, 0, none⟩) ∧ s10 = .bool (nextOk ⟨oi, ot, false, op, ol, oq⟩ z S) ∧ Hid (ML ⟨oi, ot, false, op, ol, oq⟩ l came fs z S) ∧ Hid (nextOk ⟨oi, ot, false, op, ol, oq⟩ z S = true → ∃ x r, S = x :: r ∧ f = fillO ⟨oi, ot, false, op, ol, oq⟩ x (minL z x)) ∧ Hid (MC w W0 B q (updL l true S) v v' came ⟨oi, ot, false, op, z, oq⟩ s8 fs) ∧ Hid (Blk W0 fb f.cells.toArray 82) ∧ Hid (w.heap.size ≤ fb) ∧ Hid (s8.ownBlock ≠ some fb)) (fun _ _ _ _ _ wx => lotsAt w.heap.size wx)
    case atStart => exact ⟨[], ol, l true, v, ⟨fa, fb_, fc, fd, fe, fl⟩, _, _, rfl, rfl, rfl, HML0, HF0, HM5, HFB0, HLO0, Lib.hid (fun e => by cases e)⟩
    case round =>
      obtain ⟨fs, z, S, v', f, fb, W0, rfl, rfl, rfl, HML, HF, HM, HFB, HLO, HNE⟩ := hrel
      clear HM3 HM4 HM5 HFB0 HLO0 HF0
      obtain ⟨a8, c8, rfl⟩ := own_len HM.out.own
      cases hn : nextOk ⟨oi, ot, false, op, ol, oq⟩ z S with
      | true =>
        obtain ⟨x, r, hS, hf⟩ := HF.out hn
        subst hS
        subst hf
        obtain ⟨HST, hcz, m1, m2, m3⟩ := HML.out.step hn
        have HST := Lib.hid HST
        have HNX := Lib.hid hn
        have hz1 : z ≤ 1000 := by have := HML.out.z1; have := HOL.out; simp only at *; omega
        have HFL : Hid (fs.length ≤ 1000) := by have := HML.out.z1; have := HML.out.z0; have := HOL.out; show _ ≤ _; simp only at *; omega
        have HCUT := Lib.hid (fun (W : World) (hb : BV W B q (updL l true (x :: r)) v' came) => cut_head ⟨oi, ot, false, op, ol, oq⟩ x l came fs z r B q v' W HML.out hn (Lib.hid hb))
        obtain ⟨mn, hmn⟩ : ∃ mn, mn = minL z x := ⟨_, rfl⟩
        rw [hcz] at HST
        rw [← hmn] at HST HFB HCUT m1 m2 m3 hcz
        obtain ⟨xi, xt, xs, xp, xl, xq⟩ := x
        have HFB : Hid (Blk W0 fb #[.int .i64 xi, .int .i64 oi, .int .i64 xt, .int .i64 ot, .int .i64 xp, .int .i64 mn] 82) := HFB
        have HST : Hid (ML ⟨oi, ot, false, op, ol, oq⟩ l came (fs ++ [⟨xi, oi, xt, ot, xp, mn⟩]) (z - mn) (cutS z (⟨xi, xt, xs, xp, xl, xq⟩ :: r))) := HST
        simp only at HCUT m2
        have f0 := HFB.out.cell 0 _ rfl
        have f1 := HFB.out.cell 1 _ rfl
        have f5 := HFB.out.cell 5 _ rfl
        simp only [List.getElem_toArray, List.getElem_cons_zero, List.getElem_cons_succ] at f0 f1 f5
        have k2 := HM.out.k2
        have k2 : W0.cell? ⟨w.heap.size, 2, none⟩ = some (.bool false) := k2
        clear hmn hcz hn HF
        go_wp2_with fail
        refine (HCUT.out W0 HM.out.bv).mono ?_
        rintro e W1 ⟨rfl, v1, hs1⟩
        have HM1 := Lib.hid (HM.out.book hs1)
        have HFB1 := Lib.hid (HM.out.keepF hs1 HFB.out)
        have HM2 := Lib.hid (HM1.out.setl (z - mn))
        have HFB2 := Lib.hid (HM1.out.setl_far (z := z - mn) HFB1.out)
        have k4 := HM1.out.k4
        have k4 : W1.cell? ⟨w.heap.size, 4, none⟩ = some (.int .i64 z) := k4
        have f4 := HM1.out.f4
        have f5 := HFB1.out.cell 5 _ rfl
        simp only [List.getElem_toArray, List.getElem_cons_zero, List.getElem_cons_succ] at f5
        have rf : (W1.setCell ⟨w.heap.size, 4, none⟩ (.int .i64 (z - mn))).rangeAt fb 0 [.int .i64 xi, .int .i64 oi, .int .i64 xt, .int .i64 ot, .int .i64 xp, .int .i64 mn] := rangeAt_blk HFB2.out
        have hsz2 : w.heap.size ≤ (W1.setCell ⟨w.heap.size, 4, none⟩ (.int .i64 (z - mn))).heap.size := HM2.out.sz
        clear hs1 f0 f1 k2 HCUT
        go_wp2_with (first
          | (refine wpList_load_mid rfl 82 _ rfl fb 0 rfl [.int .i64 xi, .int .i64 oi, .int .i64 xt, .int .i64 ot, .int .i64 xp, .int .i64 mn] _ rf Tryd.underlying82 rfl size_fill ?_)
          | (at_builtin; refine wpList_app1 rfl _ _ 78 rfl w.heap.size 82 i0 (.agg #[.int .i64 0, .int .i64 0, .int .i64 0, .int .i64 0, .int .i64 0, .int .i64 0]) 6 48 Tryd.underlying78 hi hz0 hz1_ hz2 rfl (by decide) _ _ _ rfl HM2.out.own [.int .i64 xi, .int .i64 oi, .int .i64 xt, .int .i64 ot, .int .i64 xp, .int .i64 mn] _ rfl ?ca0 ?ca1 ?ca2 ?ca3 ?ca4 hsz2 ?_))
        case ca0 => simp [World.setCell]
        case ca1 => rfl
        case ca2 => simp [Value.oneCell']
        case ca3 => have := HFL.out; unfold maxLen; omega
        case ca4 => have := HFL.out; omega
        intro s8' W3 hown3 hg3 _
        have hown3 : W3.ownsRow w.heap.size 82 6 s8' (fs ++ [(⟨xi, oi, xt, ot, xp, mn⟩ : Fill)]).length (flatOf Fill.cells (fs ++ [(⟨xi, oi, xt, ot, xp, mn⟩ : Fill)])) := by
          rw [List.length_append, flatOf_append, flatOf_one]
          exact hown3
        have HM3 := Lib.hid (HM2.out.app (f := ⟨xi, oi, xt, ot, xp, mn⟩) hg3 hown3)
        have HFB3 : Hid (Blk W3 fb #[.int .i64 xi, .int .i64 oi, .int .i64 xt, .int .i64 ot, .int .i64 xp, .int .i64 mn] 82) := (Turns.of_grown hg3).blk HFB2.out (fun e => HNE.out e)
        have rf : W3.rangeAt fb 0 [.int .i64 xi, .int .i64 oi, .int .i64 xt, .int .i64 ot, .int .i64 xp, .int .i64 mn] := rangeAt_blk HFB3.out
        have hb4 : Below W3.heap.size W3 (W3.alloc (.cells #[.int .i64 xi, .int .i64 oi, .int .i64 xt, .int .i64 ot, .int .i64 xp, .int .i64 mn] 82)) := (Below.refl _ _).alloc (Nat.le_refl _) _
        have HM4 := Lib.hid (HM3.out.below hb4)
        have HFB4 : Hid (Blk (W3.alloc (.cells #[.int .i64 xi, .int .i64 oi, .int .i64 xt, .int .i64 ot, .int .i64 xp, .int .i64 mn] 82)) W3.heap.size #[.int .i64 xi, .int .i64 oi, .int .i64 xt, .int .i64 ot, .int .i64 xp, .int .i64 mn] 82) := Blk.new W3 _ _
        have r3 : (W3.alloc (.cells #[.int .i64 xi, .int .i64 oi, .int .i64 xt, .int .i64 ot, .int .i64 xp, .int .i64 mn] 82)).rangeAt w.heap.size 0 [.int .i64 oi, .int .i64 ot, .bool false, .int .i64 op, .int .i64 (z - mn), .int .i64 oq] := HM4.out.r3
        have HOW3 : Hid (∀ g, s8'.ownBlock = some g → g < W3.heap.size) := fun g hg => (hown3.lt g hg).2
        obtain ⟨a9, c9, rfl⟩ := own_len hown3
        clear hown3 hg3 hb4 k4 f4 f5
        go_wp2_with (first
          | (refine wpList_load_mid rfl 82 _ rfl fb 0 rfl [.int .i64 xi, .int .i64 oi, .int .i64 xt, .int .i64 ot, .int .i64 xp, .int .i64 mn] _ rf Tryd.underlying82 rfl size_fill ?_)
          | (refine wpList_load_mid rfl 67 _ rfl w.heap.size 0 rfl [.int .i64 oi, .int .i64 ot, .bool false, .int .i64 op, .int .i64 (z - mn), .int .i64 oq] _ r3 Tryd.underlying67 rfl size_ord ?_))
        refine (next_any ⟨oi, ot, false, op, ol, oq⟩ l came (fs ++ [⟨xi, oi, xt, ot, xp, mn⟩]) (z - mn) (cutS z (⟨xi, xt, xs, xp, xl, xq⟩ :: r)) B q v1 _ HST.out (Lib.hid HM4.out.bv)).mono ?_
        rintro e W5 ⟨fa, fb_, fc, fd, fe, fl, rfl, hf2, hb5⟩
        have HF2 := Lib.hid hf2
        have HM5 := Lib.hid (HM4.out.below hb5)
        have hR5 : W5.heap[W3.heap.size]? = some (.cells #[.int .i64 xi, .int .i64 oi, .int .i64 xt, .int .i64 ot, .int .i64 xp, .int .i64 mn] 82 (0, 0)) := HFB4.out.below hb5
        have hne5 : (Value.slice a9 (fs ++ [(⟨xi, oi, xt, ot, xp, mn⟩ : Fill)]).length c9).ownBlock ≠ some W3.heap.size := fun e => by have := HOW3.out _ e; omega
        have HM6 := Lib.hid (HM5.out.row (ds := #[.int .i64 fa, .int .i64 fb_, .int .i64 fc, .int .i64 fd, .int .i64 fe, .int .i64 fl]) hR5 HM3.out.sz hne5)
        have HFB6 : Hid (Blk (W5.setRow W3.heap.size #[.int .i64 fa, .int .i64 fb_, .int .i64 fc, .int .i64 fd, .int .i64 fe, .int .i64 fl]) W3.heap.size #[.int .i64 fa, .int .i64 fb_, .int .i64 fc, .int .i64 fd, .int .i64 fe, .int .i64 fl] 82) := Blk.setRow_same hR5
        have HNE6 := Lib.hid hne5
        have hl9 : (fs ++ [(⟨xi, oi, xt, ot, xp, mn⟩ : Fill)]).length = fs.length + 1 := by simp
        rw [hl9] at HM6 HNE6
        have HLO6 := Lib.hid HM3.out.sz
        clear hf2 hb5 hne5 rf r3
        go_wp2_with (refine wpList_store_row rfl 82 _ _ rfl W3.heap.size #[.int .i64 fa, .int .i64 fb_, .int .i64 fc, .int .i64 fd, .int .i64 fe, .int .i64 fl] rfl rfl 82 #[.int .i64 xi, .int .i64 oi, .int .i64 xt, .int .i64 ot, .int .i64 xp, .int .i64 mn] hR5 size_fill rfl (by simp [Value.oneCell']) ?_)
        go_roundw
        case rel => exact ⟨fs ++ [(⟨xi, oi, xt, ot, xp, mn⟩ : Fill)], z - mn, _, v1, ⟨fa, fb_, fc, fd, fe, fl⟩, _, _, rfl, rfl, rfl, HST, HF2, HM6, HFB6, HLO6, HNE6⟩
        case measure =>
          rw [lotsAt_of HM6.out.k4, lotsAt_of HM.out.k4]
          show (z - mn).toNat < z.toNat
          omega
      | false =>
        have HSTOP := Lib.hid (HML.out.stop hn)
        have k4 : W0.cell? ⟨w.heap.size, 4, none⟩ = some (.int .i64 z) := HM.out.k4
        have HZ0 := Lib.hid HML.out.z0
        by_cases hz : z = 0
        · have HEND : Hid (MatchQ w B q v l ⟨oi, ot, false, op, ol, oq⟩ came (.returned (.tuple #[.slice a8 fs.length c8, .int .i64 0, .nilIface])) W0) := by
            have e1 : dealF l ⟨oi, ot, false, op, ol, oq⟩ = fs := by unfold dealF; rw [HSTOP.out]
            have e2 : dealZ l ⟨oi, ot, false, op, ol, oq⟩ = 0 := by unfold dealZ; rw [HSTOP.out]; exact hz
            have e3 : dealS l ⟨oi, ot, false, op, ol, oq⟩ = S := by unfold dealS; rw [HSTOP.out]
            show MatchQ _ _ _ _ _ _ _ _ _
            unfold MatchQ dealL dealC
            rw [e1, e2, e3, if_pos rfl, if_pos rfl]
            exact ⟨_, v', rfl, HM.out.own, HM.out.st⟩
          have hz' : (z == 0) = true := by simpa using hz
          clear hn hz
          go_wp2_with fail
          go_ret3
          exact HEND.out
        · have HEND : Hid (∀ v9 W9, MC w W9 B q (addL (updL l true S) ⟨oi, ot, false, op, z, oq⟩ came) v v9 (came + 1) ⟨oi, ot, false, op, z, oq⟩ (.slice a8 fs.length c8) fs → MatchQ w B q v l ⟨oi, ot, false, op, ol, oq⟩ came (.returned (.tuple #[.slice a8 fs.length c8, .int .i64 z, .nilIface])) W9) := fun v9 W9 hm => by
            have e1 : dealF l ⟨oi, ot, false, op, ol, oq⟩ = fs := by unfold dealF; rw [HSTOP.out]
            have e2 : dealZ l ⟨oi, ot, false, op, ol, oq⟩ = z := by unfold dealZ; rw [HSTOP.out]
            have e3 : dealS l ⟨oi, ot, false, op, ol, oq⟩ = S := by unfold dealS; rw [HSTOP.out]
            unfold MatchQ dealL dealC
            rw [e1, e2, e3, if_neg hz, if_neg hz]
            exact ⟨_, v9, rfl, hm.own, hm.st⟩
          have HADD : Hid (∀ W, MC w W B q (updL l true S) v v' came ⟨oi, ot, false, op, z, oq⟩ (.slice a8 fs.length c8) fs → Calls Tryd.prog 41 #[.pointer (some ⟨q, 0, none⟩), .agg #[.int .i64 oi, .int .i64 ot, .bool false, .int .i64 op, .int .i64 z, .int .i64 oq]] W (AddQ W B q v' (addL (updL l true S) ⟨oi, ot, false, op, z, oq⟩ came) (came + 1))) := fun W hm =>
            add_c B q _ v' came ⟨oi, ot, false, op, z, oq⟩ W (Lib.hid hm.bv) (fun s => Nat.le_trans (HML.out.inv.len s) (by decide)) HML.out.inv HC6.out (Nat.le_trans hBw hm.sz) (HML.out.addK HK.out hz)
          have hz' : (z == 0) = false := by simpa using hz
          have HZN := Lib.hid hz
          clear hn hz
          have r3 : W0.rangeAt w.heap.size 0 [.int .i64 oi, .int .i64 ot, .bool false, .int .i64 op, .int .i64 z, .int .i64 oq] := HM.out.r3
          go_wp2_with fail
          refine wp_region_noPanic ?_
          refine wp_region_held_drew (S := (fun w' => w'.cell? ⟨w.heap.size, 4, none⟩ = some (.int .i64 z) ∧ w'.rangeAt w.heap.size 0 [.int .i64 oi, .int .i64 ot, .bool false, .int .i64 op, .int .i64 z, .int .i64 oq])) (by kernel_rfl) ⟨k4, r3⟩ (fun hHeld => ?_)
          refine wpAnyH_take (i := 0) (v := ?_) rfl (by kernel_rfl) (by kernel_rfl) (by kernel_rfl) (fun _ _ _ h => h) (Or.inl ⟨by rfl, ?_⟩) hHeld ?_
          rotate_left
          focus
            intro w hSw
            clear hSw
            go_simp
            try with_reducible rfl
          try simp only [Act.put, List.getElem_toArray, List.getElem_cons_zero, List.getElem_cons_succ, List.setIfInBounds_toArray, List.set_cons_zero, List.set_cons_succ]
          refine wpAnyH_take (i := 1) (v := ?_) rfl (by kernel_rfl) (by kernel_rfl) (by kernel_rfl) (fun _ _ _ h => h) (Or.inl ⟨by rfl, ?_⟩) hHeld ?_
          rotate_left
          focus
            intro w hSw
            clear hSw
            go_simp
            try with_reducible rfl
          try simp only [Act.put, List.getElem_toArray, List.getElem_cons_zero, List.getElem_cons_succ, List.setIfInBounds_toArray, List.set_cons_zero, List.set_cons_succ]
          refine wpAnyH_take (i := 2) (v := ?_) rfl (by kernel_rfl) (by kernel_rfl) (by kernel_rfl) (fun _ _ _ h => h) (Or.inl ⟨by rfl, ?_⟩) hHeld ?_
          rotate_left
          focus
            intro w hSw
            (try dsimp only at hSw)
            go_simp
            try with_reducible rfl
          try simp only [Act.put, List.getElem_toArray, List.getElem_cons_zero, List.getElem_cons_succ, List.setIfInBounds_toArray, List.set_cons_zero, List.set_cons_succ]
          refine wpAnyH_take (i := 3) (v := ?_) rfl (by kernel_rfl) (by kernel_rfl) (by kernel_rfl) (fun _ _ _ h => h) (Or.inl ⟨by rfl, ?_⟩) hHeld ?_
          rotate_left
          focus
            intro w hSw
            clear hSw
            go_simp
            try with_reducible rfl
          try simp only [Act.put, List.getElem_toArray, List.getElem_cons_zero, List.getElem_cons_succ, List.setIfInBounds_toArray, List.set_cons_zero, List.set_cons_succ]
          refine wpAnyH_take (i := 4) rfl (by kernel_rfl) (by kernel_rfl) (by kernel_rfl) (fun _ _ _ h => h) (yieldsIf_load_mid (by rfl) 67 _ rfl w.heap.size (0) rfl [.int .i64 oi, .int .i64 ot, .bool false, .int .i64 op, .int .i64 z, .int .i64 oq] _ (fun w h => h.2) Tryd.underlying67 rfl size_ord) hHeld ?_
          try simp only [Act.put, List.getElem_toArray, List.getElem_cons_zero, List.getElem_cons_succ, List.setIfInBounds_toArray, List.set_cons_zero, List.set_cons_succ]
          refine wpAnyH_ready (rs := [5]) (by kernel_rfl) (by simp) ?_
          refine AllReadyH.cons rfl (fun K hK => ?_) AllReadyH.nil
          go_simp
          refine (HADD.out W0.drew (HM.out.drew)).mono ?_
          rintro e W9 ⟨rfl, v9, hs9⟩
          have HM9 := Lib.hid (HM.out.drew.book hs9)
          have k4 := HM9.out.k4
          have r3 := HM9.out.r3
          clear hs9
          refine hK.out _ _ ⟨k4, r3⟩ (fun hHeld => ?_)
          clear hK K
          try simp only [Act.put, List.getElem_toArray, List.getElem_cons_zero, List.getElem_cons_succ, List.setIfInBounds_toArray, List.set_cons_zero, List.set_cons_succ]
          refine wpAnyH_take (i := 6) (v := ?_) rfl (by kernel_rfl) (by kernel_rfl) (by kernel_rfl) (fun _ _ _ h => h) (Or.inl ⟨by rfl, ?_⟩) hHeld ?_
          rotate_left
          focus
            intro w hSw
            clear hSw
            go_simp
            try with_reducible rfl
          try simp only [Act.put, List.getElem_toArray, List.getElem_cons_zero, List.getElem_cons_succ, List.setIfInBounds_toArray, List.set_cons_zero, List.set_cons_succ]
          refine wpAnyH_take (i := 7) (v := ?_) rfl (by kernel_rfl) (by kernel_rfl) (by kernel_rfl) (fun _ _ _ h => h) (Or.inl ⟨by rfl, ?_⟩) hHeld ?_
          rotate_left
          focus
            intro w hSw
            clear hSw
            go_simp
            try with_reducible rfl
          try simp only [Act.put, List.getElem_toArray, List.getElem_cons_zero, List.getElem_cons_succ, List.setIfInBounds_toArray, List.set_cons_zero, List.set_cons_succ]
          refine wpAnyH_take (i := 8) (v := ?_) rfl (by kernel_rfl) (by kernel_rfl) (by kernel_rfl) (fun _ _ _ h => h) (Or.inl ⟨by rfl, ?_⟩) hHeld ?_
          rotate_left
          focus
            intro w hSw
            clear hSw
            go_simp
            try with_reducible rfl
          try simp only [Act.put, List.getElem_toArray, List.getElem_cons_zero, List.getElem_cons_succ, List.setIfInBounds_toArray, List.set_cons_zero, List.set_cons_succ]
          refine wpAnyH_done (by kernel_rfl) ?_ _
          refine NoPanic.normal ?_
          go_wp2_with fail
          go_ret3
          exact HEND.out _ _ HM9.out
end Go.Proofs.YtdebldpmloignaaDoor
