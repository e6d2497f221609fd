/-
  reply: the reader: seats.
-/
import Derived.Test.YtbningfdpibdkaaDoorRpD
namespace Go.Proofs.YtbningfdpibdkaaDoor
open Go.RowKit
set_option linter.unusedVariables false
set_option linter.unusedSimpArgs false

theorem rangeAt_b {w : World} {g : Nat} {cs : List Value} {T : TypeId} (h : Blk w g cs.toArray T) : w.rangeAt g 0 cs := fun j x hj => by
  rw [Nat.zero_add]
  exact h.cell j x (by simpa using hj)
def seatE (t : Int × Int × Int) : List Value := [.int .i64 t.1, .int .i64 t.2.1, .int .i64 t.2.2]
/-- A seat, in plain words. -/
def rdSt (s : ByteArray) (p : St) : (Int × Int × Int) × St := (((rdTk s p).1.1, (rdTk s p).1.2, (rdI s (rdTk s p).2).1), (rdI s (rdTk s p).2).2)
theorem rdSt_eq (s : ByteArray) (p : St) : rdSt s p = (((rdTk s p).1.1, (rdTk s p).1.2, (rdI s (rdTk s p).2).1), (rdI s (rdTk s p).2).2) := rfl
theorem seats_info : (Tryd.prog.info? 144).map (fun i => (i.zero, i.size, i.bytes)) = some (some (.agg #[.int .i64 0, .int .i64 0, .int .i64 0]), 3, 24) := by kernel_rfl
set_option maxRecDepth 100000 in
set_option maxHeartbeats 1000000 in
theorem seats_c (E : Nat → Addr) (r q : Nat) (s : ByteArray) (p : St) (b : Bool) (w : World) (h : Hid (RdV w E r q s p b)) (hs : s.size ≤ 1000000) :
    Calls Tryd.prog 90 #[.pointer (some ⟨r, 0, none⟩)] w fun e w' => ∃ v, e = .returned v ∧ w'.ownsRow w.heap.size 144 3 v (rdL s (rdSt s) b p).1.1.length (flatOf seatE (rdL s (rdSt s) b p).1.1) ∧ RdV w' E r q s (rdL s (rdSt s) b p).2 (rdL s (rdSt s) b p).1.2 ∧ Turns (fun k => k = q ∨ k = r) w w' := by
  obtain ⟨i0, hi, hz0, hz1, hz2⟩ := info_parts seats_info
  have HC := Lib.hid (count_c E r q s p b w h hs)
  have HLT := Lib.hid h.out.lt
  have HGF : Hid (1 < w.heap.size) := World.block_lt_of_cell? w ⟨1, 0, none⟩ h.out.form
  have hn0 := rdC_le s p hs
  unfold rdL
  obtain ⟨R, hR⟩ : ∃ R, R = rdC s p := ⟨_, rfl⟩
  rw [← hR] at HC hn0 ⊢
  obtain ⟨⟨n, bd⟩, p1⟩ := R
  simp only at HC hn0 ⊢
  obtain ⟨b1, hb1⟩ : ∃ z, z = (b || bd) := ⟨_, rfl⟩
  rw [← hb1] at HC ⊢
  obtain ⟨TT, hTT⟩ : ∃ z, z = rdLst (rdSt s) b1 n p1 := ⟨_, rfl⟩
  rw [← hTT]
  have HTT := Lib.hid hTT
  have HN := Lib.hid hn0
  clear hR h hb1 hTT hn0
  go_enter Tryd.func90, Tryd.ntmps90
  go_wp2_with fail
  refine HC.out.mono ?_
  rintro e w1 ⟨rfl, hv1, ht1⟩
  have H1 := Lib.hid hv1
  have HT1 := Lib.hid ht1
  clear hv1 ht1 HC
  go_wp2_with fail
  go_loopw [2, 4] (fun s2 s4 wx => ∃ (i : Nat) (ys : List (Int × Int × Int)) (p2 : St) (W : World), W = wx ∧ s4 = .int .i64 i ∧ i ≤ n ∧ ys.length ≤ i ∧ Hid (ys ++ (rdLst (rdSt s) b1 (n - i) p2).1 = TT.1 ∧ (rdLst (rdSt s) b1 (n - i) p2).2 = TT.2) ∧ Hid (W.ownsRow w.heap.size 144 3 s2 ys.length (flatOf seatE ys)) ∧ Hid (RdV W E r q s p2 b1) ∧ Hid (Turns (fun k => k = q ∨ k = r) w W)) (fun _ s4 _ => n - (intOf s4).toNat)
  case atStart => exact ⟨0, [], p1, _, rfl, rfl, Nat.zero_le _, Nat.le_refl _, Lib.hid ⟨by rw [HTT.out]; rfl, by rw [HTT.out]; rfl⟩, Lib.hid ⟨rfl, .inl ⟨rfl, rfl⟩⟩, H1, HT1⟩
  case round =>
    obtain ⟨i, ys, p2, W, rfl, rfl, hin, hyl, HEQ, HOW, HV, HTW⟩ := hrel
    obtain ⟨a2, c2, rfl⟩ := own_len HOW.out
    have HMO := Lib.hid (more_c E r q s p2 b1 (i : Int) (n : Int) W HV)
    have k0 : W.cell? ⟨r, 0, none⟩ = some (.pointer (some ⟨q, 0, none⟩)) := HV.out.blk.cell 0 _ rfl
    cases hm : (decide ((i : Int) < (n : Int)) && (!b1 && p2.2.isNone)) with
    | true =>
      rw [hm] at HMO
      obtain ⟨hlt, hgo⟩ := rdLst_go (rd := rdSt s) hm
      have HGO := Lib.hid hgo
      have HRD := Lib.hid (task_c E r q s p2 b1 W HV hs)
      have HRI := Lib.hid (fun (W' : World) (h : RdV W' E r q s (rdTk s p2).2 b1) => rdInt_c E r q s (rdTk s p2).2 b1 W' (Lib.hid h) hs)
      rw [rdSt_eq s p2] at HGO
      obtain ⟨R2, hR2⟩ : ∃ R, R = rdTk s p2 := ⟨_, rfl⟩
      rw [← hR2] at HGO HRD HRI
      obtain ⟨R3, hR3⟩ : ∃ R, R = rdI s R2.2 := ⟨_, rfl⟩
      rw [← hR3] at HGO HRI
      obtain ⟨⟨z, y⟩, p3⟩ := R2
      obtain ⟨u, p4⟩ := R3
      simp only at HGO HRD HRI
      have hnl : (ys.length : Int) ≤ 1000000 := by have := HN.out; omega
      have hil : (i : Int) ≤ 1000000 := by have := HN.out; omega
      clear hm hgo hR2 hR3
      go_wp2_with fail
      refine HMO.out.mono ?_
      rintro e w2 ⟨rfl, rfl⟩
      go_wp2_with fail
      refine HRD.out.mono ?_
      rintro e W2a ⟨rfl, hv2, ht2⟩
      obtain ⟨X, hX⟩ : ∃ X, X = W2a.heap.size := ⟨_, rfl⟩
      obtain ⟨W2, hW2⟩ : ∃ Z, Z = W2a.alloc (.cells #[.int .i64 z, .int .i64 y] 142) := ⟨_, rfl⟩
      have hb2 : Below W2a.heap.size W2a W2 := by rw [hW2]; exact (Below.refl _ _).alloc (Nat.le_refl _) _
      have HV2 := Lib.hid (hv2.below hb2)
      have HX2 : Hid (Blk W2 X #[.int .i64 z, .int .i64 y] 142) := by show Blk _ _ _ _; rw [hW2, hX]; exact Blk.new W2a _ _
      have HOW2 := Lib.hid ((Turns.of_below (F := fun _ => False) hb2).owns (ht2.owns HOW.out (fun g hg e => by have h1 := (HOW.out.lt g hg).1; have h2 := HLT.out; omega)) (fun _ _ h => h))
      have HTW2 := Lib.hid ((HTW.out.trans ht2 (fun _ _ h => .inl h)).trans (Turns.of_below (F := fun _ => False) hb2) (fun _ _ h => h.elim))
      have rX : W2.rangeAt X 0 [.int .i64 z, .int .i64 y] := rangeAt_b HX2.out
      have k0 : W2.cell? ⟨r, 0, none⟩ = some (.pointer (some ⟨q, 0, none⟩)) := HV2.out.blk.cell 0 _ rfl
      have HW2 := Lib.hid hW2
      have HXE := Lib.hid hX
      clear hv2 ht2 hb2 hW2 hX
      go_upto_region 6 with fail
      rw [← HW2.out, ← HXE.out]
      refine wp_region_noPanic ?_
      refine wp_region_held_drew (S := (fun w' => w'.rangeAt X 0 [.int .i64 z, .int .i64 y] ∧ w'.cell? ⟨r, 0, none⟩ = some (.pointer (some ⟨q, 0, none⟩)))) (by kernel_rfl) ⟨rX, k0⟩ (fun hHeld => ?_)
      refine wpAnyH_take (i := 0) (v := ?_) rfl (by kernel_rfl) (by kernel_rfl) (by kernel_rfl) (fun _ _ _ h => h) (Or.inl ⟨by rfl, ?_⟩) hHeld ?_
      rotate_left
      focus
        intro w hSw
        clear hSw
        go_simp
        try with_reducible rfl
      try simp only [Act.put, List.getElem_toArray, List.getElem_cons_zero, List.getElem_cons_succ, List.setIfInBounds_toArray, List.set_cons_zero, List.set_cons_succ]
      refine wpAnyH_take (i := 1) rfl (by kernel_rfl) (by kernel_rfl) (by kernel_rfl) (fun _ _ _ h => h) (yieldsIf_load_mid (by rfl) 142 _ rfl X (0) rfl [.int .i64 z, .int .i64 y] _ (fun w h => h.1) Tryd.underlying142 rfl size_tsk) hHeld ?_
      try simp only [Act.put, List.getElem_toArray, List.getElem_cons_zero, List.getElem_cons_succ, List.setIfInBounds_toArray, List.set_cons_zero, List.set_cons_succ]
      refine wpAnyH_take (i := 2) (v := ?_) rfl (by kernel_rfl) (by kernel_rfl) (by kernel_rfl) (fun _ _ _ h => h) (Or.inl ⟨by rfl, ?_⟩) hHeld ?_
      rotate_left
      focus
        intro w hSw
        clear hSw
        go_simp
        try with_reducible rfl
      try simp only [Act.put, List.getElem_toArray, List.getElem_cons_zero, List.getElem_cons_succ, List.setIfInBounds_toArray, List.set_cons_zero, List.set_cons_succ]
      refine wpAnyH_take (i := 3) (v := ?_) rfl (by kernel_rfl) (by kernel_rfl) (by kernel_rfl) (fun _ _ _ h => h) (Or.inl ⟨by rfl, ?_⟩) hHeld ?_
      rotate_left
      focus
        intro w hSw
        clear hSw
        go_simp
        try with_reducible rfl
      try simp only [Act.put, List.getElem_toArray, List.getElem_cons_zero, List.getElem_cons_succ, List.setIfInBounds_toArray, List.set_cons_zero, List.set_cons_succ]
      refine wpAnyH_take (i := 4) (v := ?_) rfl (by kernel_rfl) (by kernel_rfl) (by kernel_rfl) (fun _ _ _ h => h) (Or.inl ⟨by rfl, ?_⟩) hHeld ?_
      rotate_left
      focus
        intro w hSw
        clear hSw
        go_simp
        try with_reducible rfl
      try simp only [Act.put, List.getElem_toArray, List.getElem_cons_zero, List.getElem_cons_succ, List.setIfInBounds_toArray, List.set_cons_zero, List.set_cons_succ]
      refine wpAnyH_take (i := 5) (v := ?_) rfl (by kernel_rfl) (by kernel_rfl) (by kernel_rfl) (fun _ _ _ h => h) (Or.inl ⟨by rfl, ?_⟩) hHeld ?_
      rotate_left
      focus
        intro w hSw
        (try dsimp only at hSw)
        go_simp
        try with_reducible rfl
      try simp only [Act.put, List.getElem_toArray, List.getElem_cons_zero, List.getElem_cons_succ, List.setIfInBounds_toArray, List.set_cons_zero, List.set_cons_succ]
      refine wpAnyH_ready (rs := [6]) (by kernel_rfl) (by simp) ?_
      refine AllReadyH.cons rfl (fun K hK => ?_) AllReadyH.nil
      go_simp
      refine (HRI.out _ HV2.out.drew).mono ?_
      rintro e W3 ⟨rfl, hv3, ht3⟩
      have H3 := Lib.hid hv3
      have ht3 : Turns (fun k => k = q) W2 W3 := ht3.undrew
      have HX3 := Lib.hid (HV2.out.keep HX2.out (by decide) ht3)
      have rX3 : W3.rangeAt X 0 [.int .i64 z, .int .i64 y] := rangeAt_b HX3.out
      have k3 : W3.cell? ⟨r, 0, none⟩ = some (.pointer (some ⟨q, 0, none⟩)) := hv3.blk.cell 0 _ rfl
      have HOW3 := Lib.hid (ht3.owns HOW2.out (fun g hg e => by have h1 := (HOW2.out.lt g hg).1; have h2 := HLT.out; omega))
      have HTW3 := Lib.hid (HTW2.out.trans ht3 (fun _ _ h => .inl h))
      have hsz3 : w.heap.size ≤ W3.heap.size := HTW3.out.size
      clear hv3 ht3
      refine hK.out _ _ ⟨rX3, k3⟩ (fun hHeld => ?_)
      clear hK K
      try simp only [Act.put, List.getElem_toArray, List.getElem_cons_zero, List.getElem_cons_succ, List.setIfInBounds_toArray, List.set_cons_zero, List.set_cons_succ]
      refine wpAnyH_take (i := 7) (v := ?_) rfl (by kernel_rfl) (by kernel_rfl) (by kernel_rfl) (fun _ _ _ h => h) (Or.inl ⟨by rfl, ?_⟩) hHeld ?_
      rotate_left
      focus
        intro w hSw
        clear hSw
        go_simp
        try with_reducible rfl
      try simp only [Act.put, List.getElem_toArray, List.getElem_cons_zero, List.getElem_cons_succ, List.setIfInBounds_toArray, List.set_cons_zero, List.set_cons_succ]
      refine wpAnyH_ready (rs := [8]) (by kernel_rfl) (by simp) ?_
      refine AllReadyH.cons rfl (fun K hK => ?_) AllReadyH.nil
      go_simp
      have rX4 : (W3.alloc (.cells #[.int .i64 z, .int .i64 y, .int .i64 u] 144)).rangeAt X 0 [.int .i64 z, .int .i64 y] := World.rangeAt_alloc (w := W3) rX3 (.cells #[.int .i64 z, .int .i64 y, .int .i64 u] 144)
      have k4 : (W3.alloc (.cells #[.int .i64 z, .int .i64 y, .int .i64 u] 144)).cell? ⟨r, 0, none⟩ = some (.pointer (some ⟨q, 0, none⟩)) := Lib.cell?_alloc_some (W := W3) (.cells #[.int .i64 z, .int .i64 y, .int .i64 u] 144) k3
      refine hK.out _ _ ⟨rX4, k4⟩ (fun hHeld => ?_)
      clear hK K
      try simp only [Act.put, List.getElem_toArray, List.getElem_cons_zero, List.getElem_cons_succ, List.setIfInBounds_toArray, List.set_cons_zero, List.set_cons_succ]
      refine wpAnyH_ready (rs := [9]) (by kernel_rfl) (by simp) ?_
      refine AllReadyH.cons rfl (fun K hK => ?_) AllReadyH.nil
      rw [if_pos (by rfl)]
      refine wp_append_own _ _ _ 69 rfl w.heap.size 144 i0 (.agg #[.int .i64 0, .int .i64 0, .int .i64 0]) 3 24 Tryd.underlying69 hi hz0 hz1 hz2 rfl (by decide) (.slice a2 ys.length c2) ys.length (flatOf seatE ys) rfl (HOW3.out.alloc _) ⟨W3.heap.size, 0, none⟩ 1 1 [.int .i64 z, .int .i64 y, .int .i64 u] rfl rfl ?hnews (by simp [Value.oneCell']) (by unfold maxLen; omega) (by omega) (by simp; omega) ?_
      case hnews =>
        intro j u hj
        have hadd : (⟨W3.heap.size, 0, none⟩ : Addr).add j = ⟨W3.heap.size, j, none⟩ := by unfold Addr.add; split <;> simp_all
        rw [hadd]
        exact (World.cell?_alloc_new W3 _ _ j).trans (by simpa using hj)
      intro s2 W5 hown5 hg5 _
      have hg5 : W3.grownBy W5 (Value.slice a2 ys.length c2).ownBlock := grownBy_trans (World.grownBy_alloc W3 (.cells #[.int .i64 z, .int .i64 y, .int .i64 u] 144) _) hg5
      have hown5 : W5.ownsRow w.heap.size 144 3 s2 (ys ++ [(z, y, u)]).length (flatOf seatE (ys ++ [(z, y, u)])) := by
        rw [List.length_append, flatOf_append, flatOf_one]
        exact hown5
      have HV5 := Lib.hid (H3.out.app hg5 HOW3.out HLT.out.1 HLT.out.2 HGF.out (by decide))
      have HTW5 : Hid (Turns (fun k => k = q ∨ k = r) w W5) := HTW3.out.trans (Turns.of_grown hg5) (fun k hk e => by have := (HOW3.out.lt k e).1; omega)
      have hX5 : Blk W5 X #[.int .i64 z, .int .i64 y] 142 := (Turns.of_grown hg5).blk HX3.out (fun e => by
        obtain ⟨cur, hc⟩ := own_ty HOW3.out e
        have h2 := hc.symm.trans HX3.out
        simp at h2)
      have rX5 : W5.rangeAt X 0 [.int .i64 z, .int .i64 y] := rangeAt_b hX5
      have k5 : W5.cell? ⟨r, 0, none⟩ = some (.pointer (some ⟨q, 0, none⟩)) := HV5.out.blk.cell 0 _ rfl
      obtain ⟨a4, c4, rfl⟩ := own_len hown5
      have HOW5 := Lib.hid hown5
      clear hown5 hg5 hX5
      refine hK.out _ _ ⟨rX5, k5⟩ (fun hHeld => ?_)
      clear hK K
      try simp only [Act.put, List.getElem_toArray, List.getElem_cons_zero, List.getElem_cons_succ, List.setIfInBounds_toArray, List.set_cons_zero, List.set_cons_succ]
      refine wpAnyH_take (i := 10) (v := ?_) rfl (by kernel_rfl) (by kernel_rfl) (by kernel_rfl) (fun _ _ _ h => h) (Or.inl ⟨by rfl, ?_⟩) hHeld ?_
      rotate_left
      focus
        intro w hSw
        clear hSw
        go_simp
        try with_reducible rfl
      try simp only [Act.put, List.getElem_toArray, List.getElem_cons_zero, List.getElem_cons_succ, List.setIfInBounds_toArray, List.set_cons_zero, List.set_cons_succ]
      refine wpAnyH_done (by kernel_rfl) ?_ _
      refine NoPanic.normal ?_
      go_wp2_with fail
      go_roundw
      case rel => exact ⟨i + 1, ys ++ [(z, y, u)], p4, _, rfl, by go_num, by omega, by simp; omega, Lib.hid ⟨by rw [← HEQ.out.1, HGO.out]; simp, by rw [← HEQ.out.2, HGO.out]⟩, Lib.hid (by have h := HOW5.out; rw [List.length_append] at h ⊢; exact h), HV5, HTW5⟩
      case measure => simp [intOf]; omega
    | false =>
      rw [hm] at HMO
      have hst := rdLst_stop (rd := rdSt s) hm
      have HEND : Hid (TT = (ys, p2)) := by
        have h1 := HEQ.out
        rw [hst] at h1
        show _ = _
        rw [List.append_nil] at h1
        exact Prod.ext h1.1.symm h1.2.symm
      clear hm hst
      go_wp2_with fail
      refine HMO.out.mono ?_
      rintro e w2 ⟨rfl, rfl⟩
      go_wp2_with fail
      go_ret
      rw [HEND.out]
      exact ⟨_, rfl, HOW.out, HV.out, HTW.out⟩
end Go.Proofs.YtbningfdpibdkaaDoor
