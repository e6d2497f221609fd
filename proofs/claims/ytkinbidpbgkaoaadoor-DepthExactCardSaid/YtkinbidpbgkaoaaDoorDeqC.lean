/-
  DepthExact: the reference's Steps and Cost.
-/
import Derived.Test.YtkinbidpbgkaoaaDoorDeqB
namespace Go.Proofs.YtkinbidpbgkaoaaDoor
open Go.RowKit
set_option linter.unusedVariables false

theorem int_eq {a b : Int} (h : a = b) : Value.int .i64 a = .int .i64 b := by rw [h]
theorem info_rstep : (Tryd.prog.info? 93).map (fun i => (i.zero, i.size, i.bytes)) = some (some (.agg #[.int .i64 0, .int .i64 0, .int .i64 0, .int .i64 0]), 4, 32) := by kernel_rfl
theorem size_rstep : (Tryd.prog.info? 93).map (·.size) = some 4 := by kernel_rfl
theorem grownBy_undrewN' {w w' : World} {r : Option Nat} {q : Nat} (h : (w.drewN q).drew.grownBy w' r) : w.drew.grownBy w' r := ⟨h.os, h.tape, h.output, h.size, h.block⟩
set_option maxRecDepth 100000 in
set_option maxHeartbeats 2000000 in
theorem rsteps_c (A : Option Addr) (n c : Nat) (xs : List Ord) (w : World) (hr : Hid (RdRows w w.heap.size Ord.cells 6 A n xs)) (hn : n ≤ maxLen) (hs : side xs = true) :
    Calls Tryd.prog 44 #[.slice A n c] w fun e w' => ∃ v, e = .returned v ∧ w'.ownsRow w.heap.size 93 4 v (stepsO xs).length (flatOf Stp.cells (stepsO xs)) ∧ Below w.heap.size w w' := by
  have hl := hr.out.1
  obtain ⟨hlen, hok⟩ := okO_of_side hs
  have hfin : Hid ((foldTo stepsStep ([], 0) xs n).1 = stepsO xs) := by show _ = _; rw [← hl, foldTo_all]; rfl
  generalize stepsO xs = so at hfin ⊢
  have HOK := Lib.hid hok
  obtain ⟨i0, hi, hz0, hz1, hz2⟩ := info_parts info_rstep
  clear hs hok
  go_enter Tryd.func44, Tryd.ntmps44
  go_wp2_with fail
  go_loopw [3, 4, 5, 6] (fun s3 s4 s5 _ wr => ∃ kk : Nat, kk ≤ n ∧ s5 = .int .i64 kk ∧ s4 = .int .i64 (foldTo stepsStep ([], 0) xs kk).2 ∧ wr.ownsRow w.heap.size 93 4 s3 (foldTo stepsStep ([], 0) xs kk).1.length (flatOf Stp.cells (foldTo stepsStep ([], 0) xs kk).1) ∧ Below w.heap.size w wr) (fun _ _ s5 _ _ => n - (intOf s5).toNat)
  case atStart => exact ⟨0, Nat.zero_le _, rfl, by rw [foldTo_zero], by rw [foldTo_zero]; simpa [flatOf] using World.ownsRow_made w #[] 0 (Nat.le_refl _) (Nat.zero_le _) (by simp), below_grow w _⟩
  case round =>
    obtain ⟨kk, hkk, rfl, rfl, hown, hbl⟩ := hrel
    have hso := stepsOk_to xs HOK.out kk (by omega)
    by_cases hlt : kk < n
    · obtain ⟨b, off, rfl, hb, hrows0⟩ := hr.out.2 (by omega)
      obtain ⟨x, hx⟩ : ∃ x, xs[kk]? = some x := ⟨_, List.getElem?_eq_getElem (by omega)⟩
      have r1 := rangeAt_below (hrows0 kk x hx) hbl hb
      have hst := Lib.hid (foldTo_succ stepsStep ([], 0) xs kk x hx)
      have ho := HOK.out x (List.mem_of_getElem? hx)
      clear hrows0 hx
      generalize foldTo stepsStep ([], 0) xs kk = st at hst hso hown ⊢
      obtain ⟨acc, sm⟩ := st
      obtain ⟨h1, h2, h3, h4⟩ := hso
      simp only at h1 h2 h3 h4 hown ⊢
      have H4 := Lib.hid h4
      obtain ⟨id, tenant, sell, price, lots, seq⟩ := x
      unfold OkO at ho
      simp only at ho
      have c3 : wr.cell? ⟨b, off + kk * 6 + 3, none⟩ = some (.int .i64 price) := r1 3 _ rfl
      have c4 : wr.cell? ⟨b, off + kk * 6 + 4, none⟩ = some (.int .i64 lots) := r1 4 _ rfl
      have e0 : wrap64 (sm + lots) = sm + lots := by unfold wrap64; omega
      have hszr := hbl.size
      clear h4 r1
      rcases List.eq_nil_or_concat acc with hacc | ⟨init, last, hacc⟩
      · subst hacc
        obtain ⟨A0, cap0, rfl, hc0, _⟩ := own_rows Stp.k4 hown rfl
        have hst' : Hid (foldTo stepsStep ([], 0) xs (kk + 1) = ([] ++ [(⟨price, lots, 1, sm + lots⟩ : Stp)], sm + lots)) := by show _ = _; rw [hst.out]; simp [stepsStep]
        have hownD : wr.drew.ownsRow w.heap.size 93 4 (.slice A0 ([] : List Stp).length cap0) ([] : List Stp).length (flatOf Stp.cells []) := hown
        clear hst H4
        have hd0 : decide ((0 : Int) < 0) = false := by simp
        go_wp2_with fail
        go_quiet (fail)
        go_wp2_with fail
        refine wp_region_noPanic ?_
        refine wp_region_held_drew (S := (fun w' => w'.cell? ⟨b, off + kk * 6 + 3, none⟩ = some (.int .i64 price) ∧ w'.cell? ⟨b, off + kk * 6 + 4, none⟩ = some (.int .i64 lots))) (by kernel_rfl) ⟨c3, c4⟩ (fun hHeld => ?_)
        refine wpAnyH_take (i := 0) (v := ?_) rfl (by kernel_rfl) (by kernel_rfl) (by kernel_rfl) (fun _ _ _ h => h) (Or.inl ⟨by rfl, ?_⟩) hHeld ?_
        rotate_left
        focus
          intro w hSw
          clear hSw
          go_simp
          try with_reducible rfl
        try simp only [Act.put, List.getElem_toArray, List.getElem_cons_zero, List.getElem_cons_succ, List.setIfInBounds_toArray, List.set_cons_zero, List.set_cons_succ]
        refine wpAnyH_take (i := 1) (v := ?_) rfl (by kernel_rfl) (by kernel_rfl) (by kernel_rfl) (fun _ _ _ h => h) (Or.inl ⟨by rfl, ?_⟩) hHeld ?_
        rotate_left
        focus
          intro w hSw
          clear hSw
          go_simp
          try with_reducible rfl
        try simp only [Act.put, List.getElem_toArray, List.getElem_cons_zero, List.getElem_cons_succ, List.setIfInBounds_toArray, List.set_cons_zero, List.set_cons_succ]
        refine wpAnyH_take (i := 2) (v := ?_) rfl (by kernel_rfl) (by kernel_rfl) (by kernel_rfl) (fun _ _ _ h => h) (Or.inl ⟨by rfl, ?_⟩) hHeld ?_
        rotate_left
        focus
          intro w hSw
          clear hSw
          go_simp
          try with_reducible rfl
        try simp only [Act.put, List.getElem_toArray, List.getElem_cons_zero, List.getElem_cons_succ, List.setIfInBounds_toArray, List.set_cons_zero, List.set_cons_succ]
        refine wpAnyH_take (i := 3) (v := ?_) rfl (by kernel_rfl) (by kernel_rfl) (by kernel_rfl) (fun _ _ _ h => h) (Or.inl ⟨by rfl, ?_⟩) hHeld ?_
        rotate_left
        focus
          intro w hSw
          clear hSw
          go_simp
          try with_reducible rfl
        try simp only [Act.put, List.getElem_toArray, List.getElem_cons_zero, List.getElem_cons_succ, List.setIfInBounds_toArray, List.set_cons_zero, List.set_cons_succ]
        refine wpAnyH_take (i := 4) (v := ?_) rfl (by kernel_rfl) (by kernel_rfl) (by kernel_rfl) (fun _ _ _ h => h) (Or.inl ⟨by rfl, ?_⟩) hHeld ?_
        rotate_left
        focus
          intro w hSw
          clear hSw
          go_simp
          try with_reducible rfl
        try simp only [Act.put, List.getElem_toArray, List.getElem_cons_zero, List.getElem_cons_succ, List.setIfInBounds_toArray, List.set_cons_zero, List.set_cons_succ]
        refine wpAnyH_take (i := 5) (v := ?_) rfl (by kernel_rfl) (by kernel_rfl) (by kernel_rfl) (fun _ _ _ h => h) (Or.inl ⟨by rfl, ?_⟩) hHeld ?_
        rotate_left
        focus
          intro w hSw
          (try dsimp only at hSw)
          go_simp
          try with_reducible rfl
        try simp only [Act.put, List.getElem_toArray, List.getElem_cons_zero, List.getElem_cons_succ, List.setIfInBounds_toArray, List.set_cons_zero, List.set_cons_succ]
        refine wpAnyH_take (i := 6) (v := ?_) rfl (by kernel_rfl) (by kernel_rfl) (by kernel_rfl) (fun _ _ _ h => h) (Or.inl ⟨by rfl, ?_⟩) hHeld ?_
        rotate_left
        focus
          intro w hSw
          clear hSw
          go_simp
          try with_reducible rfl
        try simp only [Act.put, List.getElem_toArray, List.getElem_cons_zero, List.getElem_cons_succ, List.setIfInBounds_toArray, List.set_cons_zero, List.set_cons_succ]
        refine wpAnyH_take (i := 7) (v := ?_) rfl (by kernel_rfl) (by kernel_rfl) (by kernel_rfl) (fun _ _ _ h => h) (Or.inl ⟨by rfl, ?_⟩) hHeld ?_
        rotate_left
        focus
          intro w hSw
          clear hSw
          go_simp
          try with_reducible rfl
        try simp only [Act.put, List.getElem_toArray, List.getElem_cons_zero, List.getElem_cons_succ, List.setIfInBounds_toArray, List.set_cons_zero, List.set_cons_succ]
        refine wpAnyH_take (i := 8) (v := ?_) rfl (by kernel_rfl) (by kernel_rfl) (by kernel_rfl) (fun _ _ _ h => h) (Or.inl ⟨by rfl, ?_⟩) hHeld ?_
        rotate_left
        focus
          intro w hSw
          clear hSw
          go_simp
          try with_reducible rfl
        try simp only [Act.put, List.getElem_toArray, List.getElem_cons_zero, List.getElem_cons_succ, List.setIfInBounds_toArray, List.set_cons_zero, List.set_cons_succ]
        refine wpAnyH_take (i := 9) (v := ?_) rfl (by kernel_rfl) (by kernel_rfl) (by kernel_rfl) (fun _ _ _ h => h) (Or.inl ⟨by rfl, ?_⟩) hHeld ?_
        rotate_left
        focus
          intro w hSw
          clear hSw
          go_simp
          try with_reducible rfl
        try simp only [Act.put, List.getElem_toArray, List.getElem_cons_zero, List.getElem_cons_succ, List.setIfInBounds_toArray, List.set_cons_zero, List.set_cons_succ]
        refine wpAnyH_take (i := 10) (v := ?_) rfl (by kernel_rfl) (by kernel_rfl) (by kernel_rfl) (fun _ _ _ h => h) (Or.inl ⟨by rfl, ?_⟩) hHeld ?_
        rotate_left
        focus
          intro w hSw
          (try dsimp only at hSw)
          go_simp
          try with_reducible rfl
        try simp only [Act.put, List.getElem_toArray, List.getElem_cons_zero, List.getElem_cons_succ, List.setIfInBounds_toArray, List.set_cons_zero, List.set_cons_succ]
        refine wpAnyH_take (i := 11) (v := ?_) rfl (by kernel_rfl) (by kernel_rfl) (by kernel_rfl) (fun _ _ _ h => h) (Or.inl ⟨by rfl, ?_⟩) hHeld ?_
        rotate_left
        focus
          intro w hSw
          clear hSw
          go_simp
          try with_reducible rfl
        try simp only [Act.put, List.getElem_toArray, List.getElem_cons_zero, List.getElem_cons_succ, List.setIfInBounds_toArray, List.set_cons_zero, List.set_cons_succ]
        refine wpAnyH_take (i := 12) (v := ?_) rfl (by kernel_rfl) (by kernel_rfl) (by kernel_rfl) (fun _ _ _ h => h) (Or.inl ⟨by rfl, ?_⟩) hHeld ?_
        rotate_left
        focus
          intro w hSw
          clear hSw
          go_simp
          try with_reducible rfl
        try simp only [Act.put, List.getElem_toArray, List.getElem_cons_zero, List.getElem_cons_succ, List.setIfInBounds_toArray, List.set_cons_zero, List.set_cons_succ]
        refine wpAnyH_ready (rs := [13]) (by kernel_rfl) (by simp) ?_
        refine AllReadyH.cons rfl (fun K hK => ?_) AllReadyH.nil
        go_simp
        refine hK.out _ _ ⟨Lib.cell?_alloc_some _ c3, Lib.cell?_alloc_some _ c4⟩ (fun hHeld => ?_)
        clear hK K
        try simp only [Act.put, List.getElem_toArray, List.getElem_cons_zero, List.getElem_cons_succ, List.setIfInBounds_toArray, List.set_cons_zero, List.set_cons_succ]
        refine wpAnyH_ready (rs := [14]) (by kernel_rfl) (by simp) ?_
        refine AllReadyH.cons rfl (fun K hK => ?_) AllReadyH.nil
        rw [if_pos (by rfl)]
        refine wp_app1 _ _ 88 rfl w.heap.size 93 i0 (.agg #[.int .i64 0, .int .i64 0, .int .i64 0, .int .i64 0]) 4 32 Tryd.underlying88 hi hz0 hz1 hz2 rfl (by decide) _ (([] : List Stp).length) _ rfl (hownD) [.int .i64 price, .int .i64 lots, .int .i64 1, .int .i64 (sm + lots)] _ rfl rfl rfl (by simp [Value.oneCell']) (by first | (unfold maxLen; omega) | (simp [maxLen])) (by first | omega | (simp; done) | (simp; omega)) hszr ?_
        intro v' w4 hown' hg4
        have hg4 := grownBy_undrew (grownBy_undrewN' hg4)
        have hneb : some b ≠ (Value.slice A0 ([] : List Stp).length cap0).ownBlock := fun h => by have := (hown.lt _ h.symm).1; omega
        have hbl4 := below_app hbl hszr (Nat.le_refl _) hown hg4
        refine hK.out _ _ ⟨hg4.cell c3 hneb, hg4.cell c4 hneb⟩ (fun hHeld => ?_)
        clear hK K
        try simp only [Act.put, List.getElem_toArray, List.getElem_cons_zero, List.getElem_cons_succ, List.setIfInBounds_toArray, List.set_cons_zero, List.set_cons_succ]
        refine wpAnyH_take (i := 15) (v := ?_) rfl (by kernel_rfl) (by kernel_rfl) (by kernel_rfl) (fun _ _ _ h => h) (Or.inl ⟨by rfl, ?_⟩) hHeld ?_
        rotate_left
        focus
          intro w hSw
          clear hSw
          go_simp
          try with_reducible rfl
        try simp only [Act.put, List.getElem_toArray, List.getElem_cons_zero, List.getElem_cons_succ, List.setIfInBounds_toArray, List.set_cons_zero, List.set_cons_succ]
        refine wpAnyH_done (by kernel_rfl) ?_ _
        refine NoPanic.normal ?_
        go_wp2_with fail
        go_roundw
        case rel => exact ⟨kk + 1, by omega, by go_num, by rw [hst'.out], by rw [hst'.out, flatOf_append, flatOf_one]; exact hown', hbl4⟩
        case measure => simp [intOf]; omega
      · rw [List.concat_eq_append] at hacc
        subst hacc
        obtain ⟨g, cap, cur, rfl, hnc, hcm, hbg, hblk0, hcs, hrows⟩ := own_rows' Stp.k4 hown rfl (by simp)
        obtain ⟨m, him⟩ : ∃ m, init.length = m := ⟨_, rfl⟩
        have hlm : (init ++ [last]).length = m + 1 := by simp [him]
        have hll := H4.out last (by simp)
        have hrl : wr.rangeAt g (m * 4) last.cells := by
          have := hrows m last (by rw [List.getElem?_append_right (by omega), him]; simp)
          rwa [Nat.zero_add] at this
        have hri : RowsAt wr Stp.cells 4 g 0 init := fun t y hy => hrows t y (by rw [List.getElem?_append_left (List.getElem?_eq_some_iff.1 hy).1]; exact hy)
        rw [hlm] at hown hnc h1 ⊢
        obtain ⟨a, lb, lc, ld⟩ := last
        simp only at hll
        by_cases he : a = price
        · subst he
          have hst' : Hid (foldTo stepsStep ([], 0) xs (kk + 1) = (init ++ [(⟨a, lb + lots, lc + 1, sm + lots⟩ : Stp)], sm + lots)) := by show _ = _; rw [hst.out]; simp [stepsStep]
          clear hst H4
          have hpl : wr.cell? ⟨g, m * 4, none⟩ = some (.int .i64 a) := hrl 0 _ rfl
          have hd0 : decide ((0 : Int) < (m : Int) + 1) = true := by first | (simp; done) | (simp; omega)
          have heq : (a == a) = true := by simp
          have hbg1 : b ≠ g := by omega
          go_wp2_with fail
          go_quiet (fail)
          obtain ⟨Wt, hWt⟩ : ∃ Wt, Wt = wr.drewN nq := ⟨_, rfl⟩
          rw [← hWt]
          have hbw : Below w.heap.size w Wt := by rw [hWt]; exact below_drewN hbl _
          have hrl : Wt.rangeAt g (m * 4) [.int .i64 a, .int .i64 lb, .int .i64 lc, .int .i64 ld] := by rw [hWt]; exact hrl
          have hri : RowsAt Wt Stp.cells 4 g 0 init := by rw [hWt]; exact hri
          have hblk : HBlk Wt g 93 (cap * 4) := by rw [hWt]; exact ⟨cur, hblk0, hcs⟩
          have c4 : Wt.cell? ⟨b, off + kk * 6 + 4, none⟩ = some (.int .i64 lots) := by rw [hWt]; exact c4
          have e1 : wrap64 (lb + lots) = lb + lots := by unfold wrap64; omega
          have e2 : wrap64 (lc + 1) = lc + 1 := by unfold wrap64; omega
          clear hpl c3 hWt hown hblk0 hrows
          go_wp2_with fail
          have q1 : Wt.cell? ⟨g, m * 4 + 1, none⟩ = some (.int .i64 lb) := hrl 1 _ rfl
          have f1 : Wt.frozen? ⟨g, m * 4 + 1, none⟩ = false := (hblk.there m (by omega) 1 (by omega)).2
          go_region
          obtain ⟨W1, hW1⟩ : ∃ Z : World, Z = (Wt.setCell ⟨g, m * 4 + 1, none⟩ (.int .i64 (lb + lots))).drew := ⟨_, rfl⟩
          rw [← hW1]
          have hrl : W1.rangeAt g (m * 4) [.int .i64 a, .int .i64 (lb + lots), .int .i64 lc, .int .i64 ld] := by rw [hW1]; exact rangeAt_set hrl 1 _ (by simp)
          have hri : RowsAt W1 Stp.cells 4 g 0 init := by rw [hW1]; exact rows_setCell Stp.k4 hri him 1 _
          have hblk : HBlk W1 g 93 (cap * 4) := by rw [hW1]; exact hblk.set [.int .i64 (lb + lots)] (m * 4 + 1)
          have hbw : Below w.heap.size w W1 := by rw [hW1]; exact below_drew (below_setCell hbw hbg _ _)
          clear q1 f1 hW1
          clear c4
          have q2 : W1.cell? ⟨g, m * 4 + 2, none⟩ = some (.int .i64 lc) := hrl 2 _ rfl
          have f2 : W1.frozen? ⟨g, m * 4 + 2, none⟩ = false := (hblk.there m (by omega) 2 (by omega)).2
          go_upto_region 11 with fail
          obtain ⟨W2, hW1⟩ : ∃ Z : World, Z = (W1.setCell ⟨g, m * 4 + 2, none⟩ (.int .i64 (lc + 1))) := ⟨_, rfl⟩
          rw [← hW1]
          have hrl : W2.rangeAt g (m * 4) [.int .i64 a, .int .i64 (lb + lots), .int .i64 (lc + 1), .int .i64 ld] := by rw [hW1]; exact rangeAt_set hrl 2 _ (by simp)
          have hri : RowsAt W2 Stp.cells 4 g 0 init := by rw [hW1]; exact rows_setCell Stp.k4 hri him 2 _
          have hblk : HBlk W2 g 93 (cap * 4) := by rw [hW1]; exact hblk.set [.int .i64 (lc + 1)] (m * 4 + 2)
          have hbw : Below w.heap.size w W2 := by rw [hW1]; exact (below_setCell hbw hbg _ _)
          clear q2 f2 hW1
          have q3 : W2.cell? ⟨g, m * 4 + 3, none⟩ = some (.int .i64 ld) := hrl 3 _ rfl
          have f3 : W2.frozen? ⟨g, m * 4 + 3, none⟩ = false := (hblk.there m (by omega) 3 (by omega)).2
          go_wp2_with fail
          obtain ⟨W3, hW1⟩ : ∃ Z : World, Z = (W2.setCell ⟨g, m * 4 + 3, none⟩ (.int .i64 (sm + lots))) := ⟨_, rfl⟩
          rw [← hW1]
          have hrl : W3.rangeAt g (m * 4) [.int .i64 a, .int .i64 (lb + lots), .int .i64 (lc + 1), .int .i64 (sm + lots)] := by rw [hW1]; exact rangeAt_set hrl 3 _ (by simp)
          have hri : RowsAt W3 Stp.cells 4 g 0 init := by rw [hW1]; exact rows_setCell Stp.k4 hri him 3 _
          have hblk : HBlk W3 g 93 (cap * 4) := by rw [hW1]; exact hblk.set [.int .i64 (sm + lots)] (m * 4 + 3)
          have hbw : Below w.heap.size w W3 := by rw [hW1]; exact (below_setCell hbw hbg _ _)
          clear q3 f3 hW1
          go_roundw
          case rel =>
            obtain ⟨cur', hc1, hc2⟩ := hblk.out
            refine ⟨kk + 1, by omega, by go_num, by rw [hst'.out], ?_, hbw⟩
            rw [hst'.out]
            have hlen2 : (init ++ [(⟨a, lb + lots, lc + 1, sm + lots⟩ : Stp)]).length = m + 1 := by rw [List.length_append, him]; rfl
            simp only
            rw [hlen2]
            refine own_of_rows Stp.k4 (by omega) hbg hc1 hc2 hnc hcm hlen2 ?_
            intro t y hy
            rw [Nat.zero_add]
            by_cases ht : t < m
            · rw [List.getElem?_append_left (by rw [him]; omega)] at hy
              have := hri t y hy
              rwa [Nat.zero_add] at this
            · have hte : t = m := by have := (List.getElem?_eq_some_iff.1 hy).1; omega
              rw [hte] at hy ⊢
              rw [List.getElem?_append_right (by rw [him]; omega), him] at hy
              simp at hy
              subst hy
              exact hrl
          case measure => simp [intOf]; omega
        · have hst' : Hid (foldTo stepsStep ([], 0) xs (kk + 1) = ((init ++ [⟨a, lb, lc, ld⟩]) ++ [(⟨price, lots, 1, sm + lots⟩ : Stp)], sm + lots)) := by show _ = _; rw [hst.out]; simp [stepsStep, he]
          have hownD : wr.drew.ownsRow w.heap.size 93 4 (.slice (some ⟨g, 0, none⟩) (m + 1) cap) (m + 1) (flatOf Stp.cells (init ++ [⟨a, lb, lc, ld⟩])) := hown
          clear hst H4
          have hpl : wr.cell? ⟨g, m * 4, none⟩ = some (.int .i64 a) := hrl 0 _ rfl
          have hd0 : decide ((0 : Int) < (m : Int) + 1) = true := by first | (simp; done) | (simp; omega)
          have heq : (a == price) = false := by simpa using he
          go_wp2_with fail
          go_quiet (fail)
          clear hpl
          go_wp2_with fail
          refine wp_region_noPanic ?_
          refine wp_region_held_drew (S := (fun w' => w'.cell? ⟨b, off + kk * 6 + 3, none⟩ = some (.int .i64 price) ∧ w'.cell? ⟨b, off + kk * 6 + 4, none⟩ = some (.int .i64 lots))) (by kernel_rfl) ⟨c3, c4⟩ (fun hHeld => ?_)
          refine wpAnyH_take (i := 0) (v := ?_) rfl (by kernel_rfl) (by kernel_rfl) (by kernel_rfl) (fun _ _ _ h => h) (Or.inl ⟨by rfl, ?_⟩) hHeld ?_
          rotate_left
          focus
            intro w hSw
            clear hSw
            go_simp
            try with_reducible rfl
          try simp only [Act.put, List.getElem_toArray, List.getElem_cons_zero, List.getElem_cons_succ, List.setIfInBounds_toArray, List.set_cons_zero, List.set_cons_succ]
          refine wpAnyH_take (i := 1) (v := ?_) rfl (by kernel_rfl) (by kernel_rfl) (by kernel_rfl) (fun _ _ _ h => h) (Or.inl ⟨by rfl, ?_⟩) hHeld ?_
          rotate_left
          focus
            intro w hSw
            clear hSw
            go_simp
            try with_reducible rfl
          try simp only [Act.put, List.getElem_toArray, List.getElem_cons_zero, List.getElem_cons_succ, List.setIfInBounds_toArray, List.set_cons_zero, List.set_cons_succ]
          refine wpAnyH_take (i := 2) (v := ?_) rfl (by kernel_rfl) (by kernel_rfl) (by kernel_rfl) (fun _ _ _ h => h) (Or.inl ⟨by rfl, ?_⟩) hHeld ?_
          rotate_left
          focus
            intro w hSw
            clear hSw
            go_simp
            try with_reducible rfl
          try simp only [Act.put, List.getElem_toArray, List.getElem_cons_zero, List.getElem_cons_succ, List.setIfInBounds_toArray, List.set_cons_zero, List.set_cons_succ]
          refine wpAnyH_take (i := 3) (v := ?_) rfl (by kernel_rfl) (by kernel_rfl) (by kernel_rfl) (fun _ _ _ h => h) (Or.inl ⟨by rfl, ?_⟩) hHeld ?_
          rotate_left
          focus
            intro w hSw
            clear hSw
            go_simp
            try with_reducible rfl
          try simp only [Act.put, List.getElem_toArray, List.getElem_cons_zero, List.getElem_cons_succ, List.setIfInBounds_toArray, List.set_cons_zero, List.set_cons_succ]
          refine wpAnyH_take (i := 4) (v := ?_) rfl (by kernel_rfl) (by kernel_rfl) (by kernel_rfl) (fun _ _ _ h => h) (Or.inl ⟨by rfl, ?_⟩) hHeld ?_
          rotate_left
          focus
            intro w hSw
            clear hSw
            go_simp
            try with_reducible rfl
          try simp only [Act.put, List.getElem_toArray, List.getElem_cons_zero, List.getElem_cons_succ, List.setIfInBounds_toArray, List.set_cons_zero, List.set_cons_succ]
          refine wpAnyH_take (i := 5) (v := ?_) rfl (by kernel_rfl) (by kernel_rfl) (by kernel_rfl) (fun _ _ _ h => h) (Or.inl ⟨by rfl, ?_⟩) hHeld ?_
          rotate_left
          focus
            intro w hSw
            (try dsimp only at hSw)
            go_simp
            try with_reducible rfl
          try simp only [Act.put, List.getElem_toArray, List.getElem_cons_zero, List.getElem_cons_succ, List.setIfInBounds_toArray, List.set_cons_zero, List.set_cons_succ]
          refine wpAnyH_take (i := 6) (v := ?_) rfl (by kernel_rfl) (by kernel_rfl) (by kernel_rfl) (fun _ _ _ h => h) (Or.inl ⟨by rfl, ?_⟩) hHeld ?_
          rotate_left
          focus
            intro w hSw
            clear hSw
            go_simp
            try with_reducible rfl
          try simp only [Act.put, List.getElem_toArray, List.getElem_cons_zero, List.getElem_cons_succ, List.setIfInBounds_toArray, List.set_cons_zero, List.set_cons_succ]
          refine wpAnyH_take (i := 7) (v := ?_) rfl (by kernel_rfl) (by kernel_rfl) (by kernel_rfl) (fun _ _ _ h => h) (Or.inl ⟨by rfl, ?_⟩) hHeld ?_
          rotate_left
          focus
            intro w hSw
            clear hSw
            go_simp
            try with_reducible rfl
          try simp only [Act.put, List.getElem_toArray, List.getElem_cons_zero, List.getElem_cons_succ, List.setIfInBounds_toArray, List.set_cons_zero, List.set_cons_succ]
          refine wpAnyH_take (i := 8) (v := ?_) rfl (by kernel_rfl) (by kernel_rfl) (by kernel_rfl) (fun _ _ _ h => h) (Or.inl ⟨by rfl, ?_⟩) hHeld ?_
          rotate_left
          focus
            intro w hSw
            clear hSw
            go_simp
            try with_reducible rfl
          try simp only [Act.put, List.getElem_toArray, List.getElem_cons_zero, List.getElem_cons_succ, List.setIfInBounds_toArray, List.set_cons_zero, List.set_cons_succ]
          refine wpAnyH_take (i := 9) (v := ?_) rfl (by kernel_rfl) (by kernel_rfl) (by kernel_rfl) (fun _ _ _ h => h) (Or.inl ⟨by rfl, ?_⟩) hHeld ?_
          rotate_left
          focus
            intro w hSw
            clear hSw
            go_simp
            try with_reducible rfl
          try simp only [Act.put, List.getElem_toArray, List.getElem_cons_zero, List.getElem_cons_succ, List.setIfInBounds_toArray, List.set_cons_zero, List.set_cons_succ]
          refine wpAnyH_take (i := 10) (v := ?_) rfl (by kernel_rfl) (by kernel_rfl) (by kernel_rfl) (fun _ _ _ h => h) (Or.inl ⟨by rfl, ?_⟩) hHeld ?_
          rotate_left
          focus
            intro w hSw
            (try dsimp only at hSw)
            go_simp
            try with_reducible rfl
          try simp only [Act.put, List.getElem_toArray, List.getElem_cons_zero, List.getElem_cons_succ, List.setIfInBounds_toArray, List.set_cons_zero, List.set_cons_succ]
          refine wpAnyH_take (i := 11) (v := ?_) rfl (by kernel_rfl) (by kernel_rfl) (by kernel_rfl) (fun _ _ _ h => h) (Or.inl ⟨by rfl, ?_⟩) hHeld ?_
          rotate_left
          focus
            intro w hSw
            clear hSw
            go_simp
            try with_reducible rfl
          try simp only [Act.put, List.getElem_toArray, List.getElem_cons_zero, List.getElem_cons_succ, List.setIfInBounds_toArray, List.set_cons_zero, List.set_cons_succ]
          refine wpAnyH_take (i := 12) (v := ?_) rfl (by kernel_rfl) (by kernel_rfl) (by kernel_rfl) (fun _ _ _ h => h) (Or.inl ⟨by rfl, ?_⟩) hHeld ?_
          rotate_left
          focus
            intro w hSw
            clear hSw
            go_simp
            try with_reducible rfl
          try simp only [Act.put, List.getElem_toArray, List.getElem_cons_zero, List.getElem_cons_succ, List.setIfInBounds_toArray, List.set_cons_zero, List.set_cons_succ]
          refine wpAnyH_ready (rs := [13]) (by kernel_rfl) (by simp) ?_
          refine AllReadyH.cons rfl (fun K hK => ?_) AllReadyH.nil
          go_simp
          refine hK.out _ _ ⟨Lib.cell?_alloc_some _ c3, Lib.cell?_alloc_some _ c4⟩ (fun hHeld => ?_)
          clear hK K
          try simp only [Act.put, List.getElem_toArray, List.getElem_cons_zero, List.getElem_cons_succ, List.setIfInBounds_toArray, List.set_cons_zero, List.set_cons_succ]
          refine wpAnyH_ready (rs := [14]) (by kernel_rfl) (by simp) ?_
          refine AllReadyH.cons rfl (fun K hK => ?_) AllReadyH.nil
          rw [if_pos (by rfl)]
          refine wp_app1 _ _ 88 rfl w.heap.size 93 i0 (.agg #[.int .i64 0, .int .i64 0, .int .i64 0, .int .i64 0]) 4 32 Tryd.underlying88 hi hz0 hz1 hz2 rfl (by decide) _ (m + 1) _ rfl (hownD) [.int .i64 price, .int .i64 lots, .int .i64 1, .int .i64 (sm + lots)] _ rfl rfl rfl (by simp [Value.oneCell']) (by first | (unfold maxLen; omega) | (simp [maxLen])) (by first | omega | (simp; done) | (simp; omega)) hszr ?_
          intro v' w4 hown' hg4
          have hg4 := grownBy_undrew (grownBy_undrewN' hg4)
          have hneb : some b ≠ (Value.slice (some ⟨g, 0, none⟩) (m + 1) cap).ownBlock := fun h => by have := (hown.lt _ h.symm).1; omega
          have hbl4 := below_app hbl hszr (Nat.le_refl _) hown hg4
          refine hK.out _ _ ⟨hg4.cell c3 hneb, hg4.cell c4 hneb⟩ (fun hHeld => ?_)
          clear hK K
          try simp only [Act.put, List.getElem_toArray, List.getElem_cons_zero, List.getElem_cons_succ, List.setIfInBounds_toArray, List.set_cons_zero, List.set_cons_succ]
          refine wpAnyH_take (i := 15) (v := ?_) rfl (by kernel_rfl) (by kernel_rfl) (by kernel_rfl) (fun _ _ _ h => h) (Or.inl ⟨by rfl, ?_⟩) hHeld ?_
          rotate_left
          focus
            intro w hSw
            clear hSw
            go_simp
            try with_reducible rfl
          try simp only [Act.put, List.getElem_toArray, List.getElem_cons_zero, List.getElem_cons_succ, List.setIfInBounds_toArray, List.set_cons_zero, List.set_cons_succ]
          refine wpAnyH_done (by kernel_rfl) ?_ _
          refine NoPanic.normal ?_
          go_wp2_with fail
          go_roundw
          case rel => exact ⟨kk + 1, by omega, by go_num, by rw [hst'.out], by rw [hst'.out, List.length_append, hlm, flatOf_append, flatOf_one]; exact hown', hbl4⟩
          case measure => simp [intOf]; omega
    · obtain rfl : kk = n := by omega
      have hfin2 := hfin.out
      generalize foldTo stepsStep ([], 0) xs kk = st at hfin2 hown ⊢
      obtain ⟨acc, sm⟩ := st
      simp only at hfin2 hown ⊢
      subst hfin2
      go_wp2_with fail
      go_ret
      exact ⟨_, rfl, hown, hbl⟩
set_option maxRecDepth 100000 in
set_option maxHeartbeats 2000000 in
theorem rcost_c (A : Option Addr) (n c : Nat) (xs : List Ord) (lots : Int) (w : World) (hl0 : -9223372036854775808 ≤ lots) (hl1 : lots ≤ 9223372036854775807) (hr : Hid (RdRows w w.heap.size Ord.cells 6 A n xs)) (hn : n ≤ maxLen) (hs : side xs = true) :
    Calls Tryd.prog 45 #[.slice A n c, .int .i64 lots] w fun e w' => e = .returned (.tuple #[.int .i64 (costF' xs lots).1, .int .i64 (costF' xs lots).2]) ∧ Below w.heap.size w w' := by
  have hl := hr.out.1
  obtain ⟨hlen, hok⟩ := okO_of_side hs
  have hL : Hid (topL lots = if lots < 0 then 0 else lots) := rfl
  have hL0 : 0 ≤ topL lots ∧ topL lots ≤ 9223372036854775807 := by unfold topL; split <;> omega
  have hfin : Hid (foldTo (costStep (topL lots)) (0, 0) xs n = costF' xs lots) := by show _ = _; unfold costF'; rw [hs, ← hl]; exact foldTo_all _ _ _
  generalize costF' xs lots = cc at hfin ⊢
  generalize topL lots = L at hL hL0 hfin
  have HOK := Lib.hid hok
  clear hs hok
  go_enter Tryd.func45, Tryd.ntmps45
  go_wp2_with fail
  go_loopw [6, 7, 8, 9] (fun s6 s7 s8 _ wr => ∃ kk : Nat, kk ≤ n ∧ s8 = .int .i64 kk ∧ s6 = .int .i64 (foldTo (costStep L) (0, 0) xs kk).1 ∧ s7 = .int .i64 (foldTo (costStep L) (0, 0) xs kk).2 ∧ Below w.heap.size w wr) (fun _ _ s8 _ _ => n - (intOf s8).toNat)
  case atStart => exact ⟨0, Nat.zero_le _, rfl, by rw [foldTo_zero], by rw [foldTo_zero], Below.refl _ _⟩
  case round =>
    obtain ⟨kk, hkk, rfl, rfl, rfl, hbl⟩ := hrel
    obtain ⟨q1, q2, q3, q4, q5⟩ := cost_range L hL0.1 xs HOK.out kk (by omega)
    by_cases hlt : kk < n
    · obtain ⟨b, off, rfl, hb, hrows⟩ := hr.out.2 (by omega)
      obtain ⟨x, hx⟩ : ∃ x, xs[kk]? = some x := ⟨_, List.getElem?_eq_getElem (by omega)⟩
      have r1 := rangeAt_below (hrows kk x hx) hbl hb
      have hst := Lib.hid (foldTo_succ (costStep L) (0, 0) xs kk x hx)
      have ho := HOK.out x (List.mem_of_getElem? hx)
      clear hrows hx
      generalize foldTo (costStep L) (0, 0) xs kk = t at hst q1 q2 q3 q4 q5 ⊢
      obtain ⟨t1, t2⟩ := t
      simp only at q1 q2 q3 q4 q5 ⊢
      obtain ⟨p1, p2, p3, p4, p5⟩ := take_range ho q5
      have hm : Hid (takeO L t2 x = if L - t2 < x.lots then L - t2 else x.lots) := rfl
      have hst' : Hid (foldTo (costStep L) (0, 0) xs (kk + 1) = (t1 + takeO L t2 x * x.price, t2 + takeO L t2 x)) := hst.out
      have c3 : wr.cell? ⟨b, off + kk * 6 + 3, none⟩ = some (.int .i64 x.price) := r1 3 _ rfl
      have c4 : wr.cell? ⟨b, off + kk * 6 + 4, none⟩ = some (.int .i64 x.lots) := r1 4 _ rfl
      obtain ⟨id, tenant, sell, price, lotsx, seq⟩ := x
      unfold OkO at ho
      simp only at hm hst' p1 p2 p3 p4 p5 c3 c4 ho
      generalize takeO L t2 ⟨id, tenant, sell, price, lotsx, seq⟩ = m at hm hst' p1 p2 p3 p4 p5
      clear hst r1
      obtain ⟨mn, rfl⟩ : ∃ mn : Nat, m = (mn : Int) := ⟨m.toNat, by omega⟩
      have HQ : Hid (0 ≤ t1 ∧ t1 ≤ kk * 1000000000 ∧ 0 ≤ t2 ∧ t2 ≤ kk * 1000 ∧ kk ≤ 1000 ∧ mn ≤ 1000 ∧ 1 ≤ price ∧ price ≤ 1000000) := ⟨q1, q2, q3, q4, by omega, by omega, ho.1, ho.2.1⟩
      have HM : Hid ((mn : Int) ≤ lotsx ∧ (mn : Int) ≤ L - t2 ∧ ((mn : Int) = lotsx ∨ (mn : Int) = L - t2)) := by
        have := hm.out
        show _ ∧ _
        split at this <;> omega
      clear q1 q2 q3 q4 q5 p1 p2 p3 p4 p5 hm
      have ho3 := ho.2.2
      clear ho
      go_upto_region 7 with fail
      go_loopw [6, 7, 9] (fun s6 s7 s9 w2 => ∃ k : Nat, k ≤ mn ∧ s9 = .int .i64 k ∧ s6 = .int .i64 (t1 + k * price) ∧ s7 = .int .i64 (t2 + k) ∧ w2 = wr) (fun _ _ s9 _ => mn - (intOf s9).toNat)
      case atStart => exact ⟨0, Nat.zero_le _, rfl, by simp, by simp, rfl⟩
      case round =>
        obtain ⟨k, hk, rfl, rfl, rfl, rfl⟩ := hrel
        have hqq := HQ.out
        have hmm := HM.out
        have hLL := hL.out
        by_cases hkm : k < mn
        · have d1 : decide ((k : Int) < lotsx) = true := by simp; omega
          have d2 : decide (t2 + (k : Int) < lots) = true := by
            simp
            split at hLL <;> omega
          have hkp0 : 0 ≤ (k : Int) * price := Int.mul_nonneg (by omega) (by omega)
          have hkp1 : (k : Int) * price ≤ (k : Int) * 1000000 := Int.mul_le_mul_of_nonneg_left (by omega) (by omega)
          have hsx : Hid (((k + 1 : Nat) : Int) * price = (k : Int) * price + price) := by show _ = _; push_cast; rw [Int.add_mul, Int.one_mul]
          generalize (k : Int) * price = kp at hkp0 hkp1 hsx ⊢
          have e1 : wrap64 (t1 + kp + price) = t1 + kp + price := by unfold wrap64; omega
          have e2 : wrap64 (t2 + (k : Int) + 1) = t2 + (k : Int) + 1 := by unfold wrap64; omega
          have hmn : mn ≤ 1000 := hqq.2.2.2.2.2.1
          clear hqq hmm hLL hkp0 hkp1
          go_wp2_with fail
          go_roundw
          case rel => exact ⟨k + 1, by omega, by go_num, int_eq (by rw [hsx.out]; omega), int_eq (by push_cast; omega), trivial⟩
          case measure => simp [intOf]; omega
        · obtain rfl : k = mn := by omega
          by_cases hx : (k : Int) < lotsx
          · have d1 : decide ((k : Int) < lotsx) = true := by simpa using hx
            have d2 : decide (t2 + (k : Int) < lots) = false := by
              simp
              split at hLL <;> omega
            clear hqq hmm hLL hx
            go_wp2_with fail
            go_roundw
            case rel => exact ⟨kk + 1, by omega, by go_num, by rw [hst'.out], by rw [hst'.out], hbl⟩
            case measure => simp [intOf]; omega
          · have d1 : decide ((k : Int) < lotsx) = false := by simpa using hx
            clear hqq hmm hLL hx
            go_wp2_with fail
            go_roundw
            case rel => exact ⟨kk + 1, by omega, by go_num, by rw [hst'.out], by rw [hst'.out], hbl⟩
            case measure => simp [intOf]; omega
    · obtain rfl : kk = n := by omega
      rw [hfin.out]
      clear q1 q2 q3 q4 q5
      go_wp2_with fail
      go_ret2
      exact ⟨rfl, hbl⟩
end Go.Proofs.YtkinbidpbgkaoaaDoor
