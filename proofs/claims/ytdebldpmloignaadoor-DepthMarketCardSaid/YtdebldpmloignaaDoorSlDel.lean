/-
  slices.Delete at book.Order, of one element.
-/
import Derived.Test.YtdebldpmloignaaDoorSlIns
namespace Go.Proofs.YtdebldpmloignaaDoor
open Go.RowKit
set_option linter.unusedVariables false
set_option linter.unusedSimpArgs false

set_option maxRecDepth 100000 in
set_option maxHeartbeats 4000000 in
theorem delete_c (b n c i : Nat) (xs : List Ord) (cur : Array Value) (w : World) (hi : i < n) (hnc : n ≤ c) (hc63 : c ≤ maxLen) (hl : xs.length = n) (hb : w.heap[b]? = some (.cells cur 67 (0, 0))) (hcs : cur.size = c * 6) (hr : RowsAt w Ord.cells 6 b 0 xs) :
    Calls Tryd.prog 87 #[.slice (some ⟨b, 0, none⟩) n c, .int .i64 i, .int .i64 ((i : Int) + 1)] w fun e w' => e = .returned (.slice (some ⟨b, 0, none⟩) (n - 1) c) ∧ ∃ vs, w' = (w.drew.setCells b (i * 6) (flatOf Ord.cells (xs.drop (i + 1)))).setCells b ((n - 1) * 6) vs := by
  obtain ⟨i0, hi0, hz0, hz1, hz2⟩ := info_parts info_ord
  unfold maxLen at hc63
  have hdl : (flatOf Ord.cells (xs.drop (i + 1))).length = (n - (i + 1)) * 6 := by rw [flatOf_length Ord.k6, List.length_drop, hl]
  have hth : w.there b 0 (c * 6) := there_of_block hb 0 _ (by omega)
  obtain ⟨W1, hW1⟩ : ∃ W1, W1 = w.drew.setCells b (i * 6) (flatOf Ord.cells (xs.drop (i + 1))) := ⟨_, rfl⟩
  have hsrc := cell_of_rows Ord.k6 (by decide) hr (i + 1)
  rw [Nat.zero_add] at hsrc
  have hrz0 : ∀ ty ad sc, (n - (i + 1) = 0 ∨ ad = (⟨b, (i + 1) * 6, none⟩ : Addr)) → (Builtin.append_ #[62, 62] ty #[.slice (some ⟨b, 0, none⟩) i c, .slice (some ad) (n - (i + 1)) sc]).run Tryd.prog w.drew = .ok (.slice (some ⟨b, 0, none⟩) (n - 1) c) W1 := fun ty ad sc had => by
    have hS : Src Tryd.prog 6 62 (.slice (some ad) (n - (i + 1)) sc) (n - (i + 1)) (flatOf Ord.cells (xs.drop (i + 1))) w.drew := Src.ofSlice w.drew Tryd.underlying62 ad _ sc _ hdl (fun j u hj => by
      rcases had with h0 | rfl
      · have := (List.getElem?_eq_some_iff.1 hj).1
        rw [hdl, h0] at this
        simp at this
      · exact hsrc j u hj) (flatOf_mem Ord.one _)
    have h := run_append_room_src (P := Tryd.prog) w.drew 62 62 ty 67 i0 Tryd.underlying62 hi0 b 0 i c (.slice (some ad) (n - (i + 1)) sc) (n - (i + 1)) _ (by rw [hz1]; exact hS) (by omega) (fun j hj => by
      rw [hz1, Nat.zero_add]
      have := (hth (i * 6 + j) (by rw [hdl] at hj; omega)).1
      rw [Nat.zero_add] at this
      exact this) (fun j hj => by
      rw [hz1, Nat.zero_add]
      have := (hth (i * 6 + j) (by rw [hdl] at hj; omega)).2
      rw [Nat.zero_add] at this
      exact this)
    rw [hz1, Nat.zero_add, ← hW1, show i + (n - (i + 1)) = n - 1 by omega] at h
    exact h
  have hv0 := Tryd.zeroValue67
  have hth1 : W1.there b ((n - 1) * 6) (1 * 6) := by rw [hW1]; exact World.there_setCells (there_sub (w := w.drew) hth (Nat.zero_le _) (by omega)) _ _ _
  obtain ⟨vs, hvl, hcl⟩ := run_clear_rows W1 62 67 (.agg #[.int .i64 0, .int .i64 0, .bool false, .int .i64 0, .int .i64 0, .int .i64 0]) 6 Tryd.underlying62 hv0 rfl (by omega) (by decide) b ((n - 1) * 6) 1 (c - (n - 1)) hth1
  have HFIN : Hid (∃ vs, W1.setCells b ((n - 1) * 6) vs = (w.drew.setCells b (i * 6) (flatOf Ord.cells (xs.drop (i + 1)))).setCells b ((n - 1) * 6) vs) := ⟨vs, by rw [hW1]⟩
  have HVS : Hid (∃ vs', W1.setCells b ((n - 1) * 6) vs = (w.drew.setCells b (i * 6) (flatOf Ord.cells (xs.drop (i + 1)))).setCells b ((n - 1) * 6) vs') := ⟨vs, by rw [hW1]⟩
  have hb1 : (i : Int) ≤ (i : Int) + 1 := by omega
  have hb2 : (i : Int) + 1 ≤ (n : Int) := by omega
  have hb3 : (n : Int) ≤ (c : Int) := by omega
  have hb4 : ((i : Int) == (i : Int) + 1) = false := beq_eq_false_iff_ne.2 (by omega)
  have hb5 : (0 : Int) ≤ (i : Int) + 1 := by omega
  have htn : ((i : Int) + 1).toNat = i + 1 := by omega
  have hin : i ≤ n := by omega
  have hin1 : i + 1 ≤ n := by omega
  have hn1 : n - 1 ≤ n := by omega
  have hnn : n - (n - 1) = 1 := by omega
  have hci : ¬ (c = i) := by omega
  have hcn : ¬ (c = n - 1) := by omega
  have hic : i ≤ c := by omega
  have hic1 : i + 1 ≤ c := by omega
  clear hW1 hth hdl hsrc hvl hth1 hr hb hcs hl HFIN
  by_cases hci1 : c = i + 1
  · obtain rfl : n = i + 1 := by omega
    subst hci1
    have hrz : ∀ ty sc, (Builtin.append_ #[62, 62] ty #[.slice (some ⟨b, 0, none⟩) i (i + 1), .slice (some ⟨b, 0, none⟩) 0 sc]).run Tryd.prog w.drew = .ok (.slice (some ⟨b, 0, none⟩) i (i + 1)) W1 := fun ty sc => by
      have h := hrz0 ty ⟨b, 0, none⟩ sc (.inl (by omega))
      simpa using h
    have hcl' : ∀ ty, (Builtin.clear_ #[62] ty #[.slice (some ⟨b, i * 6, none⟩) 1 1]).run Tryd.prog W1 = .ok (.tuple #[]) (W1.setCells b (i * 6) vs) := fun ty => by
      have h := hcl ty
      simpa using h
    have HV2 : Hid (∃ vs', W1.setCells b (i * 6) vs = (w.drew.setCells b (i * 6) (flatOf Ord.cells (xs.drop (i + 1)))).setCells b ((i + 1 - 1) * 6) vs') := HVS.out
    clear hrz0 hcl hci hcn hnn hn1
    go_enter Tryd.func87, Tryd.ntmps87
    go_wp2_with fail
    refine wp_region_noPanic ?_
    refine wp_region_held_drew (S := (fun _ => True)) (by kernel_rfl) trivial (fun hHeld => ?_)
    refine wpAnyH_take (i := 0) (v := ?_) rfl (by kernel_rfl) (by kernel_rfl) (by kernel_rfl) (fun _ _ _ h => h) (Or.inl ⟨by rfl, ?_⟩) hHeld ?_
    rotate_left
    focus
      intro w hSw
      clear hSw
      go_simp
      try with_reducible rfl
    try simp only [Act.put, List.getElem_toArray, List.getElem_cons_zero, List.getElem_cons_succ, List.setIfInBounds_toArray, List.set_cons_zero, List.set_cons_succ]
    refine wpAnyH_take (i := 1) (v := ?_) rfl (by kernel_rfl) (by kernel_rfl) (by kernel_rfl) (fun _ _ _ h => h) (Or.inl ⟨by rfl, ?_⟩) hHeld ?_
    rotate_left
    focus
      intro w hSw
      clear hSw
      go_simp
      try with_reducible rfl
    try simp only [Act.put, List.getElem_toArray, List.getElem_cons_zero, List.getElem_cons_succ, List.setIfInBounds_toArray, List.set_cons_zero, List.set_cons_succ]
    refine wpAnyH_take (i := 2) (v := ?_) rfl (by kernel_rfl) (by kernel_rfl) (by kernel_rfl) (fun _ _ _ h => h) (Or.inl ⟨by rfl, ?_⟩) hHeld ?_
    rotate_left
    focus
      intro w hSw
      clear hSw
      go_simp
      try with_reducible rfl
    try simp only [Act.put, List.getElem_toArray, List.getElem_cons_zero, List.getElem_cons_succ, List.setIfInBounds_toArray, List.set_cons_zero, List.set_cons_succ]
    refine wpAnyH_take (i := 3) (v := ?_) rfl (by kernel_rfl) (by kernel_rfl) (by kernel_rfl) (fun _ _ _ h => h) (Or.inl ⟨by rfl, ?_⟩) hHeld ?_
    rotate_left
    focus
      intro w hSw
      clear hSw
      go_simp
      try with_reducible rfl
    try simp only [Act.put, List.getElem_toArray, List.getElem_cons_zero, List.getElem_cons_succ, List.setIfInBounds_toArray, List.set_cons_zero, List.set_cons_succ]
    refine wpAnyH_take (i := 4) (v := ?_) rfl (by kernel_rfl) (by kernel_rfl) (by kernel_rfl) (fun _ _ _ h => h) (Or.inl ⟨by rfl, ?_⟩) hHeld ?_
    rotate_left
    focus
      intro w hSw
      clear hSw
      go_simp
      try with_reducible rfl
    try simp only [Act.put, List.getElem_toArray, List.getElem_cons_zero, List.getElem_cons_succ, List.setIfInBounds_toArray, List.set_cons_zero, List.set_cons_succ]
    refine wpAnyH_take (i := 5) (v := ?_) rfl (by kernel_rfl) (by kernel_rfl) (by kernel_rfl) (fun _ _ _ h => h) (Or.inl ⟨by rfl, ?_⟩) hHeld ?_
    rotate_left
    focus
      intro w hSw
      clear hSw
      go_simp
      try with_reducible rfl
    try simp only [Act.put, List.getElem_toArray, List.getElem_cons_zero, List.getElem_cons_succ, List.setIfInBounds_toArray, List.set_cons_zero, List.set_cons_succ]
    refine wpAnyH_ready (rs := [6]) (by kernel_rfl) (by simp) ?_
    refine AllReadyH.cons rfl (fun K hK => ?_) AllReadyH.nil
    rw [if_pos (by rfl)]
    refine Lib.wp_append_run _ _ _ _ _ rfl _ _ rfl rfl _ _ (hrz _ _) ?_
    refine hK.out _ _ trivial (fun hHeld => ?_)
    clear hK K
    try simp only [Act.put, List.getElem_toArray, List.getElem_cons_zero, List.getElem_cons_succ, List.setIfInBounds_toArray, List.set_cons_zero, List.set_cons_succ]
    refine wpAnyH_take (i := 7) (v := ?_) rfl (by kernel_rfl) (by kernel_rfl) (by kernel_rfl) (fun _ _ _ h => h) (Or.inl ⟨by rfl, ?_⟩) hHeld ?_
    rotate_left
    focus
      intro w hSw
      clear hSw
      go_simp
      try with_reducible rfl
    try simp only [Act.put, List.getElem_toArray, List.getElem_cons_zero, List.getElem_cons_succ, List.setIfInBounds_toArray, List.set_cons_zero, List.set_cons_succ]
    refine wpAnyH_done (by kernel_rfl) ?_ _
    refine NoPanic.normal ?_
    go_wp2_with fail
    go_ret
    exact ⟨by simp, HV2.out⟩
  · have hrz : ∀ ty sc, (Builtin.append_ #[62, 62] ty #[.slice (some ⟨b, 0, none⟩) i c, .slice (some ⟨b, (i + 1) * 6, none⟩) (n - (i + 1)) sc]).run Tryd.prog w.drew = .ok (.slice (some ⟨b, 0, none⟩) (n - 1) c) W1 := fun ty sc => hrz0 ty _ sc (.inr rfl)
    clear hrz0
    go_enter Tryd.func87, Tryd.ntmps87
    go_wp2_with fail
    refine wp_region_noPanic ?_
    refine wp_region_held_drew (S := (fun _ => True)) (by kernel_rfl) trivial (fun hHeld => ?_)
    refine wpAnyH_take (i := 0) (v := ?_) rfl (by kernel_rfl) (by kernel_rfl) (by kernel_rfl) (fun _ _ _ h => h) (Or.inl ⟨by rfl, ?_⟩) hHeld ?_
    rotate_left
    focus
      intro w hSw
      clear hSw
      go_simp
      try with_reducible rfl
    try simp only [Act.put, List.getElem_toArray, List.getElem_cons_zero, List.getElem_cons_succ, List.setIfInBounds_toArray, List.set_cons_zero, List.set_cons_succ]
    refine wpAnyH_take (i := 1) (v := ?_) rfl (by kernel_rfl) (by kernel_rfl) (by kernel_rfl) (fun _ _ _ h => h) (Or.inl ⟨by rfl, ?_⟩) hHeld ?_
    rotate_left
    focus
      intro w hSw
      clear hSw
      go_simp
      try with_reducible rfl
    try simp only [Act.put, List.getElem_toArray, List.getElem_cons_zero, List.getElem_cons_succ, List.setIfInBounds_toArray, List.set_cons_zero, List.set_cons_succ]
    refine wpAnyH_take (i := 2) (v := ?_) rfl (by kernel_rfl) (by kernel_rfl) (by kernel_rfl) (fun _ _ _ h => h) (Or.inl ⟨by rfl, ?_⟩) hHeld ?_
    rotate_left
    focus
      intro w hSw
      clear hSw
      go_simp
      try with_reducible rfl
    try simp only [Act.put, List.getElem_toArray, List.getElem_cons_zero, List.getElem_cons_succ, List.setIfInBounds_toArray, List.set_cons_zero, List.set_cons_succ]
    refine wpAnyH_take (i := 3) (v := ?_) rfl (by kernel_rfl) (by kernel_rfl) (by kernel_rfl) (fun _ _ _ h => h) (Or.inl ⟨by rfl, ?_⟩) hHeld ?_
    rotate_left
    focus
      intro w hSw
      clear hSw
      go_simp
      try with_reducible rfl
    try simp only [Act.put, List.getElem_toArray, List.getElem_cons_zero, List.getElem_cons_succ, List.setIfInBounds_toArray, List.set_cons_zero, List.set_cons_succ]
    refine wpAnyH_take (i := 4) (v := ?_) rfl (by kernel_rfl) (by kernel_rfl) (by kernel_rfl) (fun _ _ _ h => h) (Or.inl ⟨by rfl, ?_⟩) hHeld ?_
    rotate_left
    focus
      intro w hSw
      clear hSw
      go_simp
      try with_reducible rfl
    try simp only [Act.put, List.getElem_toArray, List.getElem_cons_zero, List.getElem_cons_succ, List.setIfInBounds_toArray, List.set_cons_zero, List.set_cons_succ]
    refine wpAnyH_take (i := 5) (v := ?_) rfl (by kernel_rfl) (by kernel_rfl) (by kernel_rfl) (fun _ _ _ h => h) (Or.inl ⟨by rfl, ?_⟩) hHeld ?_
    rotate_left
    focus
      intro w hSw
      clear hSw
      go_simp
      try with_reducible rfl
    try simp only [Act.put, List.getElem_toArray, List.getElem_cons_zero, List.getElem_cons_succ, List.setIfInBounds_toArray, List.set_cons_zero, List.set_cons_succ]
    refine wpAnyH_ready (rs := [6]) (by kernel_rfl) (by simp) ?_
    refine AllReadyH.cons rfl (fun K hK => ?_) AllReadyH.nil
    rw [if_pos (by rfl)]
    refine Lib.wp_append_run _ _ _ _ _ rfl _ _ rfl rfl _ _ (hrz _ _) ?_
    refine hK.out _ _ trivial (fun hHeld => ?_)
    clear hK K
    try simp only [Act.put, List.getElem_toArray, List.getElem_cons_zero, List.getElem_cons_succ, List.setIfInBounds_toArray, List.set_cons_zero, List.set_cons_succ]
    refine wpAnyH_take (i := 7) (v := ?_) rfl (by kernel_rfl) (by kernel_rfl) (by kernel_rfl) (fun _ _ _ h => h) (Or.inl ⟨by rfl, ?_⟩) hHeld ?_
    rotate_left
    focus
      intro w hSw
      clear hSw
      go_simp
      try with_reducible rfl
    try simp only [Act.put, List.getElem_toArray, List.getElem_cons_zero, List.getElem_cons_succ, List.setIfInBounds_toArray, List.set_cons_zero, List.set_cons_succ]
    refine wpAnyH_done (by kernel_rfl) ?_ _
    refine NoPanic.normal ?_
    go_wp2_with fail
    go_ret
    exact ⟨rfl, HVS.out⟩
/-- What Delete leaves. -/
def DelQ (w : World) (base : Nat) (v : Value) (n : Nat) (l : List Ord) (e : Ending) (w' : World) : Prop := ∃ v', e = .returned v' ∧ w'.ownsRow base 67 6 v' (n - 1) (flatOf Ord.cells l) ∧ w.grownBy w' v.ownBlock ∧ v'.ownBlock = v.ownBlock
theorem delete_ord (base : Nat) (v : Value) (n i : Nat) (xs : List Ord) (w : World) (hl : xs.length = n) (hown : Hid (w.ownsRow base 67 6 v n (flatOf Ord.cells xs))) (hi : i < n) :
    Calls Tryd.prog 87 #[v, .int .i64 i, .int .i64 ((i : Int) + 1)] w (DelQ w base v n (xs.eraseIdx i)) := by
  obtain ⟨g, cap, cur, rfl, hnc, hcm, hbg, hblk, hcs, hrows⟩ := own_rows' Ord.k6 hown.out hl (by omega)
  refine (delete_c g n cap i xs cur w hi hnc hcm hl hblk hcs hrows).mono ?_
  rintro e w' ⟨rfl, vs, rfl⟩
  have hth : w.drew.there g 0 (n * 6) := there_of_block (w := w.drew) hblk 0 _ (by omega)
  have hr2 := rows_delete (w := w.drew) Ord.k6 (by decide) hrows hl hi hth
  have hlen : (xs.eraseIdx i).length = n - 1 := by rw [List.length_eraseIdx_of_lt (by omega)]; omega
  have hr3 := rows_clear Ord.k6 hr2 hlen vs
  obtain ⟨c2, h2, s2⟩ := setCells_blk (w := w.drew) (vs := flatOf Ord.cells (xs.drop (i + 1))) (o := i * 6) hblk
  obtain ⟨c3, h3, s3⟩ := setCells_blk (vs := vs) (o := (n - 1) * 6) h2
  exact ⟨_, rfl, own_of_rows Ord.k6 (by decide) hbg h3 (by omega) (by omega) hcm hlen hr3, grownBy_undrew (grownBy_trans (grownBy_setCells g _ _ _) (grownBy_setCells g _ _ _)), rfl⟩
end Go.Proofs.YtdebldpmloignaaDoor
