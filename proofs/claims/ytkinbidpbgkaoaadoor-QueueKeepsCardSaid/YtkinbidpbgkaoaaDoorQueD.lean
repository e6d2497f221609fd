/-
  queue: Push.
-/
import Derived.Test.YtkinbidpbgkaoaaDoorQueC
import Derived.Test.YtkinbidpbgkaoaaDoorIs
import Derived.Deep.RegionHeld
namespace Go.Proofs.YtkinbidpbgkaoaaDoor
open Go.RowKit
set_option linter.unusedVariables false

/-- What a step of the queue may turn: its own block and its rows'. -/
structure QStep (w w' : World) (q : Nat) (v v' : Nat → Value) : Prop where
  os : w'.os = w.os
  tape : w'.tape = w.tape
  output : w'.output = w.output
  size : w.heap.size ≤ w'.heap.size
  block : ∀ k, k < w.heap.size → k ≠ q → (∀ i, i < 3 → (v i).ownBlock ≠ some k) → w'.heap[k]? = w.heap[k]?
  own : ∀ i, i < 3 → (v' i).ownBlock = (v i).ownBlock ∨ ∃ k, w.heap.size ≤ k ∧ (v' i).ownBlock = some k
theorem QStep.below {w w' : World} {B q : Nat} {l : Nat → List Tsk} {v v' : Nat → Value} (h : QStep w w' q v v') (hq : QV w B q l v) : Below B w w' :=
  ⟨h.os, h.tape, h.output, h.size, fun k hk => h.block k (by have := hq.lt; have := hq.low; omega) (by have := hq.low; omega) (fun i hi e => by have := ((hq.row i hi).lt k e).1; omega)⟩
theorem QStep.ofBelow {w w' : World} {q : Nat} {v : Nat → Value} (h : Below w.heap.size w w') : QStep w w' q v v :=
  ⟨h.os, h.tape, h.output, h.size, fun k hk _ _ => h.block k hk, fun i _ => .inl rfl⟩
def upd (l : Nat → List Tsk) (b : Nat) (x : List Tsk) : Nat → List Tsk := fun i => if i = b then x else l i
def updV (v : Nat → Value) (b : Nat) (x : Value) : Nat → Value := fun i => if i = b then x else v i
theorem grownBy_unalloc {w w' : World} {r : Option Nat} {o : Obj} (h : (w.drew.alloc o).grownBy w' r) : w.grownBy w' r := grownBy_undrew (grownBy_trans (World.grownBy_alloc w.drew o r) h)
theorem updV_cells (v : Nat → Value) (b : Nat) (hb : b < 3) (x : Value) : (#[v 0, v 1, v 2] : Array Value).setIfInBounds b x = #[updV v b x 0, updV v b x 1, updV v b x 2] := by
  match b, hb with
  | 0, _ => simp [updV]
  | 1, _ => simp [updV]
  | 2, _ => simp [updV]
/-- The queue behind an append to one of its rows. -/
theorem QV.push {w w2 : World} {B q b g cap : Nat} {l : Nat → List Tsk} {v : Nat → Value} {t : Tsk} (h : QV w B q l v) (hb : b < 3) (hg : w.grownBy w2 (v b).ownBlock)
    (hown : w2.ownsRow B 45 2 (.slice (some ⟨g, 0, none⟩) ((l b).length + 1) cap) ((l b).length + 1) (flatOf Tsk.cells (l b ++ [t]))) (hat : (v b).ownBlock = some g ∨ w.heap.size ≤ g) :
    QV (w2.setCell ⟨q, b, none⟩ (.slice (some ⟨g, 0, none⟩) ((l b).length + 1) cap)) B q (upd l b (l b ++ [t])) (updV v b (.slice (some ⟨g, 0, none⟩) ((l b).length + 1) cap)) ∧
    QStep w (w2.setCell ⟨q, b, none⟩ (.slice (some ⟨g, 0, none⟩) ((l b).length + 1) cap)) q v (updV v b (.slice (some ⟨g, 0, none⟩) ((l b).length + 1) cap)) := by
  have hlt := h.lt
  have hgq : g ≠ q := by
    rcases hat with h1 | h1
    · exact fun e => h.notq b hb (by rw [h1, e])
    · omega
  have hqb : w2.heap[q]? = some (.cells #[v 0, v 1, v 2] 103 (0, 0)) := by rw [hg.block q hlt (fun e => h.notq b hb e.symm)]; exact h.cells
  refine ⟨⟨h.low, ?_, ?_, ?_, ?_⟩, ⟨hg.os, hg.tape, hg.output, ?_, ?_, ?_⟩⟩
  · rw [← updV_cells v b hb]
    simp only [World.setCell, Array.getElem?_modify, hqb]
    simp
  · intro i hi
    have hset : w2.grownBy (w2.setCell ⟨q, b, none⟩ (.slice (some ⟨g, 0, none⟩) ((l b).length + 1) cap)) (some q) := grownBy_setCell w2 q b _
    by_cases e : i = b
    · subst e
      simp only [upd, updV, if_true]
      rw [List.length_append, List.length_singleton]
      exact hown.kept hset (.inr (by simp [Value.ownBlock]; exact hgq))
    · simp only [upd, updV, if_neg e]
      exact ((h.row i hi).kept hg (h.apart i b hi hb e)).kept hset (.inr (h.notq i hi))
  · intro i hi
    by_cases e : i = b
    · simp only [updV, if_pos e]
      simp [Value.ownBlock]
      exact hgq
    · simp only [updV, if_neg e]
      exact h.notq i hi
  · intro i j hi hj hij
    have fresh : ∀ k, k < 3 → k ≠ b → (v k).ownBlock ≠ some g := fun k hk hkb e => by
      rcases hat with h1 | h1
      · rcases h.apart k b hk hb hkb with h2 | h2
        · rw [h2] at e; cases e
        · exact h2 (e.trans h1.symm)
      · have := ((h.row k hk).lt g e).2; omega
    by_cases e : i = b
    · have ej : j ≠ b := fun e' => hij (e.trans e'.symm)
      simp only [updV, if_pos e, if_neg ej]
      exact .inr (fun e' => fresh j hj ej (by simpa [Value.ownBlock] using e'.symm))
    · by_cases ej : j = b
      · simp only [updV, if_neg e, if_pos ej]
        exact .inr (fun e' => fresh i hi e (by simpa [Value.ownBlock] using e'))
      · simp only [updV, if_neg e, if_neg ej]
        exact h.apart i j hi hj hij
  · have := hg.size
    simpa [World.setCell] using this
  · intro k hk hkq hkv
    have h1 : (w2.setCell ⟨q, b, none⟩ (.slice (some ⟨g, 0, none⟩) ((l b).length + 1) cap)).heap[k]? = w2.heap[k]? := (grownBy_setCell w2 q b _).block k (by have := hg.size; omega) (by simp; exact hkq)
    rw [h1]
    exact hg.block k hk (fun e => hkv b hb e.symm)
  · intro i hi
    by_cases e : i = b
    · subst e
      simp only [updV, if_true]
      rcases hat with h1 | h1
      · exact .inl (by rw [h1]; rfl)
      · exact .inr ⟨g, h1, by simp [Value.ownBlock]⟩
    · left
      show (updV v b _ i).ownBlock = _
      unfold updV
      rw [if_neg e]
set_option maxRecDepth 100000 in
set_option maxHeartbeats 1000000 in
theorem push_ok (B q : Nat) (l : Nat → List Tsk) (v : Nat → Value) (t : Tsk) (b : Nat) (hb : b < 3) (w : World) (hB : B ≤ w.heap.size) (h : Hid (QV w B q l v)) (hN : (catT l 3).length ≤ 100000) (hnew : (catT l 3).any (Tsk.beq t) = false) :
    Calls Tryd.prog 17 #[.pointer (some ⟨q, 0, none⟩), .agg t.cells.toArray, .int .i64 b] w fun e w' => e = .returned .nilIface ∧ ∃ v', QV w' B q (upd l b (l b ++ [t])) v' ∧ QStep w w' q v v' := by
  obtain ⟨i0, hi, hz0, hz1, hz2⟩ := info_parts info_task
  have hlb : (l b).length ≤ 100000 := by
    have h0 : (l b).length ≤ (catT l (b + 1)).length := by rw [catT_len]; omega
    have := catT_mono l (show b + 1 ≤ 3 by omega)
    omega
  obtain ⟨W, hW⟩ : ∃ W : World, W = w.alloc (.cells t.cells.toArray 45) := ⟨_, rfl⟩
  have hbW : Below w.heap.size w W := by rw [hW]; exact (Below.refl _ w).alloc (Nat.le_refl _) _
  have hltW : w.heap.size < W.heap.size := by rw [hW]; simp
  have HIS := Lib.hid (qis_c B q l t W (show Hid _ from ⟨v, h.out.below hbW⟩) (by omega))
  rw [hnew] at HIS
  have HW := Lib.hid hW
  have hblk : Hid (W.heap[w.heap.size]? = some (.cells t.cells.toArray 45 (0, 0))) := by rw [hW]; exact alloc_new' rfl
  have HPUSH : Hid (∀ w1 w2 g cap, Below w.heap.size w w1 → w1.grownBy w2 (v b).ownBlock → w2.ownsRow B 45 2 (.slice (some ⟨g, 0, none⟩) ((l b).length + 1) cap) ((l b).length + 1) (flatOf Tsk.cells (l b) ++ t.cells) → ((v b).ownBlock = some g ∨ g = w1.heap.size + 1) → ∃ v', QV (w2.setCell ⟨q, b, none⟩ (.slice (some ⟨g, 0, none⟩) ((l b).length + 1) cap)) B q (upd l b (l b ++ [t])) v' ∧ QStep w (w2.setCell ⟨q, b, none⟩ (.slice (some ⟨g, 0, none⟩) ((l b).length + 1) cap)) q v v') := fun w1 w2 g cap hb1 hg ho hat => by
    have hgw : w.grownBy w2 (v b).ownBlock := grownBy_trans (grown_of_below hb1 _) hg
    have hs := hb1.size
    obtain ⟨h1, h2⟩ := h.out.push (t := t) hb hgw (by rw [flatOf_append, flatOf_one]; exact ho) (hat.imp_right (fun e => by omega))
    exact ⟨_, h1, h2⟩
  clear hW hnew
  obtain ⟨j0, a0⟩ := t
  simp only [Tsk.cells] at *
  have d1 : decide ((b : Int) < 0) = false := by simp
  have d2 : decide ((3 : Int) ≤ b) = false := by simp; omega
  go_enter Tryd.func17, Tryd.ntmps17
  go_wp2_with fail
  rw [← HW.out]
  refine HIS.out.mono ?_
  rintro e w1 ⟨rfl, hb1⟩
  have hbw1 := hbW.trans (hb1.mono hbW.size)
  have hv1 := h.out.below hbw1
  have hblk1 := (hb1.block w.heap.size hltW).trans hblk.out
  have g0 := cell_of_row w1 w.heap.size 0 _ _ _ hblk1
  have g1 := cell_of_row w1 w.heap.size 1 _ _ _ hblk1
  simp only [List.getElem?_toArray, List.getElem?_cons_zero, List.getElem?_cons_succ] at g0 g1
  have cq := hv1.cell b hb
  have fq := hv1.free b
  have hrow : w1.drew.ownsRow B 45 2 (v b) (l b).length (flatOf Tsk.cells (l b)) := hv1.row b hb
  have hnb : some w.heap.size ≠ (v b).ownBlock := fun e => by have := ((h.out.row b hb).lt _ e.symm).2; omega
  have hnq : some q ≠ (v b).ownBlock := fun e => h.out.notq b hb e.symm
  have hq1 := hv1.lt
  have hqb : q ≠ w.heap.size := by have := h.out.lt; omega
  have hsw1 : w.heap.size < w1.heap.size := Nat.lt_of_lt_of_le hltW hb1.size
  have hq3 : (b : Int) < 3 := by omega
  have hqne : q ≠ w1.heap.size := by omega
  have HB1 := Lib.hid hbw1
  clear hblk1 hv1 hb1 hbw1
  go_wp2_with fail
  refine wp_region_noPanic ?_
  refine wp_region_held_drew (S := (fun w' => w'.cell? ⟨w.heap.size, 0, none⟩ = some (.int .i64 j0) ∧ w'.cell? ⟨w.heap.size, 1, none⟩ = some (.int .i64 a0))) (by kernel_rfl) ⟨g0, g1⟩ (fun hHeld => ?_)
  refine wpAnyH_take (i := 0) (v := ?_) rfl (by kernel_rfl) (by kernel_rfl) (by kernel_rfl) (fun _ _ _ h => h) (Or.inl ⟨by rfl, ?_⟩) hHeld ?_
  rotate_left
  focus
    intro w hSw
    clear hSw
    go_simp
    try with_reducible rfl
  try simp only [Act.put, List.getElem_toArray, List.getElem_cons_zero, List.getElem_cons_succ, List.setIfInBounds_toArray, List.set_cons_zero, List.set_cons_succ]
  refine wpAnyH_take (i := 1) (v := ?_) rfl (by kernel_rfl) (by kernel_rfl) (by kernel_rfl) (fun _ _ _ h => h) (Or.inl ⟨by rfl, ?_⟩) hHeld ?_
  rotate_left
  focus
    intro w hSw
    clear hSw
    go_simp
    try with_reducible rfl
  try simp only [Act.put, List.getElem_toArray, List.getElem_cons_zero, List.getElem_cons_succ, List.setIfInBounds_toArray, List.set_cons_zero, List.set_cons_succ]
  refine wpAnyH_take (i := 2) (v := ?_) rfl (by kernel_rfl) (by kernel_rfl) (by kernel_rfl) (fun _ _ _ h => h) (Or.inl ⟨by rfl, ?_⟩) hHeld ?_
  rotate_left
  focus
    intro w hSw
    clear hSw
    go_simp
    try with_reducible rfl
  try simp only [Act.put, List.getElem_toArray, List.getElem_cons_zero, List.getElem_cons_succ, List.setIfInBounds_toArray, List.set_cons_zero, List.set_cons_succ]
  refine wpAnyH_take (i := 3) (v := ?_) rfl (by kernel_rfl) (by kernel_rfl) (by kernel_rfl) (fun _ _ _ h => h) (Or.inl ⟨by rfl, ?_⟩) hHeld ?_
  rotate_left
  focus
    intro w hSw
    clear hSw
    go_simp
    try with_reducible rfl
  try simp only [Act.put, List.getElem_toArray, List.getElem_cons_zero, List.getElem_cons_succ, List.setIfInBounds_toArray, List.set_cons_zero, List.set_cons_succ]
  refine wpAnyH_take (i := 4) (v := ?_) rfl (by kernel_rfl) (by kernel_rfl) (by kernel_rfl) (fun _ _ _ h => h) (Or.inl ⟨by rfl, ?_⟩) hHeld ?_
  rotate_left
  focus
    intro w hSw
    clear hSw
    go_simp
    try with_reducible rfl
  try simp only [Act.put, List.getElem_toArray, List.getElem_cons_zero, List.getElem_cons_succ, List.setIfInBounds_toArray, List.set_cons_zero, List.set_cons_succ]
  refine wpAnyH_take (i := 5) (v := ?_) rfl (by kernel_rfl) (by kernel_rfl) (by kernel_rfl) (fun _ _ _ h => h) (Or.inl ⟨by rfl, ?_⟩) hHeld ?_
  rotate_left
  focus
    intro w hSw
    clear hSw
    go_simp
    try with_reducible rfl
  try simp only [Act.put, List.getElem_toArray, List.getElem_cons_zero, List.getElem_cons_succ, List.setIfInBounds_toArray, List.set_cons_zero, List.set_cons_succ]
  refine wpAnyH_take (i := 6) (v := ?_) rfl (by kernel_rfl) (by kernel_rfl) (by kernel_rfl) (fun _ _ _ h => h) (Or.inl ⟨by rfl, ?_⟩) hHeld ?_
  rotate_left
  focus
    intro w hSw
    clear hSw
    go_simp
    try with_reducible rfl
  try simp only [Act.put, List.getElem_toArray, List.getElem_cons_zero, List.getElem_cons_succ, List.setIfInBounds_toArray, List.set_cons_zero, List.set_cons_succ]
  refine wpAnyH_take (i := 8) (v := ?_) rfl (by kernel_rfl) (by kernel_rfl) (by kernel_rfl) (fun _ _ _ h => h) (Or.inl ⟨by rfl, ?_⟩) hHeld ?_
  rotate_left
  focus
    intro w hSw
    (try dsimp only at hSw)
    go_simp
    try with_reducible rfl
  try simp only [Act.put, List.getElem_toArray, List.getElem_cons_zero, List.getElem_cons_succ, List.setIfInBounds_toArray, List.set_cons_zero, List.set_cons_succ]
  refine wpAnyH_take (i := 11) (v := ?_) rfl (by kernel_rfl) (by kernel_rfl) (by kernel_rfl) (fun _ _ _ h => h) (Or.inl ⟨by rfl, ?_⟩) hHeld ?_
  rotate_left
  focus
    intro w hSw
    clear hSw
    go_simp
    try with_reducible rfl
  try simp only [Act.put, List.getElem_toArray, List.getElem_cons_zero, List.getElem_cons_succ, List.setIfInBounds_toArray, List.set_cons_zero, List.set_cons_succ]
  refine wpAnyH_take (i := 12) (v := ?_) rfl (by kernel_rfl) (by kernel_rfl) (by kernel_rfl) (fun _ _ _ h => h) (Or.inl ⟨by rfl, ?_⟩) hHeld ?_
  rotate_left
  focus
    intro w hSw
    clear hSw
    go_simp
    try with_reducible rfl
  try simp only [Act.put, List.getElem_toArray, List.getElem_cons_zero, List.getElem_cons_succ, List.setIfInBounds_toArray, List.set_cons_zero, List.set_cons_succ]
  refine wpAnyH_ready (rs := [7, 9]) (by kernel_rfl) (by simp) ?_
  refine AllReadyH.cons rfl (fun K hK => ?_) (AllReadyH.cons rfl (fun K hK => ?_) AllReadyH.nil)
  · go_simp
    refine hK.out _ _ ⟨g0, g1⟩ (fun hHeld => ?_)
    clear hK K
    try simp only [Act.put, List.getElem_toArray, List.getElem_cons_zero, List.getElem_cons_succ, List.setIfInBounds_toArray, List.set_cons_zero, List.set_cons_succ]
    refine wpAnyH_ready (rs := [9]) (by kernel_rfl) (by simp) ?_
    refine AllReadyH.cons rfl (fun K hK => ?_) AllReadyH.nil
    go_simp
    refine hK.out _ _ ⟨Lib.cell?_alloc_some _ g0, Lib.cell?_alloc_some _ g1⟩ (fun hHeld => ?_)
    clear hK K
    try simp only [Act.put, List.getElem_toArray, List.getElem_cons_zero, List.getElem_cons_succ, List.setIfInBounds_toArray, List.set_cons_zero, List.set_cons_succ]
    refine wpAnyH_ready (rs := [10]) (by kernel_rfl) (by simp) ?_
    refine AllReadyH.cons rfl (fun K hK => ?_) AllReadyH.nil
    rw [if_pos (by rfl)]
    refine wp_append_lies _ _ _ 47 rfl B 45 i0 (.agg #[.int .i64 0, .int .i64 0]) 2 16 Tryd.underlying47 hi hz0 hz1 hz2 rfl (by decide) (v b) (l b).length (flatOf Tsk.cells (l b)) rfl (hrow.alloc _) ⟨w1.heap.size, 0, none⟩ 1 1 [.int .i64 j0, .int .i64 a0] rfl rfl ?hnews (by simp [Value.oneCell']) (by omega) (by unfold maxLen; omega) (by omega) (by simp; omega) (w1.heap.size + 1) (by simp) ?_
    case hnews =>
      intro j u hj
      have hadd : (⟨w1.heap.size, 0, none⟩ : Addr).add j = ⟨w1.heap.size, j, none⟩ := by unfold Addr.add; split <;> simp_all
      rw [hadd]
      exact (World.cell?_alloc_new w1.drew _ _ j).trans (by simpa using hj)
    intro g cap w2 hown2 hg2 hat hlt2
    have hg2' := grownBy_unalloc hg2
    have g0 := hg2'.cell g0 hnb
    have g1 := hg2'.cell g1 hnb
    have cq2 := hg2'.cell cq hnq
    have fq2 : w2.frozen? ⟨q, b, none⟩ = false := (hg2'.frozen_far ⟨q, b, none⟩ hq1 hnq).trans fq
    refine hK.out _ _ ⟨g0, g1⟩ (fun hHeld => ?_)
    clear hK K
    try simp only [Act.put, List.getElem_toArray, List.getElem_cons_zero, List.getElem_cons_succ, List.setIfInBounds_toArray, List.set_cons_zero, List.set_cons_succ]
    refine wpAnyH_take (i := 13) (v := ?_) rfl (by kernel_rfl) (by kernel_rfl) (by kernel_rfl) (fun _ _ _ h => h) (Or.inl ⟨by rfl, ?_⟩) hHeld ?_
    rotate_left
    focus
      intro w hSw
      clear hSw
      go_simp
      try with_reducible rfl
    try simp only [Act.put, List.getElem_toArray, List.getElem_cons_zero, List.getElem_cons_succ, List.setIfInBounds_toArray, List.set_cons_zero, List.set_cons_succ]
    refine wpAnyH_ready (rs := [14]) (by kernel_rfl) (by simp) ?_
    refine AllReadyH.cons rfl (fun K hK => ?_) AllReadyH.nil
    go_simp
    refine hK.out _ _ ⟨(World.cell?_setCell_far _ _ _ _ hqb).trans g0, (World.cell?_setCell_far _ _ _ _ hqb).trans g1⟩ (fun hHeld => ?_)
    clear hK K
    try simp only [Act.put, List.getElem_toArray, List.getElem_cons_zero, List.getElem_cons_succ, List.setIfInBounds_toArray, List.set_cons_zero, List.set_cons_succ]
    refine wpAnyH_done (by kernel_rfl) ?_ _
    refine NoPanic.normal ?_
    go_wp2_with fail
    go_ret
    exact ⟨rfl, HPUSH.out w1 w2 g cap HB1.out hg2' hown2 (by simpa using hat)⟩
  · go_simp
    refine hK.out _ _ ⟨Lib.cell?_alloc_some _ g0, Lib.cell?_alloc_some _ g1⟩ (fun hHeld => ?_)
    clear hK K
    try simp only [Act.put, List.getElem_toArray, List.getElem_cons_zero, List.getElem_cons_succ, List.setIfInBounds_toArray, List.set_cons_zero, List.set_cons_succ]
    refine wpAnyH_ready (rs := [7]) (by kernel_rfl) (by simp) ?_
    refine AllReadyH.cons rfl (fun K hK => ?_) AllReadyH.nil
    go_simp
    refine hK.out _ _ ⟨Lib.cell?_alloc_some _ g0, Lib.cell?_alloc_some _ g1⟩ (fun hHeld => ?_)
    clear hK K
    try simp only [Act.put, List.getElem_toArray, List.getElem_cons_zero, List.getElem_cons_succ, List.setIfInBounds_toArray, List.set_cons_zero, List.set_cons_succ]
    refine wpAnyH_ready (rs := [10]) (by kernel_rfl) (by simp) ?_
    refine AllReadyH.cons rfl (fun K hK => ?_) AllReadyH.nil
    rw [if_pos (by rfl)]
    refine wp_append_lies _ _ _ 47 rfl B 45 i0 (.agg #[.int .i64 0, .int .i64 0]) 2 16 Tryd.underlying47 hi hz0 hz1 hz2 rfl (by decide) (v b) (l b).length (flatOf Tsk.cells (l b)) rfl (hrow.alloc _) ⟨w1.heap.size, 0, none⟩ 1 1 [.int .i64 j0, .int .i64 a0] rfl rfl ?hnews (by simp [Value.oneCell']) (by omega) (by unfold maxLen; omega) (by omega) (by simp; omega) (w1.heap.size + 1) (by simp) ?_
    case hnews =>
      intro j u hj
      have hadd : (⟨w1.heap.size, 0, none⟩ : Addr).add j = ⟨w1.heap.size, j, none⟩ := by unfold Addr.add; split <;> simp_all
      rw [hadd]
      exact (World.cell?_alloc_new w1.drew _ _ j).trans (by simpa using hj)
    intro g cap w2 hown2 hg2 hat hlt2
    have hg2' := grownBy_unalloc hg2
    have g0 := hg2'.cell g0 hnb
    have g1 := hg2'.cell g1 hnb
    have cq2 := hg2'.cell cq hnq
    have fq2 : w2.frozen? ⟨q, b, none⟩ = false := (hg2'.frozen_far ⟨q, b, none⟩ hq1 hnq).trans fq
    refine hK.out _ _ ⟨g0, g1⟩ (fun hHeld => ?_)
    clear hK K
    try simp only [Act.put, List.getElem_toArray, List.getElem_cons_zero, List.getElem_cons_succ, List.setIfInBounds_toArray, List.set_cons_zero, List.set_cons_succ]
    refine wpAnyH_take (i := 13) (v := ?_) rfl (by kernel_rfl) (by kernel_rfl) (by kernel_rfl) (fun _ _ _ h => h) (Or.inl ⟨by rfl, ?_⟩) hHeld ?_
    rotate_left
    focus
      intro w hSw
      clear hSw
      go_simp
      try with_reducible rfl
    try simp only [Act.put, List.getElem_toArray, List.getElem_cons_zero, List.getElem_cons_succ, List.setIfInBounds_toArray, List.set_cons_zero, List.set_cons_succ]
    refine wpAnyH_ready (rs := [14]) (by kernel_rfl) (by simp) ?_
    refine AllReadyH.cons rfl (fun K hK => ?_) AllReadyH.nil
    go_simp
    refine hK.out _ _ ⟨(World.cell?_setCell_far _ _ _ _ hqb).trans g0, (World.cell?_setCell_far _ _ _ _ hqb).trans g1⟩ (fun hHeld => ?_)
    clear hK K
    try simp only [Act.put, List.getElem_toArray, List.getElem_cons_zero, List.getElem_cons_succ, List.setIfInBounds_toArray, List.set_cons_zero, List.set_cons_succ]
    refine wpAnyH_done (by kernel_rfl) ?_ _
    refine NoPanic.normal ?_
    go_wp2_with fail
    go_ret
    exact ⟨rfl, HPUSH.out w1 w2 g cap HB1.out hg2' hown2 (by simpa using hat)⟩
end Go.Proofs.YtkinbidpbgkaoaaDoor
