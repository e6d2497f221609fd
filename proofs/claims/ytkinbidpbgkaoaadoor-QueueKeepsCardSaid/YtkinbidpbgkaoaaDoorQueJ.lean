/-
  queue: the document's queue: Is, Push.
-/
import Derived.Test.YtkinbidpbgkaoaaDoorQueI
namespace Go.Proofs.YtkinbidpbgkaoaaDoor
open Go.RowKit
set_option linter.unusedVariables false

structure Ent where
  (job at_ band : Int)
def Ent.tsk (e : Ent) : Tsk := ⟨e.job, e.at_⟩
def Ent.cells (e : Ent) : List Value := [.int .i64 e.job, .int .i64 e.at_, .int .i64 e.band]
theorem Ent.k3 (e : Ent) : e.cells.length = 3 := rfl
theorem Ent.one (e : Ent) : ∀ u ∈ e.cells, u.oneCell' = true := by intro u hu; simp [Ent.cells] at hu; rcases hu with rfl | rfl | rfl <;> rfl
theorem info_ent : (Tryd.prog.info? 107).map (fun i => (i.zero, i.size, i.bytes)) = some (some (.agg #[.int .i64 0, .int .i64 0, .int .i64 0]), 3, 24) := by kernel_rfl
theorem size_ent : (Tryd.prog.info? 107).map (·.size) = some 3 := by kernel_rfl
/-- The document's queue in block r. -/
structure RV (w : World) (B r : Nat) (L : List Ent) (v : Value) : Prop where
  low : B ≤ r
  cells : w.heap[r]? = some (.cells #[v] 55 (0, 0))
  row : w.ownsRow B 107 3 v L.length (flatOf Ent.cells L)
def RAt (w : World) (B r : Nat) (L : List Ent) : Prop := ∃ v, RV w B r L v
theorem RV.lt {w : World} {B r : Nat} {L : List Ent} {v : Value} (h : RV w B r L v) : r < w.heap.size := (Array.getElem?_eq_some_iff.1 h.cells).1
theorem own_type {w : World} {base : Nat} {e : TypeId} {size n : Nat} {v : Value} {xs : List Value} {g : Nat} (h : w.ownsRow base e size v n xs) (hg : v.ownBlock = some g) : ∃ cur : Array Value, w.heap[g]? = some (.cells cur e (0, 0)) := by
  rcases h.2 with ⟨rfl, _⟩ | ⟨g', cap, cur, rfl, _, hc, _⟩
  · cases hg
  · have : g' = g := by simpa [Value.ownBlock] using hg
    subst this
    exact ⟨cur, hc⟩
theorem RV.notr {w : World} {B r : Nat} {L : List Ent} {v : Value} (h : RV w B r L v) : v.ownBlock ≠ some r := fun e => by
  obtain ⟨cur, hc⟩ := own_type h.row e
  rw [h.cells] at hc
  simp at hc
theorem RV.grown {w w' : World} {B r : Nat} {L : List Ent} {v : Value} (h : RV w B r L v) (hg : w.grownBy w' none) : RV w' B r L v :=
  ⟨h.low, by rw [hg.block r h.lt (by simp)]; exact h.cells, h.row.kept hg (none_or_ne _)⟩
theorem RV.below {w w' : World} {B r : Nat} {L : List Ent} {v : Value} (h : RV w B r L v) (hb : Below w.heap.size w w') : RV w' B r L v := h.grown (grown_of_below hb none)
/-- A step of the document's queue: no block of another type turns. -/
structure RStep (w w' : World) (B : Nat) : Prop where
  below : Below B w w'
  size : w.heap.size ≤ w'.heap.size
  block : ∀ (k : Nat) (c : Array Value) (t : TypeId) (fr : Nat × Nat), w.heap[k]? = some (.cells c t fr) → t ≠ 107 → t ≠ 55 → w'.heap[k]? = w.heap[k]?
theorem RStep.ofBelow {w w' : World} {B : Nat} (hB : B ≤ w.heap.size) (h : Below w.heap.size w w') : RStep w w' B :=
  ⟨h.mono hB, h.size, fun k _ _ _ hk _ _ => h.block k (Array.getElem?_eq_some_iff.1 hk).1⟩
theorem RStep.trans {a b c : World} {B : Nat} (h : RStep a b B) (k : RStep b c B) : RStep a c B :=
  ⟨h.below.trans k.below, Nat.le_trans h.size k.size, fun n cs t fr hn h1 h2 => (k.block n cs t fr (by rw [h.block n cs t fr hn h1 h2]; exact hn) h1 h2).trans (h.block n cs t fr hn h1 h2)⟩
/-- The document's queue behind a new row. -/
theorem RV.put {w w2 : World} {B r : Nat} {L L2 : List Ent} {v nv : Value} (h : RV w B r L v) (hg : w.grownBy w2 v.ownBlock) (hown : w2.ownsRow B 107 3 nv L2.length (flatOf Ent.cells L2)) :
    RV (w2.setCell ⟨r, 0, none⟩ nv) B r L2 nv ∧ RStep w (w2.setCell ⟨r, 0, none⟩ nv) B := by
  have hlt := h.lt
  have hrb : w2.heap[r]? = some (.cells #[v] 55 (0, 0)) := by rw [hg.block r hlt (fun e => h.notr e.symm)]; exact h.cells
  have hset : w2.grownBy (w2.setCell ⟨r, 0, none⟩ nv) (some r) := grownBy_setCell w2 r 0 _
  have hnr : nv.ownBlock ≠ some r := fun e => by
    obtain ⟨cur, hc⟩ := own_type hown e
    rw [hrb] at hc
    simp at hc
  have hgr : w.grownBy w2 v.ownBlock := hg
  refine ⟨⟨h.low, ?_, hown.kept hset (.inr hnr)⟩, ⟨?_, ?_, ?_⟩⟩
  · simp only [World.setCell, Array.getElem?_modify, hrb]
    simp
  · refine ⟨hg.os, hg.tape, hg.output, ?_, fun k hk => ?_⟩
    · have := hg.size; simpa [World.setCell] using this
    · have hk2 : k < w.heap.size := by have := h.low; omega
      rw [hset.block k (by have := hg.size; omega) (by have := h.low; simp; omega)]
      exact hg.block k hk2 (fun e => by have := (h.row.lt k e.symm).1; omega)
  · have := hg.size; simpa [World.setCell] using this
  · intro k c t fr hk h1 h2
    have hkl := (Array.getElem?_eq_some_iff.1 hk).1
    have hkr : k ≠ r := fun e => by subst e; rw [h.cells] at hk; simp at hk; exact h2 hk.2.1.symm
    have hkv : some k ≠ v.ownBlock := fun e => by
      obtain ⟨cur, hc⟩ := own_type h.row e.symm
      rw [hc] at hk; simp at hk; exact h1 hk.2.1.symm
    rw [hset.block k (by have := hg.size; omega) (by simpa using hkr)]
    exact hg.block k hkl hkv
set_option maxRecDepth 100000 in
set_option maxHeartbeats 1000000 in
theorem ris_c (B r : Nat) (L : List Ent) (t : Tsk) (w : World) (h : Hid (RAt w B r L)) (hN : L.length ≤ 100000) :
    Calls Tryd.prog 20 #[.pointer (some ⟨r, 0, none⟩), .agg t.cells.toArray] w fun e w' => e = .returned (.bool (L.any fun x => Tsk.beq x.tsk t)) ∧ Below w.heap.size w w' := by
  obtain ⟨v, hv⟩ := h.out
  obtain ⟨A, c, rfl, hLc, hrd⟩ := own_rows Ent.k3 hv.row rfl
  have hr := hv.lt
  have cq : w.cell? ⟨r, 0, none⟩ = some (.slice A L.length c) := cell_of_row w r 0 _ _ _ hv.cells
  have HR := Lib.hid hrd
  have HANY : Hid (∀ b, (L.any fun x => Tsk.beq x.tsk t) = b → (L.any fun x => Tsk.beq x.tsk t) = b) := fun b hb => hb
  obtain ⟨j0, a0⟩ := t
  simp only [Tsk.cells]
  clear hv hrd
  go_enter Tryd.func20, Tryd.ntmps20
  go_wp2_with fail
  go_loopw [5] (fun s5 wx => ∃ (kk : Nat) (wr : World), wr = wx ∧ kk ≤ L.length ∧ s5 = .int .i64 kk ∧ Below (w.alloc (.cells #[.int .i64 j0, .int .i64 a0] 45)).heap.size (w.alloc (.cells #[.int .i64 j0, .int .i64 a0] 45)) wr ∧ Hid (∀ (j : Nat) (y : Ent), j < kk → L[j]? = some y → Tsk.beq y.tsk ⟨j0, a0⟩ = false)) (fun s5 _ => L.length - (intOf s5).toNat)
  case atStart => exact ⟨0, _, rfl, Nat.zero_le _, rfl, Below.refl _ _, fun j y hj => absurd hj (Nat.not_lt_zero _)⟩
  case round =>
    obtain ⟨kk, wr, rfl, hkk, rfl, hbl, hno⟩ := hrel
    have hbw : Below w.heap.size w wr := ((Below.refl _ w).alloc (Nat.le_refl _) _).trans (hbl.mono (by simp))
    have cr := (hbw.cell (p := ⟨r, 0, none⟩) hr).trans cq
    by_cases hlt : kk < L.length
    · obtain ⟨b, off, rfl, hb, hrows⟩ := HR.out.2 (by omega)
      obtain ⟨x, hx⟩ : ∃ x, L[kk]? = some x := ⟨_, List.getElem?_eq_getElem (by omega)⟩
      have r1 := rangeAt_below (hrows kk x hx) hbw hb
      have hblk := (hbl.block w.heap.size (by simp)).trans (alloc_new' (o := .cells #[.int .i64 j0, .int .i64 a0] 45) rfl)
      have g0 := cell_of_row wr w.heap.size 0 _ _ _ hblk
      have g1 := cell_of_row wr w.heap.size 1 _ _ _ hblk
      simp only [List.getElem?_toArray, List.getElem?_cons_zero, List.getElem?_cons_succ] at g0 g1
      have HX := Lib.hid hx
      obtain ⟨j1, a1, b1⟩ := x
      have c0 : wr.cell? ⟨b, off + kk * 3, none⟩ = some (.int .i64 j1) := r1 0 _ rfl
      have c1 : wr.cell? ⟨b, off + kk * 3 + 1, none⟩ = some (.int .i64 a1) := r1 1 _ rfl
      have heq := fun w => task_eql j1 a1 j0 a0 w
      have hgd := task_guard .eql
      have HQ : Hid (Tsk.beq (Ent.tsk ⟨j1, a1, b1⟩) ⟨j0, a0⟩ = (j1 == j0 && a1 == a0)) := rfl
      clear hrows hx hblk r1
      generalize (j1 == j0 && a1 == a0) = q at heq HQ
      cases q with
      | true =>
        go_wp2_with fail
        go_quiet (fail)
        go_wp2_with fail
        go_ret
        exact ⟨by rw [show (L.any fun x => Tsk.beq x.tsk ⟨j0, a0⟩) = true from List.any_eq_true.2 ⟨_, List.mem_of_getElem? HX.out, HQ.out⟩]; rfl, below_drewN' hbw⟩
      | false =>
        go_wp2_with fail
        go_quiet (fail)
        go_wp2_with fail
        go_roundw
        case rel =>
          refine ⟨kk + 1, _, rfl, by omega, by go_num, below_drewN' hbl, (show Hid _ from fun j y hj hy => ?_)⟩
          by_cases e : j = kk
          · subst e
            rw [HX.out] at hy
            cases hy
            exact HQ.out
          · exact hno.out j y (by omega) hy
        case measure => simp [intOf]; omega
    · have hk : kk = L.length := by omega
      subst hk
      go_wp2_with fail
      go_ret
      exact ⟨by rw [show (L.any fun x => Tsk.beq x.tsk ⟨j0, a0⟩) = false from List.any_eq_false.2 (fun x hx => by obtain ⟨i, hi, rfl⟩ := List.mem_iff_getElem.1 hx; simp [hno.out i _ hi (List.getElem?_eq_getElem hi)])]; rfl, hbw⟩
set_option maxRecDepth 100000 in
set_option maxHeartbeats 1000000 in
theorem rpush_ok (B r : Nat) (L : List Ent) (v : Value) (t : Tsk) (b : Nat) (hb : b < 3) (w : World) (hB : B ≤ w.heap.size) (h : Hid (RV w B r L v)) (hN : L.length ≤ 100000) (hnew : (L.any fun x => Tsk.beq x.tsk t) = false) :
    Calls Tryd.prog 25 #[.pointer (some ⟨r, 0, none⟩), .agg t.cells.toArray, .int .i64 b] w fun e w' => e = .returned (.int .i64 0) ∧ ∃ v', RV w' B r (L ++ [⟨t.job, t.at_, b⟩]) v' ∧ RStep w w' B := by
  obtain ⟨i0, hi, hz0, hz1, hz2⟩ := info_parts info_ent
  obtain ⟨W, hW⟩ : ∃ W : World, W = w.alloc (.cells t.cells.toArray 45) := ⟨_, rfl⟩
  have hbW : Below w.heap.size w W := by rw [hW]; exact (Below.refl _ w).alloc (Nat.le_refl _) _
  have hltW : w.heap.size < W.heap.size := by rw [hW]; simp
  have HIS := Lib.hid (ris_c B r L t W (show Hid _ from ⟨v, h.out.below hbW⟩) hN)
  rw [hnew] at HIS
  have HW := Lib.hid hW
  have hblk : Hid (W.heap[w.heap.size]? = some (.cells t.cells.toArray 45 (0, 0))) := by rw [hW]; exact alloc_new' rfl
  obtain ⟨A, c, hvv⟩ := own_len h.out.row
  subst hvv
  have HPUSH : Hid (∀ w1 w2 na nc, Below w.heap.size w w1 → w1.grownBy w2 (Value.slice A L.length c).ownBlock → w2.ownsRow B 107 3 (.slice na (L.length + 1) nc) (L.length + 1) (flatOf Ent.cells L ++ [.int .i64 t.job, .int .i64 t.at_, .int .i64 (b : Int)]) → ∃ v', RV (w2.setCell ⟨r, 0, none⟩ (.slice na (L.length + 1) nc)) B r (L ++ [⟨t.job, t.at_, b⟩]) v' ∧ RStep w (w2.setCell ⟨r, 0, none⟩ (.slice na (L.length + 1) nc)) B) := fun w1 w2 na nc hb1 hg ho => by
    have hgw : w.grownBy w2 (Value.slice A L.length c).ownBlock := grownBy_trans (grown_of_below hb1 _) hg
    obtain ⟨h1, h2⟩ := h.out.put (L2 := L ++ [⟨t.job, t.at_, b⟩]) hgw (by rw [List.length_append, flatOf_append, flatOf_one]; exact ho)
    exact ⟨_, h1, h2⟩
  clear hW hnew
  obtain ⟨j0, a0⟩ := t
  simp only [Tsk.cells] at *
  have d1 : decide ((b : Int) < 0) = false := by simp
  have d2 : decide ((2 : Int) < b) = false := by simp; omega
  go_enter Tryd.func25, Tryd.ntmps25
  go_wp2_with fail
  rw [← HW.out]
  refine HIS.out.mono ?_
  rintro e w1 ⟨rfl, hb1⟩
  have hbw1 := hbW.trans (hb1.mono hbW.size)
  have hv1 := h.out.below hbw1
  have hblk1 := (hb1.block w.heap.size hltW).trans hblk.out
  have g0 := cell_of_row w1 w.heap.size 0 _ _ _ hblk1
  have g1 := cell_of_row w1 w.heap.size 1 _ _ _ hblk1
  simp only [List.getElem?_toArray, List.getElem?_cons_zero, List.getElem?_cons_succ] at g0 g1
  have cq : w1.cell? ⟨r, 0, none⟩ = some (.slice A L.length c) := cell_of_row w1 r 0 _ _ _ hv1.cells
  have fq : w1.frozen? ⟨r, 0, none⟩ = false := by simp [World.frozen?, hv1.cells]
  have hrow : w1.drew.ownsRow B 107 3 (.slice A L.length c) L.length (flatOf Ent.cells L) := hv1.row
  have hnb : some w.heap.size ≠ (Value.slice A L.length c).ownBlock := fun e => by have := (h.out.row.lt _ e.symm).2; omega
  have hnr : some r ≠ (Value.slice A L.length c).ownBlock := fun e => h.out.notr e.symm
  have hr1 := hv1.lt
  have hrb : r ≠ w.heap.size := by have := h.out.lt; omega
  have hsw1 : w.heap.size < w1.heap.size := Nat.lt_of_lt_of_le hltW hb1.size
  have hqne : r ≠ w1.heap.size := by omega
  have HB1 := Lib.hid hbw1
  clear hblk1 hv1 hb1 hbw1
  go_wp2_with fail
  refine wp_region_noPanic ?_
  refine wp_region_held_drew (S := (fun w' => w'.cell? ⟨w.heap.size, 0, none⟩ = some (.int .i64 j0) ∧ w'.cell? ⟨w.heap.size, 1, none⟩ = some (.int .i64 a0))) (by kernel_rfl) ⟨g0, g1⟩ (fun hHeld => ?_)
  refine wpAnyH_take (i := 0) (v := ?_) rfl (by kernel_rfl) (by kernel_rfl) (by kernel_rfl) (fun _ _ _ h => h) (Or.inl ⟨by rfl, ?_⟩) hHeld ?_
  rotate_left
  focus
    intro w hSw
    clear hSw
    go_simp
    try with_reducible rfl
  try simp only [Act.put, List.getElem_toArray, List.getElem_cons_zero, List.getElem_cons_succ, List.setIfInBounds_toArray, List.set_cons_zero, List.set_cons_succ]
  refine wpAnyH_take (i := 1) (v := ?_) rfl (by kernel_rfl) (by kernel_rfl) (by kernel_rfl) (fun _ _ _ h => h) (Or.inl ⟨by rfl, ?_⟩) hHeld ?_
  rotate_left
  focus
    intro w hSw
    clear hSw
    go_simp
    try with_reducible rfl
  try simp only [Act.put, List.getElem_toArray, List.getElem_cons_zero, List.getElem_cons_succ, List.setIfInBounds_toArray, List.set_cons_zero, List.set_cons_succ]
  refine wpAnyH_take (i := 2) (v := ?_) rfl (by kernel_rfl) (by kernel_rfl) (by kernel_rfl) (fun _ _ _ h => h) (Or.inl ⟨by rfl, ?_⟩) hHeld ?_
  rotate_left
  focus
    intro w hSw
    clear hSw
    go_simp
    try with_reducible rfl
  try simp only [Act.put, List.getElem_toArray, List.getElem_cons_zero, List.getElem_cons_succ, List.setIfInBounds_toArray, List.set_cons_zero, List.set_cons_succ]
  refine wpAnyH_take (i := 3) (v := ?_) rfl (by kernel_rfl) (by kernel_rfl) (by kernel_rfl) (fun _ _ _ h => h) (Or.inl ⟨by rfl, ?_⟩) hHeld ?_
  rotate_left
  focus
    intro w hSw
    clear hSw
    go_simp
    try with_reducible rfl
  try simp only [Act.put, List.getElem_toArray, List.getElem_cons_zero, List.getElem_cons_succ, List.setIfInBounds_toArray, List.set_cons_zero, List.set_cons_succ]
  refine wpAnyH_take (i := 5) (v := ?_) rfl (by kernel_rfl) (by kernel_rfl) (by kernel_rfl) (fun _ _ _ h => h) (Or.inl ⟨by rfl, ?_⟩) hHeld ?_
  rotate_left
  focus
    intro w hSw
    (try dsimp only at hSw)
    go_simp
    try with_reducible rfl
  try simp only [Act.put, List.getElem_toArray, List.getElem_cons_zero, List.getElem_cons_succ, List.setIfInBounds_toArray, List.set_cons_zero, List.set_cons_succ]
  refine wpAnyH_take (i := 6) (v := ?_) rfl (by kernel_rfl) (by kernel_rfl) (by kernel_rfl) (fun _ _ _ h => h) (Or.inl ⟨by rfl, ?_⟩) hHeld ?_
  rotate_left
  focus
    intro w hSw
    clear hSw
    go_simp
    try with_reducible rfl
  try simp only [Act.put, List.getElem_toArray, List.getElem_cons_zero, List.getElem_cons_succ, List.setIfInBounds_toArray, List.set_cons_zero, List.set_cons_succ]
  refine wpAnyH_take (i := 7) (v := ?_) rfl (by kernel_rfl) (by kernel_rfl) (by kernel_rfl) (fun _ _ _ h => h) (Or.inl ⟨by rfl, ?_⟩) hHeld ?_
  rotate_left
  focus
    intro w hSw
    clear hSw
    go_simp
    try with_reducible rfl
  try simp only [Act.put, List.getElem_toArray, List.getElem_cons_zero, List.getElem_cons_succ, List.setIfInBounds_toArray, List.set_cons_zero, List.set_cons_succ]
  refine wpAnyH_ready (rs := [4, 8]) (by kernel_rfl) (by simp) ?_
  refine AllReadyH.cons rfl (fun K hK => ?_) (AllReadyH.cons rfl (fun K hK => ?_) AllReadyH.nil)
  · go_simp
    refine hK.out _ _ ⟨g0, g1⟩ (fun hHeld => ?_)
    clear hK K
    try simp only [Act.put, List.getElem_toArray, List.getElem_cons_zero, List.getElem_cons_succ, List.setIfInBounds_toArray, List.set_cons_zero, List.set_cons_succ]
    refine wpAnyH_ready (rs := [8]) (by kernel_rfl) (by simp) ?_
    refine AllReadyH.cons rfl (fun K hK => ?_) AllReadyH.nil
    go_simp
    refine hK.out _ _ ⟨Lib.cell?_alloc_some _ g0, Lib.cell?_alloc_some _ g1⟩ (fun hHeld => ?_)
    clear hK K
    try simp only [Act.put, List.getElem_toArray, List.getElem_cons_zero, List.getElem_cons_succ, List.setIfInBounds_toArray, List.set_cons_zero, List.set_cons_succ]
    refine wpAnyH_ready (rs := [9]) (by kernel_rfl) (by simp) ?_
    refine AllReadyH.cons rfl (fun K hK => ?_) AllReadyH.nil
    rw [if_pos (by rfl)]
    refine wp_append_own _ _ _ 53 rfl B 107 i0 (.agg #[.int .i64 0, .int .i64 0, .int .i64 0]) 3 24 Tryd.underlying53 hi hz0 hz1 hz2 rfl (by decide) (.slice A L.length c) L.length (flatOf Ent.cells L) rfl (hrow.alloc _) ⟨w1.heap.size, 0, none⟩ 1 1 [.int .i64 j0, .int .i64 a0, .int .i64 (b : Int)] rfl rfl ?hnews (by simp [Value.oneCell']) (by unfold maxLen; omega) (by omega) (by simp; omega) ?_
    case hnews =>
      intro j u hj
      have hadd : (⟨w1.heap.size, 0, none⟩ : Addr).add j = ⟨w1.heap.size, j, none⟩ := by unfold Addr.add; split <;> simp_all
      rw [hadd]
      exact (World.cell?_alloc_new w1.drew _ _ j).trans (by simpa using hj)
    intro v' w2 hown2 hg2 hnil
    have hg2' := grownBy_unalloc hg2
    obtain ⟨na, nc, rfl⟩ := own_len hown2
    have g0 := hg2'.cell g0 hnb
    have g1 := hg2'.cell g1 hnb
    have cq2 := hg2'.cell cq hnr
    have fq2 : w2.frozen? ⟨r, 0, none⟩ = false := (hg2'.frozen_far ⟨r, 0, none⟩ hr1 hnr).trans fq
    refine hK.out _ _ ⟨g0, g1⟩ (fun hHeld => ?_)
    clear hK K
    try simp only [Act.put, List.getElem_toArray, List.getElem_cons_zero, List.getElem_cons_succ, List.setIfInBounds_toArray, List.set_cons_zero, List.set_cons_succ]
    refine wpAnyH_take (i := 10) (v := ?_) rfl (by kernel_rfl) (by kernel_rfl) (by kernel_rfl) (fun _ _ _ h => h) (Or.inl ⟨by rfl, ?_⟩) hHeld ?_
    rotate_left
    focus
      intro w hSw
      clear hSw
      go_simp
      try with_reducible rfl
    try simp only [Act.put, List.getElem_toArray, List.getElem_cons_zero, List.getElem_cons_succ, List.setIfInBounds_toArray, List.set_cons_zero, List.set_cons_succ]
    refine wpAnyH_take (i := 11) (v := ?_) rfl (by kernel_rfl) (by kernel_rfl) (by kernel_rfl) (fun _ _ _ h => h) (Or.inl ⟨by rfl, ?_⟩) hHeld ?_
    rotate_left
    focus
      intro w hSw
      clear hSw
      go_simp
      try with_reducible rfl
    try simp only [Act.put, List.getElem_toArray, List.getElem_cons_zero, List.getElem_cons_succ, List.setIfInBounds_toArray, List.set_cons_zero, List.set_cons_succ]
    refine wpAnyH_ready (rs := [12]) (by kernel_rfl) (by simp) ?_
    refine AllReadyH.cons rfl (fun K hK => ?_) AllReadyH.nil
    go_simp
    refine hK.out _ _ ⟨(World.cell?_setCell_far _ _ _ _ hrb).trans g0, (World.cell?_setCell_far _ _ _ _ hrb).trans g1⟩ (fun hHeld => ?_)
    clear hK K
    try simp only [Act.put, List.getElem_toArray, List.getElem_cons_zero, List.getElem_cons_succ, List.setIfInBounds_toArray, List.set_cons_zero, List.set_cons_succ]
    refine wpAnyH_done (by kernel_rfl) ?_ _
    refine NoPanic.normal ?_
    go_wp2_with fail
    go_ret
    exact ⟨rfl, HPUSH.out w1 w2 na nc HB1.out hg2' hown2⟩
  · go_simp
    refine hK.out _ _ ⟨Lib.cell?_alloc_some _ g0, Lib.cell?_alloc_some _ g1⟩ (fun hHeld => ?_)
    clear hK K
    try simp only [Act.put, List.getElem_toArray, List.getElem_cons_zero, List.getElem_cons_succ, List.setIfInBounds_toArray, List.set_cons_zero, List.set_cons_succ]
    refine wpAnyH_ready (rs := [4]) (by kernel_rfl) (by simp) ?_
    refine AllReadyH.cons rfl (fun K hK => ?_) AllReadyH.nil
    go_simp
    refine hK.out _ _ ⟨Lib.cell?_alloc_some _ g0, Lib.cell?_alloc_some _ g1⟩ (fun hHeld => ?_)
    clear hK K
    try simp only [Act.put, List.getElem_toArray, List.getElem_cons_zero, List.getElem_cons_succ, List.setIfInBounds_toArray, List.set_cons_zero, List.set_cons_succ]
    refine wpAnyH_ready (rs := [9]) (by kernel_rfl) (by simp) ?_
    refine AllReadyH.cons rfl (fun K hK => ?_) AllReadyH.nil
    rw [if_pos (by rfl)]
    refine wp_append_own _ _ _ 53 rfl B 107 i0 (.agg #[.int .i64 0, .int .i64 0, .int .i64 0]) 3 24 Tryd.underlying53 hi hz0 hz1 hz2 rfl (by decide) (.slice A L.length c) L.length (flatOf Ent.cells L) rfl (hrow.alloc _) ⟨w1.heap.size, 0, none⟩ 1 1 [.int .i64 j0, .int .i64 a0, .int .i64 (b : Int)] rfl rfl ?hnews (by simp [Value.oneCell']) (by unfold maxLen; omega) (by omega) (by simp; omega) ?_
    case hnews =>
      intro j u hj
      have hadd : (⟨w1.heap.size, 0, none⟩ : Addr).add j = ⟨w1.heap.size, j, none⟩ := by unfold Addr.add; split <;> simp_all
      rw [hadd]
      exact (World.cell?_alloc_new w1.drew _ _ j).trans (by simpa using hj)
    intro v' w2 hown2 hg2 hnil
    have hg2' := grownBy_unalloc hg2
    obtain ⟨na, nc, rfl⟩ := own_len hown2
    have g0 := hg2'.cell g0 hnb
    have g1 := hg2'.cell g1 hnb
    have cq2 := hg2'.cell cq hnr
    have fq2 : w2.frozen? ⟨r, 0, none⟩ = false := (hg2'.frozen_far ⟨r, 0, none⟩ hr1 hnr).trans fq
    refine hK.out _ _ ⟨g0, g1⟩ (fun hHeld => ?_)
    clear hK K
    try simp only [Act.put, List.getElem_toArray, List.getElem_cons_zero, List.getElem_cons_succ, List.setIfInBounds_toArray, List.set_cons_zero, List.set_cons_succ]
    refine wpAnyH_take (i := 10) (v := ?_) rfl (by kernel_rfl) (by kernel_rfl) (by kernel_rfl) (fun _ _ _ h => h) (Or.inl ⟨by rfl, ?_⟩) hHeld ?_
    rotate_left
    focus
      intro w hSw
      clear hSw
      go_simp
      try with_reducible rfl
    try simp only [Act.put, List.getElem_toArray, List.getElem_cons_zero, List.getElem_cons_succ, List.setIfInBounds_toArray, List.set_cons_zero, List.set_cons_succ]
    refine wpAnyH_take (i := 11) (v := ?_) rfl (by kernel_rfl) (by kernel_rfl) (by kernel_rfl) (fun _ _ _ h => h) (Or.inl ⟨by rfl, ?_⟩) hHeld ?_
    rotate_left
    focus
      intro w hSw
      clear hSw
      go_simp
      try with_reducible rfl
    try simp only [Act.put, List.getElem_toArray, List.getElem_cons_zero, List.getElem_cons_succ, List.setIfInBounds_toArray, List.set_cons_zero, List.set_cons_succ]
    refine wpAnyH_ready (rs := [12]) (by kernel_rfl) (by simp) ?_
    refine AllReadyH.cons rfl (fun K hK => ?_) AllReadyH.nil
    go_simp
    refine hK.out _ _ ⟨(World.cell?_setCell_far _ _ _ _ hrb).trans g0, (World.cell?_setCell_far _ _ _ _ hrb).trans g1⟩ (fun hHeld => ?_)
    clear hK K
    try simp only [Act.put, List.getElem_toArray, List.getElem_cons_zero, List.getElem_cons_succ, List.setIfInBounds_toArray, List.set_cons_zero, List.set_cons_succ]
    refine wpAnyH_done (by kernel_rfl) ?_ _
    refine NoPanic.normal ?_
    go_wp2_with fail
    go_ret
    exact ⟨rfl, HPUSH.out w1 w2 na nc HB1.out hg2' hown2⟩
end Go.Proofs.YtkinbidpbgkaoaaDoor
