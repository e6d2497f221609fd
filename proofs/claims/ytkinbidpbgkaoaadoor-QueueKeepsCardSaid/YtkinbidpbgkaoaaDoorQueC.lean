/-
  queue: the state; New, List, Len, Is.
-/
import Derived.Test.YtkinbidpbgkaoaaDoorQueB
import Derived.Deep.AppendLies
namespace Go.Proofs.YtkinbidpbgkaoaaDoor
open Go.RowKit
set_option linter.unusedVariables false

/-- A queue in block q: of each band a row, each in a block of its own. -/
structure QV (w : World) (B q : Nat) (l : Nat → List Tsk) (v : Nat → Value) : Prop where
  low : B ≤ q
  cells : w.heap[q]? = some (.cells #[v 0, v 1, v 2] 103 (0, 0))
  row : ∀ i, i < 3 → w.ownsRow B 45 2 (v i) (l i).length (flatOf Tsk.cells (l i))
  notq : ∀ i, i < 3 → (v i).ownBlock ≠ some q
  apart : ∀ i j, i < 3 → j < 3 → i ≠ j → (v i).ownBlock = none ∨ (v i).ownBlock ≠ (v j).ownBlock
def QAt (w : World) (B q : Nat) (l : Nat → List Tsk) : Prop := ∃ v, QV w B q l v
theorem none_or_ne (o : Option Nat) : o = none ∨ o ≠ none := by cases o <;> simp
theorem QV.lt {w : World} {B q : Nat} {l : Nat → List Tsk} {v : Nat → Value} (h : QV w B q l v) : q < w.heap.size := (Array.getElem?_eq_some_iff.1 h.cells).1
theorem QV.cell {w : World} {B q : Nat} {l : Nat → List Tsk} {v : Nat → Value} (h : QV w B q l v) (i : Nat) (hi : i < 3) : w.cell? ⟨q, i, none⟩ = some (v i) := by
  rw [cell_of_row w q i _ _ _ h.cells]
  match i, hi with
  | 0, _ => rfl
  | 1, _ => rfl
  | 2, _ => rfl
theorem QV.free {w : World} {B q : Nat} {l : Nat → List Tsk} {v : Nat → Value} (h : QV w B q l v) (i : Nat) : w.frozen? ⟨q, i, none⟩ = false := by
  simp [World.frozen?, h.cells]
theorem QV.grown {w w' : World} {B q : Nat} {l : Nat → List Tsk} {v : Nat → Value} (h : QV w B q l v) (hg : w.grownBy w' none) : QV w' B q l v :=
  ⟨h.low, by rw [hg.block q h.lt (by simp)]; exact h.cells, fun i hi => (h.row i hi).kept hg (none_or_ne _), h.notq, h.apart⟩
theorem QV.below {w w' : World} {B q : Nat} {l : Nat → List Tsk} {v : Nat → Value} (h : QV w B q l v) (hb : Below w.heap.size w w') : QV w' B q l v := h.grown (grown_of_below hb none)
theorem QAt.below {w w' : World} {B q : Nat} {l : Nat → List Tsk} (h : QAt w B q l) (hb : Below w.heap.size w w') : QAt w' B q l := let ⟨v, hv⟩ := h; ⟨v, hv.below hb⟩
theorem QAt.lt {w : World} {B q : Nat} {l : Nat → List Tsk} (h : QAt w B q l) : q < w.heap.size := let ⟨_, hv⟩ := h; hv.lt
theorem below_undrewQ {B : Nat} {w w' : World} (h : Below B w.drew w') : Below B w w' := ⟨h.os, h.tape, h.output, h.size, h.block⟩
def addrOf (v : Value) : Option Addr := match v with | .slice a _ _ => a | _ => none
def capOf' (v : Value) : Nat := match v with | .slice _ _ c => c | _ => 0
theorem own_form {w : World} {B : Nat} {v : Value} {l : List Tsk} (h : w.ownsRow B 45 2 v l.length (flatOf Tsk.cells l)) : v = .slice (addrOf v) l.length (capOf' v) ∧ (addrOf v = none → l = [] ∧ capOf' v = 0) ∧ RdRows w w.heap.size Tsk.cells 2 (addrOf v) l.length l := by
  obtain ⟨A, cap, hv, _, hrd⟩ := own_rows Tsk.k2 h rfl
  subst hv
  refine ⟨rfl, fun hA => ?_, hrd⟩
  simp [addrOf] at hA
  subst hA
  rcases h.2 with ⟨hv, h0⟩ | ⟨g, cap', cur, hv, _⟩
  · simp at hv
    exact ⟨List.eq_nil_of_length_eq_zero h0, hv.2⟩
  · simp at hv
set_option maxRecDepth 100000 in
theorem qnew_c (w : World) : Calls Tryd.prog 16 #[] w fun e w' => e = .returned (.pointer (some ⟨w.heap.size, 0, none⟩)) ∧ QAt w' w.heap.size w.heap.size (fun _ => []) ∧ Below w.heap.size w w' := by
  go_enter Tryd.func16, Tryd.ntmps16
  go_wp2_with fail
  go_ret
  refine ⟨rfl, ⟨fun _ => .slice none 0 0, Nat.le_refl _, alloc_new' rfl, fun i _ => ⟨rfl, .inl ⟨rfl, rfl⟩⟩, fun i _ => by simp [Value.ownBlock], fun i j _ _ _ => .inl rfl⟩, (Below.refl _ w).alloc (Nat.le_refl _) _⟩
set_option maxRecDepth 100000 in
theorem qlist_c (B q : Nat) (l : Nat → List Tsk) (w : World) (h : Hid (QAt w B q l)) (hN : (catT l 3).length ≤ 1000000) :
    Calls Tryd.prog 18 #[.pointer (some ⟨q, 0, none⟩)] w fun e w' => ∃ v, e = .returned v ∧ w'.ownsRow w.heap.size 45 2 v (catT l 3).length (flatOf Tsk.cells (catT l 3)) ∧ Below w.heap.size w w' := by
  obtain ⟨v, hv⟩ := h.out
  have hform := fun i hi => own_form (hv.row i hi)
  have hc := concat_c q l (fun i => addrOf (v i)) (fun i => capOf' (v i)) w hv.lt (show Hid _ from fun i hi => by rw [hv.cell i hi]; congr 1; exact (hform i hi).1) (show Hid _ from fun i hi => (hform i hi).2.1) (show Hid _ from fun i hi => (hform i hi).2.2) hN
  have HC := Lib.hid hc
  clear hc hform hv
  go_enter Tryd.func18, Tryd.ntmps18
  go_wp2_with fail
  refine HC.out.mono ?_
  rintro e w1 ⟨v1, rfl, hown, hb⟩
  go_wp2_with fail
  go_ret
  exact ⟨_, rfl, hown, hb⟩
set_option maxRecDepth 100000 in
theorem qlen_c (B q : Nat) (l : Nat → List Tsk) (w : World) (h : Hid (QAt w B q l)) (hN : (catT l 3).length ≤ 1000000) :
    Calls Tryd.prog 19 #[.pointer (some ⟨q, 0, none⟩)] w fun e w' => e = .returned (.int .i64 ((catT l 3).length : Nat)) ∧ Below w.heap.size w w' := by
  have HC := Lib.hid (qlist_c B q l w h hN)
  generalize (catT l 3).length = n at HC ⊢
  go_enter Tryd.func19, Tryd.ntmps19
  go_wp2_with fail
  refine HC.out.mono ?_
  rintro e w1 ⟨v1, rfl, hown, hb⟩
  obtain ⟨a, cc, rfl⟩ := own_len hown
  clear hown
  go_wp2_with fail
  go_ret
  exact ⟨rfl, hb⟩
set_option maxRecDepth 100000 in
set_option maxHeartbeats 1000000 in
theorem qis_c (B q : Nat) (l : Nat → List Tsk) (t : Tsk) (w : World) (h : Hid (QAt w B q l)) (hN : (catT l 3).length ≤ 1000000) :
    Calls Tryd.prog 26 #[.pointer (some ⟨q, 0, none⟩), .agg t.cells.toArray] w fun e w' => e = .returned (.bool ((catT l 3).any (Tsk.beq t))) ∧ Below w.heap.size w w' := by
  obtain ⟨W, hW⟩ : ∃ W : World, W = w.alloc (.cells t.cells.toArray 45) := ⟨_, rfl⟩
  have hbW : Below w.heap.size w W := by rw [hW]; exact (Below.refl _ w).alloc (Nat.le_refl _) _
  have HQ : Hid (QAt W B q l) := h.out.below hbW
  have hlt : w.heap.size < W.heap.size := by rw [hW]; simp
  have HLIST := Lib.hid (qlist_c B q l W.drew (show Hid _ from HQ.out.below ⟨rfl, rfl, rfl, Nat.le_refl _, fun _ _ => rfl⟩) hN)
  have HCON : Hid (∀ (A : Option Addr) (c : Nat) (w1 : World), RdRows w1 w1.heap.size Tsk.cells 2 A (catT l 3).length (catT l 3) → Calls Tryd.prog 54 #[.slice A (catT l 3).length c, .agg t.cells.toArray] w1 fun e w' => e = .returned (.bool ((catT l 3).any (Tsk.beq t))) ∧ Below w1.heap.size w1 w') := fun A c w1 hr => contains_task A _ c _ t w1 hr (by omega)
  have HROW : Hid (∀ w1 v, w1.ownsRow W.drew.heap.size 45 2 v (catT l 3).length (flatOf Tsk.cells (catT l 3)) → ∃ A c, v = .slice A (catT l 3).length c ∧ RdRows w1 w1.heap.size Tsk.cells 2 A (catT l 3).length (catT l 3)) := fun w1 v ho => by
    obtain ⟨A, cap, hv, _, hrd⟩ := own_rows Tsk.k2 ho rfl
    exact ⟨A, cap, hv, hrd⟩
  have HW := Lib.hid hW
  have hblk : W.heap[w.heap.size]? = some (.cells t.cells.toArray 45 (0, 0)) := by rw [hW]; exact alloc_new' rfl
  generalize (catT l 3).any (Tsk.beq t) = ans at HCON ⊢
  clear hW h HQ
  obtain ⟨j0, a0⟩ := t
  simp only [Tsk.cells] at *
  have g0 := cell_of_row W w.heap.size 0 _ _ _ hblk
  have g1 := cell_of_row W w.heap.size 1 _ _ _ hblk
  simp only [List.getElem?_toArray, List.getElem?_cons_zero, List.getElem?_cons_succ] at g0 g1
  clear hblk
  go_enter Tryd.func26, Tryd.ntmps26
  go_wp2_with fail
  rw [← HW.out]
  refine wp_region_noPanic ?_
  refine wp_region_held_drew (S := (fun w' => w'.cell? ⟨w.heap.size, 0, none⟩ = some (.int .i64 j0) ∧ w'.cell? ⟨w.heap.size, 1, none⟩ = some (.int .i64 a0))) (by kernel_rfl) ⟨g0, g1⟩ (fun hHeld => ?_)
  refine wpAnyH_take (i := 0) (v := ?_) rfl (by kernel_rfl) (by kernel_rfl) (by kernel_rfl) (fun _ _ _ h => h) (Or.inl ⟨by rfl, ?_⟩) hHeld ?_
  rotate_left
  focus
    intro w hSw
    clear hSw
    go_simp
    try with_reducible rfl
  try simp only [Act.put, List.getElem_toArray, List.getElem_cons_zero, List.getElem_cons_succ, List.setIfInBounds_toArray, List.set_cons_zero, List.set_cons_succ]
  refine wpAnyH_take (i := 2) (v := ?_) rfl (by kernel_rfl) (by kernel_rfl) (by kernel_rfl) (fun _ _ _ h => h) (Or.inl ⟨by rfl, ?_⟩) hHeld ?_
  rotate_left
  focus
    intro w hSw
    (try dsimp only at hSw)
    go_simp
    try with_reducible rfl
  try simp only [Act.put, List.getElem_toArray, List.getElem_cons_zero, List.getElem_cons_succ, List.setIfInBounds_toArray, List.set_cons_zero, List.set_cons_succ]
  refine wpAnyH_ready (rs := [1]) (by kernel_rfl) (by simp) ?_
  refine AllReadyH.cons rfl (fun K hK => ?_) AllReadyH.nil
  go_simp
  refine HLIST.out.mono ?_
  rintro e w1 ⟨v1, rfl, hown, hb1⟩
  have hb1 := below_undrewQ hb1
  have g0 := (hb1.cell (p := ⟨w.heap.size, 0, none⟩) hlt).trans g0
  have g1 := (hb1.cell (p := ⟨w.heap.size, 1, none⟩) hlt).trans g1
  obtain ⟨A1, c1, rfl, hrd1⟩ := HROW.out _ _ hown
  refine hK.out _ _ ⟨g0, g1⟩ (fun hHeld => ?_)
  clear hK K
  try simp only [Act.put, List.getElem_toArray, List.getElem_cons_zero, List.getElem_cons_succ, List.setIfInBounds_toArray, List.set_cons_zero, List.set_cons_succ]
  refine wpAnyH_ready (rs := [3]) (by kernel_rfl) (by simp) ?_
  refine AllReadyH.cons rfl (fun K hK => ?_) AllReadyH.nil
  go_simp
  refine (HCON.out A1 c1 w1 hrd1).mono ?_
  rintro e w2 ⟨rfl, hb2⟩
  have hlt1 : w.heap.size < w1.heap.size := Nat.lt_of_lt_of_le hlt hb1.size
  have g0 := (hb2.cell (p := ⟨w.heap.size, 0, none⟩) hlt1).trans g0
  have g1 := (hb2.cell (p := ⟨w.heap.size, 1, none⟩) hlt1).trans g1
  refine hK.out _ _ ⟨g0, g1⟩ (fun hHeld => ?_)
  clear hK K
  try simp only [Act.put, List.getElem_toArray, List.getElem_cons_zero, List.getElem_cons_succ, List.setIfInBounds_toArray, List.set_cons_zero, List.set_cons_succ]
  refine wpAnyH_take (i := 4) (v := ?_) rfl (by kernel_rfl) (by kernel_rfl) (by kernel_rfl) (fun _ _ _ h => h) (Or.inl ⟨by rfl, ?_⟩) hHeld ?_
  rotate_left
  focus
    intro w hSw
    clear hSw
    go_simp
    try with_reducible rfl
  try simp only [Act.put, List.getElem_toArray, List.getElem_cons_zero, List.getElem_cons_succ, List.setIfInBounds_toArray, List.set_cons_zero, List.set_cons_succ]
  refine wpAnyH_done (by kernel_rfl) ?_ _
  refine NoPanic.normal ?_
  go_wp2_with fail
  go_ret
  exact ⟨rfl, hbW.trans ((hb1.trans (hb2.mono hb1.size)).mono hbW.size)⟩
end Go.Proofs.YtkinbidpbgkaoaaDoor
