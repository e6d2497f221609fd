/-
  queue: the document's Push's errors; the nil queue.
-/
import Derived.Test.YtkinbidpbgkaoaaDoorQueK
import Derived.Test.YtkinbidpbgkaoaaDoorQueI
import Derived.Test.YtkinbidpbgkaoaaDoorQueG
namespace Go.Proofs.YtkinbidpbgkaoaaDoor
open Go.RowKit
set_option linter.unusedVariables false

set_option maxRecDepth 100000 in
theorem rpush_range (r : Nat) (t : Tsk) (band : Int) (w : World) (hb : band < 0 ∨ 2 < band) :
    Calls Tryd.prog 25 #[.pointer (some ⟨r, 0, none⟩), .agg t.cells.toArray, .int .i64 band] w fun e w' => e = .returned (.int .i64 1) ∧ Below w.heap.size w w' := by
  obtain ⟨j0, a0⟩ := t
  simp only [Tsk.cells]
  by_cases h1 : band < 0
  · have d1 : decide (band < 0) = true := by simpa using h1
    clear hb h1
    go_enter Tryd.func25, Tryd.ntmps25
    go_wp2_with fail
    go_ret
    exact ⟨rfl, (Below.refl _ w).alloc (Nat.le_refl _) _⟩
  · have d1 : decide (band < 0) = false := by simpa using h1
    have d2 : decide (2 < band) = true := by simp; omega
    clear hb h1
    go_enter Tryd.func25, Tryd.ntmps25
    go_wp2_with fail
    go_ret
    exact ⟨rfl, (Below.refl _ w).alloc (Nat.le_refl _) _⟩
set_option maxRecDepth 100000 in
theorem rpush_dup (B r : Nat) (L : List Ent) (t : Tsk) (b : Nat) (hb : b < 3) (w : World) (h : Hid (RAt w B r L)) (hN : L.length ≤ 100000) (hin : (L.any fun x => Tsk.beq x.tsk t) = true) :
    Calls Tryd.prog 25 #[.pointer (some ⟨r, 0, none⟩), .agg t.cells.toArray, .int .i64 b] w fun e w' => e = .returned (.int .i64 6) ∧ Below w.heap.size w w' := by
  obtain ⟨W, hW⟩ : ∃ W : World, W = w.alloc (.cells t.cells.toArray 45) := ⟨_, rfl⟩
  have hbW : Below w.heap.size w W := by rw [hW]; exact (Below.refl _ w).alloc (Nat.le_refl _) _
  have HIS := Lib.hid (ris_c B r L t W (show Hid _ from let ⟨v, hv⟩ := h.out; ⟨v, hv.below hbW⟩) hN)
  rw [hin] at HIS
  have HW := Lib.hid hW
  clear hW hin
  obtain ⟨j0, a0⟩ := t
  simp only [Tsk.cells] at *
  have d1 : decide ((b : Int) < 0) = false := by simp
  have d2 : decide ((2 : Int) < b) = false := by simp; omega
  go_enter Tryd.func25, Tryd.ntmps25
  go_wp2_with fail
  rw [← HW.out]
  refine HIS.out.mono ?_
  rintro e w1 ⟨rfl, hb1⟩
  have hbw1 := hbW.trans (hb1.mono hbW.size)
  go_wp2_with fail
  go_ret
  exact ⟨rfl, hbw1⟩
set_option maxRecDepth 100000 in
theorem nil_push (Er : Nat → Addr) (t : Tsk) (band : Int) (w : World) (hE : w.cell? ⟨1, 0, none⟩ = some (erV Er 2)) (hEl : 1 < w.heap.size) :
    Calls Tryd.prog 17 #[.pointer none, .agg t.cells.toArray, .int .i64 band] w fun e w' => e = .returned (erV Er 2) ∧ Below w.heap.size w w' := by
  obtain ⟨j0, a0⟩ := t
  simp only [Tsk.cells]
  have hEne : ¬ 1 = w.heap.size := by omega
  go_enter Tryd.func17, Tryd.ntmps17
  go_wp2_with fail
  go_ret
  exact ⟨rfl, (Below.refl _ w).alloc (Nat.le_refl _) _⟩
set_option maxRecDepth 100000 in
theorem nil_drop (Er : Nat → Addr) (t : Tsk) (w : World) (hE : w.cell? ⟨1, 0, none⟩ = some (erV Er 2)) (hEl : 1 < w.heap.size) :
    Calls Tryd.prog 23 #[.pointer none, .agg t.cells.toArray] w fun e w' => e = .returned (erV Er 2) ∧ Below w.heap.size w w' := by
  obtain ⟨j0, a0⟩ := t
  simp only [Tsk.cells]
  have hEne : ¬ 1 = w.heap.size := by omega
  go_enter Tryd.func23, Tryd.ntmps23
  go_wp2_with fail
  go_ret
  exact ⟨rfl, (Below.refl _ w).alloc (Nat.le_refl _) _⟩
set_option maxRecDepth 100000 in
theorem nil_cut (f : Value) (w : World) :
    Calls Tryd.prog 51 #[.pointer none, f] w fun e w' => e = .returned (.int .i64 0) ∧ Below w.heap.size w w' := by
  go_enter Tryd.func51, Tryd.ntmps51
  go_wp2_with fail
  go_ret
  exact ⟨rfl, Below.refl _ _⟩
set_option maxRecDepth 100000 in
theorem nil_dropJob (job : Int) (w : World) :
    Calls Tryd.prog 24 #[.pointer none, .int .i64 job] w fun e w' => e = .returned (.int .i64 0) ∧ Below w.heap.size w w' := by
  go_enter Tryd.func24, Tryd.ntmps24
  go_wp2_with fail
  refine (nil_cut _ _).mono ?_
  rintro e w1 ⟨rfl, hb1⟩
  have hbw : Below w.heap.size w w1 := (below_grow w _).trans (hb1.mono (by simp))
  clear hb1
  go_wp2_with fail
  go_ret
  exact ⟨rfl, hbw⟩
set_option maxRecDepth 100000 in
theorem nil_is (t : Tsk) (w : World) :
    Calls Tryd.prog 26 #[.pointer none, .agg t.cells.toArray] w fun e w' => e = .returned (.bool false) ∧ Below w.heap.size w w' := by
  obtain ⟨W, hW⟩ : ∃ W : World, W = w.alloc (.cells t.cells.toArray 45) := ⟨_, rfl⟩
  have hbW : Below w.heap.size w W := by rw [hW]; exact (Below.refl _ w).alloc (Nat.le_refl _) _
  have hlt : w.heap.size < W.heap.size := by rw [hW]; simp
  have HCON : Hid (∀ (w1 : World), Calls Tryd.prog 54 #[.slice none 0 0, .agg t.cells.toArray] w1 fun e w' => e = .returned (.bool false) ∧ Below w1.heap.size w1 w') := fun w1 => contains_task none 0 0 [] t w1 (show Hid _ from ⟨rfl, fun h => absurd h (by omega)⟩) (by omega)
  have HW := Lib.hid hW
  have hblk : W.heap[w.heap.size]? = some (.cells t.cells.toArray 45 (0, 0)) := by rw [hW]; exact alloc_new' rfl
  clear hW
  obtain ⟨j0, a0⟩ := t
  simp only [Tsk.cells] at *
  have g0 := cell_of_row W w.heap.size 0 _ _ _ hblk
  have g1 := cell_of_row W w.heap.size 1 _ _ _ hblk
  simp only [List.getElem?_toArray, List.getElem?_cons_zero, List.getElem?_cons_succ] at g0 g1
  clear hblk
  go_enter Tryd.func26, Tryd.ntmps26
  go_wp2_with fail
  rw [← HW.out]
  refine wp_region_noPanic ?_
  refine wp_region_held_drew (S := (fun w' => w'.cell? ⟨w.heap.size, 0, none⟩ = some (.int .i64 j0) ∧ w'.cell? ⟨w.heap.size, 1, none⟩ = some (.int .i64 a0))) (by kernel_rfl) ⟨g0, g1⟩ (fun hHeld => ?_)
  refine wpAnyH_take (i := 0) (v := ?_) rfl (by kernel_rfl) (by kernel_rfl) (by kernel_rfl) (fun _ _ _ h => h) (Or.inl ⟨by rfl, ?_⟩) hHeld ?_
  rotate_left
  focus
    intro w hSw
    clear hSw
    go_simp
    try with_reducible rfl
  try simp only [Act.put, List.getElem_toArray, List.getElem_cons_zero, List.getElem_cons_succ, List.setIfInBounds_toArray, List.set_cons_zero, List.set_cons_succ]
  refine wpAnyH_take (i := 2) (v := ?_) rfl (by kernel_rfl) (by kernel_rfl) (by kernel_rfl) (fun _ _ _ h => h) (Or.inl ⟨by rfl, ?_⟩) hHeld ?_
  rotate_left
  focus
    intro w hSw
    (try dsimp only at hSw)
    go_simp
    try with_reducible rfl
  try simp only [Act.put, List.getElem_toArray, List.getElem_cons_zero, List.getElem_cons_succ, List.setIfInBounds_toArray, List.set_cons_zero, List.set_cons_succ]
  refine wpAnyH_ready (rs := [1]) (by kernel_rfl) (by simp) ?_
  refine AllReadyH.cons rfl (fun K hK => ?_) AllReadyH.nil
  go_simp
  refine (nil_list _).mono ?_
  rintro e w1 ⟨rfl, hb1⟩
  have hb1 := below_undrewQ hb1
  have HB1 := Lib.hid hb1
  have g0 := (hb1.cell (p := ⟨w.heap.size, 0, none⟩) hlt).trans g0
  have g1 := (hb1.cell (p := ⟨w.heap.size, 1, none⟩) hlt).trans g1
  refine hK.out _ _ ⟨g0, g1⟩ (fun hHeld => ?_)
  clear hK K
  try simp only [Act.put, List.getElem_toArray, List.getElem_cons_zero, List.getElem_cons_succ, List.setIfInBounds_toArray, List.set_cons_zero, List.set_cons_succ]
  refine wpAnyH_ready (rs := [3]) (by kernel_rfl) (by simp) ?_
  refine AllReadyH.cons rfl (fun K hK => ?_) AllReadyH.nil
  go_simp
  refine (HCON.out w1).mono ?_
  rintro e w2 ⟨rfl, hb2⟩
  have HB2 := Lib.hid hb2
  have hlt1 : w.heap.size < w1.heap.size := Nat.lt_of_lt_of_le hlt hb1.size
  have g0 := (hb2.cell (p := ⟨w.heap.size, 0, none⟩) hlt1).trans g0
  have g1 := (hb2.cell (p := ⟨w.heap.size, 1, none⟩) hlt1).trans g1
  refine hK.out _ _ ⟨g0, g1⟩ (fun hHeld => ?_)
  clear hK K
  try simp only [Act.put, List.getElem_toArray, List.getElem_cons_zero, List.getElem_cons_succ, List.setIfInBounds_toArray, List.set_cons_zero, List.set_cons_succ]
  refine wpAnyH_take (i := 4) (v := ?_) rfl (by kernel_rfl) (by kernel_rfl) (by kernel_rfl) (fun _ _ _ h => h) (Or.inl ⟨by rfl, ?_⟩) hHeld ?_
  rotate_left
  focus
    intro w hSw
    clear hSw
    go_simp
    try with_reducible rfl
  try simp only [Act.put, List.getElem_toArray, List.getElem_cons_zero, List.getElem_cons_succ, List.setIfInBounds_toArray, List.set_cons_zero, List.set_cons_succ]
  refine wpAnyH_done (by kernel_rfl) ?_ _
  refine NoPanic.normal ?_
  go_wp2_with fail
  go_ret
  exact ⟨rfl, hbW.trans ((HB1.out.trans (HB2.out.mono HB1.out.size)).mono hbW.size)⟩
end Go.Proofs.YtkinbidpbgkaoaaDoor
