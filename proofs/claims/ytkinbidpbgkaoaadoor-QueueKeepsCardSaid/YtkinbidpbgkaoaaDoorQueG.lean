/-
  queue: awake.
-/
import Derived.Test.YtkinbidpbgkaoaaDoorQueF
import Derived.Test.YtkinbidpbgkaoaaDoorKind21
namespace Go.Proofs.YtkinbidpbgkaoaaDoor
open Go.RowKit
set_option linter.unusedVariables false

theorem below_grow (w : World) (o : Obj) : Below w.heap.size w (w.alloc o) := (Below.refl _ w).alloc (Nat.le_refl _) _
theorem rd_of_block' {α : Type} {enc : α → List Value} {k : Nat} (hk : ∀ x, (enc x).length = k) {w : World} {g : Nat} {t : TypeId} {l : List α} (hg : w.heap[g]? = some (.cells (flatOf enc l).toArray t (0, 0))) : RdRows w w.heap.size enc k (some ⟨g, 0, none⟩) l.length l :=
  ⟨rfl, fun _ => ⟨g, 0, rfl, (Array.getElem?_eq_some_iff.1 hg).1, fun i x hi j u hu => by
    rw [cell_of_row w g _ _ _ _ hg, Nat.zero_add]
    have := flatOf_get hk l i x hi j u hu
    simpa using this⟩⟩
theorem rangeAt_step {w w' : World} {q b o : Nat} {cs : List Value} {v v' : Nat → Value} (h : w.rangeAt b o cs) (hs : QStep w w' q v v') (hq : b ≠ q) (hv : ∀ i, i < 3 → (v i).ownBlock ≠ some b) (hlt : b < w.heap.size) : w'.rangeAt b o cs := fun j u hu => by
  have := h j u hu
  have hb := hs.block b hlt hq hv
  simp only [World.cell?, hb] at this ⊢
  exact this
theorem notblk_step {w w' : World} {q b : Nat} {v v' : Nat → Value} (hs : QStep w w' q v v') (hv : ∀ i, i < 3 → (v i).ownBlock ≠ some b) (hlt : b < w.heap.size) : ∀ i, i < 3 → (v' i).ownBlock ≠ some b := fun i hi e => by
  rcases hs.own i hi with h1 | ⟨m, h1, h2⟩
  · exact hv i hi (h1.symm.trans e)
  · rw [h2] at e; cases e; omega
def awL : Nat → List Tsk := upd (upd (fun _ => []) 2 ([] ++ [⟨1, 0⟩])) 0 ([] ++ [⟨2, 0⟩])
def awTs : List Tsk := [⟨2, 0⟩, ⟨1, 0⟩]
theorem aw_cat : catT awL 3 = awTs := rfl
theorem aw_is : (catT awL 3).any (Tsk.beq ⟨1, 0⟩) = true := by decide
theorem aw_drop : (((catT awL 3).length : Int) - ((catT (cutAll (fun x => x.job == 2) awL) 3).length : Int)) = 1 := by decide
set_option maxRecDepth 100000 in
set_option maxHeartbeats 2000000 in
theorem awake21_c (Er : Nat → Addr) (w : World) (hE : Errs w.heap.size w allKinds Er) :
    Calls Tryd.prog 15 #[] w fun e w' => e = .returned (.bool true) ∧ Below w.heap.size w w' := by
  go_enter Tryd.func15, Tryd.ntmps15
  go_wp2_with fail
  refine (qnew_c w).mono ?_
  rintro e w1 ⟨rfl, ⟨v1, hq1⟩, hb1⟩
  go_upto_region 6 with fail
  obtain ⟨w3, hw3⟩ : ∃ Z : World, Z = (w1.alloc (.cells #[.int .i64 1, .int .i64 0] 45)).alloc (.cells #[.int .i64 2, .int .i64 0] 45) := ⟨_, rfl⟩
  rw [← hw3]
  obtain ⟨ba, hbae⟩ : ∃ z, z = w1.heap.size := ⟨_, rfl⟩
  obtain ⟨bb, hbbe⟩ : ∃ z, z = w1.heap.size + 1 := ⟨_, rfl⟩
  rw [← hbbe, ← hbae]
  have ra3 : w3.rangeAt ba 0 [.int .i64 1, .int .i64 0] := by
    rw [hw3, hbae]
    intro j u hj
    rw [cell_of_row _ w1.heap.size _ #[.int .i64 1, .int .i64 0] 45 (0, 0) ((alloc_old' (by simp)).trans (alloc_new' rfl))]
    simpa using hj
  have rb3 : w3.rangeAt bb 0 [.int .i64 2, .int .i64 0] := by
    rw [hw3, hbbe]
    intro j u hj
    rw [cell_of_row _ (w1.heap.size + 1) _ #[.int .i64 2, .int .i64 0] 45 (0, 0) (alloc_new' (by simp))]
    simpa using hj
  have hb13 : Below w1.heap.size w1 w3 := by rw [hw3]; exact (below_grow w1 _).alloc (by simp) _
  have hs3 : w3.heap.size = w1.heap.size + 2 := by rw [hw3]; simp
  have hq3 := hq1.below hb13
  have hqlt := hq1.lt
  have hav1 : ∀ i, i < 3 → (v1 i).ownBlock ≠ some ba := fun i hi e => by have := ((hq1.row i hi).lt _ e).2; omega
  have hbv1 : ∀ i, i < 3 → (v1 i).ownBlock ≠ some bb := fun i hi e => by have := ((hq1.row i hi).lt _ e).2; omega
  have hanq : ba ≠ w.heap.size := by omega
  have hbnq : bb ≠ w.heap.size := by omega
  have hbw3 := hb1.trans (hb13.mono hb1.size)
  have c0 : w3.cell? ⟨ba, 0, none⟩ = some (.int .i64 1) := ra3 0 _ rfl
  have c1 : w3.cell? ⟨ba, 1, none⟩ = some (.int .i64 0) := ra3 1 _ rfl
  have hba1 : ba ≤ w1.heap.size ∧ w1.heap.size ≤ ba := by omega
  have hbb1 : bb ≤ w1.heap.size + 1 ∧ w1.heap.size + 1 ≤ bb := by omega
  clear hw3 hbae hbbe
  have HS3 := Lib.hid hs3
  have hs3a : w1.heap.size + 2 ≤ w3.heap.size := by omega
  clear hs3
  go_wp2_with fail
  refine (push_ok w.heap.size w.heap.size (fun _ => []) v1 ⟨1, 0⟩ 2 (by omega) w3 (by omega) (show Hid _ from hq3) (by decide) (by decide)).mono ?_
  rintro e w4 ⟨rfl, v4, hq4, hs4⟩
  have ra4 := rangeAt_step ra3 hs4 hanq hav1 (by omega)
  have rb4 := rangeAt_step rb3 hs4 hbnq hbv1 (by omega)
  have hav4 := notblk_step hs4 hav1 (by omega)
  have hbv4 := notblk_step hs4 hbv1 (by omega)
  have hs43 := hs4.size
  have hbw4 := hbw3.trans (hs4.below hq3)
  have c0 : w4.cell? ⟨bb, 0, none⟩ = some (.int .i64 2) := rb4 0 _ rfl
  have c1 : w4.cell? ⟨bb, 1, none⟩ = some (.int .i64 0) := rb4 1 _ rfl
  clear ra3 rb3 hav1 hbv1 hq1 hb1 hb13
  go_wp2_with fail
  refine (push_ok w.heap.size w.heap.size _ v4 ⟨2, 0⟩ 0 (by omega) w4 (by omega) (show Hid _ from hq4) (by decide) (by decide)).mono ?_
  rintro e w5 ⟨rfl, v, hq5, hs5⟩
  have ra := rangeAt_step ra4 hs5 hanq hav4 (by omega)
  have rb := rangeAt_step rb4 hs5 hbnq hbv4 (by omega)
  have havn := notblk_step hs5 hav4 (by omega)
  have hbvn := notblk_step hs5 hbv4 (by omega)
  have hs54 := hs5.size
  have hbw5 := hbw4.trans (hs5.below hq4)
  have HV : Hid (QV w5 w.heap.size w.heap.size awL v) := hq5
  have hba : ba < w5.heap.size := by omega
  have hbb : bb < w5.heap.size := by omega
  have hE10 : ∀ W, Below w5.heap.size w5 W → Errs w.heap.size W allKinds Er ∧ w.heap.size ≤ W.heap.size := fun W hb => ⟨hE.below (hbw5.trans (hb.mono hbw5.size)), Nat.le_trans hbw5.size hb.size⟩
  clear ra4 rb4 hav4 hbv4 hq4 hq3 c0 c1 hs5 hs4 hq5
  go_wp2_with fail
  refine wp_region_noPanic ?_
  refine wp_region_held_drew (S := (fun w' => w'.rangeAt ba 0 [.int .i64 1, .int .i64 0] ∧ w'.rangeAt bb 0 [.int .i64 2, .int .i64 0])) (by kernel_rfl) ⟨ra, rb⟩ (fun hHeld => ?_)
  refine wpAnyH_take (i := 0) (v := ?_) rfl (by kernel_rfl) (by kernel_rfl) (by kernel_rfl) (fun _ _ _ h => h) (Or.inl ⟨by rfl, ?_⟩) hHeld ?_
  rotate_left
  focus
    intro w hSw
    clear hSw
    go_simp
    try with_reducible rfl
  try simp only [Act.put, List.getElem_toArray, List.getElem_cons_zero, List.getElem_cons_succ, List.setIfInBounds_toArray, List.set_cons_zero, List.set_cons_succ]
  refine wpAnyH_take (i := 1) (v := ?_) rfl (by kernel_rfl) (by kernel_rfl) (by kernel_rfl) (fun _ _ _ h => h) (Or.inl ⟨by rfl, ?_⟩) hHeld ?_
  rotate_left
  focus
    intro w hSw
    clear hSw
    go_simp
    try with_reducible rfl
  try simp only [Act.put, List.getElem_toArray, List.getElem_cons_zero, List.getElem_cons_succ, List.setIfInBounds_toArray, List.set_cons_zero, List.set_cons_succ]
  refine wpAnyH_take (i := 2) (v := ?_) rfl (by kernel_rfl) (by kernel_rfl) (by kernel_rfl) (fun _ _ _ h => h) (Or.inl ⟨by rfl, ?_⟩) hHeld ?_
  rotate_left
  focus
    intro w hSw
    clear hSw
    go_simp
    try with_reducible rfl
  try simp only [Act.put, List.getElem_toArray, List.getElem_cons_zero, List.getElem_cons_succ, List.setIfInBounds_toArray, List.set_cons_zero, List.set_cons_succ]
  refine wpAnyH_take (i := 3) (v := ?_) rfl (by kernel_rfl) (by kernel_rfl) (by kernel_rfl) (fun _ _ _ h => h) (Or.inl ⟨by rfl, ?_⟩) hHeld ?_
  rotate_left
  focus
    intro w hSw
    clear hSw
    go_simp
    try with_reducible rfl
  try simp only [Act.put, List.getElem_toArray, List.getElem_cons_zero, List.getElem_cons_succ, List.setIfInBounds_toArray, List.set_cons_zero, List.set_cons_succ]
  refine wpAnyH_take (i := 4) (v := ?_) rfl (by kernel_rfl) (by kernel_rfl) (by kernel_rfl) (fun _ _ _ h => h) (Or.inl ⟨by rfl, ?_⟩) hHeld ?_
  rotate_left
  focus
    intro w hSw
    clear hSw
    go_simp
    try with_reducible rfl
  try simp only [Act.put, List.getElem_toArray, List.getElem_cons_zero, List.getElem_cons_succ, List.setIfInBounds_toArray, List.set_cons_zero, List.set_cons_succ]
  refine wpAnyH_take (i := 5) (v := ?_) rfl (by kernel_rfl) (by kernel_rfl) (by kernel_rfl) (fun _ _ _ h => h) (Or.inl ⟨by rfl, ?_⟩) hHeld ?_
  rotate_left
  focus
    intro w hSw
    clear hSw
    go_simp
    try with_reducible rfl
  try simp only [Act.put, List.getElem_toArray, List.getElem_cons_zero, List.getElem_cons_succ, List.setIfInBounds_toArray, List.set_cons_zero, List.set_cons_succ]
  refine wpAnyH_take (i := 6) (v := ?_) rfl (by kernel_rfl) (by kernel_rfl) (by kernel_rfl) (fun _ _ _ h => h) (Or.inl ⟨by rfl, ?_⟩) hHeld ?_
  rotate_left
  focus
    intro w hSw
    clear hSw
    go_simp
    try with_reducible rfl
  try simp only [Act.put, List.getElem_toArray, List.getElem_cons_zero, List.getElem_cons_succ, List.setIfInBounds_toArray, List.set_cons_zero, List.set_cons_succ]
  refine wpAnyH_take (i := 7) (v := ?_) rfl (by kernel_rfl) (by kernel_rfl) (by kernel_rfl) (fun _ _ _ h => h) (Or.inl ⟨by rfl, ?_⟩) hHeld ?_
  rotate_left
  focus
    intro w hSw
    clear hSw
    go_simp
    try with_reducible rfl
  try simp only [Act.put, List.getElem_toArray, List.getElem_cons_zero, List.getElem_cons_succ, List.setIfInBounds_toArray, List.set_cons_zero, List.set_cons_succ]
  refine wpAnyH_take (i := 9) rfl (by kernel_rfl) (by kernel_rfl) (by kernel_rfl) (fun _ _ _ h => h) (yieldsIf_load_mid (by rfl) 45 _ rfl bb (0) rfl [.int .i64 2, .int .i64 0] _ (fun w h => h.2) Tryd.underlying45 rfl size_task) hHeld ?_
  try simp only [Act.put, List.getElem_toArray, List.getElem_cons_zero, List.getElem_cons_succ, List.setIfInBounds_toArray, List.set_cons_zero, List.set_cons_succ]
  refine wpAnyH_take (i := 10) rfl (by kernel_rfl) (by kernel_rfl) (by kernel_rfl) (fun _ _ _ h => h) (yieldsIf_load_mid (by rfl) 45 _ rfl ba (0) rfl [.int .i64 1, .int .i64 0] _ (fun w h => h.1) Tryd.underlying45 rfl size_task) hHeld ?_
  try simp only [Act.put, List.getElem_toArray, List.getElem_cons_zero, List.getElem_cons_succ, List.setIfInBounds_toArray, List.set_cons_zero, List.set_cons_succ]
  have HB : Below w5.heap.size w5 w5.drew := ⟨rfl, rfl, rfl, Nat.le_refl _, fun _ _ => rfl⟩
  have HBs := HB.size
  have ra : w5.drew.rangeAt ba 0 [.int .i64 1, .int .i64 0] := ra
  have rb : w5.drew.rangeAt bb 0 [.int .i64 2, .int .i64 0] := rb
  refine wpAnyH_ready (rs := [8, 11]) (by kernel_rfl) (by simp) ?_
  refine AllReadyH.cons rfl (fun K hK => ?_) (AllReadyH.cons rfl (fun K hK => ?_) AllReadyH.nil)
  · go_simp
    refine (qlist_c w.heap.size w.heap.size awL _ (show Hid _ from ⟨v, HV.out.below HB⟩) (by rw [aw_cat]; decide)).mono ?_
    rintro e w6 ⟨v6, rfl, hown6, hb6⟩
    have HB := HB.trans (hb6.mono HB.size)
    have ra := rangeAt_below ra hb6 (Nat.lt_of_lt_of_le hba HBs)
    have rb := rangeAt_below rb hb6 (Nat.lt_of_lt_of_le hbb HBs)
    have HBs := HB.size
    obtain ⟨A6, c6, hv6, _, hrd6⟩ := own_rows (l := awTs) Tsk.k2 (by rw [aw_cat] at hown6; exact hown6) rfl
    subst hv6
    refine hK.out _ _ ⟨ra, rb⟩ (fun hHeld => ?_)
    clear hK K
    try simp only [Act.put, List.getElem_toArray, List.getElem_cons_zero, List.getElem_cons_succ, List.setIfInBounds_toArray, List.set_cons_zero, List.set_cons_succ]
    refine wpAnyH_ready (rs := [11]) (by kernel_rfl) (by simp) ?_
    refine AllReadyH.cons rfl (fun K hK => ?_) AllReadyH.nil
    go_simp
    have hrd7 : Hid (RdRows (w6.alloc (.cells #[.int .i64 2, .int .i64 0, .int .i64 1, .int .i64 0] 45)) (w6.alloc (.cells #[.int .i64 2, .int .i64 0, .int .i64 1, .int .i64 0] 45)).heap.size Tsk.cells 2 (some ⟨w6.heap.size, 0, none⟩) 2 awTs) := rd_of_block' (l := awTs) Tsk.k2 (alloc_new' rfl)
    have hrd6 : Hid (RdRows (w6.alloc (.cells #[.int .i64 2, .int .i64 0, .int .i64 1, .int .i64 0] 45)) (w6.alloc (.cells #[.int .i64 2, .int .i64 0, .int .i64 1, .int .i64 0] 45)).heap.size Tsk.cells 2 A6 2 awTs) := (hrd6.below (below_grow w6 _) (Nat.le_refl _)).mono (by simp)
    have HB := HB.trans ((below_grow w6 (.cells #[.int .i64 2, .int .i64 0, .int .i64 1, .int .i64 0] 45)).mono HB.size)
    have ra := rangeAt_below ra (below_grow w6 (.cells #[.int .i64 2, .int .i64 0, .int .i64 1, .int .i64 0] 45)) (Nat.lt_of_lt_of_le hba HBs)
    have rb := rangeAt_below rb (below_grow w6 (.cells #[.int .i64 2, .int .i64 0, .int .i64 1, .int .i64 0] 45)) (Nat.lt_of_lt_of_le hbb HBs)
    have HBs := HB.size
    refine hK.out _ _ ⟨ra, rb⟩ (fun hHeld => ?_)
    clear hK K
    try simp only [Act.put, List.getElem_toArray, List.getElem_cons_zero, List.getElem_cons_succ, List.setIfInBounds_toArray, List.set_cons_zero, List.set_cons_succ]
    refine wpAnyH_ready (rs := [12]) (by kernel_rfl) (by simp) ?_
    refine AllReadyH.cons rfl (fun K hK => ?_) AllReadyH.nil
    go_simp
    refine (same_true A6 c6 _ 2 awTs _ hrd6 hrd7 (by decide)).mono ?_
    rintro e w8 ⟨rfl, hb8⟩
    have HB := HB.trans (hb8.mono HB.size)
    have ra := rangeAt_below ra hb8 (Nat.lt_of_lt_of_le hba HBs)
    have rb := rangeAt_below rb hb8 (Nat.lt_of_lt_of_le hbb HBs)
    have HBs := HB.size
    refine hK.out _ _ ⟨ra, rb⟩ (fun hHeld => ?_)
    clear hK K
    try simp only [Act.put, List.getElem_toArray, List.getElem_cons_zero, List.getElem_cons_succ, List.setIfInBounds_toArray, List.set_cons_zero, List.set_cons_succ]
    refine wpAnyH_take (i := 13) (v := ?_) rfl (by kernel_rfl) (by kernel_rfl) (by kernel_rfl) (fun _ _ _ h => h) (Or.inl ⟨by rfl, ?_⟩) hHeld ?_
    rotate_left
    focus
      intro w hSw
      clear hSw
      go_simp
      try with_reducible rfl
    try simp only [Act.put, List.getElem_toArray, List.getElem_cons_zero, List.getElem_cons_succ, List.setIfInBounds_toArray, List.set_cons_zero, List.set_cons_succ]
    refine wpAnyH_take (i := 14) (v := ?_) rfl (by kernel_rfl) (by kernel_rfl) (by kernel_rfl) (fun _ _ _ h => h) (Or.inl ⟨by rfl, ?_⟩) hHeld ?_
    rotate_left
    focus
      intro w hSw
      clear hSw
      go_simp
      try with_reducible rfl
    try simp only [Act.put, List.getElem_toArray, List.getElem_cons_zero, List.getElem_cons_succ, List.setIfInBounds_toArray, List.set_cons_zero, List.set_cons_succ]
    refine wpAnyH_take (i := 15) (v := ?_) rfl (by kernel_rfl) (by kernel_rfl) (by kernel_rfl) (fun _ _ _ h => h) (Or.inl ⟨by rfl, ?_⟩) hHeld ?_
    rotate_left
    focus
      intro w hSw
      clear hSw
      go_simp
      try with_reducible rfl
    try simp only [Act.put, List.getElem_toArray, List.getElem_cons_zero, List.getElem_cons_succ, List.setIfInBounds_toArray, List.set_cons_zero, List.set_cons_succ]
    refine wpAnyH_ready (rs := [16]) (by kernel_rfl) (by simp) ?_
    refine AllReadyH.cons rfl (fun K hK => ?_) AllReadyH.nil
    go_simp
    refine (qlen_c w.heap.size w.heap.size awL w8 (show Hid _ from ⟨v, HV.out.below HB⟩) (by rw [aw_cat]; decide)).mono ?_
    rintro e w9 ⟨rfl, hb9⟩
    rw [aw_cat]
    have HB := HB.trans (hb9.mono HB.size)
    have ra := rangeAt_below ra hb9 (Nat.lt_of_lt_of_le hba HBs)
    have rb := rangeAt_below rb hb9 (Nat.lt_of_lt_of_le hbb HBs)
    have HBs := HB.size
    refine hK.out _ _ ⟨ra, rb⟩ (fun hHeld => ?_)
    clear hK K
    try simp only [Act.put, List.getElem_toArray, List.getElem_cons_zero, List.getElem_cons_succ, List.setIfInBounds_toArray, List.set_cons_zero, List.set_cons_succ]
    refine wpAnyH_take (i := 17) (v := ?_) rfl (by kernel_rfl) (by kernel_rfl) (by kernel_rfl) (fun _ _ _ h => h) (Or.inl ⟨by rfl, ?_⟩) hHeld ?_
    rotate_left
    focus
      intro w hSw
      clear hSw
      go_simp
      try with_reducible rfl
    try simp only [Act.put, List.getElem_toArray, List.getElem_cons_zero, List.getElem_cons_succ, List.setIfInBounds_toArray, List.set_cons_zero, List.set_cons_succ]
    refine wpAnyH_take (i := 18) (v := ?_) rfl (by kernel_rfl) (by kernel_rfl) (by kernel_rfl) (fun _ _ _ h => h) (Or.inl ⟨by rfl, ?_⟩) hHeld ?_
    rotate_left
    focus
      intro w hSw
      clear hSw
      go_simp
      try with_reducible rfl
    try simp only [Act.put, List.getElem_toArray, List.getElem_cons_zero, List.getElem_cons_succ, List.setIfInBounds_toArray, List.set_cons_zero, List.set_cons_succ]
    refine wpAnyH_take (i := 19) (v := ?_) rfl (by kernel_rfl) (by kernel_rfl) (by kernel_rfl) (fun _ _ _ h => h) (Or.inl ⟨by rfl, ?_⟩) hHeld ?_
    rotate_left
    focus
      intro w hSw
      clear hSw
      go_simp
      try with_reducible rfl
    try simp only [Act.put, List.getElem_toArray, List.getElem_cons_zero, List.getElem_cons_succ, List.setIfInBounds_toArray, List.set_cons_zero, List.set_cons_succ]
    refine wpAnyH_take (i := 20) (v := ?_) rfl (by kernel_rfl) (by kernel_rfl) (by kernel_rfl) (fun _ _ _ h => h) (Or.inl ⟨by rfl, ?_⟩) hHeld ?_
    rotate_left
    focus
      intro w hSw
      clear hSw
      go_simp
      try with_reducible rfl
    try simp only [Act.put, List.getElem_toArray, List.getElem_cons_zero, List.getElem_cons_succ, List.setIfInBounds_toArray, List.set_cons_zero, List.set_cons_succ]
    refine wpAnyH_take (i := 21) rfl (by kernel_rfl) (by kernel_rfl) (by kernel_rfl) (fun _ _ _ h => h) (yieldsIf_load_mid (by rfl) 45 _ rfl ba (0) rfl [.int .i64 1, .int .i64 0] _ (fun w h => h.1) Tryd.underlying45 rfl size_task) hHeld ?_
    try simp only [Act.put, List.getElem_toArray, List.getElem_cons_zero, List.getElem_cons_succ, List.setIfInBounds_toArray, List.set_cons_zero, List.set_cons_succ]
    refine wpAnyH_ready (rs := [22]) (by kernel_rfl) (by simp) ?_
    refine AllReadyH.cons rfl (fun K hK => ?_) AllReadyH.nil
    go_simp
    refine (qis_c w.heap.size w.heap.size awL ⟨1, 0⟩ w9 (show Hid _ from ⟨v, HV.out.below HB⟩) (by rw [aw_cat]; decide)).mono ?_
    rintro e w10 ⟨rfl, hb10⟩
    rw [aw_is]
    have HB := HB.trans (hb10.mono HB.size)
    have ra := rangeAt_below ra hb10 (Nat.lt_of_lt_of_le hba HBs)
    have rb := rangeAt_below rb hb10 (Nat.lt_of_lt_of_le hbb HBs)
    have HBs := HB.size
    refine hK.out _ _ ⟨ra, rb⟩ (fun hHeld => ?_)
    clear hK K
    try simp only [Act.put, List.getElem_toArray, List.getElem_cons_zero, List.getElem_cons_succ, List.setIfInBounds_toArray, List.set_cons_zero, List.set_cons_succ]
    refine wpAnyH_take (i := 23) (v := ?_) rfl (by kernel_rfl) (by kernel_rfl) (by kernel_rfl) (fun _ _ _ h => h) (Or.inl ⟨by rfl, ?_⟩) hHeld ?_
    rotate_left
    focus
      intro w hSw
      clear hSw
      go_simp
      try with_reducible rfl
    try simp only [Act.put, List.getElem_toArray, List.getElem_cons_zero, List.getElem_cons_succ, List.setIfInBounds_toArray, List.set_cons_zero, List.set_cons_succ]
    refine wpAnyH_take (i := 24) (v := ?_) rfl (by kernel_rfl) (by kernel_rfl) (by kernel_rfl) (fun _ _ _ h => h) (Or.inl ⟨by rfl, ?_⟩) hHeld ?_
    rotate_left
    focus
      intro w hSw
      clear hSw
      go_simp
      try with_reducible rfl
    try simp only [Act.put, List.getElem_toArray, List.getElem_cons_zero, List.getElem_cons_succ, List.setIfInBounds_toArray, List.set_cons_zero, List.set_cons_succ]
    refine wpAnyH_take (i := 25) (v := ?_) rfl (by kernel_rfl) (by kernel_rfl) (by kernel_rfl) (fun _ _ _ h => h) (Or.inl ⟨by rfl, ?_⟩) hHeld ?_
    rotate_left
    focus
      intro w hSw
      clear hSw
      go_simp
      try with_reducible rfl
    try simp only [Act.put, List.getElem_toArray, List.getElem_cons_zero, List.getElem_cons_succ, List.setIfInBounds_toArray, List.set_cons_zero, List.set_cons_succ]
    refine wpAnyH_take (i := 26) rfl (by kernel_rfl) (by kernel_rfl) (by kernel_rfl) (fun _ _ _ h => h) (yieldsIf_load_mid (by rfl) 45 _ rfl ba (0) rfl [.int .i64 1, .int .i64 0] _ (fun w h => h.1) Tryd.underlying45 rfl size_task) hHeld ?_
    try simp only [Act.put, List.getElem_toArray, List.getElem_cons_zero, List.getElem_cons_succ, List.setIfInBounds_toArray, List.set_cons_zero, List.set_cons_succ]
    refine wpAnyH_ready (rs := [27]) (by kernel_rfl) (by simp) ?_
    refine AllReadyH.cons rfl (fun K hK => ?_) AllReadyH.nil
    go_simp
    refine (push_dup Er w.heap.size w.heap.size awL ⟨1, 0⟩ 1 (by omega) w10 ((hE10 w10 HB).1.var 6 (by decide)).2 (Nat.lt_of_lt_of_le ((hE10 w10 HB).1.var 6 (by decide)).1 (hE10 w10 HB).2) (show Hid _ from ⟨v, HV.out.below HB⟩) (by rw [aw_cat]; decide) aw_is).mono ?_
    rintro e w11 ⟨rfl, hb11⟩
    have HB := HB.trans (hb11.mono HB.size)
    have ra := rangeAt_below ra hb11 (Nat.lt_of_lt_of_le hba HBs)
    have rb := rangeAt_below rb hb11 (Nat.lt_of_lt_of_le hbb HBs)
    have HBs := HB.size
    refine hK.out _ _ ⟨ra, rb⟩ (fun hHeld => ?_)
    clear hK K
    try simp only [Act.put, List.getElem_toArray, List.getElem_cons_zero, List.getElem_cons_succ, List.setIfInBounds_toArray, List.set_cons_zero, List.set_cons_succ]
    refine wpAnyH_ready (rs := [28]) (by kernel_rfl) (by simp) ?_
    refine AllReadyH.cons rfl (fun K hK => ?_) AllReadyH.nil
    go_simp
    refine (kind21_c w11 (hE10 w11 HB).2 (hE10 w11 HB).1 6 (by omega)).mono ?_
    rintro e w12 ⟨rfl, hb12⟩
    have HB := HB.trans (hb12.mono HB.size)
    have ra := rangeAt_below ra hb12 (Nat.lt_of_lt_of_le hba HBs)
    have rb := rangeAt_below rb hb12 (Nat.lt_of_lt_of_le hbb HBs)
    have HBs := HB.size
    refine hK.out _ _ ⟨ra, rb⟩ (fun hHeld => ?_)
    clear hK K
    try simp only [Act.put, List.getElem_toArray, List.getElem_cons_zero, List.getElem_cons_succ, List.setIfInBounds_toArray, List.set_cons_zero, List.set_cons_succ]
    refine wpAnyH_take (i := 29) (v := ?_) rfl (by kernel_rfl) (by kernel_rfl) (by kernel_rfl) (fun _ _ _ h => h) (Or.inl ⟨by rfl, ?_⟩) hHeld ?_
    rotate_left
    focus
      intro w hSw
      clear hSw
      go_simp
      try with_reducible rfl
    try simp only [Act.put, List.getElem_toArray, List.getElem_cons_zero, List.getElem_cons_succ, List.setIfInBounds_toArray, List.set_cons_zero, List.set_cons_succ]
    refine wpAnyH_take (i := 30) (v := ?_) rfl (by kernel_rfl) (by kernel_rfl) (by kernel_rfl) (fun _ _ _ h => h) (Or.inl ⟨by rfl, ?_⟩) hHeld ?_
    rotate_left
    focus
      intro w hSw
      clear hSw
      go_simp
      try with_reducible rfl
    try simp only [Act.put, List.getElem_toArray, List.getElem_cons_zero, List.getElem_cons_succ, List.setIfInBounds_toArray, List.set_cons_zero, List.set_cons_succ]
    refine wpAnyH_take (i := 31) (v := ?_) rfl (by kernel_rfl) (by kernel_rfl) (by kernel_rfl) (fun _ _ _ h => h) (Or.inl ⟨by rfl, ?_⟩) hHeld ?_
    rotate_left
    focus
      intro w hSw
      clear hSw
      go_simp
      try with_reducible rfl
    try simp only [Act.put, List.getElem_toArray, List.getElem_cons_zero, List.getElem_cons_succ, List.setIfInBounds_toArray, List.set_cons_zero, List.set_cons_succ]
    refine wpAnyH_take (i := 32) (v := ?_) rfl (by kernel_rfl) (by kernel_rfl) (by kernel_rfl) (fun _ _ _ h => h) (Or.inl ⟨by rfl, ?_⟩) hHeld ?_
    rotate_left
    focus
      intro w hSw
      clear hSw
      go_simp
      try with_reducible rfl
    try simp only [Act.put, List.getElem_toArray, List.getElem_cons_zero, List.getElem_cons_succ, List.setIfInBounds_toArray, List.set_cons_zero, List.set_cons_succ]
    refine wpAnyH_take (i := 33) rfl (by kernel_rfl) (by kernel_rfl) (by kernel_rfl) (fun _ _ _ h => h) (yieldsIf_load_mid (by rfl) 45 _ rfl ba (0) rfl [.int .i64 1, .int .i64 0] _ (fun w h => h.1) Tryd.underlying45 rfl size_task) hHeld ?_
    try simp only [Act.put, List.getElem_toArray, List.getElem_cons_zero, List.getElem_cons_succ, List.setIfInBounds_toArray, List.set_cons_zero, List.set_cons_succ]
    refine wpAnyH_ready (rs := [34]) (by kernel_rfl) (by simp) ?_
    refine AllReadyH.cons rfl (fun K hK => ?_) AllReadyH.nil
    go_simp
    refine (push_range Er w.heap.size ⟨1, 0⟩ 3 w12 ((hE10 w12 HB).1.var 1 (by decide)).2 (Nat.lt_of_lt_of_le ((hE10 w12 HB).1.var 1 (by decide)).1 (hE10 w12 HB).2) (by omega)).mono ?_
    rintro e w13 ⟨rfl, hb13⟩
    have HB := HB.trans (hb13.mono HB.size)
    have ra := rangeAt_below ra hb13 (Nat.lt_of_lt_of_le hba HBs)
    have rb := rangeAt_below rb hb13 (Nat.lt_of_lt_of_le hbb HBs)
    have HBs := HB.size
    refine hK.out _ _ ⟨ra, rb⟩ (fun hHeld => ?_)
    clear hK K
    try simp only [Act.put, List.getElem_toArray, List.getElem_cons_zero, List.getElem_cons_succ, List.setIfInBounds_toArray, List.set_cons_zero, List.set_cons_succ]
    refine wpAnyH_ready (rs := [35]) (by kernel_rfl) (by simp) ?_
    refine AllReadyH.cons rfl (fun K hK => ?_) AllReadyH.nil
    go_simp
    refine (kind21_c w13 (hE10 w13 HB).2 (hE10 w13 HB).1 1 (by omega)).mono ?_
    rintro e w14 ⟨rfl, hb14⟩
    have HB := HB.trans (hb14.mono HB.size)
    have ra := rangeAt_below ra hb14 (Nat.lt_of_lt_of_le hba HBs)
    have rb := rangeAt_below rb hb14 (Nat.lt_of_lt_of_le hbb HBs)
    have HBs := HB.size
    refine hK.out _ _ ⟨ra, rb⟩ (fun hHeld => ?_)
    clear hK K
    try simp only [Act.put, List.getElem_toArray, List.getElem_cons_zero, List.getElem_cons_succ, List.setIfInBounds_toArray, List.set_cons_zero, List.set_cons_succ]
    refine wpAnyH_take (i := 36) (v := ?_) rfl (by kernel_rfl) (by kernel_rfl) (by kernel_rfl) (fun _ _ _ h => h) (Or.inl ⟨by rfl, ?_⟩) hHeld ?_
    rotate_left
    focus
      intro w hSw
      clear hSw
      go_simp
      try with_reducible rfl
    try simp only [Act.put, List.getElem_toArray, List.getElem_cons_zero, List.getElem_cons_succ, List.setIfInBounds_toArray, List.set_cons_zero, List.set_cons_succ]
    refine wpAnyH_take (i := 37) (v := ?_) rfl (by kernel_rfl) (by kernel_rfl) (by kernel_rfl) (fun _ _ _ h => h) (Or.inl ⟨by rfl, ?_⟩) hHeld ?_
    rotate_left
    focus
      intro w hSw
      clear hSw
      go_simp
      try with_reducible rfl
    try simp only [Act.put, List.getElem_toArray, List.getElem_cons_zero, List.getElem_cons_succ, List.setIfInBounds_toArray, List.set_cons_zero, List.set_cons_succ]
    refine wpAnyH_take (i := 38) (v := ?_) rfl (by kernel_rfl) (by kernel_rfl) (by kernel_rfl) (fun _ _ _ h => h) (Or.inl ⟨by rfl, ?_⟩) hHeld ?_
    rotate_left
    focus
      intro w hSw
      clear hSw
      go_simp
      try with_reducible rfl
    try simp only [Act.put, List.getElem_toArray, List.getElem_cons_zero, List.getElem_cons_succ, List.setIfInBounds_toArray, List.set_cons_zero, List.set_cons_succ]
    refine wpAnyH_take (i := 39) (v := ?_) rfl (by kernel_rfl) (by kernel_rfl) (by kernel_rfl) (fun _ _ _ h => h) (Or.inl ⟨by rfl, ?_⟩) hHeld ?_
    rotate_left
    focus
      intro w hSw
      clear hSw
      go_simp
      try with_reducible rfl
    try simp only [Act.put, List.getElem_toArray, List.getElem_cons_zero, List.getElem_cons_succ, List.setIfInBounds_toArray, List.set_cons_zero, List.set_cons_succ]
    refine wpAnyH_ready (rs := [40]) (by kernel_rfl) (by simp) ?_
    refine AllReadyH.cons rfl (fun K hK => ?_) AllReadyH.nil
    go_simp
    refine (dropJob_c w.heap.size w.heap.size awL v 2 w14 (show Hid _ from HV.out.below HB) (by rw [aw_cat]; decide)).mono ?_
    rintro e w15 ⟨rfl, v15, hq15, hs15⟩
    rw [aw_drop]
    have ra := rangeAt_step ra hs15 hanq (fun i hi => havn i hi) (Nat.lt_of_lt_of_le hba HBs)
    have rb := rangeAt_step rb hs15 hbnq (fun i hi => hbvn i hi) (Nat.lt_of_lt_of_le hbb HBs)
    have hfin : Below w.heap.size w w15 := (hbw5.trans (HB.mono hbw5.size)).trans (hs15.below (HV.out.below HB))
    refine hK.out _ _ ⟨ra, rb⟩ (fun hHeld => ?_)
    clear hK K
    try simp only [Act.put, List.getElem_toArray, List.getElem_cons_zero, List.getElem_cons_succ, List.setIfInBounds_toArray, List.set_cons_zero, List.set_cons_succ]
    refine wpAnyH_take (i := 41) (v := ?_) rfl (by kernel_rfl) (by kernel_rfl) (by kernel_rfl) (fun _ _ _ h => h) (Or.inl ⟨by rfl, ?_⟩) hHeld ?_
    rotate_left
    focus
      intro w hSw
      clear hSw
      go_simp
      try with_reducible rfl
    try simp only [Act.put, List.getElem_toArray, List.getElem_cons_zero, List.getElem_cons_succ, List.setIfInBounds_toArray, List.set_cons_zero, List.set_cons_succ]
    refine wpAnyH_take (i := 42) (v := ?_) rfl (by kernel_rfl) (by kernel_rfl) (by kernel_rfl) (fun _ _ _ h => h) (Or.inl ⟨by rfl, ?_⟩) hHeld ?_
    rotate_left
    focus
      intro w hSw
      clear hSw
      go_simp
      try with_reducible rfl
    try simp only [Act.put, List.getElem_toArray, List.getElem_cons_zero, List.getElem_cons_succ, List.setIfInBounds_toArray, List.set_cons_zero, List.set_cons_succ]
    refine wpAnyH_take (i := 43) (v := ?_) rfl (by kernel_rfl) (by kernel_rfl) (by kernel_rfl) (fun _ _ _ h => h) (Or.inl ⟨by rfl, ?_⟩) hHeld ?_
    rotate_left
    focus
      intro w hSw
      clear hSw
      go_simp
      try with_reducible rfl
    try simp only [Act.put, List.getElem_toArray, List.getElem_cons_zero, List.getElem_cons_succ, List.setIfInBounds_toArray, List.set_cons_zero, List.set_cons_succ]
    refine wpAnyH_done (by kernel_rfl) ?_ _
    refine NoPanic.normal ?_
    go_wp2_with fail
    go_ret
    exact ⟨rfl, hfin⟩
  · go_simp
    have hrd7 : RdRows (w5.drew.alloc (.cells #[.int .i64 2, .int .i64 0, .int .i64 1, .int .i64 0] 45)) (w5.drew.alloc (.cells #[.int .i64 2, .int .i64 0, .int .i64 1, .int .i64 0] 45)).heap.size Tsk.cells 2 (some ⟨w5.heap.size, 0, none⟩) 2 awTs := rd_of_block' (l := awTs) Tsk.k2 (alloc_new' rfl)
    have HB := HB.trans ((below_grow w5.drew (.cells #[.int .i64 2, .int .i64 0, .int .i64 1, .int .i64 0] 45)).mono HB.size)
    have ra := rangeAt_below ra (below_grow w5.drew (.cells #[.int .i64 2, .int .i64 0, .int .i64 1, .int .i64 0] 45)) (Nat.lt_of_lt_of_le hba HBs)
    have rb := rangeAt_below rb (below_grow w5.drew (.cells #[.int .i64 2, .int .i64 0, .int .i64 1, .int .i64 0] 45)) (Nat.lt_of_lt_of_le hbb HBs)
    have HBs := HB.size
    refine hK.out _ _ ⟨ra, rb⟩ (fun hHeld => ?_)
    clear hK K
    try simp only [Act.put, List.getElem_toArray, List.getElem_cons_zero, List.getElem_cons_succ, List.setIfInBounds_toArray, List.set_cons_zero, List.set_cons_succ]
    refine wpAnyH_ready (rs := [8]) (by kernel_rfl) (by simp) ?_
    refine AllReadyH.cons rfl (fun K hK => ?_) AllReadyH.nil
    go_simp
    refine (qlist_c w.heap.size w.heap.size awL _ (show Hid _ from ⟨v, HV.out.below HB⟩) (by rw [aw_cat]; decide)).mono ?_
    rintro e w6 ⟨v6, rfl, hown6, hb6⟩
    have hrd7 : Hid (RdRows w6 w6.heap.size Tsk.cells 2 (some ⟨w5.heap.size, 0, none⟩) 2 awTs) := (hrd7.below hb6 (Nat.le_refl _)).mono hb6.size
    have HB := HB.trans (hb6.mono HB.size)
    have ra := rangeAt_below ra hb6 (Nat.lt_of_lt_of_le hba HBs)
    have rb := rangeAt_below rb hb6 (Nat.lt_of_lt_of_le hbb HBs)
    have HBs := HB.size
    obtain ⟨A6, c6, hv6, _, hrd6⟩ := own_rows (l := awTs) Tsk.k2 (by rw [aw_cat] at hown6; exact hown6) rfl
    subst hv6
    refine hK.out _ _ ⟨ra, rb⟩ (fun hHeld => ?_)
    clear hK K
    try simp only [Act.put, List.getElem_toArray, List.getElem_cons_zero, List.getElem_cons_succ, List.setIfInBounds_toArray, List.set_cons_zero, List.set_cons_succ]
    refine wpAnyH_ready (rs := [12]) (by kernel_rfl) (by simp) ?_
    refine AllReadyH.cons rfl (fun K hK => ?_) AllReadyH.nil
    go_simp
    refine (same_true A6 c6 _ 2 awTs _ hrd6 hrd7 (by decide)).mono ?_
    rintro e w8 ⟨rfl, hb8⟩
    have HB := HB.trans (hb8.mono HB.size)
    have ra := rangeAt_below ra hb8 (Nat.lt_of_lt_of_le hba HBs)
    have rb := rangeAt_below rb hb8 (Nat.lt_of_lt_of_le hbb HBs)
    have HBs := HB.size
    refine hK.out _ _ ⟨ra, rb⟩ (fun hHeld => ?_)
    clear hK K
    try simp only [Act.put, List.getElem_toArray, List.getElem_cons_zero, List.getElem_cons_succ, List.setIfInBounds_toArray, List.set_cons_zero, List.set_cons_succ]
    refine wpAnyH_take (i := 13) (v := ?_) rfl (by kernel_rfl) (by kernel_rfl) (by kernel_rfl) (fun _ _ _ h => h) (Or.inl ⟨by rfl, ?_⟩) hHeld ?_
    rotate_left
    focus
      intro w hSw
      clear hSw
      go_simp
      try with_reducible rfl
    try simp only [Act.put, List.getElem_toArray, List.getElem_cons_zero, List.getElem_cons_succ, List.setIfInBounds_toArray, List.set_cons_zero, List.set_cons_succ]
    refine wpAnyH_take (i := 14) (v := ?_) rfl (by kernel_rfl) (by kernel_rfl) (by kernel_rfl) (fun _ _ _ h => h) (Or.inl ⟨by rfl, ?_⟩) hHeld ?_
    rotate_left
    focus
      intro w hSw
      clear hSw
      go_simp
      try with_reducible rfl
    try simp only [Act.put, List.getElem_toArray, List.getElem_cons_zero, List.getElem_cons_succ, List.setIfInBounds_toArray, List.set_cons_zero, List.set_cons_succ]
    refine wpAnyH_take (i := 15) (v := ?_) rfl (by kernel_rfl) (by kernel_rfl) (by kernel_rfl) (fun _ _ _ h => h) (Or.inl ⟨by rfl, ?_⟩) hHeld ?_
    rotate_left
    focus
      intro w hSw
      clear hSw
      go_simp
      try with_reducible rfl
    try simp only [Act.put, List.getElem_toArray, List.getElem_cons_zero, List.getElem_cons_succ, List.setIfInBounds_toArray, List.set_cons_zero, List.set_cons_succ]
    refine wpAnyH_ready (rs := [16]) (by kernel_rfl) (by simp) ?_
    refine AllReadyH.cons rfl (fun K hK => ?_) AllReadyH.nil
    go_simp
    refine (qlen_c w.heap.size w.heap.size awL w8 (show Hid _ from ⟨v, HV.out.below HB⟩) (by rw [aw_cat]; decide)).mono ?_
    rintro e w9 ⟨rfl, hb9⟩
    rw [aw_cat]
    have HB := HB.trans (hb9.mono HB.size)
    have ra := rangeAt_below ra hb9 (Nat.lt_of_lt_of_le hba HBs)
    have rb := rangeAt_below rb hb9 (Nat.lt_of_lt_of_le hbb HBs)
    have HBs := HB.size
    refine hK.out _ _ ⟨ra, rb⟩ (fun hHeld => ?_)
    clear hK K
    try simp only [Act.put, List.getElem_toArray, List.getElem_cons_zero, List.getElem_cons_succ, List.setIfInBounds_toArray, List.set_cons_zero, List.set_cons_succ]
    refine wpAnyH_take (i := 17) (v := ?_) rfl (by kernel_rfl) (by kernel_rfl) (by kernel_rfl) (fun _ _ _ h => h) (Or.inl ⟨by rfl, ?_⟩) hHeld ?_
    rotate_left
    focus
      intro w hSw
      clear hSw
      go_simp
      try with_reducible rfl
    try simp only [Act.put, List.getElem_toArray, List.getElem_cons_zero, List.getElem_cons_succ, List.setIfInBounds_toArray, List.set_cons_zero, List.set_cons_succ]
    refine wpAnyH_take (i := 18) (v := ?_) rfl (by kernel_rfl) (by kernel_rfl) (by kernel_rfl) (fun _ _ _ h => h) (Or.inl ⟨by rfl, ?_⟩) hHeld ?_
    rotate_left
    focus
      intro w hSw
      clear hSw
      go_simp
      try with_reducible rfl
    try simp only [Act.put, List.getElem_toArray, List.getElem_cons_zero, List.getElem_cons_succ, List.setIfInBounds_toArray, List.set_cons_zero, List.set_cons_succ]
    refine wpAnyH_take (i := 19) (v := ?_) rfl (by kernel_rfl) (by kernel_rfl) (by kernel_rfl) (fun _ _ _ h => h) (Or.inl ⟨by rfl, ?_⟩) hHeld ?_
    rotate_left
    focus
      intro w hSw
      clear hSw
      go_simp
      try with_reducible rfl
    try simp only [Act.put, List.getElem_toArray, List.getElem_cons_zero, List.getElem_cons_succ, List.setIfInBounds_toArray, List.set_cons_zero, List.set_cons_succ]
    refine wpAnyH_take (i := 20) (v := ?_) rfl (by kernel_rfl) (by kernel_rfl) (by kernel_rfl) (fun _ _ _ h => h) (Or.inl ⟨by rfl, ?_⟩) hHeld ?_
    rotate_left
    focus
      intro w hSw
      clear hSw
      go_simp
      try with_reducible rfl
    try simp only [Act.put, List.getElem_toArray, List.getElem_cons_zero, List.getElem_cons_succ, List.setIfInBounds_toArray, List.set_cons_zero, List.set_cons_succ]
    refine wpAnyH_take (i := 21) rfl (by kernel_rfl) (by kernel_rfl) (by kernel_rfl) (fun _ _ _ h => h) (yieldsIf_load_mid (by rfl) 45 _ rfl ba (0) rfl [.int .i64 1, .int .i64 0] _ (fun w h => h.1) Tryd.underlying45 rfl size_task) hHeld ?_
    try simp only [Act.put, List.getElem_toArray, List.getElem_cons_zero, List.getElem_cons_succ, List.setIfInBounds_toArray, List.set_cons_zero, List.set_cons_succ]
    refine wpAnyH_ready (rs := [22]) (by kernel_rfl) (by simp) ?_
    refine AllReadyH.cons rfl (fun K hK => ?_) AllReadyH.nil
    go_simp
    refine (qis_c w.heap.size w.heap.size awL ⟨1, 0⟩ w9 (show Hid _ from ⟨v, HV.out.below HB⟩) (by rw [aw_cat]; decide)).mono ?_
    rintro e w10 ⟨rfl, hb10⟩
    rw [aw_is]
    have HB := HB.trans (hb10.mono HB.size)
    have ra := rangeAt_below ra hb10 (Nat.lt_of_lt_of_le hba HBs)
    have rb := rangeAt_below rb hb10 (Nat.lt_of_lt_of_le hbb HBs)
    have HBs := HB.size
    refine hK.out _ _ ⟨ra, rb⟩ (fun hHeld => ?_)
    clear hK K
    try simp only [Act.put, List.getElem_toArray, List.getElem_cons_zero, List.getElem_cons_succ, List.setIfInBounds_toArray, List.set_cons_zero, List.set_cons_succ]
    refine wpAnyH_take (i := 23) (v := ?_) rfl (by kernel_rfl) (by kernel_rfl) (by kernel_rfl) (fun _ _ _ h => h) (Or.inl ⟨by rfl, ?_⟩) hHeld ?_
    rotate_left
    focus
      intro w hSw
      clear hSw
      go_simp
      try with_reducible rfl
    try simp only [Act.put, List.getElem_toArray, List.getElem_cons_zero, List.getElem_cons_succ, List.setIfInBounds_toArray, List.set_cons_zero, List.set_cons_succ]
    refine wpAnyH_take (i := 24) (v := ?_) rfl (by kernel_rfl) (by kernel_rfl) (by kernel_rfl) (fun _ _ _ h => h) (Or.inl ⟨by rfl, ?_⟩) hHeld ?_
    rotate_left
    focus
      intro w hSw
      clear hSw
      go_simp
      try with_reducible rfl
    try simp only [Act.put, List.getElem_toArray, List.getElem_cons_zero, List.getElem_cons_succ, List.setIfInBounds_toArray, List.set_cons_zero, List.set_cons_succ]
    refine wpAnyH_take (i := 25) (v := ?_) rfl (by kernel_rfl) (by kernel_rfl) (by kernel_rfl) (fun _ _ _ h => h) (Or.inl ⟨by rfl, ?_⟩) hHeld ?_
    rotate_left
    focus
      intro w hSw
      clear hSw
      go_simp
      try with_reducible rfl
    try simp only [Act.put, List.getElem_toArray, List.getElem_cons_zero, List.getElem_cons_succ, List.setIfInBounds_toArray, List.set_cons_zero, List.set_cons_succ]
    refine wpAnyH_take (i := 26) rfl (by kernel_rfl) (by kernel_rfl) (by kernel_rfl) (fun _ _ _ h => h) (yieldsIf_load_mid (by rfl) 45 _ rfl ba (0) rfl [.int .i64 1, .int .i64 0] _ (fun w h => h.1) Tryd.underlying45 rfl size_task) hHeld ?_
    try simp only [Act.put, List.getElem_toArray, List.getElem_cons_zero, List.getElem_cons_succ, List.setIfInBounds_toArray, List.set_cons_zero, List.set_cons_succ]
    refine wpAnyH_ready (rs := [27]) (by kernel_rfl) (by simp) ?_
    refine AllReadyH.cons rfl (fun K hK => ?_) AllReadyH.nil
    go_simp
    refine (push_dup Er w.heap.size w.heap.size awL ⟨1, 0⟩ 1 (by omega) w10 ((hE10 w10 HB).1.var 6 (by decide)).2 (Nat.lt_of_lt_of_le ((hE10 w10 HB).1.var 6 (by decide)).1 (hE10 w10 HB).2) (show Hid _ from ⟨v, HV.out.below HB⟩) (by rw [aw_cat]; decide) aw_is).mono ?_
    rintro e w11 ⟨rfl, hb11⟩
    have HB := HB.trans (hb11.mono HB.size)
    have ra := rangeAt_below ra hb11 (Nat.lt_of_lt_of_le hba HBs)
    have rb := rangeAt_below rb hb11 (Nat.lt_of_lt_of_le hbb HBs)
    have HBs := HB.size
    refine hK.out _ _ ⟨ra, rb⟩ (fun hHeld => ?_)
    clear hK K
    try simp only [Act.put, List.getElem_toArray, List.getElem_cons_zero, List.getElem_cons_succ, List.setIfInBounds_toArray, List.set_cons_zero, List.set_cons_succ]
    refine wpAnyH_ready (rs := [28]) (by kernel_rfl) (by simp) ?_
    refine AllReadyH.cons rfl (fun K hK => ?_) AllReadyH.nil
    go_simp
    refine (kind21_c w11 (hE10 w11 HB).2 (hE10 w11 HB).1 6 (by omega)).mono ?_
    rintro e w12 ⟨rfl, hb12⟩
    have HB := HB.trans (hb12.mono HB.size)
    have ra := rangeAt_below ra hb12 (Nat.lt_of_lt_of_le hba HBs)
    have rb := rangeAt_below rb hb12 (Nat.lt_of_lt_of_le hbb HBs)
    have HBs := HB.size
    refine hK.out _ _ ⟨ra, rb⟩ (fun hHeld => ?_)
    clear hK K
    try simp only [Act.put, List.getElem_toArray, List.getElem_cons_zero, List.getElem_cons_succ, List.setIfInBounds_toArray, List.set_cons_zero, List.set_cons_succ]
    refine wpAnyH_take (i := 29) (v := ?_) rfl (by kernel_rfl) (by kernel_rfl) (by kernel_rfl) (fun _ _ _ h => h) (Or.inl ⟨by rfl, ?_⟩) hHeld ?_
    rotate_left
    focus
      intro w hSw
      clear hSw
      go_simp
      try with_reducible rfl
    try simp only [Act.put, List.getElem_toArray, List.getElem_cons_zero, List.getElem_cons_succ, List.setIfInBounds_toArray, List.set_cons_zero, List.set_cons_succ]
    refine wpAnyH_take (i := 30) (v := ?_) rfl (by kernel_rfl) (by kernel_rfl) (by kernel_rfl) (fun _ _ _ h => h) (Or.inl ⟨by rfl, ?_⟩) hHeld ?_
    rotate_left
    focus
      intro w hSw
      clear hSw
      go_simp
      try with_reducible rfl
    try simp only [Act.put, List.getElem_toArray, List.getElem_cons_zero, List.getElem_cons_succ, List.setIfInBounds_toArray, List.set_cons_zero, List.set_cons_succ]
    refine wpAnyH_take (i := 31) (v := ?_) rfl (by kernel_rfl) (by kernel_rfl) (by kernel_rfl) (fun _ _ _ h => h) (Or.inl ⟨by rfl, ?_⟩) hHeld ?_
    rotate_left
    focus
      intro w hSw
      clear hSw
      go_simp
      try with_reducible rfl
    try simp only [Act.put, List.getElem_toArray, List.getElem_cons_zero, List.getElem_cons_succ, List.setIfInBounds_toArray, List.set_cons_zero, List.set_cons_succ]
    refine wpAnyH_take (i := 32) (v := ?_) rfl (by kernel_rfl) (by kernel_rfl) (by kernel_rfl) (fun _ _ _ h => h) (Or.inl ⟨by rfl, ?_⟩) hHeld ?_
    rotate_left
    focus
      intro w hSw
      clear hSw
      go_simp
      try with_reducible rfl
    try simp only [Act.put, List.getElem_toArray, List.getElem_cons_zero, List.getElem_cons_succ, List.setIfInBounds_toArray, List.set_cons_zero, List.set_cons_succ]
    refine wpAnyH_take (i := 33) rfl (by kernel_rfl) (by kernel_rfl) (by kernel_rfl) (fun _ _ _ h => h) (yieldsIf_load_mid (by rfl) 45 _ rfl ba (0) rfl [.int .i64 1, .int .i64 0] _ (fun w h => h.1) Tryd.underlying45 rfl size_task) hHeld ?_
    try simp only [Act.put, List.getElem_toArray, List.getElem_cons_zero, List.getElem_cons_succ, List.setIfInBounds_toArray, List.set_cons_zero, List.set_cons_succ]
    refine wpAnyH_ready (rs := [34]) (by kernel_rfl) (by simp) ?_
    refine AllReadyH.cons rfl (fun K hK => ?_) AllReadyH.nil
    go_simp
    refine (push_range Er w.heap.size ⟨1, 0⟩ 3 w12 ((hE10 w12 HB).1.var 1 (by decide)).2 (Nat.lt_of_lt_of_le ((hE10 w12 HB).1.var 1 (by decide)).1 (hE10 w12 HB).2) (by omega)).mono ?_
    rintro e w13 ⟨rfl, hb13⟩
    have HB := HB.trans (hb13.mono HB.size)
    have ra := rangeAt_below ra hb13 (Nat.lt_of_lt_of_le hba HBs)
    have rb := rangeAt_below rb hb13 (Nat.lt_of_lt_of_le hbb HBs)
    have HBs := HB.size
    refine hK.out _ _ ⟨ra, rb⟩ (fun hHeld => ?_)
    clear hK K
    try simp only [Act.put, List.getElem_toArray, List.getElem_cons_zero, List.getElem_cons_succ, List.setIfInBounds_toArray, List.set_cons_zero, List.set_cons_succ]
    refine wpAnyH_ready (rs := [35]) (by kernel_rfl) (by simp) ?_
    refine AllReadyH.cons rfl (fun K hK => ?_) AllReadyH.nil
    go_simp
    refine (kind21_c w13 (hE10 w13 HB).2 (hE10 w13 HB).1 1 (by omega)).mono ?_
    rintro e w14 ⟨rfl, hb14⟩
    have HB := HB.trans (hb14.mono HB.size)
    have ra := rangeAt_below ra hb14 (Nat.lt_of_lt_of_le hba HBs)
    have rb := rangeAt_below rb hb14 (Nat.lt_of_lt_of_le hbb HBs)
    have HBs := HB.size
    refine hK.out _ _ ⟨ra, rb⟩ (fun hHeld => ?_)
    clear hK K
    try simp only [Act.put, List.getElem_toArray, List.getElem_cons_zero, List.getElem_cons_succ, List.setIfInBounds_toArray, List.set_cons_zero, List.set_cons_succ]
    refine wpAnyH_take (i := 36) (v := ?_) rfl (by kernel_rfl) (by kernel_rfl) (by kernel_rfl) (fun _ _ _ h => h) (Or.inl ⟨by rfl, ?_⟩) hHeld ?_
    rotate_left
    focus
      intro w hSw
      clear hSw
      go_simp
      try with_reducible rfl
    try simp only [Act.put, List.getElem_toArray, List.getElem_cons_zero, List.getElem_cons_succ, List.setIfInBounds_toArray, List.set_cons_zero, List.set_cons_succ]
    refine wpAnyH_take (i := 37) (v := ?_) rfl (by kernel_rfl) (by kernel_rfl) (by kernel_rfl) (fun _ _ _ h => h) (Or.inl ⟨by rfl, ?_⟩) hHeld ?_
    rotate_left
    focus
      intro w hSw
      clear hSw
      go_simp
      try with_reducible rfl
    try simp only [Act.put, List.getElem_toArray, List.getElem_cons_zero, List.getElem_cons_succ, List.setIfInBounds_toArray, List.set_cons_zero, List.set_cons_succ]
    refine wpAnyH_take (i := 38) (v := ?_) rfl (by kernel_rfl) (by kernel_rfl) (by kernel_rfl) (fun _ _ _ h => h) (Or.inl ⟨by rfl, ?_⟩) hHeld ?_
    rotate_left
    focus
      intro w hSw
      clear hSw
      go_simp
      try with_reducible rfl
    try simp only [Act.put, List.getElem_toArray, List.getElem_cons_zero, List.getElem_cons_succ, List.setIfInBounds_toArray, List.set_cons_zero, List.set_cons_succ]
    refine wpAnyH_take (i := 39) (v := ?_) rfl (by kernel_rfl) (by kernel_rfl) (by kernel_rfl) (fun _ _ _ h => h) (Or.inl ⟨by rfl, ?_⟩) hHeld ?_
    rotate_left
    focus
      intro w hSw
      clear hSw
      go_simp
      try with_reducible rfl
    try simp only [Act.put, List.getElem_toArray, List.getElem_cons_zero, List.getElem_cons_succ, List.setIfInBounds_toArray, List.set_cons_zero, List.set_cons_succ]
    refine wpAnyH_ready (rs := [40]) (by kernel_rfl) (by simp) ?_
    refine AllReadyH.cons rfl (fun K hK => ?_) AllReadyH.nil
    go_simp
    refine (dropJob_c w.heap.size w.heap.size awL v 2 w14 (show Hid _ from HV.out.below HB) (by rw [aw_cat]; decide)).mono ?_
    rintro e w15 ⟨rfl, v15, hq15, hs15⟩
    rw [aw_drop]
    have ra := rangeAt_step ra hs15 hanq (fun i hi => havn i hi) (Nat.lt_of_lt_of_le hba HBs)
    have rb := rangeAt_step rb hs15 hbnq (fun i hi => hbvn i hi) (Nat.lt_of_lt_of_le hbb HBs)
    have hfin : Below w.heap.size w w15 := (hbw5.trans (HB.mono hbw5.size)).trans (hs15.below (HV.out.below HB))
    refine hK.out _ _ ⟨ra, rb⟩ (fun hHeld => ?_)
    clear hK K
    try simp only [Act.put, List.getElem_toArray, List.getElem_cons_zero, List.getElem_cons_succ, List.setIfInBounds_toArray, List.set_cons_zero, List.set_cons_succ]
    refine wpAnyH_take (i := 41) (v := ?_) rfl (by kernel_rfl) (by kernel_rfl) (by kernel_rfl) (fun _ _ _ h => h) (Or.inl ⟨by rfl, ?_⟩) hHeld ?_
    rotate_left
    focus
      intro w hSw
      clear hSw
      go_simp
      try with_reducible rfl
    try simp only [Act.put, List.getElem_toArray, List.getElem_cons_zero, List.getElem_cons_succ, List.setIfInBounds_toArray, List.set_cons_zero, List.set_cons_succ]
    refine wpAnyH_take (i := 42) (v := ?_) rfl (by kernel_rfl) (by kernel_rfl) (by kernel_rfl) (fun _ _ _ h => h) (Or.inl ⟨by rfl, ?_⟩) hHeld ?_
    rotate_left
    focus
      intro w hSw
      clear hSw
      go_simp
      try with_reducible rfl
    try simp only [Act.put, List.getElem_toArray, List.getElem_cons_zero, List.getElem_cons_succ, List.setIfInBounds_toArray, List.set_cons_zero, List.set_cons_succ]
    refine wpAnyH_take (i := 43) (v := ?_) rfl (by kernel_rfl) (by kernel_rfl) (by kernel_rfl) (fun _ _ _ h => h) (Or.inl ⟨by rfl, ?_⟩) hHeld ?_
    rotate_left
    focus
      intro w hSw
      clear hSw
      go_simp
      try with_reducible rfl
    try simp only [Act.put, List.getElem_toArray, List.getElem_cons_zero, List.getElem_cons_succ, List.setIfInBounds_toArray, List.set_cons_zero, List.set_cons_succ]
    refine wpAnyH_done (by kernel_rfl) ?_ _
    refine NoPanic.normal ?_
    go_wp2_with fail
    go_ret
    exact ⟨rfl, hfin⟩
end Go.Proofs.YtkinbidpbgkaoaaDoor
