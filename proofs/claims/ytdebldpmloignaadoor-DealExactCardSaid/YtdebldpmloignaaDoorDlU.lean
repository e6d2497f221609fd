/-
  deal: the document's Match.
-/
import Derived.Test.YtdebldpmloignaaDoorDlW
namespace Go.Proofs.YtdebldpmloignaaDoor
open Go.RowKit
set_option linter.unusedVariables false
set_option linter.unusedSimpArgs false

set_option maxRecDepth 100000 in
set_option maxHeartbeats 2000000 in
theorem rmatch_err (B u : Nat) (l : Bool → List Ord) (L : List Ord) (v : Value) (came : Nat) (o : Ord) (w : World) (hB : B ≤ w.heap.size) (h : Hid (RV w B u L v came)) (hb : Both l came L) (hc : came ≤ 1000000) (hk : addK l o ≠ 0) :
    Calls Tryd.prog 63 #[.pointer (some ⟨u, 0, none⟩), .agg o.cells.toArray] w fun e w' => e = .returned (.tuple #[.slice none 0 0, .int .i64 0, .int .i64 (addK l o)]) ∧ Below w.heap.size w w' := by
  obtain ⟨i0, hi, hz0, hz1, hz2⟩ := info_parts info_ror
  obtain ⟨oi, ot, os, op, ol, oq⟩ := o
  obtain ⟨A, c, hv, hrd, cq0, hAc, hLc⟩ := h.out.form
  obtain ⟨W0, hW0⟩ : ∃ z, z = w.alloc (.cells #[.int .i64 oi, .int .i64 ot, .bool os, .int .i64 op, .int .i64 ol, .int .i64 oq] 97) := ⟨_, rfl⟩
  have hb0 : Below w.heap.size w W0 := by rw [hW0]; exact (Below.refl _ w).alloc (Nat.le_refl _) _
  have HOB : Hid (Blk W0 w.heap.size #[.int .i64 oi, .int .i64 ot, .bool os, .int .i64 op, .int .i64 ol, .int .i64 oq] 97) := by show Blk _ _ _ _; rw [hW0]; exact Blk.new w _ _
  have cc0 : w.cell? ⟨u, 1, none⟩ = some (.int .i64 came) := h.out.blk.cell 1 _ rfl
  have HUL := Lib.hid h.out.lt
  have HRV := Lib.hid (fun (W : World) (hb : Below w.heap.size w W) => h.out.below hb)
  have cq0 := (hb0.cell (p := ⟨u, 0, none⟩) HUL.out).trans cq0
  have cc0 := (hb0.cell (p := ⟨u, 1, none⟩) HUL.out).trans cc0
  have HB0 := Lib.hid hb0
  have HW0 := Lib.hid hW0
  have HRD := Lib.hid hrd
  have HBO := Lib.hid hb
  have HC := Lib.hid hc
  have HN : Hid (L.length ≤ 32) := hb.few
  have HHB := Lib.hid hB
  clear hb0 hW0 hrd hb hc hB
  clear h hv
  obtain ⟨k, hkk⟩ : ∃ k, k = addK l ⟨oi, ot, os, op, ol, oq⟩ := ⟨_, rfl⟩
  have HK := Lib.hid hkk
  rw [← hkk] at hk ⊢
  clear hkk
  simp only [Ord.cells]
  go_enter Tryd.func63, Tryd.ntmps63
  go_wp2_with fail
  rw [← HW0.out]
  refine wp_region_noPanic ?_
  refine wp_region_held_drew (S := (fun w' => w'.cell? ⟨u, 0, none⟩ = some (.slice A L.length c) ∧ w'.cell? ⟨u, 1, none⟩ = some (.int .i64 came))) (by kernel_rfl) ⟨cq0, cc0⟩ (fun hHeld => ?_)
  refine wpAnyH_take (i := 1) (v := ?_) rfl (by kernel_rfl) (by kernel_rfl) (by kernel_rfl) (fun _ _ _ h => h) (Or.inl ⟨by rfl, ?_⟩) hHeld ?_
  rotate_left
  focus
    intro w hSw
    clear hSw
    go_simp
    try with_reducible rfl
  try simp only [Act.put, List.getElem_toArray, List.getElem_cons_zero, List.getElem_cons_succ, List.setIfInBounds_toArray, List.set_cons_zero, List.set_cons_succ]
  refine wpAnyH_take (i := 2) (v := ?_) rfl (by kernel_rfl) (by kernel_rfl) (by kernel_rfl) (fun _ _ _ h => h) (Or.inl ⟨by rfl, ?_⟩) hHeld ?_
  rotate_left
  focus
    intro w hSw
    clear hSw
    go_simp
    try with_reducible rfl
  try simp only [Act.put, List.getElem_toArray, List.getElem_cons_zero, List.getElem_cons_succ, List.setIfInBounds_toArray, List.set_cons_zero, List.set_cons_succ]
  refine wpAnyH_take (i := 3) (v := ?_) rfl (by kernel_rfl) (by kernel_rfl) (by kernel_rfl) (fun _ _ _ h => h) (Or.inl ⟨by rfl, ?_⟩) hHeld ?_
  rotate_left
  focus
    intro w hSw
    clear hSw
    go_simp
    try with_reducible rfl
  try simp only [Act.put, List.getElem_toArray, List.getElem_cons_zero, List.getElem_cons_succ, List.setIfInBounds_toArray, List.set_cons_zero, List.set_cons_succ]
  refine wpAnyH_take (i := 4) (v := ?_) rfl (by kernel_rfl) (by kernel_rfl) (by kernel_rfl) (fun _ _ _ h => h) (Or.inl ⟨by rfl, ?_⟩) hHeld ?_
  rotate_left
  focus
    intro w hSw
    (try dsimp only at hSw)
    go_simp
    try with_reducible rfl
  try simp only [Act.put, List.getElem_toArray, List.getElem_cons_zero, List.getElem_cons_succ, List.setIfInBounds_toArray, List.set_cons_zero, List.set_cons_succ]
  refine wpAnyH_take (i := 6) (v := ?_) rfl (by kernel_rfl) (by kernel_rfl) (by kernel_rfl) (fun _ _ _ h => h) (Or.inl ⟨by rfl, ?_⟩) hHeld ?_
  rotate_left
  focus
    intro w hSw
    clear hSw
    go_simp
    try with_reducible rfl
  try simp only [Act.put, List.getElem_toArray, List.getElem_cons_zero, List.getElem_cons_succ, List.setIfInBounds_toArray, List.set_cons_zero, List.set_cons_succ]
  refine wpAnyH_take (i := 7) (v := ?_) rfl (by kernel_rfl) (by kernel_rfl) (by kernel_rfl) (fun _ _ _ h => h) (Or.inl ⟨by rfl, ?_⟩) hHeld ?_
  rotate_left
  focus
    intro w hSw
    clear hSw
    go_simp
    try with_reducible rfl
  try simp only [Act.put, List.getElem_toArray, List.getElem_cons_zero, List.getElem_cons_succ, List.setIfInBounds_toArray, List.set_cons_zero, List.set_cons_succ]
  refine wpAnyH_take (i := 8) (v := ?_) rfl (by kernel_rfl) (by kernel_rfl) (by kernel_rfl) (fun _ _ _ h => h) (Or.inl ⟨by rfl, ?_⟩) hHeld ?_
  rotate_left
  focus
    intro w hSw
    clear hSw
    go_simp
    try with_reducible rfl
  try simp only [Act.put, List.getElem_toArray, List.getElem_cons_zero, List.getElem_cons_succ, List.setIfInBounds_toArray, List.set_cons_zero, List.set_cons_succ]
  refine wpAnyH_take (i := 9) (v := ?_) rfl (by kernel_rfl) (by kernel_rfl) (by kernel_rfl) (fun _ _ _ h => h) (Or.inl ⟨by rfl, ?_⟩) hHeld ?_
  rotate_left
  focus
    intro w hSw
    (try dsimp only at hSw)
    go_simp
    try with_reducible rfl
  try simp only [Act.put, List.getElem_toArray, List.getElem_cons_zero, List.getElem_cons_succ, List.setIfInBounds_toArray, List.set_cons_zero, List.set_cons_succ]
  refine wpAnyH_ready (rs := [0]) (by kernel_rfl) (by simp) ?_
  refine AllReadyH.cons rfl (fun K hK => ?_) AllReadyH.nil
  go_simp
  have HBA : Hid (Below W0.heap.size W0 (W0.drew.alloc (.cells #[] 97))) := Below.alloc (show Below W0.heap.size W0 W0.drew from ⟨rfl, rfl, rfl, Nat.le_refl _, fun _ _ => rfl⟩) (Nat.le_refl _) _
  have HEMP : Hid ((W0.drew.alloc (.cells #[] 97)).ownsRow W0.heap.size 97 6 (.slice (some ⟨W0.heap.size, 0, none⟩) 0 0) ([] : List Ord).length (flatOf Ord.cells ([] : List Ord))) := own_empty (w := W0.drew) (e := 97) (size := 6) (Nat.le_refl _)
  have cqA := (HBA.out.cell (p := ⟨u, 0, none⟩) (Nat.lt_of_lt_of_le HUL.out HB0.out.size)).trans cq0
  have ccA := (HBA.out.cell (p := ⟨u, 1, none⟩) (Nat.lt_of_lt_of_le HUL.out HB0.out.size)).trans cc0
  have HSRC := Lib.hid (src_all (HRD.out.below (HB0.out.trans (HBA.out.mono HB0.out.size)) (Nat.le_refl _)) hAc hLc)
  refine hK.out _ _ ⟨cqA, ccA⟩ (fun hHeld => ?_)
  clear hK K
  try simp only [Act.put, List.getElem_toArray, List.getElem_cons_zero, List.getElem_cons_succ, List.setIfInBounds_toArray, List.set_cons_zero, List.set_cons_succ]
  refine wpAnyH_ready (rs := [5]) (by kernel_rfl) (by simp) ?_
  refine AllReadyH.cons rfl (fun K hK => ?_) AllReadyH.nil
  rw [if_pos (by rfl)]
  refine wp_append_src (enc := Ord.cells) _ _ 92 rfl W0.heap.size 97 i0 (.agg #[.int .i64 0, .int .i64 0, .bool false, .int .i64 0, .int .i64 0, .int .i64 0]) 6 48 Tryd.underlying92 hi hz0 hz1 hz2 rfl (by decide) Ord.k6 Ord.one _ ([] : List Ord) rfl HEMP.out _ L.length L rfl HSRC.out ?ca0 ?ca1 ?ca2 ?_
  case ca0 => have := HN.out; unfold maxLen; simp; omega
  case ca1 => have := HN.out; simp; omega
  case ca2 => exact HBA.out.size
  intro v3 w3 hown3 hg3
  have hown3 : w3.ownsRow W0.heap.size 97 6 v3 L.length (flatOf Ord.cells L) := hown3
  have HBC := Lib.hid (below_app (B := W0.heap.size) HBA.out HBA.out.size (Nat.le_refl _) HEMP.out hg3)
  have cqB := (HBC.out.cell (p := ⟨u, 0, none⟩) (Nat.lt_of_lt_of_le HUL.out HB0.out.size)).trans cq0
  have ccB := (HBC.out.cell (p := ⟨u, 1, none⟩) (Nat.lt_of_lt_of_le HUL.out HB0.out.size)).trans cc0
  obtain ⟨a3, c3, rfl⟩ := own_len hown3
  have HO3 := Lib.hid hown3
  clear hown3 hg3
  refine hK.out _ _ ⟨cqB, ccB⟩ (fun hHeld => ?_)
  clear hK K
  try simp only [Act.put, List.getElem_toArray, List.getElem_cons_zero, List.getElem_cons_succ, List.setIfInBounds_toArray, List.set_cons_zero, List.set_cons_succ]
  refine wpAnyH_take (i := 10) (v := ?_) rfl (by kernel_rfl) (by kernel_rfl) (by kernel_rfl) (fun _ _ _ h => h) (Or.inl ⟨by rfl, ?_⟩) hHeld ?_
  rotate_left
  focus
    intro w hSw
    clear hSw
    go_simp
    try with_reducible rfl
  try simp only [Act.put, List.getElem_toArray, List.getElem_cons_zero, List.getElem_cons_succ, List.setIfInBounds_toArray, List.set_cons_zero, List.set_cons_succ]
  refine wpAnyH_ready (rs := [11]) (by kernel_rfl) (by simp) ?_
  refine AllReadyH.cons rfl (fun K hK => ?_) AllReadyH.nil
  go_simp
  obtain ⟨W5, hW5⟩ : ∃ z, z = w3.alloc (.cells #[.slice a3 L.length c3, .int .i64 came] 94) := ⟨_, rfl⟩
  obtain ⟨U, hU⟩ : ∃ z, z = w3.heap.size := ⟨_, rfl⟩
  have hb5 : Below w3.heap.size w3 W5 := by rw [hW5]; exact (Below.refl _ _).alloc (Nat.le_refl _) _
  have HB5 : Hid (Below W0.heap.size W0 W5) := HBC.out.trans (hb5.mono HBC.out.size)
  have HV5 : Hid (RV W5 W0.heap.size U L (.slice a3 L.length c3) came) := by
    refine ⟨by rw [hU]; exact HBC.out.size, by rw [hW5, hU]; exact Blk.new w3 _ _, ?_⟩
    exact (Turns.of_below (F := fun _ => False) hb5).owns HO3.out (fun _ _ h => h)
  have cqC := (HB5.out.cell (p := ⟨u, 0, none⟩) (Nat.lt_of_lt_of_le HUL.out HB0.out.size)).trans cq0
  have ccC := (HB5.out.cell (p := ⟨u, 1, none⟩) (Nat.lt_of_lt_of_le HUL.out HB0.out.size)).trans cc0
  have HW5 := Lib.hid hW5
  have HUE := Lib.hid hU
  clear hb5
  rw [← hW5, ← hU]
  clear hW5 hU
  refine hK.out _ _ ⟨cqC, ccC⟩ (fun hHeld => ?_)
  clear hK K
  try simp only [Act.put, List.getElem_toArray, List.getElem_cons_zero, List.getElem_cons_succ, List.setIfInBounds_toArray, List.set_cons_zero, List.set_cons_succ]
  refine wpAnyH_take (i := 12) (v := ?_) rfl (by kernel_rfl) (by kernel_rfl) (by kernel_rfl) (fun _ _ _ h => h) (Or.inl ⟨by rfl, ?_⟩) hHeld ?_
  rotate_left
  focus
    intro w hSw
    clear hSw
    go_simp
    try with_reducible rfl
  try simp only [Act.put, List.getElem_toArray, List.getElem_cons_zero, List.getElem_cons_succ, List.setIfInBounds_toArray, List.set_cons_zero, List.set_cons_succ]
  refine wpAnyH_done (by kernel_rfl) ?_ _
  refine NoPanic.normal ?_
  have r5 : W5.rangeAt w.heap.size 0 [.int .i64 oi, .int .i64 ot, .bool os, .int .i64 op, .int .i64 ol, .int .i64 oq] := rangeAt_blk (HOB.out.below HB5.out)
  clear cq0 cc0 cqA ccA cqB ccB cqC ccC HEMP HSRC HBA HBC HO3 hAc hLc
  go_wp2_with (refine wpList_load_mid rfl 97 _ rfl w.heap.size 0 rfl [.int .i64 oi, .int .i64 ot, .bool os, .int .i64 op, .int .i64 ol, .int .i64 oq] _ r5 Tryd.underlying97 rfl size_ror ?_)
  refine (radd_any W0.heap.size U l L (.slice a3 L.length c3) came ⟨oi, ot, os, op, ol, oq⟩ W5 HB5.out.size HV5 HBO.out HC.out).mono ?_
  rintro e w6 ⟨rfl, L6, v6, _, _, hs6⟩
  have HB6 : Hid (Below W0.heap.size W0 w6) := HB5.out.trans hs6.below
  clear hs6 r5
  rw [← HK.out]
  have hkn : ((k : Int) != 0) = true := by simpa using hk
  clear hk
  go_wp2_with fail
  go_ret3
  exact ⟨rfl, HB0.out.trans (HB6.out.mono HB0.out.size)⟩
set_option maxRecDepth 100000 in
set_option maxHeartbeats 4000000 in
theorem rmatch_ok (B u : Nat) (l : Bool → List Ord) (L : List Ord) (v : Value) (came : Nat) (o : Ord) (w : World) (hB : B ≤ w.heap.size) (h : Hid (RV w B u L v came)) (hb : Both l came L) (hc : came ≤ 1000000) (hk : addK l o = 0) :
    Calls Tryd.prog 63 #[.pointer (some ⟨u, 0, none⟩), .agg o.cells.toArray] w (RMatchQ w B u v l o came) := by
  obtain ⟨j0, hj, hy0, hy1, hy2⟩ := info_parts info_rft
  have HK := Lib.hid hk
  have HOL : Hid (1 ≤ o.lots ∧ o.lots ≤ 1000) := by
    have := (addK_parts hk).1
    unfold Ord.good at this
    simp at this
    show _ ∧ _
    omega
  have HMR0 : Hid (MR o l came [] o.lots (l (!o.sell))) := MR.start hb.inv (by have := HOL.out; omega)
  have HBT0 : Hid (Both (updL l (!o.sell) (l (!o.sell))) came L) := by show Both _ _ _; rw [updL_self]; exact hb
  have HVX : Hid (v.ownBlock ≠ some w.heap.size) := fun e => by have := (h.out.row.lt _ e).2; omega
  obtain ⟨i0, hi, hz0, hz1, hz2⟩ := info_parts info_ror
  obtain ⟨oi, ot, os, op, ol, oq⟩ := o
  obtain ⟨A, c, hv, hrd, cq0, hAc, hLc⟩ := h.out.form
  obtain ⟨W0, hW0⟩ : ∃ z, z = w.alloc (.cells #[.int .i64 oi, .int .i64 ot, .bool os, .int .i64 op, .int .i64 ol, .int .i64 oq] 97) := ⟨_, rfl⟩
  have hb0 : Below w.heap.size w W0 := by rw [hW0]; exact (Below.refl _ w).alloc (Nat.le_refl _) _
  have HOB : Hid (Blk W0 w.heap.size #[.int .i64 oi, .int .i64 ot, .bool os, .int .i64 op, .int .i64 ol, .int .i64 oq] 97) := by show Blk _ _ _ _; rw [hW0]; exact Blk.new w _ _
  have cc0 : w.cell? ⟨u, 1, none⟩ = some (.int .i64 came) := h.out.blk.cell 1 _ rfl
  have HUL := Lib.hid h.out.lt
  have HRV := Lib.hid (fun (W : World) (hb : Below w.heap.size w W) => h.out.below hb)
  have cq0 := (hb0.cell (p := ⟨u, 0, none⟩) HUL.out).trans cq0
  have cc0 := (hb0.cell (p := ⟨u, 1, none⟩) HUL.out).trans cc0
  have HB0 := Lib.hid hb0
  have HW0 := Lib.hid hW0
  have HRD := Lib.hid hrd
  have HBO := Lib.hid hb
  have HC := Lib.hid hc
  have HN : Hid (L.length ≤ 32) := hb.few
  have HHB := Lib.hid hB
  clear hb0 hW0 hrd hb hc hB
  clear h hk
  have hk0 : ((0 : Int) != 0) = false := rfl
  simp only [Ord.cells]
  go_enter Tryd.func63, Tryd.ntmps63
  go_wp2_with fail
  rw [← HW0.out]
  refine wp_region_noPanic ?_
  refine wp_region_held_drew (S := (fun w' => w'.cell? ⟨u, 0, none⟩ = some (.slice A L.length c) ∧ w'.cell? ⟨u, 1, none⟩ = some (.int .i64 came))) (by kernel_rfl) ⟨cq0, cc0⟩ (fun hHeld => ?_)
  refine wpAnyH_take (i := 1) (v := ?_) rfl (by kernel_rfl) (by kernel_rfl) (by kernel_rfl) (fun _ _ _ h => h) (Or.inl ⟨by rfl, ?_⟩) hHeld ?_
  rotate_left
  focus
    intro w hSw
    clear hSw
    go_simp
    try with_reducible rfl
  try simp only [Act.put, List.getElem_toArray, List.getElem_cons_zero, List.getElem_cons_succ, List.setIfInBounds_toArray, List.set_cons_zero, List.set_cons_succ]
  refine wpAnyH_take (i := 2) (v := ?_) rfl (by kernel_rfl) (by kernel_rfl) (by kernel_rfl) (fun _ _ _ h => h) (Or.inl ⟨by rfl, ?_⟩) hHeld ?_
  rotate_left
  focus
    intro w hSw
    clear hSw
    go_simp
    try with_reducible rfl
  try simp only [Act.put, List.getElem_toArray, List.getElem_cons_zero, List.getElem_cons_succ, List.setIfInBounds_toArray, List.set_cons_zero, List.set_cons_succ]
  refine wpAnyH_take (i := 3) (v := ?_) rfl (by kernel_rfl) (by kernel_rfl) (by kernel_rfl) (fun _ _ _ h => h) (Or.inl ⟨by rfl, ?_⟩) hHeld ?_
  rotate_left
  focus
    intro w hSw
    clear hSw
    go_simp
    try with_reducible rfl
  try simp only [Act.put, List.getElem_toArray, List.getElem_cons_zero, List.getElem_cons_succ, List.setIfInBounds_toArray, List.set_cons_zero, List.set_cons_succ]
  refine wpAnyH_take (i := 4) (v := ?_) rfl (by kernel_rfl) (by kernel_rfl) (by kernel_rfl) (fun _ _ _ h => h) (Or.inl ⟨by rfl, ?_⟩) hHeld ?_
  rotate_left
  focus
    intro w hSw
    (try dsimp only at hSw)
    go_simp
    try with_reducible rfl
  try simp only [Act.put, List.getElem_toArray, List.getElem_cons_zero, List.getElem_cons_succ, List.setIfInBounds_toArray, List.set_cons_zero, List.set_cons_succ]
  refine wpAnyH_take (i := 6) (v := ?_) rfl (by kernel_rfl) (by kernel_rfl) (by kernel_rfl) (fun _ _ _ h => h) (Or.inl ⟨by rfl, ?_⟩) hHeld ?_
  rotate_left
  focus
    intro w hSw
    clear hSw
    go_simp
    try with_reducible rfl
  try simp only [Act.put, List.getElem_toArray, List.getElem_cons_zero, List.getElem_cons_succ, List.setIfInBounds_toArray, List.set_cons_zero, List.set_cons_succ]
  refine wpAnyH_take (i := 7) (v := ?_) rfl (by kernel_rfl) (by kernel_rfl) (by kernel_rfl) (fun _ _ _ h => h) (Or.inl ⟨by rfl, ?_⟩) hHeld ?_
  rotate_left
  focus
    intro w hSw
    clear hSw
    go_simp
    try with_reducible rfl
  try simp only [Act.put, List.getElem_toArray, List.getElem_cons_zero, List.getElem_cons_succ, List.setIfInBounds_toArray, List.set_cons_zero, List.set_cons_succ]
  refine wpAnyH_take (i := 8) (v := ?_) rfl (by kernel_rfl) (by kernel_rfl) (by kernel_rfl) (fun _ _ _ h => h) (Or.inl ⟨by rfl, ?_⟩) hHeld ?_
  rotate_left
  focus
    intro w hSw
    clear hSw
    go_simp
    try with_reducible rfl
  try simp only [Act.put, List.getElem_toArray, List.getElem_cons_zero, List.getElem_cons_succ, List.setIfInBounds_toArray, List.set_cons_zero, List.set_cons_succ]
  refine wpAnyH_take (i := 9) (v := ?_) rfl (by kernel_rfl) (by kernel_rfl) (by kernel_rfl) (fun _ _ _ h => h) (Or.inl ⟨by rfl, ?_⟩) hHeld ?_
  rotate_left
  focus
    intro w hSw
    (try dsimp only at hSw)
    go_simp
    try with_reducible rfl
  try simp only [Act.put, List.getElem_toArray, List.getElem_cons_zero, List.getElem_cons_succ, List.setIfInBounds_toArray, List.set_cons_zero, List.set_cons_succ]
  refine wpAnyH_ready (rs := [0]) (by kernel_rfl) (by simp) ?_
  refine AllReadyH.cons rfl (fun K hK => ?_) AllReadyH.nil
  go_simp
  have HBA : Hid (Below W0.heap.size W0 (W0.drew.alloc (.cells #[] 97))) := Below.alloc (show Below W0.heap.size W0 W0.drew from ⟨rfl, rfl, rfl, Nat.le_refl _, fun _ _ => rfl⟩) (Nat.le_refl _) _
  have HEMP : Hid ((W0.drew.alloc (.cells #[] 97)).ownsRow W0.heap.size 97 6 (.slice (some ⟨W0.heap.size, 0, none⟩) 0 0) ([] : List Ord).length (flatOf Ord.cells ([] : List Ord))) := own_empty (w := W0.drew) (e := 97) (size := 6) (Nat.le_refl _)
  have cqA := (HBA.out.cell (p := ⟨u, 0, none⟩) (Nat.lt_of_lt_of_le HUL.out HB0.out.size)).trans cq0
  have ccA := (HBA.out.cell (p := ⟨u, 1, none⟩) (Nat.lt_of_lt_of_le HUL.out HB0.out.size)).trans cc0
  have HSRC := Lib.hid (src_all (HRD.out.below (HB0.out.trans (HBA.out.mono HB0.out.size)) (Nat.le_refl _)) hAc hLc)
  refine hK.out _ _ ⟨cqA, ccA⟩ (fun hHeld => ?_)
  clear hK K
  try simp only [Act.put, List.getElem_toArray, List.getElem_cons_zero, List.getElem_cons_succ, List.setIfInBounds_toArray, List.set_cons_zero, List.set_cons_succ]
  refine wpAnyH_ready (rs := [5]) (by kernel_rfl) (by simp) ?_
  refine AllReadyH.cons rfl (fun K hK => ?_) AllReadyH.nil
  rw [if_pos (by rfl)]
  refine wp_append_src (enc := Ord.cells) _ _ 92 rfl W0.heap.size 97 i0 (.agg #[.int .i64 0, .int .i64 0, .bool false, .int .i64 0, .int .i64 0, .int .i64 0]) 6 48 Tryd.underlying92 hi hz0 hz1 hz2 rfl (by decide) Ord.k6 Ord.one _ ([] : List Ord) rfl HEMP.out _ L.length L rfl HSRC.out ?ca0 ?ca1 ?ca2 ?_
  case ca0 => have := HN.out; unfold maxLen; simp; omega
  case ca1 => have := HN.out; simp; omega
  case ca2 => exact HBA.out.size
  intro v3 w3 hown3 hg3
  have hown3 : w3.ownsRow W0.heap.size 97 6 v3 L.length (flatOf Ord.cells L) := hown3
  have HBC := Lib.hid (below_app (B := W0.heap.size) HBA.out HBA.out.size (Nat.le_refl _) HEMP.out hg3)
  have cqB := (HBC.out.cell (p := ⟨u, 0, none⟩) (Nat.lt_of_lt_of_le HUL.out HB0.out.size)).trans cq0
  have ccB := (HBC.out.cell (p := ⟨u, 1, none⟩) (Nat.lt_of_lt_of_le HUL.out HB0.out.size)).trans cc0
  obtain ⟨a3, c3, rfl⟩ := own_len hown3
  have HO3 := Lib.hid hown3
  clear hown3 hg3
  refine hK.out _ _ ⟨cqB, ccB⟩ (fun hHeld => ?_)
  clear hK K
  try simp only [Act.put, List.getElem_toArray, List.getElem_cons_zero, List.getElem_cons_succ, List.setIfInBounds_toArray, List.set_cons_zero, List.set_cons_succ]
  refine wpAnyH_take (i := 10) (v := ?_) rfl (by kernel_rfl) (by kernel_rfl) (by kernel_rfl) (fun _ _ _ h => h) (Or.inl ⟨by rfl, ?_⟩) hHeld ?_
  rotate_left
  focus
    intro w hSw
    clear hSw
    go_simp
    try with_reducible rfl
  try simp only [Act.put, List.getElem_toArray, List.getElem_cons_zero, List.getElem_cons_succ, List.setIfInBounds_toArray, List.set_cons_zero, List.set_cons_succ]
  refine wpAnyH_ready (rs := [11]) (by kernel_rfl) (by simp) ?_
  refine AllReadyH.cons rfl (fun K hK => ?_) AllReadyH.nil
  go_simp
  obtain ⟨W5, hW5⟩ : ∃ z, z = w3.alloc (.cells #[.slice a3 L.length c3, .int .i64 came] 94) := ⟨_, rfl⟩
  obtain ⟨U, hU⟩ : ∃ z, z = w3.heap.size := ⟨_, rfl⟩
  have hb5 : Below w3.heap.size w3 W5 := by rw [hW5]; exact (Below.refl _ _).alloc (Nat.le_refl _) _
  have HB5 : Hid (Below W0.heap.size W0 W5) := HBC.out.trans (hb5.mono HBC.out.size)
  have HV5 : Hid (RV W5 W0.heap.size U L (.slice a3 L.length c3) came) := by
    refine ⟨by rw [hU]; exact HBC.out.size, by rw [hW5, hU]; exact Blk.new w3 _ _, ?_⟩
    exact (Turns.of_below (F := fun _ => False) hb5).owns HO3.out (fun _ _ h => h)
  have cqC := (HB5.out.cell (p := ⟨u, 0, none⟩) (Nat.lt_of_lt_of_le HUL.out HB0.out.size)).trans cq0
  have ccC := (HB5.out.cell (p := ⟨u, 1, none⟩) (Nat.lt_of_lt_of_le HUL.out HB0.out.size)).trans cc0
  have HW5 := Lib.hid hW5
  have HUE := Lib.hid hU
  clear hb5
  rw [← hW5, ← hU]
  clear hW5 hU
  refine hK.out _ _ ⟨cqC, ccC⟩ (fun hHeld => ?_)
  clear hK K
  try simp only [Act.put, List.getElem_toArray, List.getElem_cons_zero, List.getElem_cons_succ, List.setIfInBounds_toArray, List.set_cons_zero, List.set_cons_succ]
  refine wpAnyH_take (i := 12) (v := ?_) rfl (by kernel_rfl) (by kernel_rfl) (by kernel_rfl) (fun _ _ _ h => h) (Or.inl ⟨by rfl, ?_⟩) hHeld ?_
  rotate_left
  focus
    intro w hSw
    clear hSw
    go_simp
    try with_reducible rfl
  try simp only [Act.put, List.getElem_toArray, List.getElem_cons_zero, List.getElem_cons_succ, List.setIfInBounds_toArray, List.set_cons_zero, List.set_cons_succ]
  refine wpAnyH_done (by kernel_rfl) ?_ _
  refine NoPanic.normal ?_
  have r5 : W5.rangeAt w.heap.size 0 [.int .i64 oi, .int .i64 ot, .bool os, .int .i64 op, .int .i64 ol, .int .i64 oq] := rangeAt_blk (HOB.out.below HB5.out)
  clear cq0 cc0 cqA ccA cqB ccB cqC ccC HEMP HSRC HBA HBC HO3 hAc hLc
  go_wp2_with (refine wpList_load_mid rfl 97 _ rfl w.heap.size 0 rfl [.int .i64 oi, .int .i64 ot, .bool os, .int .i64 op, .int .i64 ol, .int .i64 oq] _ r5 Tryd.underlying97 rfl size_ror ?_)
  refine (radd_any W0.heap.size U l L (.slice a3 L.length c3) came ⟨oi, ot, os, op, ol, oq⟩ W5 HB5.out.size HV5 HBO.out HC.out).mono ?_
  rintro e w6 ⟨rfl, L6, v6, _, _, hs6⟩
  have HB6 : Hid (Below W0.heap.size W0 w6) := HB5.out.trans hs6.below
  clear hs6 r5
  rw [HK.out, show ((0 : Nat) : Int) = 0 from rfl]
  have HB7 : Hid (Below w.heap.size w (w6.alloc (.cells #[] 111))) := (HB0.out.trans (HB6.out.mono HB0.out.size)).alloc (HB0.out.trans (HB6.out.mono HB0.out.size)).size _
  have HM7 : Hid (MD w (w6.alloc (.cells #[] 111)) B u L v v came ⟨oi, ot, os, op, ol, oq⟩ (.slice (some ⟨w6.heap.size, 0, none⟩) 0 0) []) := by
    have hb67 : Below W0.heap.size W0 (w6.alloc (.cells #[] 111)) := HB6.out.alloc HB6.out.size _
    exact ⟨HRV.out _ HB7.out, RTo.ofBelow HHB.out HB7.out, HOB.out.below hb67, HUL.out, HVX.out, own_empty (w := w6) (e := 111) (size := 6) (HB0.out.trans (HB6.out.mono HB0.out.size)).size⟩
  clear HOB HB5 HV5 HW5 HUE
  cases os with
  | true =>
    simp only [Bool.not_true] at *
    have j5 := HB6.out
    go_wp2_with fail
    go_loopw [9] (fun s9 wx => ∃ (out : List Fill) (z : Int) (S : List Ord) (L1 : List Ord) (v1 : Value) (W0 : World), W0 = wx ∧ Hid (MR ⟨oi, ot, true, op, ol, oq⟩ l came out z S) ∧ Hid (Both (updL l false S) came L1) ∧ Hid (MD w W0 B u L1 v v1 came ⟨oi, ot, true, op, z, oq⟩ s9 out)) (fun _ wx => lotsAt w.heap.size wx)
    case atStart => exact ⟨[], ol, l false, L, v, _, rfl, HMR0, HBT0, HM7⟩
    case round =>
      obtain ⟨out, z, S, L1, v1, WR, rfl, HMR, HBT, HM⟩ := hrel
      clear HMR0 HBT0 HM7
      obtain ⟨a9, c9, rfl⟩ := own_len HM.out.own
      have HZ0 := Lib.hid HMR.out.z0
      have k4 : WR.cell? ⟨w.heap.size, 4, none⟩ = some (.int .i64 z) := HM.out.k4
      by_cases hz : z = 0
      · have hn : nextOk ⟨oi, ot, true, op, ol, oq⟩ z S = false := by subst hz; unfold nextOk; cases S <;> simp
        have HEND := Lib.hid (rmatch_done0 (HM.out.below (show Below WR.heap.size WR WR.drew from ⟨rfl, rfl, rfl, Nat.le_refl _, fun _ _ => rfl⟩)) HMR.out HBT.out hn hz)
        have hz' : decide (0 < z) = false := by simp; omega
        subst hz
        clear hn
        go_wp2_with fail
        refine wp_region_noPanic ?_
        refine wp_region_held_drew (S := (fun w' => w'.cell? ⟨w.heap.size, 4, none⟩ = some (.int .i64 0))) (by kernel_rfl) k4 (fun hHeld => ?_)
        refine wpAnyH_take (i := 0) (v := ?_) rfl (by kernel_rfl) (by kernel_rfl) (by kernel_rfl) (fun _ _ _ h => h) (Or.inl ⟨by rfl, ?_⟩) hHeld ?_
        rotate_left
        focus
          intro w hSw
          clear hSw
          go_simp
          try with_reducible rfl
        try simp only [Act.put, List.getElem_toArray, List.getElem_cons_zero, List.getElem_cons_succ, List.setIfInBounds_toArray, List.set_cons_zero, List.set_cons_succ]
        refine wpAnyH_take (i := 1) (v := ?_) rfl (by kernel_rfl) (by kernel_rfl) (by kernel_rfl) (fun _ _ _ h => h) (Or.inl ⟨by rfl, ?_⟩) hHeld ?_
        rotate_left
        focus
          intro w hSw
          clear hSw
          go_simp
          try with_reducible rfl
        try simp only [Act.put, List.getElem_toArray, List.getElem_cons_zero, List.getElem_cons_succ, List.setIfInBounds_toArray, List.set_cons_zero, List.set_cons_succ]
        refine wpAnyH_take (i := 2) (v := ?_) rfl (by kernel_rfl) (by kernel_rfl) (by kernel_rfl) (fun _ _ _ h => h) (Or.inl ⟨by rfl, ?_⟩) hHeld ?_
        rotate_left
        focus
          intro w hSw
          (try dsimp only at hSw)
          go_simp
          try with_reducible rfl
        try simp only [Act.put, List.getElem_toArray, List.getElem_cons_zero, List.getElem_cons_succ, List.setIfInBounds_toArray, List.set_cons_zero, List.set_cons_succ]
        refine wpAnyH_take (i := 3) (v := ?_) rfl (by kernel_rfl) (by kernel_rfl) (by kernel_rfl) (fun _ _ _ h => h) (Or.inl ⟨by rfl, ?_⟩) hHeld ?_
        rotate_left
        focus
          intro w hSw
          clear hSw
          go_simp
          try with_reducible rfl
        try simp only [Act.put, List.getElem_toArray, List.getElem_cons_zero, List.getElem_cons_succ, List.setIfInBounds_toArray, List.set_cons_zero, List.set_cons_succ]
        refine wpAnyH_take (i := 4) (v := ?_) rfl (by kernel_rfl) (by kernel_rfl) (by kernel_rfl) (fun _ _ _ h => h) (Or.inl ⟨by rfl, ?_⟩) hHeld ?_
        rotate_left
        focus
          intro w hSw
          clear hSw
          go_simp
          try with_reducible rfl
        try simp only [Act.put, List.getElem_toArray, List.getElem_cons_zero, List.getElem_cons_succ, List.setIfInBounds_toArray, List.set_cons_zero, List.set_cons_succ]
        refine wpAnyH_take (i := 5) (v := ?_) rfl (by kernel_rfl) (by kernel_rfl) (by kernel_rfl) (fun _ _ _ h => h) (Or.inl ⟨by rfl, ?_⟩) hHeld ?_
        rotate_left
        focus
          intro w hSw
          clear hSw
          go_simp
          try with_reducible rfl
        try simp only [Act.put, List.getElem_toArray, List.getElem_cons_zero, List.getElem_cons_succ, List.setIfInBounds_toArray, List.set_cons_zero, List.set_cons_succ]
        refine wpAnyH_done (by kernel_rfl) ?_ _
        refine NoPanic.normal ?_
        go_wp2_with fail
        go_ret3
        exact HEND.out
      · have hz' : decide (0 < z) = true := by have := HZ0.out; simp; omega
        have hz1 : 1 ≤ z := by have := HZ0.out; omega
        have hz2 : z ≤ 1000 := by have := HMR.out.z1; have := HOL.out; simp only at *; omega
        have k2 : WR.cell? ⟨w.heap.size, 2, none⟩ = some (.bool true) := HM.out.k2
        have HRL := Lib.hid (rlist_c B u L1 v1 came false WR (Lib.hid HM.out.rv) (Nat.le_trans HBT.out.few (by decide)))
        rw [HBT.out.list false, updL_same] at HRL
        go_wp2_with fail
        refine HRL.out.mono ?_
        rintro e W1 ⟨va, rfl, hown1, hb1⟩
        have HM1 := Lib.hid (HM.out.below hb1)
        have k2 : W1.cell? ⟨w.heap.size, 2, none⟩ = some (.bool true) := HM1.out.k2
        have k3 : W1.cell? ⟨w.heap.size, 3, none⟩ = some (.int .i64 op) := HM1.out.k3
        have k4 : W1.cell? ⟨w.heap.size, 4, none⟩ = some (.int .i64 z) := HM1.out.k4
        clear hb1 HRL
        cases S with
        | nil =>
          have hn : nextOk ⟨oi, ot, true, op, ol, oq⟩ z [] = false := rfl
          obtain ⟨al, cl, rfl⟩ := own_len hown1
          clear hown1
          go_wp2_with fail
          refine wp_region_noPanic ?_
          refine wp_region_held_drew (S := (fun w' => w'.cell? ⟨w.heap.size, 2, none⟩ = some (.bool true) ∧ w'.cell? ⟨w.heap.size, 3, none⟩ = some (.int .i64 op))) (by kernel_rfl) ⟨k2, k3⟩ (fun hHeld => ?_)
          refine wpAnyH_take (i := 0) (v := ?_) rfl (by kernel_rfl) (by kernel_rfl) (by kernel_rfl) (fun _ _ _ h => h) (Or.inl ⟨by rfl, ?_⟩) hHeld ?_
          rotate_left
          focus
            intro w hSw
            clear hSw
            go_simp
            try with_reducible rfl
          try simp only [Act.put, List.getElem_toArray, List.getElem_cons_zero, List.getElem_cons_succ, List.setIfInBounds_toArray, List.set_cons_zero, List.set_cons_succ]
          refine wpAnyH_take (i := 1) (v := ?_) rfl (by kernel_rfl) (by kernel_rfl) (by kernel_rfl) (fun _ _ _ h => h) (Or.inl ⟨by rfl, ?_⟩) hHeld ?_
          rotate_left
          focus
            intro w hSw
            clear hSw
            go_simp
            try with_reducible rfl
          try simp only [Act.put, List.getElem_toArray, List.getElem_cons_zero, List.getElem_cons_succ, List.setIfInBounds_toArray, List.set_cons_zero, List.set_cons_succ]
          refine wpAnyH_take (i := 2) (v := ?_) rfl (by kernel_rfl) (by kernel_rfl) (by kernel_rfl) (fun _ _ _ h => h) (Or.inl ⟨by rfl, ?_⟩) hHeld ?_
          rotate_left
          focus
            intro w hSw
            clear hSw
            go_simp
            try with_reducible rfl
          try simp only [Act.put, List.getElem_toArray, List.getElem_cons_zero, List.getElem_cons_succ, List.setIfInBounds_toArray, List.set_cons_zero, List.set_cons_succ]
          refine wpAnyH_take (i := 3) (v := ?_) rfl (by kernel_rfl) (by kernel_rfl) (by kernel_rfl) (fun _ _ _ h => h) (Or.inl ⟨by rfl, ?_⟩) hHeld ?_
          rotate_left
          focus
            intro w hSw
            clear hSw
            go_simp
            try with_reducible rfl
          try simp only [Act.put, List.getElem_toArray, List.getElem_cons_zero, List.getElem_cons_succ, List.setIfInBounds_toArray, List.set_cons_zero, List.set_cons_succ]
          refine wpAnyH_take (i := 4) (v := undef) rfl (by kernel_rfl) (by kernel_rfl) (by kernel_rfl) (fun _ _ _ h => h) (Or.inr ⟨by rfl, rfl⟩) hHeld ?_
          try simp only [Act.put, List.getElem_toArray, List.getElem_cons_zero, List.getElem_cons_succ, List.setIfInBounds_toArray, List.set_cons_zero, List.set_cons_succ]
          refine wpAnyH_take (i := 5) (v := undef) rfl (by kernel_rfl) (by kernel_rfl) (by kernel_rfl) (fun _ _ _ h => h) (Or.inr ⟨by rfl, rfl⟩) hHeld ?_
          try simp only [Act.put, List.getElem_toArray, List.getElem_cons_zero, List.getElem_cons_succ, List.setIfInBounds_toArray, List.set_cons_zero, List.set_cons_succ]
          refine wpAnyH_take (i := 6) (v := undef) rfl (by kernel_rfl) (by kernel_rfl) (by kernel_rfl) (fun _ _ _ h => h) (Or.inr ⟨by rfl, rfl⟩) hHeld ?_
          try simp only [Act.put, List.getElem_toArray, List.getElem_cons_zero, List.getElem_cons_succ, List.setIfInBounds_toArray, List.set_cons_zero, List.set_cons_succ]
          refine wpAnyH_take (i := 7) (v := undef) rfl (by kernel_rfl) (by kernel_rfl) (by kernel_rfl) (fun _ _ _ h => h) (Or.inr ⟨by rfl, rfl⟩) hHeld ?_
          try simp only [Act.put, List.getElem_toArray, List.getElem_cons_zero, List.getElem_cons_succ, List.setIfInBounds_toArray, List.set_cons_zero, List.set_cons_succ]
          refine wpAnyH_take (i := 8) (v := undef) rfl (by kernel_rfl) (by kernel_rfl) (by kernel_rfl) (fun _ _ _ h => h) (Or.inr ⟨by rfl, rfl⟩) hHeld ?_
          try simp only [Act.put, List.getElem_toArray, List.getElem_cons_zero, List.getElem_cons_succ, List.setIfInBounds_toArray, List.set_cons_zero, List.set_cons_succ]
          refine wpAnyH_take (i := 9) (v := undef) rfl (by kernel_rfl) (by kernel_rfl) (by kernel_rfl) (fun _ _ _ h => h) (Or.inr ⟨by rfl, rfl⟩) hHeld ?_
          try simp only [Act.put, List.getElem_toArray, List.getElem_cons_zero, List.getElem_cons_succ, List.setIfInBounds_toArray, List.set_cons_zero, List.set_cons_succ]
          refine wpAnyH_take (i := 10) (v := undef) rfl (by kernel_rfl) (by kernel_rfl) (by kernel_rfl) (fun _ _ _ h => h) (Or.inr ⟨by rfl, rfl⟩) hHeld ?_
          try simp only [Act.put, List.getElem_toArray, List.getElem_cons_zero, List.getElem_cons_succ, List.setIfInBounds_toArray, List.set_cons_zero, List.set_cons_succ]
          refine wpAnyH_take (i := 11) (v := undef) rfl (by kernel_rfl) (by kernel_rfl) (by kernel_rfl) (fun _ _ _ h => h) (Or.inr ⟨by rfl, rfl⟩) hHeld ?_
          try simp only [Act.put, List.getElem_toArray, List.getElem_cons_zero, List.getElem_cons_succ, List.setIfInBounds_toArray, List.set_cons_zero, List.set_cons_succ]
          refine wpAnyH_take (i := 12) (v := undef) rfl (by kernel_rfl) (by kernel_rfl) (by kernel_rfl) (fun _ _ _ h => h) (Or.inr ⟨by rfl, rfl⟩) hHeld ?_
          try simp only [Act.put, List.getElem_toArray, List.getElem_cons_zero, List.getElem_cons_succ, List.setIfInBounds_toArray, List.set_cons_zero, List.set_cons_succ]
          refine wpAnyH_take (i := 13) (v := undef) rfl (by kernel_rfl) (by kernel_rfl) (by kernel_rfl) (fun _ _ _ h => h) (Or.inr ⟨by rfl, rfl⟩) hHeld ?_
          try simp only [Act.put, List.getElem_toArray, List.getElem_cons_zero, List.getElem_cons_succ, List.setIfInBounds_toArray, List.set_cons_zero, List.set_cons_succ]
          refine wpAnyH_take (i := 14) (v := undef) rfl (by kernel_rfl) (by kernel_rfl) (by kernel_rfl) (fun _ _ _ h => h) (Or.inr ⟨by rfl, rfl⟩) hHeld ?_
          try simp only [Act.put, List.getElem_toArray, List.getElem_cons_zero, List.getElem_cons_succ, List.setIfInBounds_toArray, List.set_cons_zero, List.set_cons_succ]
          refine wpAnyH_take (i := 15) (v := ?_) rfl (by kernel_rfl) (by kernel_rfl) (by kernel_rfl) (fun _ _ _ h => h) (Or.inl ⟨by rfl, ?_⟩) hHeld ?_
          rotate_left
          focus
            intro w hSw
            clear hSw
            go_simp
            try with_reducible rfl
          try simp only [Act.put, List.getElem_toArray, List.getElem_cons_zero, List.getElem_cons_succ, List.setIfInBounds_toArray, List.set_cons_zero, List.set_cons_succ]
          refine wpAnyH_take (i := 16) (v := ?_) rfl (by kernel_rfl) (by kernel_rfl) (by kernel_rfl) (fun _ _ _ h => h) (Or.inl ⟨by rfl, ?_⟩) hHeld ?_
          rotate_left
          focus
            intro w hSw
            clear hSw
            go_simp
            try with_reducible rfl
          try simp only [Act.put, List.getElem_toArray, List.getElem_cons_zero, List.getElem_cons_succ, List.setIfInBounds_toArray, List.set_cons_zero, List.set_cons_succ]
          refine wpAnyH_take (i := 17) (v := undef) rfl (by kernel_rfl) (by kernel_rfl) (by kernel_rfl) (fun _ _ _ h => h) (Or.inr ⟨by rfl, rfl⟩) hHeld ?_
          try simp only [Act.put, List.getElem_toArray, List.getElem_cons_zero, List.getElem_cons_succ, List.setIfInBounds_toArray, List.set_cons_zero, List.set_cons_succ]
          refine wpAnyH_take (i := 18) (v := undef) rfl (by kernel_rfl) (by kernel_rfl) (by kernel_rfl) (fun _ _ _ h => h) (Or.inr ⟨by rfl, rfl⟩) hHeld ?_
          try simp only [Act.put, List.getElem_toArray, List.getElem_cons_zero, List.getElem_cons_succ, List.setIfInBounds_toArray, List.set_cons_zero, List.set_cons_succ]
          refine wpAnyH_take (i := 19) (v := undef) rfl (by kernel_rfl) (by kernel_rfl) (by kernel_rfl) (fun _ _ _ h => h) (Or.inr ⟨by rfl, rfl⟩) hHeld ?_
          try simp only [Act.put, List.getElem_toArray, List.getElem_cons_zero, List.getElem_cons_succ, List.setIfInBounds_toArray, List.set_cons_zero, List.set_cons_succ]
          refine wpAnyH_take (i := 20) (v := undef) rfl (by kernel_rfl) (by kernel_rfl) (by kernel_rfl) (fun _ _ _ h => h) (Or.inr ⟨by rfl, rfl⟩) hHeld ?_
          try simp only [Act.put, List.getElem_toArray, List.getElem_cons_zero, List.getElem_cons_succ, List.setIfInBounds_toArray, List.set_cons_zero, List.set_cons_succ]
          refine wpAnyH_take (i := 21) (v := undef) rfl (by kernel_rfl) (by kernel_rfl) (by kernel_rfl) (fun _ _ _ h => h) (Or.inr ⟨by rfl, rfl⟩) hHeld ?_
          try simp only [Act.put, List.getElem_toArray, List.getElem_cons_zero, List.getElem_cons_succ, List.setIfInBounds_toArray, List.set_cons_zero, List.set_cons_succ]
          refine wpAnyH_take (i := 22) (v := undef) rfl (by kernel_rfl) (by kernel_rfl) (by kernel_rfl) (fun _ _ _ h => h) (Or.inr ⟨by rfl, rfl⟩) hHeld ?_
          try simp only [Act.put, List.getElem_toArray, List.getElem_cons_zero, List.getElem_cons_succ, List.setIfInBounds_toArray, List.set_cons_zero, List.set_cons_succ]
          refine wpAnyH_take (i := 23) (v := undef) rfl (by kernel_rfl) (by kernel_rfl) (by kernel_rfl) (fun _ _ _ h => h) (Or.inr ⟨by rfl, rfl⟩) hHeld ?_
          try simp only [Act.put, List.getElem_toArray, List.getElem_cons_zero, List.getElem_cons_succ, List.setIfInBounds_toArray, List.set_cons_zero, List.set_cons_succ]
          refine wpAnyH_take (i := 24) (v := undef) rfl (by kernel_rfl) (by kernel_rfl) (by kernel_rfl) (fun _ _ _ h => h) (Or.inr ⟨by rfl, rfl⟩) hHeld ?_
          try simp only [Act.put, List.getElem_toArray, List.getElem_cons_zero, List.getElem_cons_succ, List.setIfInBounds_toArray, List.set_cons_zero, List.set_cons_succ]
          refine wpAnyH_take (i := 25) (v := undef) rfl (by kernel_rfl) (by kernel_rfl) (by kernel_rfl) (fun _ _ _ h => h) (Or.inr ⟨by rfl, rfl⟩) hHeld ?_
          try simp only [Act.put, List.getElem_toArray, List.getElem_cons_zero, List.getElem_cons_succ, List.setIfInBounds_toArray, List.set_cons_zero, List.set_cons_succ]
          refine wpAnyH_take (i := 26) (v := undef) rfl (by kernel_rfl) (by kernel_rfl) (by kernel_rfl) (fun _ _ _ h => h) (Or.inr ⟨by rfl, rfl⟩) hHeld ?_
          try simp only [Act.put, List.getElem_toArray, List.getElem_cons_zero, List.getElem_cons_succ, List.setIfInBounds_toArray, List.set_cons_zero, List.set_cons_succ]
          refine wpAnyH_take (i := 27) (v := undef) rfl (by kernel_rfl) (by kernel_rfl) (by kernel_rfl) (fun _ _ _ h => h) (Or.inr ⟨by rfl, rfl⟩) hHeld ?_
          try simp only [Act.put, List.getElem_toArray, List.getElem_cons_zero, List.getElem_cons_succ, List.setIfInBounds_toArray, List.set_cons_zero, List.set_cons_succ]
          refine wpAnyH_take (i := 28) (v := undef) rfl (by kernel_rfl) (by kernel_rfl) (by kernel_rfl) (fun _ _ _ h => h) (Or.inr ⟨by rfl, rfl⟩) hHeld ?_
          try simp only [Act.put, List.getElem_toArray, List.getElem_cons_zero, List.getElem_cons_succ, List.setIfInBounds_toArray, List.set_cons_zero, List.set_cons_succ]
          refine wpAnyH_take (i := 29) (v := ?_) rfl (by kernel_rfl) (by kernel_rfl) (by kernel_rfl) (fun _ _ _ h => h) (Or.inl ⟨by rfl, ?_⟩) hHeld ?_
          rotate_left
          focus
            intro w hSw
            clear hSw
            go_simp
            try with_reducible rfl
          try simp only [Act.put, List.getElem_toArray, List.getElem_cons_zero, List.getElem_cons_succ, List.setIfInBounds_toArray, List.set_cons_zero, List.set_cons_succ]
          refine wpAnyH_done (by kernel_rfl) ?_ _
          refine NoPanic.normal ?_
          have HM1d := Lib.hid (HM1.out.below (show Below W1.heap.size W1 W1.drew from ⟨rfl, rfl, rfl, Nat.le_refl _, fun _ _ => rfl⟩))
          clear k2 k3 k4
          generalize W1.drew = WD at HM1d ⊢
          have hn' := hn
          have HADD : Hid (∀ W, MD w W B u L1 v v1 came ⟨oi, ot, true, op, z, oq⟩ (.slice a9 out.length c9) out → Calls Tryd.prog 58 #[.pointer (some ⟨u, 0, none⟩), .agg #[.int .i64 oi, .int .i64 ot, .bool true, .int .i64 op, .int .i64 z, .int .i64 oq]] W fun e w' => e = .returned (.int .i64 0) ∧ ∃ L' v', RV w' B u L' v' (came + 1) ∧ Both (addL (updL l false []) ⟨oi, ot, true, op, z, oq⟩ came) (came + 1) L' ∧ RTn W w' B u v1) := fun W hm =>
            radd_any2 B u _ L1 v1 came ⟨oi, ot, true, op, z, oq⟩ W hm.hBW (Lib.hid hm.rv) HBT.out HC.out (HMR.out.addK HK.out hz)
          have HEND : Hid (∀ W9 L9 v9, W9.ownsRow w.heap.size 111 6 (.slice a9 out.length c9) out.length (flatOf Fill.cells out) → RV W9 B u L9 v9 (came + 1) → Both (addL (updL l false []) ⟨oi, ot, true, op, z, oq⟩ came) (came + 1) L9 → RStep w W9 B → RMatchQ w B u v l ⟨oi, ot, true, op, ol, oq⟩ came (.returned (.tuple #[.slice a9 out.length c9, .int .i64 z, .int .i64 0])) W9) := fun W9 L9 v9 a b c d => rmatch_done1 HMR.out hn' hz a b c d
          have rx := HM1d.out.rx
          have rx : WD.rangeAt w.heap.size 0 [.int .i64 oi, .int .i64 ot, .bool true, .int .i64 op, .int .i64 z, .int .i64 oq] := rx
          have k4 := HM1d.out.k4
          have k4 : WD.cell? ⟨w.heap.size, 4, none⟩ = some (.int .i64 z) := k4
          clear hn hn' hz
          go_wp2_with (refine wpList_load_mid rfl 97 _ rfl w.heap.size 0 rfl [.int .i64 oi, .int .i64 ot, .bool true, .int .i64 op, .int .i64 z, .int .i64 oq] _ rx Tryd.underlying97 rfl size_ror ?_)
          refine (HADD.out WD HM1d.out).mono ?_
          rintro e W9 ⟨rfl, L9, v9, hr9, hb9, hs9⟩
          have hx9 : Blk W9 w.heap.size #[.int .i64 oi, .int .i64 ot, .bool true, .int .i64 op, .int .i64 z, .int .i64 oq] 97 := hs9.turns.blk HM1d.out.ob (fun e => by
            rcases e with e | e
            · have := HM1d.out.ux; omega
            · exact HM1d.out.vx e)
          have k4 : W9.cell? ⟨w.heap.size, 4, none⟩ = some (.int .i64 z) := hx9.cell 4 _ rfl
          have HEND := Lib.hid (HEND.out W9.drew L9 v9 (hs9.old.owns HM1d.out.own (by decide) (by decide)) hr9.drew hb9 (HM1d.out.st.old.trans hs9.old).drew)
          clear hr9 hb9 hs9 hx9 rx
          go_wp2_with fail
          refine wp_region_noPanic ?_
          refine wp_region_held_drew (S := (fun w' => w'.cell? ⟨w.heap.size, 4, none⟩ = some (.int .i64 z))) (by kernel_rfl) k4 (fun hHeld => ?_)
          refine wpAnyH_take (i := 0) (v := ?_) rfl (by kernel_rfl) (by kernel_rfl) (by kernel_rfl) (fun _ _ _ h => h) (Or.inl ⟨by rfl, ?_⟩) hHeld ?_
          rotate_left
          focus
            intro w hSw
            clear hSw
            go_simp
            try with_reducible rfl
          try simp only [Act.put, List.getElem_toArray, List.getElem_cons_zero, List.getElem_cons_succ, List.setIfInBounds_toArray, List.set_cons_zero, List.set_cons_succ]
          refine wpAnyH_take (i := 1) (v := ?_) rfl (by kernel_rfl) (by kernel_rfl) (by kernel_rfl) (fun _ _ _ h => h) (Or.inl ⟨by rfl, ?_⟩) hHeld ?_
          rotate_left
          focus
            intro w hSw
            clear hSw
            go_simp
            try with_reducible rfl
          try simp only [Act.put, List.getElem_toArray, List.getElem_cons_zero, List.getElem_cons_succ, List.setIfInBounds_toArray, List.set_cons_zero, List.set_cons_succ]
          refine wpAnyH_take (i := 2) (v := ?_) rfl (by kernel_rfl) (by kernel_rfl) (by kernel_rfl) (fun _ _ _ h => h) (Or.inl ⟨by rfl, ?_⟩) hHeld ?_
          rotate_left
          focus
            intro w hSw
            (try dsimp only at hSw)
            go_simp
            try with_reducible rfl
          try simp only [Act.put, List.getElem_toArray, List.getElem_cons_zero, List.getElem_cons_succ, List.setIfInBounds_toArray, List.set_cons_zero, List.set_cons_succ]
          refine wpAnyH_take (i := 3) (v := ?_) rfl (by kernel_rfl) (by kernel_rfl) (by kernel_rfl) (fun _ _ _ h => h) (Or.inl ⟨by rfl, ?_⟩) hHeld ?_
          rotate_left
          focus
            intro w hSw
            clear hSw
            go_simp
            try with_reducible rfl
          try simp only [Act.put, List.getElem_toArray, List.getElem_cons_zero, List.getElem_cons_succ, List.setIfInBounds_toArray, List.set_cons_zero, List.set_cons_succ]
          refine wpAnyH_take (i := 4) (v := ?_) rfl (by kernel_rfl) (by kernel_rfl) (by kernel_rfl) (fun _ _ _ h => h) (Or.inl ⟨by rfl, ?_⟩) hHeld ?_
          rotate_left
          focus
            intro w hSw
            clear hSw
            go_simp
            try with_reducible rfl
          try simp only [Act.put, List.getElem_toArray, List.getElem_cons_zero, List.getElem_cons_succ, List.setIfInBounds_toArray, List.set_cons_zero, List.set_cons_succ]
          refine wpAnyH_take (i := 5) (v := ?_) rfl (by kernel_rfl) (by kernel_rfl) (by kernel_rfl) (fun _ _ _ h => h) (Or.inl ⟨by rfl, ?_⟩) hHeld ?_
          rotate_left
          focus
            intro w hSw
            clear hSw
            go_simp
            try with_reducible rfl
          try simp only [Act.put, List.getElem_toArray, List.getElem_cons_zero, List.getElem_cons_succ, List.setIfInBounds_toArray, List.set_cons_zero, List.set_cons_succ]
          refine wpAnyH_done (by kernel_rfl) ?_ _
          refine NoPanic.normal ?_
          go_wp2_with fail
          go_ret3
          exact HEND.out
        | cons x r =>
          obtain ⟨gl, cap, cur, rfl, _, _, hgl, hblk, _, hrows⟩ := own_rows' Ord.k6 hown1 rfl (by simp)
          have rr : W1.rangeAt gl 0 x.cells := by
            have := hrows 0 _ rfl
            simpa using this
          have hglt : gl < W1.heap.size := (Array.getElem?_eq_some_iff.1 hblk).1
          have x3 : W1.cell? ⟨gl, 3, none⟩ = some (.int .i64 x.price) := by have := rr 3 _ rfl; simpa using this
          have hlen : (x :: r).length = r.length + 1 := rfl
          rw [hlen]
          obtain ⟨m, hm⟩ : ∃ m, m = r.length := ⟨_, rfl⟩
          rw [← hm]
          have hm0 : (0 : Int) < (m : Int) + 1 := by omega
          have hm1 : ((m : Int) + 1 == 0) = false := by simp; omega
          clear hown1 hblk hrows hlen hm
          by_cases hmt : meetsO ⟨oi, ot, true, op, ol, oq⟩ x = true
          · have hn : nextOk ⟨oi, ot, true, op, ol, oq⟩ z (x :: r) = true := by unfold nextOk; simp only [if_neg hz]; exact hmt
            have HST := Lib.hid (HMR.out.step hn)
            have HCUT := Lib.hid (fun (W : World) (s : Value) (fs : List Fill) (hm : MD w W B u L1 v v1 came ⟨oi, ot, true, op, z, oq⟩ s fs) => rcut_head ⟨oi, ot, true, op, ol, oq⟩ x l came out z r B u L1 v1 W HMR.out hm.hBW (Lib.hid hm.rv) HBT.out)
            have HFL : Hid (out.length ≤ 1000) := by have := HMR.out.z1; have := HMR.out.z0; have := HOL.out; show _ ≤ _; simp only at *; omega
            have HGL := Lib.hid (fun (g : Fill) (hg : g ∈ out) => HMR.out.lots g hg)
            obtain ⟨xi, xt, xs, xp, xl, xq⟩ := x
            have rr : W1.rangeAt gl 0 [.int .i64 xi, .int .i64 xt, .bool xs, .int .i64 xp, .int .i64 xl, .int .i64 xq] := rr
            simp only at x3
            have d1 : decide (xp < op) = false := by
              unfold meetsO at hmt
              simpa using hmt
            have HST : Hid (MR ⟨oi, ot, true, op, ol, oq⟩ l came (putF out ⟨oi, xi, ot, xt, xp, 1⟩) (z - 1) (cutS 1 (⟨xi, xt, xs, xp, xl, xq⟩ :: r))) := HST
            clear hn hmt
            go_wp2_with fail
            refine wp_region_noPanic ?_
            refine wp_region_held_drew (S := (fun w' => w'.cell? ⟨w.heap.size, 2, none⟩ = some (.bool true) ∧ w'.cell? ⟨w.heap.size, 3, none⟩ = some (.int .i64 op) ∧ w'.cell? ⟨gl, 3, none⟩ = some (.int .i64 xp))) (by kernel_rfl) ⟨k2, k3, x3⟩ (fun hHeld => ?_)
            refine wpAnyH_take (i := 0) (v := ?_) rfl (by kernel_rfl) (by kernel_rfl) (by kernel_rfl) (fun _ _ _ h => h) (Or.inl ⟨by rfl, ?_⟩) hHeld ?_
            rotate_left
            focus
              intro w hSw
              clear hSw
              go_simp
              try with_reducible rfl
            try simp only [Act.put, List.getElem_toArray, List.getElem_cons_zero, List.getElem_cons_succ, List.setIfInBounds_toArray, List.set_cons_zero, List.set_cons_succ]
            refine wpAnyH_take (i := 1) (v := ?_) rfl (by kernel_rfl) (by kernel_rfl) (by kernel_rfl) (fun _ _ _ h => h) (Or.inl ⟨by rfl, ?_⟩) hHeld ?_
            rotate_left
            focus
              intro w hSw
              clear hSw
              go_simp
              try with_reducible rfl
            try simp only [Act.put, List.getElem_toArray, List.getElem_cons_zero, List.getElem_cons_succ, List.setIfInBounds_toArray, List.set_cons_zero, List.set_cons_succ]
            refine wpAnyH_take (i := 2) (v := ?_) rfl (by kernel_rfl) (by kernel_rfl) (by kernel_rfl) (fun _ _ _ h => h) (Or.inl ⟨by rfl, ?_⟩) hHeld ?_
            rotate_left
            focus
              intro w hSw
              clear hSw
              go_simp
              try with_reducible rfl
            try simp only [Act.put, List.getElem_toArray, List.getElem_cons_zero, List.getElem_cons_succ, List.setIfInBounds_toArray, List.set_cons_zero, List.set_cons_succ]
            refine wpAnyH_take (i := 3) (v := ?_) rfl (by kernel_rfl) (by kernel_rfl) (by kernel_rfl) (fun _ _ _ h => h) (Or.inl ⟨by rfl, ?_⟩) hHeld ?_
            rotate_left
            focus
              intro w hSw
              clear hSw
              go_simp
              try with_reducible rfl
            try simp only [Act.put, List.getElem_toArray, List.getElem_cons_zero, List.getElem_cons_succ, List.setIfInBounds_toArray, List.set_cons_zero, List.set_cons_succ]
            refine wpAnyH_take (i := 4) (v := ?_) rfl (by kernel_rfl) (by kernel_rfl) (by kernel_rfl) (fun _ _ _ h => h) (Or.inl ⟨by rfl, ?_⟩) hHeld ?_
            rotate_left
            focus
              intro w hSw
              clear hSw
              go_simp
              try with_reducible rfl
            try simp only [Act.put, List.getElem_toArray, List.getElem_cons_zero, List.getElem_cons_succ, List.setIfInBounds_toArray, List.set_cons_zero, List.set_cons_succ]
            refine wpAnyH_take (i := 5) (v := ?_) rfl (by kernel_rfl) (by kernel_rfl) (by kernel_rfl) (fun _ _ _ h => h) (Or.inl ⟨by rfl, ?_⟩) hHeld ?_
            rotate_left
            focus
              intro w hSw
              (try dsimp only at hSw)
              go_simp
              try with_reducible rfl
            try simp only [Act.put, List.getElem_toArray, List.getElem_cons_zero, List.getElem_cons_succ, List.setIfInBounds_toArray, List.set_cons_zero, List.set_cons_succ]
            refine wpAnyH_take (i := 6) (v := ?_) rfl (by kernel_rfl) (by kernel_rfl) (by kernel_rfl) (fun _ _ _ h => h) (Or.inl ⟨by rfl, ?_⟩) hHeld ?_
            rotate_left
            focus
              intro w hSw
              clear hSw
              go_simp
              try with_reducible rfl
            try simp only [Act.put, List.getElem_toArray, List.getElem_cons_zero, List.getElem_cons_succ, List.setIfInBounds_toArray, List.set_cons_zero, List.set_cons_succ]
            refine wpAnyH_take (i := 7) (v := ?_) rfl (by kernel_rfl) (by kernel_rfl) (by kernel_rfl) (fun _ _ _ h => h) (Or.inl ⟨by rfl, ?_⟩) hHeld ?_
            rotate_left
            focus
              intro w hSw
              clear hSw
              go_simp
              try with_reducible rfl
            try simp only [Act.put, List.getElem_toArray, List.getElem_cons_zero, List.getElem_cons_succ, List.setIfInBounds_toArray, List.set_cons_zero, List.set_cons_succ]
            refine wpAnyH_take (i := 8) (v := ?_) rfl (by kernel_rfl) (by kernel_rfl) (by kernel_rfl) (fun _ _ _ h => h) (Or.inl ⟨by rfl, ?_⟩) hHeld ?_
            rotate_left
            focus
              intro w hSw
              clear hSw
              go_simp
              try with_reducible rfl
            try simp only [Act.put, List.getElem_toArray, List.getElem_cons_zero, List.getElem_cons_succ, List.setIfInBounds_toArray, List.set_cons_zero, List.set_cons_succ]
            refine wpAnyH_take (i := 9) (v := ?_) rfl (by kernel_rfl) (by kernel_rfl) (by kernel_rfl) (fun _ _ _ h => h) (Or.inl ⟨by rfl, ?_⟩) hHeld ?_
            rotate_left
            focus
              intro w hSw
              clear hSw
              go_simp
              try with_reducible rfl
            try simp only [Act.put, List.getElem_toArray, List.getElem_cons_zero, List.getElem_cons_succ, List.setIfInBounds_toArray, List.set_cons_zero, List.set_cons_succ]
            refine wpAnyH_take (i := 10) (v := ?_) rfl (by kernel_rfl) (by kernel_rfl) (by kernel_rfl) (fun _ _ _ h => h) (Or.inl ⟨by rfl, ?_⟩) hHeld ?_
            rotate_left
            focus
              intro w hSw
              (try dsimp only at hSw)
              go_simp
              try with_reducible rfl
            try simp only [Act.put, List.getElem_toArray, List.getElem_cons_zero, List.getElem_cons_succ, List.setIfInBounds_toArray, List.set_cons_zero, List.set_cons_succ]
            refine wpAnyH_take (i := 11) (v := ?_) rfl (by kernel_rfl) (by kernel_rfl) (by kernel_rfl) (fun _ _ _ h => h) (Or.inl ⟨by rfl, ?_⟩) hHeld ?_
            rotate_left
            focus
              intro w hSw
              clear hSw
              go_simp
              try with_reducible rfl
            try simp only [Act.put, List.getElem_toArray, List.getElem_cons_zero, List.getElem_cons_succ, List.setIfInBounds_toArray, List.set_cons_zero, List.set_cons_succ]
            refine wpAnyH_take (i := 12) (v := ?_) rfl (by kernel_rfl) (by kernel_rfl) (by kernel_rfl) (fun _ _ _ h => h) (Or.inl ⟨by rfl, ?_⟩) hHeld ?_
            rotate_left
            focus
              intro w hSw
              (try dsimp only at hSw)
              go_simp
              try with_reducible rfl
            try simp only [Act.put, List.getElem_toArray, List.getElem_cons_zero, List.getElem_cons_succ, List.setIfInBounds_toArray, List.set_cons_zero, List.set_cons_succ]
            refine wpAnyH_take (i := 13) (v := ?_) rfl (by kernel_rfl) (by kernel_rfl) (by kernel_rfl) (fun _ _ _ h => h) (Or.inl ⟨by rfl, ?_⟩) hHeld ?_
            rotate_left
            focus
              intro w hSw
              clear hSw
              go_simp
              try with_reducible rfl
            try simp only [Act.put, List.getElem_toArray, List.getElem_cons_zero, List.getElem_cons_succ, List.setIfInBounds_toArray, List.set_cons_zero, List.set_cons_succ]
            refine wpAnyH_take (i := 14) (v := ?_) rfl (by kernel_rfl) (by kernel_rfl) (by kernel_rfl) (fun _ _ _ h => h) (Or.inl ⟨by rfl, ?_⟩) hHeld ?_
            rotate_left
            focus
              intro w hSw
              clear hSw
              go_simp
              try with_reducible rfl
            try simp only [Act.put, List.getElem_toArray, List.getElem_cons_zero, List.getElem_cons_succ, List.setIfInBounds_toArray, List.set_cons_zero, List.set_cons_succ]
            refine wpAnyH_take (i := 15) (v := ?_) rfl (by kernel_rfl) (by kernel_rfl) (by kernel_rfl) (fun _ _ _ h => h) (Or.inl ⟨by rfl, ?_⟩) hHeld ?_
            rotate_left
            focus
              intro w hSw
              clear hSw
              go_simp
              try with_reducible rfl
            try simp only [Act.put, List.getElem_toArray, List.getElem_cons_zero, List.getElem_cons_succ, List.setIfInBounds_toArray, List.set_cons_zero, List.set_cons_succ]
            refine wpAnyH_take (i := 16) (v := ?_) rfl (by kernel_rfl) (by kernel_rfl) (by kernel_rfl) (fun _ _ _ h => h) (Or.inl ⟨by rfl, ?_⟩) hHeld ?_
            rotate_left
            focus
              intro w hSw
              clear hSw
              go_simp
              try with_reducible rfl
            try simp only [Act.put, List.getElem_toArray, List.getElem_cons_zero, List.getElem_cons_succ, List.setIfInBounds_toArray, List.set_cons_zero, List.set_cons_succ]
            refine wpAnyH_take (i := 17) (v := ?_) rfl (by kernel_rfl) (by kernel_rfl) (by kernel_rfl) (fun _ _ _ h => h) (Or.inl ⟨by rfl, ?_⟩) hHeld ?_
            rotate_left
            focus
              intro w hSw
              clear hSw
              go_simp
              try with_reducible rfl
            try simp only [Act.put, List.getElem_toArray, List.getElem_cons_zero, List.getElem_cons_succ, List.setIfInBounds_toArray, List.set_cons_zero, List.set_cons_succ]
            refine wpAnyH_take (i := 18) (v := ?_) rfl (by kernel_rfl) (by kernel_rfl) (by kernel_rfl) (fun _ _ _ h => h) (Or.inl ⟨by rfl, ?_⟩) hHeld ?_
            rotate_left
            focus
              intro w hSw
              (try dsimp only at hSw)
              go_simp
              try with_reducible rfl
            try simp only [Act.put, List.getElem_toArray, List.getElem_cons_zero, List.getElem_cons_succ, List.setIfInBounds_toArray, List.set_cons_zero, List.set_cons_succ]
            refine wpAnyH_take (i := 19) (v := ?_) rfl (by kernel_rfl) (by kernel_rfl) (by kernel_rfl) (fun _ _ _ h => h) (Or.inl ⟨by rfl, ?_⟩) hHeld ?_
            rotate_left
            focus
              intro w hSw
              clear hSw
              go_simp
              try with_reducible rfl
            try simp only [Act.put, List.getElem_toArray, List.getElem_cons_zero, List.getElem_cons_succ, List.setIfInBounds_toArray, List.set_cons_zero, List.set_cons_succ]
            refine wpAnyH_take (i := 20) (v := ?_) rfl (by kernel_rfl) (by kernel_rfl) (by kernel_rfl) (fun _ _ _ h => h) (Or.inl ⟨by rfl, ?_⟩) hHeld ?_
            rotate_left
            focus
              intro w hSw
              clear hSw
              go_simp
              try with_reducible rfl
            try simp only [Act.put, List.getElem_toArray, List.getElem_cons_zero, List.getElem_cons_succ, List.setIfInBounds_toArray, List.set_cons_zero, List.set_cons_succ]
            refine wpAnyH_take (i := 21) (v := undef) rfl (by kernel_rfl) (by kernel_rfl) (by kernel_rfl) (fun _ _ _ h => h) (Or.inr ⟨by rfl, rfl⟩) hHeld ?_
            try simp only [Act.put, List.getElem_toArray, List.getElem_cons_zero, List.getElem_cons_succ, List.setIfInBounds_toArray, List.set_cons_zero, List.set_cons_succ]
            refine wpAnyH_take (i := 22) (v := undef) rfl (by kernel_rfl) (by kernel_rfl) (by kernel_rfl) (fun _ _ _ h => h) (Or.inr ⟨by rfl, rfl⟩) hHeld ?_
            try simp only [Act.put, List.getElem_toArray, List.getElem_cons_zero, List.getElem_cons_succ, List.setIfInBounds_toArray, List.set_cons_zero, List.set_cons_succ]
            refine wpAnyH_take (i := 23) (v := undef) rfl (by kernel_rfl) (by kernel_rfl) (by kernel_rfl) (fun _ _ _ h => h) (Or.inr ⟨by rfl, rfl⟩) hHeld ?_
            try simp only [Act.put, List.getElem_toArray, List.getElem_cons_zero, List.getElem_cons_succ, List.setIfInBounds_toArray, List.set_cons_zero, List.set_cons_succ]
            refine wpAnyH_take (i := 24) (v := undef) rfl (by kernel_rfl) (by kernel_rfl) (by kernel_rfl) (fun _ _ _ h => h) (Or.inr ⟨by rfl, rfl⟩) hHeld ?_
            try simp only [Act.put, List.getElem_toArray, List.getElem_cons_zero, List.getElem_cons_succ, List.setIfInBounds_toArray, List.set_cons_zero, List.set_cons_succ]
            refine wpAnyH_take (i := 25) (v := undef) rfl (by kernel_rfl) (by kernel_rfl) (by kernel_rfl) (fun _ _ _ h => h) (Or.inr ⟨by rfl, rfl⟩) hHeld ?_
            try simp only [Act.put, List.getElem_toArray, List.getElem_cons_zero, List.getElem_cons_succ, List.setIfInBounds_toArray, List.set_cons_zero, List.set_cons_succ]
            refine wpAnyH_take (i := 26) (v := undef) rfl (by kernel_rfl) (by kernel_rfl) (by kernel_rfl) (fun _ _ _ h => h) (Or.inr ⟨by rfl, rfl⟩) hHeld ?_
            try simp only [Act.put, List.getElem_toArray, List.getElem_cons_zero, List.getElem_cons_succ, List.setIfInBounds_toArray, List.set_cons_zero, List.set_cons_succ]
            refine wpAnyH_take (i := 27) (v := undef) rfl (by kernel_rfl) (by kernel_rfl) (by kernel_rfl) (fun _ _ _ h => h) (Or.inr ⟨by rfl, rfl⟩) hHeld ?_
            try simp only [Act.put, List.getElem_toArray, List.getElem_cons_zero, List.getElem_cons_succ, List.setIfInBounds_toArray, List.set_cons_zero, List.set_cons_succ]
            refine wpAnyH_take (i := 28) (v := ?_) rfl (by kernel_rfl) (by kernel_rfl) (by kernel_rfl) (fun _ _ _ h => h) (Or.inl ⟨by rfl, ?_⟩) hHeld ?_
            rotate_left
            focus
              intro w hSw
              clear hSw
              go_simp
              try with_reducible rfl
            try simp only [Act.put, List.getElem_toArray, List.getElem_cons_zero, List.getElem_cons_succ, List.setIfInBounds_toArray, List.set_cons_zero, List.set_cons_succ]
            refine wpAnyH_take (i := 29) (v := ?_) rfl (by kernel_rfl) (by kernel_rfl) (by kernel_rfl) (fun _ _ _ h => h) (Or.inl ⟨by rfl, ?_⟩) hHeld ?_
            rotate_left
            focus
              intro w hSw
              clear hSw
              go_simp
              try with_reducible rfl
            try simp only [Act.put, List.getElem_toArray, List.getElem_cons_zero, List.getElem_cons_succ, List.setIfInBounds_toArray, List.set_cons_zero, List.set_cons_succ]
            refine wpAnyH_done (by kernel_rfl) ?_ _
            refine NoPanic.normal ?_
            have HM1d := Lib.hid (HM1.out.below (show Below W1.heap.size W1 W1.drew from ⟨rfl, rfl, rfl, Nat.le_refl _, fun _ _ => rfl⟩))
            have rr : W1.drew.rangeAt gl 0 [.int .i64 xi, .int .i64 xt, .bool xs, .int .i64 xp, .int .i64 xl, .int .i64 xq] := rr
            clear x3
            clear k2 k3 k4
            generalize W1.drew = WD at HM1d rr ⊢
            obtain ⟨XB, hXB⟩ : ∃ b, b = WD.heap.size := ⟨_, rfl⟩
            obtain ⟨W2, hW2⟩ : ∃ W, W = WD.alloc (.cells #[.int .i64 xi, .int .i64 xt, .bool xs, .int .i64 xp, .int .i64 xl, .int .i64 xq] 97) := ⟨_, rfl⟩
            obtain ⟨fb, hfb⟩ : ∃ b, b = WD.heap.size + 1 := ⟨_, rfl⟩
            have hsz2 : W2.heap.size = fb := by rw [hW2, hfb]; simp
            obtain ⟨W2b, hW2b⟩ : ∃ W, W = W2.alloc (.cells #[.int .i64 xi, .int .i64 oi, .int .i64 xt, .int .i64 ot, .int .i64 xp, .int .i64 1] 111) := ⟨_, rfl⟩
            have hb2 : Below WD.heap.size WD W2 := by rw [hW2]; exact (Below.refl _ _).alloc (Nat.le_refl _) _
            have hb2b : Below W2.heap.size W2 W2b := by rw [hW2b]; exact (Below.refl _ _).alloc (Nat.le_refl _) _
            have HM2 := Lib.hid (HM1d.out.below hb2)
            have HM2b := Lib.hid (HM2.out.below hb2b)
            have hxb2 : Blk W2 XB #[.int .i64 xi, .int .i64 xt, .bool xs, .int .i64 xp, .int .i64 xl, .int .i64 xq] 97 := by rw [hW2, hXB]; exact Blk.new WD _ _
            have HXB2 := Lib.hid (hxb2.below hb2b)
            have HFB2 : Hid (Blk W2b fb #[.int .i64 xi, .int .i64 oi, .int .i64 xt, .int .i64 ot, .int .i64 xp, .int .i64 1] 111) := by show Blk _ _ _ _; rw [hW2b, ← hsz2]; exact Blk.new W2 _ _
            have HFBL : Hid (w.heap.size ≤ fb) := by show _ ≤ _; rw [← hsz2]; exact HM2.out.sz
            have HNE : Hid ((Value.slice a9 out.length c9).ownBlock ≠ some fb) := fun e => by
              have h1 := (HM2.out.own.lt fb e).2
              omega
            have x20 : W2.cell? ⟨XB, 0, none⟩ = some (.int .i64 xi) := hxb2.cell 0 _ rfl
            have x21 : W2.cell? ⟨XB, 1, none⟩ = some (.int .i64 xt) := hxb2.cell 1 _ rfl
            have x23 : W2.cell? ⟨XB, 3, none⟩ = some (.int .i64 xp) := hxb2.cell 3 _ rfl
            have o20 : W2.cell? ⟨w.heap.size, 0, none⟩ = some (.int .i64 oi) := HM2.out.k0
            have o21 : W2.cell? ⟨w.heap.size, 1, none⟩ = some (.int .i64 ot) := HM2.out.k1
            have HW2 := Lib.hid hW2
            have HXE := Lib.hid hXB
            have HW2B := Lib.hid hW2b
            have HFE := Lib.hid hfb
            clear hb2 hb2b hxb2
            clear hfb hW2b hsz2
            rw [hW2, hXB] at x20 x21 x23
            rw [hW2] at o20 o21
            clear hW2 hXB
            go_upto_region 11 with (refine wpList_load_mid rfl 97 _ rfl gl 0 rfl [.int .i64 xi, .int .i64 xt, .bool xs, .int .i64 xp, .int .i64 xl, .int .i64 xq] _ rr Tryd.underlying97 rfl size_ror ?_)
            rw [← HW2.out, ← HFE.out, ← HW2B.out, ← HXE.out]
            clear x20 x21 x23 o20 o21 rr
            have k2 : W2b.cell? ⟨w.heap.size, 2, none⟩ = some (.bool true) := HM2b.out.k2
            have HFB2e : W2b.heap[fb]? = some (.cells #[.int .i64 xi, .int .i64 oi, .int .i64 xt, .int .i64 ot, .int .i64 xp, .int .i64 1] 111 (0, 0)) := HFB2.out
            obtain ⟨W3, hW3⟩ : ∃ W, W = W2b.setRow fb #[.int .i64 oi, .int .i64 xi, .int .i64 ot, .int .i64 xt, .int .i64 xp, .int .i64 1] := ⟨_, rfl⟩
            have HM3 : Hid (MD w W3 B u L1 v v1 came ⟨oi, ot, true, op, z, oq⟩ (.slice a9 out.length c9) out) := by show MD _ _ _ _ _ _ _ _ _ _ _; rw [hW3]; exact HM2b.out.row HFB2.out HFBL.out HNE.out
            have HFB : Hid (Blk W3 fb #[.int .i64 oi, .int .i64 xi, .int .i64 ot, .int .i64 xt, .int .i64 xp, .int .i64 1] 111) := by show Blk _ _ _ _; rw [hW3]; exact Blk.setRow_same HFB2.out
            have HXB : Hid (Blk W3 XB #[.int .i64 xi, .int .i64 xt, .bool xs, .int .i64 xp, .int .i64 xl, .int .i64 xq] 97) := by show Blk _ _ _ _; rw [hW3]; exact HXB2.out.setRow_far (fun e => by subst e; exact absurd (HXB2.out.type_eq HFB2.out) (by decide))
            have x20 : W2b.cell? ⟨XB, 0, none⟩ = some (.int .i64 xi) := HXB2.out.cell 0 _ rfl
            have x21 : W2b.cell? ⟨XB, 1, none⟩ = some (.int .i64 xt) := HXB2.out.cell 1 _ rfl
            have x23 : W2b.cell? ⟨XB, 3, none⟩ = some (.int .i64 xp) := HXB2.out.cell 3 _ rfl
            have o20 : W2b.cell? ⟨w.heap.size, 0, none⟩ = some (.int .i64 oi) := HM2b.out.k0
            have o21 : W2b.cell? ⟨w.heap.size, 1, none⟩ = some (.int .i64 ot) := HM2b.out.k1
            have HW3 := Lib.hid hW3
            clear hW3
            go_upto_region 13 with (refine wpList_store_row rfl 111 _ _ rfl fb #[.int .i64 oi, .int .i64 xi, .int .i64 ot, .int .i64 xt, .int .i64 xp, .int .i64 1] rfl rfl 111 #[.int .i64 xi, .int .i64 oi, .int .i64 xt, .int .i64 ot, .int .i64 xp, .int .i64 1] HFB2e size_rft rfl (by simp [Value.oneCell']) ?_)
            rw [← HW3.out]
            clear x20 x21 x23 o20 o21 k2 HFB2e
            have f0 : W3.cell? ⟨fb, 0, none⟩ = some (.int .i64 oi) := HFB.out.cell 0 _ rfl
            have f1 : W3.cell? ⟨fb, 1, none⟩ = some (.int .i64 xi) := HFB.out.cell 1 _ rfl
            rcases snoc_cases out with ho | ⟨ii, gg, ho⟩
            · subst ho
              have HPUT : Hid (putF [] (⟨oi, xi, ot, xt, xp, 1⟩ : Fill) = [] ++ [⟨oi, xi, ot, xt, xp, 1⟩]) := rfl
              have hl0 : ([] : List Fill).length = 0 := rfl
              go_wp2_with fail
              refine wp_region_noPanic ?_
              refine wp_region_held_drew (S := (fun _ => True)) (by kernel_rfl) trivial (fun hHeld => ?_)
              refine wpAnyH_take (i := 0) (v := ?_) rfl (by kernel_rfl) (by kernel_rfl) (by kernel_rfl) (fun _ _ _ h => h) (Or.inl ⟨by rfl, ?_⟩) hHeld ?_
              rotate_left
              focus
                intro w hSw
                clear hSw
                go_simp
                try with_reducible rfl
              try simp only [Act.put, List.getElem_toArray, List.getElem_cons_zero, List.getElem_cons_succ, List.setIfInBounds_toArray, List.set_cons_zero, List.set_cons_succ]
              refine wpAnyH_take (i := 1) (v := ?_) rfl (by kernel_rfl) (by kernel_rfl) (by kernel_rfl) (fun _ _ _ h => h) (Or.inl ⟨by rfl, ?_⟩) hHeld ?_
              rotate_left
              focus
                intro w hSw
                clear hSw
                go_simp
                try with_reducible rfl
              try simp only [Act.put, List.getElem_toArray, List.getElem_cons_zero, List.getElem_cons_succ, List.setIfInBounds_toArray, List.set_cons_zero, List.set_cons_succ]
              refine wpAnyH_take (i := 2) (v := ?_) rfl (by kernel_rfl) (by kernel_rfl) (by kernel_rfl) (fun _ _ _ h => h) (Or.inl ⟨by rfl, ?_⟩) hHeld ?_
              rotate_left
              focus
                intro w hSw
                clear hSw
                go_simp
                try with_reducible rfl
              try simp only [Act.put, List.getElem_toArray, List.getElem_cons_zero, List.getElem_cons_succ, List.setIfInBounds_toArray, List.set_cons_zero, List.set_cons_succ]
              refine wpAnyH_take (i := 3) (v := undef) rfl (by kernel_rfl) (by kernel_rfl) (by kernel_rfl) (fun _ _ _ h => h) (Or.inr ⟨by rfl, rfl⟩) hHeld ?_
              try simp only [Act.put, List.getElem_toArray, List.getElem_cons_zero, List.getElem_cons_succ, List.setIfInBounds_toArray, List.set_cons_zero, List.set_cons_succ]
              refine wpAnyH_take (i := 4) (v := undef) rfl (by kernel_rfl) (by kernel_rfl) (by kernel_rfl) (fun _ _ _ h => h) (Or.inr ⟨by rfl, rfl⟩) hHeld ?_
              try simp only [Act.put, List.getElem_toArray, List.getElem_cons_zero, List.getElem_cons_succ, List.setIfInBounds_toArray, List.set_cons_zero, List.set_cons_succ]
              refine wpAnyH_take (i := 5) (v := undef) rfl (by kernel_rfl) (by kernel_rfl) (by kernel_rfl) (fun _ _ _ h => h) (Or.inr ⟨by rfl, rfl⟩) hHeld ?_
              try simp only [Act.put, List.getElem_toArray, List.getElem_cons_zero, List.getElem_cons_succ, List.setIfInBounds_toArray, List.set_cons_zero, List.set_cons_succ]
              refine wpAnyH_take (i := 6) (v := undef) rfl (by kernel_rfl) (by kernel_rfl) (by kernel_rfl) (fun _ _ _ h => h) (Or.inr ⟨by rfl, rfl⟩) hHeld ?_
              try simp only [Act.put, List.getElem_toArray, List.getElem_cons_zero, List.getElem_cons_succ, List.setIfInBounds_toArray, List.set_cons_zero, List.set_cons_succ]
              refine wpAnyH_take (i := 7) (v := undef) rfl (by kernel_rfl) (by kernel_rfl) (by kernel_rfl) (fun _ _ _ h => h) (Or.inr ⟨by rfl, rfl⟩) hHeld ?_
              try simp only [Act.put, List.getElem_toArray, List.getElem_cons_zero, List.getElem_cons_succ, List.setIfInBounds_toArray, List.set_cons_zero, List.set_cons_succ]
              refine wpAnyH_take (i := 8) (v := undef) rfl (by kernel_rfl) (by kernel_rfl) (by kernel_rfl) (fun _ _ _ h => h) (Or.inr ⟨by rfl, rfl⟩) hHeld ?_
              try simp only [Act.put, List.getElem_toArray, List.getElem_cons_zero, List.getElem_cons_succ, List.setIfInBounds_toArray, List.set_cons_zero, List.set_cons_succ]
              refine wpAnyH_take (i := 9) (v := undef) rfl (by kernel_rfl) (by kernel_rfl) (by kernel_rfl) (fun _ _ _ h => h) (Or.inr ⟨by rfl, rfl⟩) hHeld ?_
              try simp only [Act.put, List.getElem_toArray, List.getElem_cons_zero, List.getElem_cons_succ, List.setIfInBounds_toArray, List.set_cons_zero, List.set_cons_succ]
              refine wpAnyH_take (i := 10) (v := undef) rfl (by kernel_rfl) (by kernel_rfl) (by kernel_rfl) (fun _ _ _ h => h) (Or.inr ⟨by rfl, rfl⟩) hHeld ?_
              try simp only [Act.put, List.getElem_toArray, List.getElem_cons_zero, List.getElem_cons_succ, List.setIfInBounds_toArray, List.set_cons_zero, List.set_cons_succ]
              refine wpAnyH_take (i := 11) (v := undef) rfl (by kernel_rfl) (by kernel_rfl) (by kernel_rfl) (fun _ _ _ h => h) (Or.inr ⟨by rfl, rfl⟩) hHeld ?_
              try simp only [Act.put, List.getElem_toArray, List.getElem_cons_zero, List.getElem_cons_succ, List.setIfInBounds_toArray, List.set_cons_zero, List.set_cons_succ]
              refine wpAnyH_take (i := 12) (v := ?_) rfl (by kernel_rfl) (by kernel_rfl) (by kernel_rfl) (fun _ _ _ h => h) (Or.inl ⟨by rfl, ?_⟩) hHeld ?_
              rotate_left
              focus
                intro w hSw
                clear hSw
                go_simp
                try with_reducible rfl
              try simp only [Act.put, List.getElem_toArray, List.getElem_cons_zero, List.getElem_cons_succ, List.setIfInBounds_toArray, List.set_cons_zero, List.set_cons_succ]
              refine wpAnyH_take (i := 13) (v := ?_) rfl (by kernel_rfl) (by kernel_rfl) (by kernel_rfl) (fun _ _ _ h => h) (Or.inl ⟨by rfl, ?_⟩) hHeld ?_
              rotate_left
              focus
                intro w hSw
                clear hSw
                go_simp
                try with_reducible rfl
              try simp only [Act.put, List.getElem_toArray, List.getElem_cons_zero, List.getElem_cons_succ, List.setIfInBounds_toArray, List.set_cons_zero, List.set_cons_succ]
              refine wpAnyH_take (i := 14) (v := undef) rfl (by kernel_rfl) (by kernel_rfl) (by kernel_rfl) (fun _ _ _ h => h) (Or.inr ⟨by rfl, rfl⟩) hHeld ?_
              try simp only [Act.put, List.getElem_toArray, List.getElem_cons_zero, List.getElem_cons_succ, List.setIfInBounds_toArray, List.set_cons_zero, List.set_cons_succ]
              refine wpAnyH_take (i := 15) (v := undef) rfl (by kernel_rfl) (by kernel_rfl) (by kernel_rfl) (fun _ _ _ h => h) (Or.inr ⟨by rfl, rfl⟩) hHeld ?_
              try simp only [Act.put, List.getElem_toArray, List.getElem_cons_zero, List.getElem_cons_succ, List.setIfInBounds_toArray, List.set_cons_zero, List.set_cons_succ]
              refine wpAnyH_take (i := 16) (v := undef) rfl (by kernel_rfl) (by kernel_rfl) (by kernel_rfl) (fun _ _ _ h => h) (Or.inr ⟨by rfl, rfl⟩) hHeld ?_
              try simp only [Act.put, List.getElem_toArray, List.getElem_cons_zero, List.getElem_cons_succ, List.setIfInBounds_toArray, List.set_cons_zero, List.set_cons_succ]
              refine wpAnyH_take (i := 17) (v := undef) rfl (by kernel_rfl) (by kernel_rfl) (by kernel_rfl) (fun _ _ _ h => h) (Or.inr ⟨by rfl, rfl⟩) hHeld ?_
              try simp only [Act.put, List.getElem_toArray, List.getElem_cons_zero, List.getElem_cons_succ, List.setIfInBounds_toArray, List.set_cons_zero, List.set_cons_succ]
              refine wpAnyH_take (i := 18) (v := undef) rfl (by kernel_rfl) (by kernel_rfl) (by kernel_rfl) (fun _ _ _ h => h) (Or.inr ⟨by rfl, rfl⟩) hHeld ?_
              try simp only [Act.put, List.getElem_toArray, List.getElem_cons_zero, List.getElem_cons_succ, List.setIfInBounds_toArray, List.set_cons_zero, List.set_cons_succ]
              refine wpAnyH_take (i := 19) (v := undef) rfl (by kernel_rfl) (by kernel_rfl) (by kernel_rfl) (fun _ _ _ h => h) (Or.inr ⟨by rfl, rfl⟩) hHeld ?_
              try simp only [Act.put, List.getElem_toArray, List.getElem_cons_zero, List.getElem_cons_succ, List.setIfInBounds_toArray, List.set_cons_zero, List.set_cons_succ]
              refine wpAnyH_take (i := 20) (v := undef) rfl (by kernel_rfl) (by kernel_rfl) (by kernel_rfl) (fun _ _ _ h => h) (Or.inr ⟨by rfl, rfl⟩) hHeld ?_
              try simp only [Act.put, List.getElem_toArray, List.getElem_cons_zero, List.getElem_cons_succ, List.setIfInBounds_toArray, List.set_cons_zero, List.set_cons_succ]
              refine wpAnyH_take (i := 21) (v := undef) rfl (by kernel_rfl) (by kernel_rfl) (by kernel_rfl) (fun _ _ _ h => h) (Or.inr ⟨by rfl, rfl⟩) hHeld ?_
              try simp only [Act.put, List.getElem_toArray, List.getElem_cons_zero, List.getElem_cons_succ, List.setIfInBounds_toArray, List.set_cons_zero, List.set_cons_succ]
              refine wpAnyH_take (i := 22) (v := undef) rfl (by kernel_rfl) (by kernel_rfl) (by kernel_rfl) (fun _ _ _ h => h) (Or.inr ⟨by rfl, rfl⟩) hHeld ?_
              try simp only [Act.put, List.getElem_toArray, List.getElem_cons_zero, List.getElem_cons_succ, List.setIfInBounds_toArray, List.set_cons_zero, List.set_cons_succ]
              refine wpAnyH_take (i := 23) (v := ?_) rfl (by kernel_rfl) (by kernel_rfl) (by kernel_rfl) (fun _ _ _ h => h) (Or.inl ⟨by rfl, ?_⟩) hHeld ?_
              rotate_left
              focus
                intro w hSw
                clear hSw
                go_simp
                try with_reducible rfl
              try simp only [Act.put, List.getElem_toArray, List.getElem_cons_zero, List.getElem_cons_succ, List.setIfInBounds_toArray, List.set_cons_zero, List.set_cons_succ]
              refine wpAnyH_done (by kernel_rfl) ?_ _
              refine NoPanic.normal ?_
              have HM3d := Lib.hid (HM3.out.below (show Below W3.heap.size W3 W3.drew from ⟨rfl, rfl, rfl, Nat.le_refl _, fun _ _ => rfl⟩))
              have HFBd : Hid (Blk W3.drew fb #[.int .i64 oi, .int .i64 xi, .int .i64 ot, .int .i64 xt, .int .i64 xp, .int .i64 1] 111) := HFB.out
              have HXBd : Hid (Blk W3.drew XB #[.int .i64 xi, .int .i64 xt, .bool xs, .int .i64 xp, .int .i64 xl, .int .i64 xq] 97) := HXB.out
              clear f0 f1
              generalize W3.drew = W3d at HM3d HFBd HXBd ⊢
              have HOWN : Hid (W3d.ownsRow w.heap.size 111 6 (.slice a9 0 c9) 0 (flatOf Fill.cells ([] : List Fill))) := by
                show World.ownsRow _ _ _ _ _ _ _
                rw [← hl0]
                exact HM3d.out.own
              have rf : W3d.rangeAt fb 0 [.int .i64 oi, .int .i64 xi, .int .i64 ot, .int .i64 xt, .int .i64 xp, .int .i64 1] := rangeAt_blk HFBd.out
              have hszm : w.heap.size ≤ W3d.heap.size := HM3d.out.sz
              go_wp2_with (first
                | (refine wpList_load_mid rfl 111 _ rfl fb 0 rfl [.int .i64 oi, .int .i64 xi, .int .i64 ot, .int .i64 xt, .int .i64 xp, .int .i64 1] _ rf Tryd.underlying111 rfl size_rft ?_)
                | (at_builtin; refine wpList_app1 rfl _ _ 108 rfl w.heap.size 111 j0 (.agg #[.int .i64 0, .int .i64 0, .int .i64 0, .int .i64 0, .int .i64 0, .int .i64 0]) 6 48 Tryd.underlying108 hj hy0 hy1 hy2 rfl (by decide) _ _ _ rfl HOWN.out [.int .i64 oi, .int .i64 xi, .int .i64 ot, .int .i64 xt, .int .i64 xp, .int .i64 1] _ rfl ?ca0 ?ca1 ?ca2 ?ca3 ?ca4 hszm ?_))
              case ca0 => rfl
              case ca1 => rfl
              case ca2 => simp [Value.oneCell']
              case ca3 => have := HFL.out; unfold maxLen; try simp at this; omega
              case ca4 => have := HFL.out; try simp at this; omega
              intro s9' W4 hown4 hg4 _
              have hown4 : W4.ownsRow w.heap.size 111 6 s9' (([] : List Fill) ++ [(⟨oi, xi, ot, xt, xp, 1⟩ : Fill)]).length (flatOf Fill.cells (([] : List Fill) ++ [(⟨oi, xi, ot, xt, xp, 1⟩ : Fill)])) := by
                rw [List.length_append, hl0, flatOf_append, flatOf_one]
                exact hown4
              rw [← HPUT.out] at hown4
              have HM4 := Lib.hid (HM3d.out.app (out' := putF ([] : List Fill) ⟨oi, xi, ot, xt, xp, 1⟩) hg4 hown4)
              obtain ⟨a10, c10, rfl⟩ := own_len hown4
              have hx4 : Blk W4 XB #[.int .i64 xi, .int .i64 xt, .bool xs, .int .i64 xp, .int .i64 xl, .int .i64 xq] 97 := (Turns.of_grown hg4).blk HXBd.out (fun e => by
                obtain ⟨cur, hc⟩ := own_type HM3d.out.own e
                exact absurd (HXBd.out.type_eq hc) (by decide))
              clear hown4 hg4 rf hszm
              have x0 : W4.cell? ⟨XB, 0, none⟩ = some (.int .i64 xi) := hx4.cell 0 _ rfl
              clear hx4
              go_wp2_with fail
              refine (HCUT.out W4 _ _ HM4.out).mono ?_
              rintro e W5 ⟨rfl, L5, v5, hr5, hb5, hs5⟩
              have HM5 := Lib.hid (HM4.out.book hr5 hs5)
              have HBT5 := Lib.hid hb5
              have k4 : W5.cell? ⟨w.heap.size, 4, none⟩ = some (.int .i64 z) := HM5.out.k4
              have f4 := HM5.out.f4
              have HM6 := Lib.hid (HM5.out.setl (z - 1))
              clear hr5 hb5 hs5 x0
              go_wp2_with fail
              go_roundw
              case rel => exact ⟨_, z - 1, _, L5, v5, _, rfl, HST, HBT5, HM6⟩
              case measure =>
                rw [lotsAt_of HM6.out.k4, lotsAt_of HM.out.k4]
                show (z - 1).toNat < z.toNat
                omega
            · subst ho
              have hl1 : (ii ++ [gg]).length = ii.length + 1 := by simp
              obtain ⟨g9, cap9, cur9, hv9, _, _, hg9, hblk9, _, hrows9⟩ := own_rows' Fill.k6 HM3.out.own rfl (by simp)
              have rg := hrows9 ii.length gg (by simp)
              rw [Nat.zero_add] at rg
              have hgl := HGL.out gg (by simp)
              obtain ⟨ga, gb, gs, gy, gp, gn⟩ := gg
              have q0 : W3.cell? ⟨g9, ii.length * 6, none⟩ = some (.int .i64 ga) := rg 0 _ rfl
              have q1 : W3.cell? ⟨g9, ii.length * 6 + 1, none⟩ = some (.int .i64 gb) := rg 1 _ rfl
              have q5 : W3.cell? ⟨g9, ii.length * 6 + 5, none⟩ = some (.int .i64 gn) := rg 5 _ rfl
              have fq5 : W3.frozen? ⟨g9, ii.length * 6 + 5, none⟩ = false := Blk.free (w := W3) hblk9 (ii.length * 6 + 5)
              cases hv9
              have hii : ii.length ≤ 1000 := by have := HFL.out; omega
              have hw1 : IntKind.i64.wrap ((ii.length : Int) + 1 - 1) = (ii.length : Int) := by rw [IntKind.wrap_i64]; omega
              have hw2 : IntKind.i64.wrap (ii.length : Int) = (ii.length : Int) := by rw [IntKind.wrap_i64]; omega
              have hp1 : (0 : Int) < (ii.length : Int) + 1 := by omega
              have hp2 : (ii.length : Int) < (ii.length : Int) + 1 := by omega
              have hp3 : (0 : Int) ≤ (ii.length : Int) := by omega
              have hgn : IntKind.i64.wrap (gn + 1) = gn + 1 := by have h5 := HOL.out; have h6 : 0 ≤ gn ∧ gn + z ≤ ol := hgl; rw [IntKind.wrap_i64]; omega
              clear rg hrows9 hblk9 hgl
              by_cases ha : ga = oi
              · by_cases hbq : gb = xi
                · have ha' : (ga == oi) = true := by simpa using ha
                  have hb' : (gb == xi) = true := by simpa using hbq
                  have HPUT : Hid (putF (ii ++ [(⟨ga, gb, gs, gy, gp, gn⟩ : Fill)]) (⟨oi, xi, ot, xt, xp, 1⟩ : Fill) = (ii ++ [(⟨ga, gb, gs, gy, gp, gn⟩ : Fill)]).set ii.length (⟨ga, gb, gs, gy, gp, gn + 1⟩ : Fill)) := by
                    show _ = _
                    rw [putF_join ha hbq]
                    simp
                  clear ha hbq
                  rw [hl1]
                  go_wp2_with fail
                  refine wp_region_noPanic ?_
                  refine wp_region_held_drew (S := (fun w' => w'.cell? ⟨g9, ii.length * 6, none⟩ = some (.int .i64 ga) ∧ w'.cell? ⟨g9, ii.length * 6 + 1, none⟩ = some (.int .i64 gb) ∧ w'.cell? ⟨fb, 0, none⟩ = some (.int .i64 oi) ∧ w'.cell? ⟨fb, 1, none⟩ = some (.int .i64 xi))) (by kernel_rfl) ⟨q0, q1, f0, f1⟩ (fun hHeld => ?_)
                  refine wpAnyH_take (i := 0) (v := ?_) rfl (by kernel_rfl) (by kernel_rfl) (by kernel_rfl) (fun _ _ _ h => h) (Or.inl ⟨by rfl, ?_⟩) hHeld ?_
                  rotate_left
                  focus
                    intro w hSw
                    clear hSw
                    go_simp
                    try with_reducible rfl
                  try simp only [Act.put, List.getElem_toArray, List.getElem_cons_zero, List.getElem_cons_succ, List.setIfInBounds_toArray, List.set_cons_zero, List.set_cons_succ]
                  refine wpAnyH_take (i := 1) (v := ?_) rfl (by kernel_rfl) (by kernel_rfl) (by kernel_rfl) (fun _ _ _ h => h) (Or.inl ⟨by rfl, ?_⟩) hHeld ?_
                  rotate_left
                  focus
                    intro w hSw
                    clear hSw
                    go_simp
                    try with_reducible rfl
                  try simp only [Act.put, List.getElem_toArray, List.getElem_cons_zero, List.getElem_cons_succ, List.setIfInBounds_toArray, List.set_cons_zero, List.set_cons_succ]
                  refine wpAnyH_take (i := 2) (v := ?_) rfl (by kernel_rfl) (by kernel_rfl) (by kernel_rfl) (fun _ _ _ h => h) (Or.inl ⟨by rfl, ?_⟩) hHeld ?_
                  rotate_left
                  focus
                    intro w hSw
                    clear hSw
                    go_simp
                    try with_reducible rfl
                  try simp only [Act.put, List.getElem_toArray, List.getElem_cons_zero, List.getElem_cons_succ, List.setIfInBounds_toArray, List.set_cons_zero, List.set_cons_succ]
                  refine wpAnyH_take (i := 3) (v := ?_) rfl (by kernel_rfl) (by kernel_rfl) (by kernel_rfl) (fun _ _ _ h => h) (Or.inl ⟨by rfl, ?_⟩) hHeld ?_
                  rotate_left
                  focus
                    intro w hSw
                    clear hSw
                    go_simp
                    try with_reducible rfl
                  try simp only [Act.put, List.getElem_toArray, List.getElem_cons_zero, List.getElem_cons_succ, List.setIfInBounds_toArray, List.set_cons_zero, List.set_cons_succ]
                  refine wpAnyH_take (i := 4) (v := ?_) rfl (by kernel_rfl) (by kernel_rfl) (by kernel_rfl) (fun _ _ _ h => h) (Or.inl ⟨by rfl, ?_⟩) hHeld ?_
                  rotate_left
                  focus
                    intro w hSw
                    clear hSw
                    go_simp
                    try with_reducible rfl
                  try simp only [Act.put, List.getElem_toArray, List.getElem_cons_zero, List.getElem_cons_succ, List.setIfInBounds_toArray, List.set_cons_zero, List.set_cons_succ]
                  refine wpAnyH_take (i := 5) (v := ?_) rfl (by kernel_rfl) (by kernel_rfl) (by kernel_rfl) (fun _ _ _ h => h) (Or.inl ⟨by rfl, ?_⟩) hHeld ?_
                  rotate_left
                  focus
                    intro w hSw
                    clear hSw
                    go_simp
                    try with_reducible rfl
                  try simp only [Act.put, List.getElem_toArray, List.getElem_cons_zero, List.getElem_cons_succ, List.setIfInBounds_toArray, List.set_cons_zero, List.set_cons_succ]
                  refine wpAnyH_take (i := 6) (v := ?_) rfl (by kernel_rfl) (by kernel_rfl) (by kernel_rfl) (fun _ _ _ h => h) (Or.inl ⟨by rfl, ?_⟩) hHeld ?_
                  rotate_left
                  focus
                    intro w hSw
                    clear hSw
                    go_simp
                    try with_reducible rfl
                  try simp only [Act.put, List.getElem_toArray, List.getElem_cons_zero, List.getElem_cons_succ, List.setIfInBounds_toArray, List.set_cons_zero, List.set_cons_succ]
                  refine wpAnyH_take (i := 7) (v := ?_) rfl (by kernel_rfl) (by kernel_rfl) (by kernel_rfl) (fun _ _ _ h => h) (Or.inl ⟨by rfl, ?_⟩) hHeld ?_
                  rotate_left
                  focus
                    intro w hSw
                    clear hSw
                    go_simp
                    try with_reducible rfl
                  try simp only [Act.put, List.getElem_toArray, List.getElem_cons_zero, List.getElem_cons_succ, List.setIfInBounds_toArray, List.set_cons_zero, List.set_cons_succ]
                  refine wpAnyH_take (i := 8) (v := ?_) rfl (by kernel_rfl) (by kernel_rfl) (by kernel_rfl) (fun _ _ _ h => h) (Or.inl ⟨by rfl, ?_⟩) hHeld ?_
                  rotate_left
                  focus
                    intro w hSw
                    (try dsimp only at hSw)
                    go_simp
                    try with_reducible rfl
                  try simp only [Act.put, List.getElem_toArray, List.getElem_cons_zero, List.getElem_cons_succ, List.setIfInBounds_toArray, List.set_cons_zero, List.set_cons_succ]
                  refine wpAnyH_take (i := 9) (v := ?_) rfl (by kernel_rfl) (by kernel_rfl) (by kernel_rfl) (fun _ _ _ h => h) (Or.inl ⟨by rfl, ?_⟩) hHeld ?_
                  rotate_left
                  focus
                    intro w hSw
                    clear hSw
                    go_simp
                    try with_reducible rfl
                  try simp only [Act.put, List.getElem_toArray, List.getElem_cons_zero, List.getElem_cons_succ, List.setIfInBounds_toArray, List.set_cons_zero, List.set_cons_succ]
                  refine wpAnyH_take (i := 10) (v := ?_) rfl (by kernel_rfl) (by kernel_rfl) (by kernel_rfl) (fun _ _ _ h => h) (Or.inl ⟨by rfl, ?_⟩) hHeld ?_
                  rotate_left
                  focus
                    intro w hSw
                    (try dsimp only at hSw)
                    go_simp
                    try with_reducible rfl
                  try simp only [Act.put, List.getElem_toArray, List.getElem_cons_zero, List.getElem_cons_succ, List.setIfInBounds_toArray, List.set_cons_zero, List.set_cons_succ]
                  refine wpAnyH_take (i := 11) (v := ?_) rfl (by kernel_rfl) (by kernel_rfl) (by kernel_rfl) (fun _ _ _ h => h) (Or.inl ⟨by rfl, ?_⟩) hHeld ?_
                  rotate_left
                  focus
                    intro w hSw
                    clear hSw
                    go_simp
                    try with_reducible rfl
                  try simp only [Act.put, List.getElem_toArray, List.getElem_cons_zero, List.getElem_cons_succ, List.setIfInBounds_toArray, List.set_cons_zero, List.set_cons_succ]
                  refine wpAnyH_take (i := 12) (v := ?_) rfl (by kernel_rfl) (by kernel_rfl) (by kernel_rfl) (fun _ _ _ h => h) (Or.inl ⟨by rfl, ?_⟩) hHeld ?_
                  rotate_left
                  focus
                    intro w hSw
                    clear hSw
                    go_simp
                    try with_reducible rfl
                  try simp only [Act.put, List.getElem_toArray, List.getElem_cons_zero, List.getElem_cons_succ, List.setIfInBounds_toArray, List.set_cons_zero, List.set_cons_succ]
                  refine wpAnyH_take (i := 13) (v := ?_) rfl (by kernel_rfl) (by kernel_rfl) (by kernel_rfl) (fun _ _ _ h => h) (Or.inl ⟨by rfl, ?_⟩) hHeld ?_
                  rotate_left
                  focus
                    intro w hSw
                    clear hSw
                    go_simp
                    try with_reducible rfl
                  try simp only [Act.put, List.getElem_toArray, List.getElem_cons_zero, List.getElem_cons_succ, List.setIfInBounds_toArray, List.set_cons_zero, List.set_cons_succ]
                  refine wpAnyH_take (i := 14) (v := ?_) rfl (by kernel_rfl) (by kernel_rfl) (by kernel_rfl) (fun _ _ _ h => h) (Or.inl ⟨by rfl, ?_⟩) hHeld ?_
                  rotate_left
                  focus
                    intro w hSw
                    clear hSw
                    go_simp
                    try with_reducible rfl
                  try simp only [Act.put, List.getElem_toArray, List.getElem_cons_zero, List.getElem_cons_succ, List.setIfInBounds_toArray, List.set_cons_zero, List.set_cons_succ]
                  refine wpAnyH_take (i := 15) (v := ?_) rfl (by kernel_rfl) (by kernel_rfl) (by kernel_rfl) (fun _ _ _ h => h) (Or.inl ⟨by rfl, ?_⟩) hHeld ?_
                  rotate_left
                  focus
                    intro w hSw
                    clear hSw
                    go_simp
                    try with_reducible rfl
                  try simp only [Act.put, List.getElem_toArray, List.getElem_cons_zero, List.getElem_cons_succ, List.setIfInBounds_toArray, List.set_cons_zero, List.set_cons_succ]
                  refine wpAnyH_take (i := 16) (v := ?_) rfl (by kernel_rfl) (by kernel_rfl) (by kernel_rfl) (fun _ _ _ h => h) (Or.inl ⟨by rfl, ?_⟩) hHeld ?_
                  rotate_left
                  focus
                    intro w hSw
                    clear hSw
                    go_simp
                    try with_reducible rfl
                  try simp only [Act.put, List.getElem_toArray, List.getElem_cons_zero, List.getElem_cons_succ, List.setIfInBounds_toArray, List.set_cons_zero, List.set_cons_succ]
                  refine wpAnyH_take (i := 17) (v := ?_) rfl (by kernel_rfl) (by kernel_rfl) (by kernel_rfl) (fun _ _ _ h => h) (Or.inl ⟨by rfl, ?_⟩) hHeld ?_
                  rotate_left
                  focus
                    intro w hSw
                    clear hSw
                    go_simp
                    try with_reducible rfl
                  try simp only [Act.put, List.getElem_toArray, List.getElem_cons_zero, List.getElem_cons_succ, List.setIfInBounds_toArray, List.set_cons_zero, List.set_cons_succ]
                  refine wpAnyH_take (i := 18) (v := ?_) rfl (by kernel_rfl) (by kernel_rfl) (by kernel_rfl) (fun _ _ _ h => h) (Or.inl ⟨by rfl, ?_⟩) hHeld ?_
                  rotate_left
                  focus
                    intro w hSw
                    clear hSw
                    go_simp
                    try with_reducible rfl
                  try simp only [Act.put, List.getElem_toArray, List.getElem_cons_zero, List.getElem_cons_succ, List.setIfInBounds_toArray, List.set_cons_zero, List.set_cons_succ]
                  refine wpAnyH_take (i := 19) (v := ?_) rfl (by kernel_rfl) (by kernel_rfl) (by kernel_rfl) (fun _ _ _ h => h) (Or.inl ⟨by rfl, ?_⟩) hHeld ?_
                  rotate_left
                  focus
                    intro w hSw
                    (try dsimp only at hSw)
                    go_simp
                    try with_reducible rfl
                  try simp only [Act.put, List.getElem_toArray, List.getElem_cons_zero, List.getElem_cons_succ, List.setIfInBounds_toArray, List.set_cons_zero, List.set_cons_succ]
                  refine wpAnyH_take (i := 20) (v := ?_) rfl (by kernel_rfl) (by kernel_rfl) (by kernel_rfl) (fun _ _ _ h => h) (Or.inl ⟨by rfl, ?_⟩) hHeld ?_
                  rotate_left
                  focus
                    intro w hSw
                    clear hSw
                    go_simp
                    try with_reducible rfl
                  try simp only [Act.put, List.getElem_toArray, List.getElem_cons_zero, List.getElem_cons_succ, List.setIfInBounds_toArray, List.set_cons_zero, List.set_cons_succ]
                  refine wpAnyH_take (i := 21) (v := ?_) rfl (by kernel_rfl) (by kernel_rfl) (by kernel_rfl) (fun _ _ _ h => h) (Or.inl ⟨by rfl, ?_⟩) hHeld ?_
                  rotate_left
                  focus
                    intro w hSw
                    (try dsimp only at hSw)
                    go_simp
                    try with_reducible rfl
                  try simp only [Act.put, List.getElem_toArray, List.getElem_cons_zero, List.getElem_cons_succ, List.setIfInBounds_toArray, List.set_cons_zero, List.set_cons_succ]
                  refine wpAnyH_take (i := 22) (v := ?_) rfl (by kernel_rfl) (by kernel_rfl) (by kernel_rfl) (fun _ _ _ h => h) (Or.inl ⟨by rfl, ?_⟩) hHeld ?_
                  rotate_left
                  focus
                    intro w hSw
                    clear hSw
                    go_simp
                    try with_reducible rfl
                  try simp only [Act.put, List.getElem_toArray, List.getElem_cons_zero, List.getElem_cons_succ, List.setIfInBounds_toArray, List.set_cons_zero, List.set_cons_succ]
                  refine wpAnyH_take (i := 23) (v := ?_) rfl (by kernel_rfl) (by kernel_rfl) (by kernel_rfl) (fun _ _ _ h => h) (Or.inl ⟨by rfl, ?_⟩) hHeld ?_
                  rotate_left
                  focus
                    intro w hSw
                    clear hSw
                    go_simp
                    try with_reducible rfl
                  try simp only [Act.put, List.getElem_toArray, List.getElem_cons_zero, List.getElem_cons_succ, List.setIfInBounds_toArray, List.set_cons_zero, List.set_cons_succ]
                  refine wpAnyH_done (by kernel_rfl) ?_ _
                  refine NoPanic.normal ?_
                  have HM3d := Lib.hid (HM3.out.below (show Below W3.heap.size W3 W3.drew from ⟨rfl, rfl, rfl, Nat.le_refl _, fun _ _ => rfl⟩))
                  have HFBd : Hid (Blk W3.drew fb #[.int .i64 oi, .int .i64 xi, .int .i64 ot, .int .i64 xt, .int .i64 xp, .int .i64 1] 111) := HFB.out
                  have HXBd : Hid (Blk W3.drew XB #[.int .i64 xi, .int .i64 xt, .bool xs, .int .i64 xp, .int .i64 xl, .int .i64 xq] 97) := HXB.out
                  have q5 : W3.drew.cell? ⟨g9, ii.length * 6 + 5, none⟩ = some (.int .i64 gn) := q5
                  have fq5 : W3.drew.frozen? ⟨g9, ii.length * 6 + 5, none⟩ = false := fq5
                  clear f0 f1 q0 q1
                  generalize W3.drew = W3d at HM3d HFBd HXBd q5 fq5 ⊢
                  have HM4 : Hid (MD w (W3d.setCell ⟨g9, ii.length * 6 + 5, none⟩ (.int .i64 (gn + 1))) B u L1 v v1 came ⟨oi, ot, true, op, z, oq⟩ (.slice (some ⟨g9, 0, none⟩) (ii ++ [(⟨ga, gb, gs, gy, gp, gn⟩ : Fill)]).length c9) (putF (ii ++ [(⟨ga, gb, gs, gy, gp, gn⟩ : Fill)]) ⟨oi, xi, ot, xt, xp, 1⟩)) := by
                    rw [HPUT.out]
                    exact HM3d.out.setF (f := ⟨ga, gb, gs, gy, gp, gn⟩) (gn + 1) (by simp)
                  have hx4 : Blk (W3d.setCell ⟨g9, ii.length * 6 + 5, none⟩ (.int .i64 (gn + 1))) XB #[.int .i64 xi, .int .i64 xt, .bool xs, .int .i64 xp, .int .i64 xl, .int .i64 xq] 97 := (Turns.set (F := fun k => k = g9) rfl).blk HXBd.out (fun e => by
                    obtain ⟨cur, hc⟩ := own_type HM3d.out.own (g := g9) rfl
                    subst e
                    exact absurd (HXBd.out.type_eq hc) (by decide))
                  obtain ⟨W4, hW4⟩ : ∃ z, z = W3d.setCell ⟨g9, ii.length * 6 + 5, none⟩ (.int .i64 (gn + 1)) := ⟨_, rfl⟩
                  have HW4 := Lib.hid hW4
                  rw [← hW4] at HM4 hx4
                  rw [hl1] at HM4
                  clear hW4
                  go_upto_region 17 with fail
                  rw [← HW4.out]
                  have x0 : W4.cell? ⟨XB, 0, none⟩ = some (.int .i64 xi) := hx4.cell 0 _ rfl
                  clear hx4
                  go_wp2_with fail
                  refine (HCUT.out W4 _ _ HM4.out).mono ?_
                  rintro e W5 ⟨rfl, L5, v5, hr5, hb5, hs5⟩
                  have HM5 := Lib.hid (HM4.out.book hr5 hs5)
                  have HBT5 := Lib.hid hb5
                  have k4 : W5.cell? ⟨w.heap.size, 4, none⟩ = some (.int .i64 z) := HM5.out.k4
                  have f4 := HM5.out.f4
                  have HM6 := Lib.hid (HM5.out.setl (z - 1))
                  clear hr5 hb5 hs5 x0
                  go_wp2_with fail
                  go_roundw
                  case rel => exact ⟨_, z - 1, _, L5, v5, _, rfl, HST, HBT5, HM6⟩
                  case measure =>
                    rw [lotsAt_of HM6.out.k4, lotsAt_of HM.out.k4]
                    show (z - 1).toNat < z.toNat
                    omega
                · have ha' : (ga == oi) = true := by simpa using ha
                  have hb' : (gb == xi) = false := by simpa using hbq
                  have HPUT : Hid (putF (ii ++ [(⟨ga, gb, gs, gy, gp, gn⟩ : Fill)]) (⟨oi, xi, ot, xt, xp, 1⟩ : Fill) = ii ++ [(⟨ga, gb, gs, gy, gp, gn⟩ : Fill)] ++ [⟨oi, xi, ot, xt, xp, 1⟩]) := putF_new (fun h => hbq h.2)
                  clear ha hbq
                  rw [hl1]
                  go_wp2_with fail
                  refine wp_region_noPanic ?_
                  refine wp_region_held_drew (S := (fun w' => w'.cell? ⟨g9, ii.length * 6, none⟩ = some (.int .i64 ga) ∧ w'.cell? ⟨g9, ii.length * 6 + 1, none⟩ = some (.int .i64 gb) ∧ w'.cell? ⟨fb, 0, none⟩ = some (.int .i64 oi) ∧ w'.cell? ⟨fb, 1, none⟩ = some (.int .i64 xi))) (by kernel_rfl) ⟨q0, q1, f0, f1⟩ (fun hHeld => ?_)
                  refine wpAnyH_take (i := 0) (v := ?_) rfl (by kernel_rfl) (by kernel_rfl) (by kernel_rfl) (fun _ _ _ h => h) (Or.inl ⟨by rfl, ?_⟩) hHeld ?_
                  rotate_left
                  focus
                    intro w hSw
                    clear hSw
                    go_simp
                    try with_reducible rfl
                  try simp only [Act.put, List.getElem_toArray, List.getElem_cons_zero, List.getElem_cons_succ, List.setIfInBounds_toArray, List.set_cons_zero, List.set_cons_succ]
                  refine wpAnyH_take (i := 1) (v := ?_) rfl (by kernel_rfl) (by kernel_rfl) (by kernel_rfl) (fun _ _ _ h => h) (Or.inl ⟨by rfl, ?_⟩) hHeld ?_
                  rotate_left
                  focus
                    intro w hSw
                    clear hSw
                    go_simp
                    try with_reducible rfl
                  try simp only [Act.put, List.getElem_toArray, List.getElem_cons_zero, List.getElem_cons_succ, List.setIfInBounds_toArray, List.set_cons_zero, List.set_cons_succ]
                  refine wpAnyH_take (i := 2) (v := ?_) rfl (by kernel_rfl) (by kernel_rfl) (by kernel_rfl) (fun _ _ _ h => h) (Or.inl ⟨by rfl, ?_⟩) hHeld ?_
                  rotate_left
                  focus
                    intro w hSw
                    clear hSw
                    go_simp
                    try with_reducible rfl
                  try simp only [Act.put, List.getElem_toArray, List.getElem_cons_zero, List.getElem_cons_succ, List.setIfInBounds_toArray, List.set_cons_zero, List.set_cons_succ]
                  refine wpAnyH_take (i := 3) (v := ?_) rfl (by kernel_rfl) (by kernel_rfl) (by kernel_rfl) (fun _ _ _ h => h) (Or.inl ⟨by rfl, ?_⟩) hHeld ?_
                  rotate_left
                  focus
                    intro w hSw
                    clear hSw
                    go_simp
                    try with_reducible rfl
                  try simp only [Act.put, List.getElem_toArray, List.getElem_cons_zero, List.getElem_cons_succ, List.setIfInBounds_toArray, List.set_cons_zero, List.set_cons_succ]
                  refine wpAnyH_take (i := 4) (v := ?_) rfl (by kernel_rfl) (by kernel_rfl) (by kernel_rfl) (fun _ _ _ h => h) (Or.inl ⟨by rfl, ?_⟩) hHeld ?_
                  rotate_left
                  focus
                    intro w hSw
                    clear hSw
                    go_simp
                    try with_reducible rfl
                  try simp only [Act.put, List.getElem_toArray, List.getElem_cons_zero, List.getElem_cons_succ, List.setIfInBounds_toArray, List.set_cons_zero, List.set_cons_succ]
                  refine wpAnyH_take (i := 5) (v := ?_) rfl (by kernel_rfl) (by kernel_rfl) (by kernel_rfl) (fun _ _ _ h => h) (Or.inl ⟨by rfl, ?_⟩) hHeld ?_
                  rotate_left
                  focus
                    intro w hSw
                    clear hSw
                    go_simp
                    try with_reducible rfl
                  try simp only [Act.put, List.getElem_toArray, List.getElem_cons_zero, List.getElem_cons_succ, List.setIfInBounds_toArray, List.set_cons_zero, List.set_cons_succ]
                  refine wpAnyH_take (i := 6) (v := ?_) rfl (by kernel_rfl) (by kernel_rfl) (by kernel_rfl) (fun _ _ _ h => h) (Or.inl ⟨by rfl, ?_⟩) hHeld ?_
                  rotate_left
                  focus
                    intro w hSw
                    clear hSw
                    go_simp
                    try with_reducible rfl
                  try simp only [Act.put, List.getElem_toArray, List.getElem_cons_zero, List.getElem_cons_succ, List.setIfInBounds_toArray, List.set_cons_zero, List.set_cons_succ]
                  refine wpAnyH_take (i := 7) (v := ?_) rfl (by kernel_rfl) (by kernel_rfl) (by kernel_rfl) (fun _ _ _ h => h) (Or.inl ⟨by rfl, ?_⟩) hHeld ?_
                  rotate_left
                  focus
                    intro w hSw
                    clear hSw
                    go_simp
                    try with_reducible rfl
                  try simp only [Act.put, List.getElem_toArray, List.getElem_cons_zero, List.getElem_cons_succ, List.setIfInBounds_toArray, List.set_cons_zero, List.set_cons_succ]
                  refine wpAnyH_take (i := 8) (v := ?_) rfl (by kernel_rfl) (by kernel_rfl) (by kernel_rfl) (fun _ _ _ h => h) (Or.inl ⟨by rfl, ?_⟩) hHeld ?_
                  rotate_left
                  focus
                    intro w hSw
                    (try dsimp only at hSw)
                    go_simp
                    try with_reducible rfl
                  try simp only [Act.put, List.getElem_toArray, List.getElem_cons_zero, List.getElem_cons_succ, List.setIfInBounds_toArray, List.set_cons_zero, List.set_cons_succ]
                  refine wpAnyH_take (i := 9) (v := ?_) rfl (by kernel_rfl) (by kernel_rfl) (by kernel_rfl) (fun _ _ _ h => h) (Or.inl ⟨by rfl, ?_⟩) hHeld ?_
                  rotate_left
                  focus
                    intro w hSw
                    clear hSw
                    go_simp
                    try with_reducible rfl
                  try simp only [Act.put, List.getElem_toArray, List.getElem_cons_zero, List.getElem_cons_succ, List.setIfInBounds_toArray, List.set_cons_zero, List.set_cons_succ]
                  refine wpAnyH_take (i := 10) (v := ?_) rfl (by kernel_rfl) (by kernel_rfl) (by kernel_rfl) (fun _ _ _ h => h) (Or.inl ⟨by rfl, ?_⟩) hHeld ?_
                  rotate_left
                  focus
                    intro w hSw
                    (try dsimp only at hSw)
                    go_simp
                    try with_reducible rfl
                  try simp only [Act.put, List.getElem_toArray, List.getElem_cons_zero, List.getElem_cons_succ, List.setIfInBounds_toArray, List.set_cons_zero, List.set_cons_succ]
                  refine wpAnyH_take (i := 11) (v := ?_) rfl (by kernel_rfl) (by kernel_rfl) (by kernel_rfl) (fun _ _ _ h => h) (Or.inl ⟨by rfl, ?_⟩) hHeld ?_
                  rotate_left
                  focus
                    intro w hSw
                    clear hSw
                    go_simp
                    try with_reducible rfl
                  try simp only [Act.put, List.getElem_toArray, List.getElem_cons_zero, List.getElem_cons_succ, List.setIfInBounds_toArray, List.set_cons_zero, List.set_cons_succ]
                  refine wpAnyH_take (i := 12) (v := ?_) rfl (by kernel_rfl) (by kernel_rfl) (by kernel_rfl) (fun _ _ _ h => h) (Or.inl ⟨by rfl, ?_⟩) hHeld ?_
                  rotate_left
                  focus
                    intro w hSw
                    clear hSw
                    go_simp
                    try with_reducible rfl
                  try simp only [Act.put, List.getElem_toArray, List.getElem_cons_zero, List.getElem_cons_succ, List.setIfInBounds_toArray, List.set_cons_zero, List.set_cons_succ]
                  refine wpAnyH_take (i := 13) (v := ?_) rfl (by kernel_rfl) (by kernel_rfl) (by kernel_rfl) (fun _ _ _ h => h) (Or.inl ⟨by rfl, ?_⟩) hHeld ?_
                  rotate_left
                  focus
                    intro w hSw
                    clear hSw
                    go_simp
                    try with_reducible rfl
                  try simp only [Act.put, List.getElem_toArray, List.getElem_cons_zero, List.getElem_cons_succ, List.setIfInBounds_toArray, List.set_cons_zero, List.set_cons_succ]
                  refine wpAnyH_take (i := 14) (v := ?_) rfl (by kernel_rfl) (by kernel_rfl) (by kernel_rfl) (fun _ _ _ h => h) (Or.inl ⟨by rfl, ?_⟩) hHeld ?_
                  rotate_left
                  focus
                    intro w hSw
                    clear hSw
                    go_simp
                    try with_reducible rfl
                  try simp only [Act.put, List.getElem_toArray, List.getElem_cons_zero, List.getElem_cons_succ, List.setIfInBounds_toArray, List.set_cons_zero, List.set_cons_succ]
                  refine wpAnyH_take (i := 15) (v := ?_) rfl (by kernel_rfl) (by kernel_rfl) (by kernel_rfl) (fun _ _ _ h => h) (Or.inl ⟨by rfl, ?_⟩) hHeld ?_
                  rotate_left
                  focus
                    intro w hSw
                    clear hSw
                    go_simp
                    try with_reducible rfl
                  try simp only [Act.put, List.getElem_toArray, List.getElem_cons_zero, List.getElem_cons_succ, List.setIfInBounds_toArray, List.set_cons_zero, List.set_cons_succ]
                  refine wpAnyH_take (i := 16) (v := ?_) rfl (by kernel_rfl) (by kernel_rfl) (by kernel_rfl) (fun _ _ _ h => h) (Or.inl ⟨by rfl, ?_⟩) hHeld ?_
                  rotate_left
                  focus
                    intro w hSw
                    clear hSw
                    go_simp
                    try with_reducible rfl
                  try simp only [Act.put, List.getElem_toArray, List.getElem_cons_zero, List.getElem_cons_succ, List.setIfInBounds_toArray, List.set_cons_zero, List.set_cons_succ]
                  refine wpAnyH_take (i := 17) (v := ?_) rfl (by kernel_rfl) (by kernel_rfl) (by kernel_rfl) (fun _ _ _ h => h) (Or.inl ⟨by rfl, ?_⟩) hHeld ?_
                  rotate_left
                  focus
                    intro w hSw
                    clear hSw
                    go_simp
                    try with_reducible rfl
                  try simp only [Act.put, List.getElem_toArray, List.getElem_cons_zero, List.getElem_cons_succ, List.setIfInBounds_toArray, List.set_cons_zero, List.set_cons_succ]
                  refine wpAnyH_take (i := 18) (v := ?_) rfl (by kernel_rfl) (by kernel_rfl) (by kernel_rfl) (fun _ _ _ h => h) (Or.inl ⟨by rfl, ?_⟩) hHeld ?_
                  rotate_left
                  focus
                    intro w hSw
                    clear hSw
                    go_simp
                    try with_reducible rfl
                  try simp only [Act.put, List.getElem_toArray, List.getElem_cons_zero, List.getElem_cons_succ, List.setIfInBounds_toArray, List.set_cons_zero, List.set_cons_succ]
                  refine wpAnyH_take (i := 19) (v := ?_) rfl (by kernel_rfl) (by kernel_rfl) (by kernel_rfl) (fun _ _ _ h => h) (Or.inl ⟨by rfl, ?_⟩) hHeld ?_
                  rotate_left
                  focus
                    intro w hSw
                    (try dsimp only at hSw)
                    go_simp
                    try with_reducible rfl
                  try simp only [Act.put, List.getElem_toArray, List.getElem_cons_zero, List.getElem_cons_succ, List.setIfInBounds_toArray, List.set_cons_zero, List.set_cons_succ]
                  refine wpAnyH_take (i := 20) (v := ?_) rfl (by kernel_rfl) (by kernel_rfl) (by kernel_rfl) (fun _ _ _ h => h) (Or.inl ⟨by rfl, ?_⟩) hHeld ?_
                  rotate_left
                  focus
                    intro w hSw
                    clear hSw
                    go_simp
                    try with_reducible rfl
                  try simp only [Act.put, List.getElem_toArray, List.getElem_cons_zero, List.getElem_cons_succ, List.setIfInBounds_toArray, List.set_cons_zero, List.set_cons_succ]
                  refine wpAnyH_take (i := 21) (v := ?_) rfl (by kernel_rfl) (by kernel_rfl) (by kernel_rfl) (fun _ _ _ h => h) (Or.inl ⟨by rfl, ?_⟩) hHeld ?_
                  rotate_left
                  focus
                    intro w hSw
                    (try dsimp only at hSw)
                    go_simp
                    try with_reducible rfl
                  try simp only [Act.put, List.getElem_toArray, List.getElem_cons_zero, List.getElem_cons_succ, List.setIfInBounds_toArray, List.set_cons_zero, List.set_cons_succ]
                  refine wpAnyH_take (i := 22) (v := ?_) rfl (by kernel_rfl) (by kernel_rfl) (by kernel_rfl) (fun _ _ _ h => h) (Or.inl ⟨by rfl, ?_⟩) hHeld ?_
                  rotate_left
                  focus
                    intro w hSw
                    clear hSw
                    go_simp
                    try with_reducible rfl
                  try simp only [Act.put, List.getElem_toArray, List.getElem_cons_zero, List.getElem_cons_succ, List.setIfInBounds_toArray, List.set_cons_zero, List.set_cons_succ]
                  refine wpAnyH_take (i := 23) (v := ?_) rfl (by kernel_rfl) (by kernel_rfl) (by kernel_rfl) (fun _ _ _ h => h) (Or.inl ⟨by rfl, ?_⟩) hHeld ?_
                  rotate_left
                  focus
                    intro w hSw
                    clear hSw
                    go_simp
                    try with_reducible rfl
                  try simp only [Act.put, List.getElem_toArray, List.getElem_cons_zero, List.getElem_cons_succ, List.setIfInBounds_toArray, List.set_cons_zero, List.set_cons_succ]
                  refine wpAnyH_done (by kernel_rfl) ?_ _
                  refine NoPanic.normal ?_
                  have HM3d := Lib.hid (HM3.out.below (show Below W3.heap.size W3 W3.drew from ⟨rfl, rfl, rfl, Nat.le_refl _, fun _ _ => rfl⟩))
                  have HFBd : Hid (Blk W3.drew fb #[.int .i64 oi, .int .i64 xi, .int .i64 ot, .int .i64 xt, .int .i64 xp, .int .i64 1] 111) := HFB.out
                  have HXBd : Hid (Blk W3.drew XB #[.int .i64 xi, .int .i64 xt, .bool xs, .int .i64 xp, .int .i64 xl, .int .i64 xq] 97) := HXB.out
                  clear f0 f1
                  generalize W3.drew = W3d at HM3d HFBd HXBd ⊢
                  have HOWN : Hid (W3d.ownsRow w.heap.size 111 6 (.slice (some ⟨g9, 0, none⟩) (ii.length + 1) c9) (ii.length + 1) (flatOf Fill.cells (ii ++ [(⟨ga, gb, gs, gy, gp, gn⟩ : Fill)]))) := by
                    show World.ownsRow _ _ _ _ _ _ _
                    rw [← hl1]
                    exact HM3d.out.own
                  have rf : W3d.rangeAt fb 0 [.int .i64 oi, .int .i64 xi, .int .i64 ot, .int .i64 xt, .int .i64 xp, .int .i64 1] := rangeAt_blk HFBd.out
                  have hszm : w.heap.size ≤ W3d.heap.size := HM3d.out.sz
                  go_wp2_with (first
                    | (refine wpList_load_mid rfl 111 _ rfl fb 0 rfl [.int .i64 oi, .int .i64 xi, .int .i64 ot, .int .i64 xt, .int .i64 xp, .int .i64 1] _ rf Tryd.underlying111 rfl size_rft ?_)
                    | (at_builtin; refine wpList_app1 rfl _ _ 108 rfl w.heap.size 111 j0 (.agg #[.int .i64 0, .int .i64 0, .int .i64 0, .int .i64 0, .int .i64 0, .int .i64 0]) 6 48 Tryd.underlying108 hj hy0 hy1 hy2 rfl (by decide) _ _ _ rfl HOWN.out [.int .i64 oi, .int .i64 xi, .int .i64 ot, .int .i64 xt, .int .i64 xp, .int .i64 1] _ rfl ?ca0 ?ca1 ?ca2 ?ca3 ?ca4 hszm ?_))
                  case ca0 => rfl
                  case ca1 => rfl
                  case ca2 => simp [Value.oneCell']
                  case ca3 => have := HFL.out; unfold maxLen; try simp at this; omega
                  case ca4 => have := HFL.out; try simp at this; omega
                  intro s9' W4 hown4 hg4 _
                  have hown4 : W4.ownsRow w.heap.size 111 6 s9' ((ii ++ [(⟨ga, gb, gs, gy, gp, gn⟩ : Fill)]) ++ [(⟨oi, xi, ot, xt, xp, 1⟩ : Fill)]).length (flatOf Fill.cells ((ii ++ [(⟨ga, gb, gs, gy, gp, gn⟩ : Fill)]) ++ [(⟨oi, xi, ot, xt, xp, 1⟩ : Fill)])) := by
                    rw [List.length_append, hl1, flatOf_append, flatOf_one]
                    exact hown4
                  rw [← HPUT.out] at hown4
                  have HM4 := Lib.hid (HM3d.out.app (out' := putF (ii ++ [(⟨ga, gb, gs, gy, gp, gn⟩ : Fill)]) ⟨oi, xi, ot, xt, xp, 1⟩) hg4 hown4)
                  obtain ⟨a10, c10, rfl⟩ := own_len hown4
                  have hx4 : Blk W4 XB #[.int .i64 xi, .int .i64 xt, .bool xs, .int .i64 xp, .int .i64 xl, .int .i64 xq] 97 := (Turns.of_grown hg4).blk HXBd.out (fun e => by
                    obtain ⟨cur, hc⟩ := own_type HM3d.out.own e
                    exact absurd (HXBd.out.type_eq hc) (by decide))
                  clear hown4 hg4 rf hszm
                  have x0 : W4.cell? ⟨XB, 0, none⟩ = some (.int .i64 xi) := hx4.cell 0 _ rfl
                  clear hx4
                  go_wp2_with fail
                  refine (HCUT.out W4 _ _ HM4.out).mono ?_
                  rintro e W5 ⟨rfl, L5, v5, hr5, hb5, hs5⟩
                  have HM5 := Lib.hid (HM4.out.book hr5 hs5)
                  have HBT5 := Lib.hid hb5
                  have k4 : W5.cell? ⟨w.heap.size, 4, none⟩ = some (.int .i64 z) := HM5.out.k4
                  have f4 := HM5.out.f4
                  have HM6 := Lib.hid (HM5.out.setl (z - 1))
                  clear hr5 hb5 hs5 x0
                  go_wp2_with fail
                  go_roundw
                  case rel => exact ⟨_, z - 1, _, L5, v5, _, rfl, HST, HBT5, HM6⟩
                  case measure =>
                    rw [lotsAt_of HM6.out.k4, lotsAt_of HM.out.k4]
                    show (z - 1).toNat < z.toNat
                    omega
              · have ha' : (ga == oi) = false := by simpa using ha
                have HPUT : Hid (putF (ii ++ [(⟨ga, gb, gs, gy, gp, gn⟩ : Fill)]) (⟨oi, xi, ot, xt, xp, 1⟩ : Fill) = ii ++ [(⟨ga, gb, gs, gy, gp, gn⟩ : Fill)] ++ [⟨oi, xi, ot, xt, xp, 1⟩]) := putF_new (fun h => ha h.1)
                clear ha
                rw [hl1]
                go_wp2_with fail
                refine wp_region_noPanic ?_
                refine wp_region_held_drew (S := (fun w' => w'.cell? ⟨g9, ii.length * 6, none⟩ = some (.int .i64 ga) ∧ w'.cell? ⟨g9, ii.length * 6 + 1, none⟩ = some (.int .i64 gb) ∧ w'.cell? ⟨fb, 0, none⟩ = some (.int .i64 oi) ∧ w'.cell? ⟨fb, 1, none⟩ = some (.int .i64 xi))) (by kernel_rfl) ⟨q0, q1, f0, f1⟩ (fun hHeld => ?_)
                refine wpAnyH_take (i := 0) (v := ?_) rfl (by kernel_rfl) (by kernel_rfl) (by kernel_rfl) (fun _ _ _ h => h) (Or.inl ⟨by rfl, ?_⟩) hHeld ?_
                rotate_left
                focus
                  intro w hSw
                  clear hSw
                  go_simp
                  try with_reducible rfl
                try simp only [Act.put, List.getElem_toArray, List.getElem_cons_zero, List.getElem_cons_succ, List.setIfInBounds_toArray, List.set_cons_zero, List.set_cons_succ]
                refine wpAnyH_take (i := 1) (v := ?_) rfl (by kernel_rfl) (by kernel_rfl) (by kernel_rfl) (fun _ _ _ h => h) (Or.inl ⟨by rfl, ?_⟩) hHeld ?_
                rotate_left
                focus
                  intro w hSw
                  clear hSw
                  go_simp
                  try with_reducible rfl
                try simp only [Act.put, List.getElem_toArray, List.getElem_cons_zero, List.getElem_cons_succ, List.setIfInBounds_toArray, List.set_cons_zero, List.set_cons_succ]
                refine wpAnyH_take (i := 2) (v := ?_) rfl (by kernel_rfl) (by kernel_rfl) (by kernel_rfl) (fun _ _ _ h => h) (Or.inl ⟨by rfl, ?_⟩) hHeld ?_
                rotate_left
                focus
                  intro w hSw
                  clear hSw
                  go_simp
                  try with_reducible rfl
                try simp only [Act.put, List.getElem_toArray, List.getElem_cons_zero, List.getElem_cons_succ, List.setIfInBounds_toArray, List.set_cons_zero, List.set_cons_succ]
                refine wpAnyH_take (i := 3) (v := ?_) rfl (by kernel_rfl) (by kernel_rfl) (by kernel_rfl) (fun _ _ _ h => h) (Or.inl ⟨by rfl, ?_⟩) hHeld ?_
                rotate_left
                focus
                  intro w hSw
                  clear hSw
                  go_simp
                  try with_reducible rfl
                try simp only [Act.put, List.getElem_toArray, List.getElem_cons_zero, List.getElem_cons_succ, List.setIfInBounds_toArray, List.set_cons_zero, List.set_cons_succ]
                refine wpAnyH_take (i := 4) (v := ?_) rfl (by kernel_rfl) (by kernel_rfl) (by kernel_rfl) (fun _ _ _ h => h) (Or.inl ⟨by rfl, ?_⟩) hHeld ?_
                rotate_left
                focus
                  intro w hSw
                  clear hSw
                  go_simp
                  try with_reducible rfl
                try simp only [Act.put, List.getElem_toArray, List.getElem_cons_zero, List.getElem_cons_succ, List.setIfInBounds_toArray, List.set_cons_zero, List.set_cons_succ]
                refine wpAnyH_take (i := 5) (v := ?_) rfl (by kernel_rfl) (by kernel_rfl) (by kernel_rfl) (fun _ _ _ h => h) (Or.inl ⟨by rfl, ?_⟩) hHeld ?_
                rotate_left
                focus
                  intro w hSw
                  clear hSw
                  go_simp
                  try with_reducible rfl
                try simp only [Act.put, List.getElem_toArray, List.getElem_cons_zero, List.getElem_cons_succ, List.setIfInBounds_toArray, List.set_cons_zero, List.set_cons_succ]
                refine wpAnyH_take (i := 6) (v := ?_) rfl (by kernel_rfl) (by kernel_rfl) (by kernel_rfl) (fun _ _ _ h => h) (Or.inl ⟨by rfl, ?_⟩) hHeld ?_
                rotate_left
                focus
                  intro w hSw
                  clear hSw
                  go_simp
                  try with_reducible rfl
                try simp only [Act.put, List.getElem_toArray, List.getElem_cons_zero, List.getElem_cons_succ, List.setIfInBounds_toArray, List.set_cons_zero, List.set_cons_succ]
                refine wpAnyH_take (i := 7) (v := ?_) rfl (by kernel_rfl) (by kernel_rfl) (by kernel_rfl) (fun _ _ _ h => h) (Or.inl ⟨by rfl, ?_⟩) hHeld ?_
                rotate_left
                focus
                  intro w hSw
                  clear hSw
                  go_simp
                  try with_reducible rfl
                try simp only [Act.put, List.getElem_toArray, List.getElem_cons_zero, List.getElem_cons_succ, List.setIfInBounds_toArray, List.set_cons_zero, List.set_cons_succ]
                refine wpAnyH_take (i := 8) (v := ?_) rfl (by kernel_rfl) (by kernel_rfl) (by kernel_rfl) (fun _ _ _ h => h) (Or.inl ⟨by rfl, ?_⟩) hHeld ?_
                rotate_left
                focus
                  intro w hSw
                  (try dsimp only at hSw)
                  go_simp
                  try with_reducible rfl
                try simp only [Act.put, List.getElem_toArray, List.getElem_cons_zero, List.getElem_cons_succ, List.setIfInBounds_toArray, List.set_cons_zero, List.set_cons_succ]
                refine wpAnyH_take (i := 9) (v := ?_) rfl (by kernel_rfl) (by kernel_rfl) (by kernel_rfl) (fun _ _ _ h => h) (Or.inl ⟨by rfl, ?_⟩) hHeld ?_
                rotate_left
                focus
                  intro w hSw
                  clear hSw
                  go_simp
                  try with_reducible rfl
                try simp only [Act.put, List.getElem_toArray, List.getElem_cons_zero, List.getElem_cons_succ, List.setIfInBounds_toArray, List.set_cons_zero, List.set_cons_succ]
                refine wpAnyH_take (i := 10) (v := ?_) rfl (by kernel_rfl) (by kernel_rfl) (by kernel_rfl) (fun _ _ _ h => h) (Or.inl ⟨by rfl, ?_⟩) hHeld ?_
                rotate_left
                focus
                  intro w hSw
                  (try dsimp only at hSw)
                  go_simp
                  try with_reducible rfl
                try simp only [Act.put, List.getElem_toArray, List.getElem_cons_zero, List.getElem_cons_succ, List.setIfInBounds_toArray, List.set_cons_zero, List.set_cons_succ]
                refine wpAnyH_take (i := 11) (v := ?_) rfl (by kernel_rfl) (by kernel_rfl) (by kernel_rfl) (fun _ _ _ h => h) (Or.inl ⟨by rfl, ?_⟩) hHeld ?_
                rotate_left
                focus
                  intro w hSw
                  clear hSw
                  go_simp
                  try with_reducible rfl
                try simp only [Act.put, List.getElem_toArray, List.getElem_cons_zero, List.getElem_cons_succ, List.setIfInBounds_toArray, List.set_cons_zero, List.set_cons_succ]
                refine wpAnyH_take (i := 12) (v := ?_) rfl (by kernel_rfl) (by kernel_rfl) (by kernel_rfl) (fun _ _ _ h => h) (Or.inl ⟨by rfl, ?_⟩) hHeld ?_
                rotate_left
                focus
                  intro w hSw
                  clear hSw
                  go_simp
                  try with_reducible rfl
                try simp only [Act.put, List.getElem_toArray, List.getElem_cons_zero, List.getElem_cons_succ, List.setIfInBounds_toArray, List.set_cons_zero, List.set_cons_succ]
                refine wpAnyH_take (i := 13) (v := ?_) rfl (by kernel_rfl) (by kernel_rfl) (by kernel_rfl) (fun _ _ _ h => h) (Or.inl ⟨by rfl, ?_⟩) hHeld ?_
                rotate_left
                focus
                  intro w hSw
                  clear hSw
                  go_simp
                  try with_reducible rfl
                try simp only [Act.put, List.getElem_toArray, List.getElem_cons_zero, List.getElem_cons_succ, List.setIfInBounds_toArray, List.set_cons_zero, List.set_cons_succ]
                refine wpAnyH_take (i := 14) (v := undef) rfl (by kernel_rfl) (by kernel_rfl) (by kernel_rfl) (fun _ _ _ h => h) (Or.inr ⟨by rfl, rfl⟩) hHeld ?_
                try simp only [Act.put, List.getElem_toArray, List.getElem_cons_zero, List.getElem_cons_succ, List.setIfInBounds_toArray, List.set_cons_zero, List.set_cons_succ]
                refine wpAnyH_take (i := 15) (v := undef) rfl (by kernel_rfl) (by kernel_rfl) (by kernel_rfl) (fun _ _ _ h => h) (Or.inr ⟨by rfl, rfl⟩) hHeld ?_
                try simp only [Act.put, List.getElem_toArray, List.getElem_cons_zero, List.getElem_cons_succ, List.setIfInBounds_toArray, List.set_cons_zero, List.set_cons_succ]
                refine wpAnyH_take (i := 16) (v := undef) rfl (by kernel_rfl) (by kernel_rfl) (by kernel_rfl) (fun _ _ _ h => h) (Or.inr ⟨by rfl, rfl⟩) hHeld ?_
                try simp only [Act.put, List.getElem_toArray, List.getElem_cons_zero, List.getElem_cons_succ, List.setIfInBounds_toArray, List.set_cons_zero, List.set_cons_succ]
                refine wpAnyH_take (i := 17) (v := undef) rfl (by kernel_rfl) (by kernel_rfl) (by kernel_rfl) (fun _ _ _ h => h) (Or.inr ⟨by rfl, rfl⟩) hHeld ?_
                try simp only [Act.put, List.getElem_toArray, List.getElem_cons_zero, List.getElem_cons_succ, List.setIfInBounds_toArray, List.set_cons_zero, List.set_cons_succ]
                refine wpAnyH_take (i := 18) (v := undef) rfl (by kernel_rfl) (by kernel_rfl) (by kernel_rfl) (fun _ _ _ h => h) (Or.inr ⟨by rfl, rfl⟩) hHeld ?_
                try simp only [Act.put, List.getElem_toArray, List.getElem_cons_zero, List.getElem_cons_succ, List.setIfInBounds_toArray, List.set_cons_zero, List.set_cons_succ]
                refine wpAnyH_take (i := 19) (v := undef) rfl (by kernel_rfl) (by kernel_rfl) (by kernel_rfl) (fun _ _ _ h => h) (Or.inr ⟨by rfl, rfl⟩) hHeld ?_
                try simp only [Act.put, List.getElem_toArray, List.getElem_cons_zero, List.getElem_cons_succ, List.setIfInBounds_toArray, List.set_cons_zero, List.set_cons_succ]
                refine wpAnyH_take (i := 20) (v := undef) rfl (by kernel_rfl) (by kernel_rfl) (by kernel_rfl) (fun _ _ _ h => h) (Or.inr ⟨by rfl, rfl⟩) hHeld ?_
                try simp only [Act.put, List.getElem_toArray, List.getElem_cons_zero, List.getElem_cons_succ, List.setIfInBounds_toArray, List.set_cons_zero, List.set_cons_succ]
                refine wpAnyH_take (i := 21) (v := undef) rfl (by kernel_rfl) (by kernel_rfl) (by kernel_rfl) (fun _ _ _ h => h) (Or.inr ⟨by rfl, rfl⟩) hHeld ?_
                try simp only [Act.put, List.getElem_toArray, List.getElem_cons_zero, List.getElem_cons_succ, List.setIfInBounds_toArray, List.set_cons_zero, List.set_cons_succ]
                refine wpAnyH_take (i := 22) (v := undef) rfl (by kernel_rfl) (by kernel_rfl) (by kernel_rfl) (fun _ _ _ h => h) (Or.inr ⟨by rfl, rfl⟩) hHeld ?_
                try simp only [Act.put, List.getElem_toArray, List.getElem_cons_zero, List.getElem_cons_succ, List.setIfInBounds_toArray, List.set_cons_zero, List.set_cons_succ]
                refine wpAnyH_take (i := 23) (v := ?_) rfl (by kernel_rfl) (by kernel_rfl) (by kernel_rfl) (fun _ _ _ h => h) (Or.inl ⟨by rfl, ?_⟩) hHeld ?_
                rotate_left
                focus
                  intro w hSw
                  clear hSw
                  go_simp
                  try with_reducible rfl
                try simp only [Act.put, List.getElem_toArray, List.getElem_cons_zero, List.getElem_cons_succ, List.setIfInBounds_toArray, List.set_cons_zero, List.set_cons_succ]
                refine wpAnyH_done (by kernel_rfl) ?_ _
                refine NoPanic.normal ?_
                have HM3d := Lib.hid (HM3.out.below (show Below W3.heap.size W3 W3.drew from ⟨rfl, rfl, rfl, Nat.le_refl _, fun _ _ => rfl⟩))
                have HFBd : Hid (Blk W3.drew fb #[.int .i64 oi, .int .i64 xi, .int .i64 ot, .int .i64 xt, .int .i64 xp, .int .i64 1] 111) := HFB.out
                have HXBd : Hid (Blk W3.drew XB #[.int .i64 xi, .int .i64 xt, .bool xs, .int .i64 xp, .int .i64 xl, .int .i64 xq] 97) := HXB.out
                clear f0 f1
                generalize W3.drew = W3d at HM3d HFBd HXBd ⊢
                have HOWN : Hid (W3d.ownsRow w.heap.size 111 6 (.slice (some ⟨g9, 0, none⟩) (ii.length + 1) c9) (ii.length + 1) (flatOf Fill.cells (ii ++ [(⟨ga, gb, gs, gy, gp, gn⟩ : Fill)]))) := by
                  show World.ownsRow _ _ _ _ _ _ _
                  rw [← hl1]
                  exact HM3d.out.own
                have rf : W3d.rangeAt fb 0 [.int .i64 oi, .int .i64 xi, .int .i64 ot, .int .i64 xt, .int .i64 xp, .int .i64 1] := rangeAt_blk HFBd.out
                have hszm : w.heap.size ≤ W3d.heap.size := HM3d.out.sz
                go_wp2_with (first
                  | (refine wpList_load_mid rfl 111 _ rfl fb 0 rfl [.int .i64 oi, .int .i64 xi, .int .i64 ot, .int .i64 xt, .int .i64 xp, .int .i64 1] _ rf Tryd.underlying111 rfl size_rft ?_)
                  | (at_builtin; refine wpList_app1 rfl _ _ 108 rfl w.heap.size 111 j0 (.agg #[.int .i64 0, .int .i64 0, .int .i64 0, .int .i64 0, .int .i64 0, .int .i64 0]) 6 48 Tryd.underlying108 hj hy0 hy1 hy2 rfl (by decide) _ _ _ rfl HOWN.out [.int .i64 oi, .int .i64 xi, .int .i64 ot, .int .i64 xt, .int .i64 xp, .int .i64 1] _ rfl ?ca0 ?ca1 ?ca2 ?ca3 ?ca4 hszm ?_))
                case ca0 => rfl
                case ca1 => rfl
                case ca2 => simp [Value.oneCell']
                case ca3 => have := HFL.out; unfold maxLen; try simp at this; omega
                case ca4 => have := HFL.out; try simp at this; omega
                intro s9' W4 hown4 hg4 _
                have hown4 : W4.ownsRow w.heap.size 111 6 s9' ((ii ++ [(⟨ga, gb, gs, gy, gp, gn⟩ : Fill)]) ++ [(⟨oi, xi, ot, xt, xp, 1⟩ : Fill)]).length (flatOf Fill.cells ((ii ++ [(⟨ga, gb, gs, gy, gp, gn⟩ : Fill)]) ++ [(⟨oi, xi, ot, xt, xp, 1⟩ : Fill)])) := by
                  rw [List.length_append, hl1, flatOf_append, flatOf_one]
                  exact hown4
                rw [← HPUT.out] at hown4
                have HM4 := Lib.hid (HM3d.out.app (out' := putF (ii ++ [(⟨ga, gb, gs, gy, gp, gn⟩ : Fill)]) ⟨oi, xi, ot, xt, xp, 1⟩) hg4 hown4)
                obtain ⟨a10, c10, rfl⟩ := own_len hown4
                have hx4 : Blk W4 XB #[.int .i64 xi, .int .i64 xt, .bool xs, .int .i64 xp, .int .i64 xl, .int .i64 xq] 97 := (Turns.of_grown hg4).blk HXBd.out (fun e => by
                  obtain ⟨cur, hc⟩ := own_type HM3d.out.own e
                  exact absurd (HXBd.out.type_eq hc) (by decide))
                clear hown4 hg4 rf hszm
                have x0 : W4.cell? ⟨XB, 0, none⟩ = some (.int .i64 xi) := hx4.cell 0 _ rfl
                clear hx4
                go_wp2_with fail
                refine (HCUT.out W4 _ _ HM4.out).mono ?_
                rintro e W5 ⟨rfl, L5, v5, hr5, hb5, hs5⟩
                have HM5 := Lib.hid (HM4.out.book hr5 hs5)
                have HBT5 := Lib.hid hb5
                have k4 : W5.cell? ⟨w.heap.size, 4, none⟩ = some (.int .i64 z) := HM5.out.k4
                have f4 := HM5.out.f4
                have HM6 := Lib.hid (HM5.out.setl (z - 1))
                clear hr5 hb5 hs5 x0
                go_wp2_with fail
                go_roundw
                case rel => exact ⟨_, z - 1, _, L5, v5, _, rfl, HST, HBT5, HM6⟩
                case measure =>
                  rw [lotsAt_of HM6.out.k4, lotsAt_of HM.out.k4]
                  show (z - 1).toNat < z.toNat
                  omega
          · have hn : nextOk ⟨oi, ot, true, op, ol, oq⟩ z (x :: r) = false := by unfold nextOk; simp only [if_neg hz]; simpa using hmt
            obtain ⟨xi, xt, xs, xp, xl, xq⟩ := x
            simp only at x3
            have d1 : decide (xp < op) = true := by
              unfold meetsO at hmt
              simpa using hmt
            clear hmt
            go_wp2_with fail
            refine wp_region_noPanic ?_
            refine wp_region_held_drew (S := (fun w' => w'.cell? ⟨w.heap.size, 2, none⟩ = some (.bool true) ∧ w'.cell? ⟨w.heap.size, 3, none⟩ = some (.int .i64 op) ∧ w'.cell? ⟨gl, 3, none⟩ = some (.int .i64 xp))) (by kernel_rfl) ⟨k2, k3, x3⟩ (fun hHeld => ?_)
            refine wpAnyH_take (i := 0) (v := ?_) rfl (by kernel_rfl) (by kernel_rfl) (by kernel_rfl) (fun _ _ _ h => h) (Or.inl ⟨by rfl, ?_⟩) hHeld ?_
            rotate_left
            focus
              intro w hSw
              clear hSw
              go_simp
              try with_reducible rfl
            try simp only [Act.put, List.getElem_toArray, List.getElem_cons_zero, List.getElem_cons_succ, List.setIfInBounds_toArray, List.set_cons_zero, List.set_cons_succ]
            refine wpAnyH_take (i := 1) (v := ?_) rfl (by kernel_rfl) (by kernel_rfl) (by kernel_rfl) (fun _ _ _ h => h) (Or.inl ⟨by rfl, ?_⟩) hHeld ?_
            rotate_left
            focus
              intro w hSw
              clear hSw
              go_simp
              try with_reducible rfl
            try simp only [Act.put, List.getElem_toArray, List.getElem_cons_zero, List.getElem_cons_succ, List.setIfInBounds_toArray, List.set_cons_zero, List.set_cons_succ]
            refine wpAnyH_take (i := 2) (v := ?_) rfl (by kernel_rfl) (by kernel_rfl) (by kernel_rfl) (fun _ _ _ h => h) (Or.inl ⟨by rfl, ?_⟩) hHeld ?_
            rotate_left
            focus
              intro w hSw
              clear hSw
              go_simp
              try with_reducible rfl
            try simp only [Act.put, List.getElem_toArray, List.getElem_cons_zero, List.getElem_cons_succ, List.setIfInBounds_toArray, List.set_cons_zero, List.set_cons_succ]
            refine wpAnyH_take (i := 3) (v := ?_) rfl (by kernel_rfl) (by kernel_rfl) (by kernel_rfl) (fun _ _ _ h => h) (Or.inl ⟨by rfl, ?_⟩) hHeld ?_
            rotate_left
            focus
              intro w hSw
              clear hSw
              go_simp
              try with_reducible rfl
            try simp only [Act.put, List.getElem_toArray, List.getElem_cons_zero, List.getElem_cons_succ, List.setIfInBounds_toArray, List.set_cons_zero, List.set_cons_succ]
            refine wpAnyH_take (i := 4) (v := ?_) rfl (by kernel_rfl) (by kernel_rfl) (by kernel_rfl) (fun _ _ _ h => h) (Or.inl ⟨by rfl, ?_⟩) hHeld ?_
            rotate_left
            focus
              intro w hSw
              clear hSw
              go_simp
              try with_reducible rfl
            try simp only [Act.put, List.getElem_toArray, List.getElem_cons_zero, List.getElem_cons_succ, List.setIfInBounds_toArray, List.set_cons_zero, List.set_cons_succ]
            refine wpAnyH_take (i := 5) (v := ?_) rfl (by kernel_rfl) (by kernel_rfl) (by kernel_rfl) (fun _ _ _ h => h) (Or.inl ⟨by rfl, ?_⟩) hHeld ?_
            rotate_left
            focus
              intro w hSw
              (try dsimp only at hSw)
              go_simp
              try with_reducible rfl
            try simp only [Act.put, List.getElem_toArray, List.getElem_cons_zero, List.getElem_cons_succ, List.setIfInBounds_toArray, List.set_cons_zero, List.set_cons_succ]
            refine wpAnyH_take (i := 6) (v := ?_) rfl (by kernel_rfl) (by kernel_rfl) (by kernel_rfl) (fun _ _ _ h => h) (Or.inl ⟨by rfl, ?_⟩) hHeld ?_
            rotate_left
            focus
              intro w hSw
              clear hSw
              go_simp
              try with_reducible rfl
            try simp only [Act.put, List.getElem_toArray, List.getElem_cons_zero, List.getElem_cons_succ, List.setIfInBounds_toArray, List.set_cons_zero, List.set_cons_succ]
            refine wpAnyH_take (i := 7) (v := ?_) rfl (by kernel_rfl) (by kernel_rfl) (by kernel_rfl) (fun _ _ _ h => h) (Or.inl ⟨by rfl, ?_⟩) hHeld ?_
            rotate_left
            focus
              intro w hSw
              clear hSw
              go_simp
              try with_reducible rfl
            try simp only [Act.put, List.getElem_toArray, List.getElem_cons_zero, List.getElem_cons_succ, List.setIfInBounds_toArray, List.set_cons_zero, List.set_cons_succ]
            refine wpAnyH_take (i := 8) (v := ?_) rfl (by kernel_rfl) (by kernel_rfl) (by kernel_rfl) (fun _ _ _ h => h) (Or.inl ⟨by rfl, ?_⟩) hHeld ?_
            rotate_left
            focus
              intro w hSw
              clear hSw
              go_simp
              try with_reducible rfl
            try simp only [Act.put, List.getElem_toArray, List.getElem_cons_zero, List.getElem_cons_succ, List.setIfInBounds_toArray, List.set_cons_zero, List.set_cons_succ]
            refine wpAnyH_take (i := 9) (v := ?_) rfl (by kernel_rfl) (by kernel_rfl) (by kernel_rfl) (fun _ _ _ h => h) (Or.inl ⟨by rfl, ?_⟩) hHeld ?_
            rotate_left
            focus
              intro w hSw
              clear hSw
              go_simp
              try with_reducible rfl
            try simp only [Act.put, List.getElem_toArray, List.getElem_cons_zero, List.getElem_cons_succ, List.setIfInBounds_toArray, List.set_cons_zero, List.set_cons_succ]
            refine wpAnyH_take (i := 10) (v := ?_) rfl (by kernel_rfl) (by kernel_rfl) (by kernel_rfl) (fun _ _ _ h => h) (Or.inl ⟨by rfl, ?_⟩) hHeld ?_
            rotate_left
            focus
              intro w hSw
              (try dsimp only at hSw)
              go_simp
              try with_reducible rfl
            try simp only [Act.put, List.getElem_toArray, List.getElem_cons_zero, List.getElem_cons_succ, List.setIfInBounds_toArray, List.set_cons_zero, List.set_cons_succ]
            refine wpAnyH_take (i := 11) (v := ?_) rfl (by kernel_rfl) (by kernel_rfl) (by kernel_rfl) (fun _ _ _ h => h) (Or.inl ⟨by rfl, ?_⟩) hHeld ?_
            rotate_left
            focus
              intro w hSw
              clear hSw
              go_simp
              try with_reducible rfl
            try simp only [Act.put, List.getElem_toArray, List.getElem_cons_zero, List.getElem_cons_succ, List.setIfInBounds_toArray, List.set_cons_zero, List.set_cons_succ]
            refine wpAnyH_take (i := 12) (v := ?_) rfl (by kernel_rfl) (by kernel_rfl) (by kernel_rfl) (fun _ _ _ h => h) (Or.inl ⟨by rfl, ?_⟩) hHeld ?_
            rotate_left
            focus
              intro w hSw
              (try dsimp only at hSw)
              go_simp
              try with_reducible rfl
            try simp only [Act.put, List.getElem_toArray, List.getElem_cons_zero, List.getElem_cons_succ, List.setIfInBounds_toArray, List.set_cons_zero, List.set_cons_succ]
            refine wpAnyH_take (i := 13) (v := ?_) rfl (by kernel_rfl) (by kernel_rfl) (by kernel_rfl) (fun _ _ _ h => h) (Or.inl ⟨by rfl, ?_⟩) hHeld ?_
            rotate_left
            focus
              intro w hSw
              clear hSw
              go_simp
              try with_reducible rfl
            try simp only [Act.put, List.getElem_toArray, List.getElem_cons_zero, List.getElem_cons_succ, List.setIfInBounds_toArray, List.set_cons_zero, List.set_cons_succ]
            refine wpAnyH_take (i := 14) (v := ?_) rfl (by kernel_rfl) (by kernel_rfl) (by kernel_rfl) (fun _ _ _ h => h) (Or.inl ⟨by rfl, ?_⟩) hHeld ?_
            rotate_left
            focus
              intro w hSw
              clear hSw
              go_simp
              try with_reducible rfl
            try simp only [Act.put, List.getElem_toArray, List.getElem_cons_zero, List.getElem_cons_succ, List.setIfInBounds_toArray, List.set_cons_zero, List.set_cons_succ]
            refine wpAnyH_take (i := 15) (v := ?_) rfl (by kernel_rfl) (by kernel_rfl) (by kernel_rfl) (fun _ _ _ h => h) (Or.inl ⟨by rfl, ?_⟩) hHeld ?_
            rotate_left
            focus
              intro w hSw
              clear hSw
              go_simp
              try with_reducible rfl
            try simp only [Act.put, List.getElem_toArray, List.getElem_cons_zero, List.getElem_cons_succ, List.setIfInBounds_toArray, List.set_cons_zero, List.set_cons_succ]
            refine wpAnyH_take (i := 16) (v := ?_) rfl (by kernel_rfl) (by kernel_rfl) (by kernel_rfl) (fun _ _ _ h => h) (Or.inl ⟨by rfl, ?_⟩) hHeld ?_
            rotate_left
            focus
              intro w hSw
              clear hSw
              go_simp
              try with_reducible rfl
            try simp only [Act.put, List.getElem_toArray, List.getElem_cons_zero, List.getElem_cons_succ, List.setIfInBounds_toArray, List.set_cons_zero, List.set_cons_succ]
            refine wpAnyH_take (i := 17) (v := undef) rfl (by kernel_rfl) (by kernel_rfl) (by kernel_rfl) (fun _ _ _ h => h) (Or.inr ⟨by rfl, rfl⟩) hHeld ?_
            try simp only [Act.put, List.getElem_toArray, List.getElem_cons_zero, List.getElem_cons_succ, List.setIfInBounds_toArray, List.set_cons_zero, List.set_cons_succ]
            refine wpAnyH_take (i := 18) (v := undef) rfl (by kernel_rfl) (by kernel_rfl) (by kernel_rfl) (fun _ _ _ h => h) (Or.inr ⟨by rfl, rfl⟩) hHeld ?_
            try simp only [Act.put, List.getElem_toArray, List.getElem_cons_zero, List.getElem_cons_succ, List.setIfInBounds_toArray, List.set_cons_zero, List.set_cons_succ]
            refine wpAnyH_take (i := 19) (v := undef) rfl (by kernel_rfl) (by kernel_rfl) (by kernel_rfl) (fun _ _ _ h => h) (Or.inr ⟨by rfl, rfl⟩) hHeld ?_
            try simp only [Act.put, List.getElem_toArray, List.getElem_cons_zero, List.getElem_cons_succ, List.setIfInBounds_toArray, List.set_cons_zero, List.set_cons_succ]
            refine wpAnyH_take (i := 20) (v := undef) rfl (by kernel_rfl) (by kernel_rfl) (by kernel_rfl) (fun _ _ _ h => h) (Or.inr ⟨by rfl, rfl⟩) hHeld ?_
            try simp only [Act.put, List.getElem_toArray, List.getElem_cons_zero, List.getElem_cons_succ, List.setIfInBounds_toArray, List.set_cons_zero, List.set_cons_succ]
            refine wpAnyH_take (i := 21) (v := undef) rfl (by kernel_rfl) (by kernel_rfl) (by kernel_rfl) (fun _ _ _ h => h) (Or.inr ⟨by rfl, rfl⟩) hHeld ?_
            try simp only [Act.put, List.getElem_toArray, List.getElem_cons_zero, List.getElem_cons_succ, List.setIfInBounds_toArray, List.set_cons_zero, List.set_cons_succ]
            refine wpAnyH_take (i := 22) (v := undef) rfl (by kernel_rfl) (by kernel_rfl) (by kernel_rfl) (fun _ _ _ h => h) (Or.inr ⟨by rfl, rfl⟩) hHeld ?_
            try simp only [Act.put, List.getElem_toArray, List.getElem_cons_zero, List.getElem_cons_succ, List.setIfInBounds_toArray, List.set_cons_zero, List.set_cons_succ]
            refine wpAnyH_take (i := 23) (v := undef) rfl (by kernel_rfl) (by kernel_rfl) (by kernel_rfl) (fun _ _ _ h => h) (Or.inr ⟨by rfl, rfl⟩) hHeld ?_
            try simp only [Act.put, List.getElem_toArray, List.getElem_cons_zero, List.getElem_cons_succ, List.setIfInBounds_toArray, List.set_cons_zero, List.set_cons_succ]
            refine wpAnyH_take (i := 24) (v := undef) rfl (by kernel_rfl) (by kernel_rfl) (by kernel_rfl) (fun _ _ _ h => h) (Or.inr ⟨by rfl, rfl⟩) hHeld ?_
            try simp only [Act.put, List.getElem_toArray, List.getElem_cons_zero, List.getElem_cons_succ, List.setIfInBounds_toArray, List.set_cons_zero, List.set_cons_succ]
            refine wpAnyH_take (i := 25) (v := undef) rfl (by kernel_rfl) (by kernel_rfl) (by kernel_rfl) (fun _ _ _ h => h) (Or.inr ⟨by rfl, rfl⟩) hHeld ?_
            try simp only [Act.put, List.getElem_toArray, List.getElem_cons_zero, List.getElem_cons_succ, List.setIfInBounds_toArray, List.set_cons_zero, List.set_cons_succ]
            refine wpAnyH_take (i := 26) (v := undef) rfl (by kernel_rfl) (by kernel_rfl) (by kernel_rfl) (fun _ _ _ h => h) (Or.inr ⟨by rfl, rfl⟩) hHeld ?_
            try simp only [Act.put, List.getElem_toArray, List.getElem_cons_zero, List.getElem_cons_succ, List.setIfInBounds_toArray, List.set_cons_zero, List.set_cons_succ]
            refine wpAnyH_take (i := 27) (v := undef) rfl (by kernel_rfl) (by kernel_rfl) (by kernel_rfl) (fun _ _ _ h => h) (Or.inr ⟨by rfl, rfl⟩) hHeld ?_
            try simp only [Act.put, List.getElem_toArray, List.getElem_cons_zero, List.getElem_cons_succ, List.setIfInBounds_toArray, List.set_cons_zero, List.set_cons_succ]
            refine wpAnyH_take (i := 28) (v := undef) rfl (by kernel_rfl) (by kernel_rfl) (by kernel_rfl) (fun _ _ _ h => h) (Or.inr ⟨by rfl, rfl⟩) hHeld ?_
            try simp only [Act.put, List.getElem_toArray, List.getElem_cons_zero, List.getElem_cons_succ, List.setIfInBounds_toArray, List.set_cons_zero, List.set_cons_succ]
            refine wpAnyH_take (i := 29) (v := ?_) rfl (by kernel_rfl) (by kernel_rfl) (by kernel_rfl) (fun _ _ _ h => h) (Or.inl ⟨by rfl, ?_⟩) hHeld ?_
            rotate_left
            focus
              intro w hSw
              clear hSw
              go_simp
              try with_reducible rfl
            try simp only [Act.put, List.getElem_toArray, List.getElem_cons_zero, List.getElem_cons_succ, List.setIfInBounds_toArray, List.set_cons_zero, List.set_cons_succ]
            refine wpAnyH_done (by kernel_rfl) ?_ _
            refine NoPanic.normal ?_
            have HM1d := Lib.hid (HM1.out.below (show Below W1.heap.size W1 W1.drew from ⟨rfl, rfl, rfl, Nat.le_refl _, fun _ _ => rfl⟩))
            clear k2 k3 k4
            generalize W1.drew = WD at HM1d ⊢
            have hn' := hn
            have HADD : Hid (∀ W, MD w W B u L1 v v1 came ⟨oi, ot, true, op, z, oq⟩ (.slice a9 out.length c9) out → Calls Tryd.prog 58 #[.pointer (some ⟨u, 0, none⟩), .agg #[.int .i64 oi, .int .i64 ot, .bool true, .int .i64 op, .int .i64 z, .int .i64 oq]] W fun e w' => e = .returned (.int .i64 0) ∧ ∃ L' v', RV w' B u L' v' (came + 1) ∧ Both (addL (updL l false (⟨xi, xt, xs, xp, xl, xq⟩ :: r)) ⟨oi, ot, true, op, z, oq⟩ came) (came + 1) L' ∧ RTn W w' B u v1) := fun W hm =>
              radd_any2 B u _ L1 v1 came ⟨oi, ot, true, op, z, oq⟩ W hm.hBW (Lib.hid hm.rv) HBT.out HC.out (HMR.out.addK HK.out hz)
            have HEND : Hid (∀ W9 L9 v9, W9.ownsRow w.heap.size 111 6 (.slice a9 out.length c9) out.length (flatOf Fill.cells out) → RV W9 B u L9 v9 (came + 1) → Both (addL (updL l false (⟨xi, xt, xs, xp, xl, xq⟩ :: r)) ⟨oi, ot, true, op, z, oq⟩ came) (came + 1) L9 → RStep w W9 B → RMatchQ w B u v l ⟨oi, ot, true, op, ol, oq⟩ came (.returned (.tuple #[.slice a9 out.length c9, .int .i64 z, .int .i64 0])) W9) := fun W9 L9 v9 a b c d => rmatch_done1 HMR.out hn' hz a b c d
            have rx := HM1d.out.rx
            have rx : WD.rangeAt w.heap.size 0 [.int .i64 oi, .int .i64 ot, .bool true, .int .i64 op, .int .i64 z, .int .i64 oq] := rx
            have k4 := HM1d.out.k4
            have k4 : WD.cell? ⟨w.heap.size, 4, none⟩ = some (.int .i64 z) := k4
            clear hn hn' hz
            go_wp2_with (refine wpList_load_mid rfl 97 _ rfl w.heap.size 0 rfl [.int .i64 oi, .int .i64 ot, .bool true, .int .i64 op, .int .i64 z, .int .i64 oq] _ rx Tryd.underlying97 rfl size_ror ?_)
            refine (HADD.out WD HM1d.out).mono ?_
            rintro e W9 ⟨rfl, L9, v9, hr9, hb9, hs9⟩
            have hx9 : Blk W9 w.heap.size #[.int .i64 oi, .int .i64 ot, .bool true, .int .i64 op, .int .i64 z, .int .i64 oq] 97 := hs9.turns.blk HM1d.out.ob (fun e => by
              rcases e with e | e
              · have := HM1d.out.ux; omega
              · exact HM1d.out.vx e)
            have k4 : W9.cell? ⟨w.heap.size, 4, none⟩ = some (.int .i64 z) := hx9.cell 4 _ rfl
            have HEND := Lib.hid (HEND.out W9.drew L9 v9 (hs9.old.owns HM1d.out.own (by decide) (by decide)) hr9.drew hb9 (HM1d.out.st.old.trans hs9.old).drew)
            clear hr9 hb9 hs9 hx9 rx
            go_wp2_with fail
            refine wp_region_noPanic ?_
            refine wp_region_held_drew (S := (fun w' => w'.cell? ⟨w.heap.size, 4, none⟩ = some (.int .i64 z))) (by kernel_rfl) k4 (fun hHeld => ?_)
            refine wpAnyH_take (i := 0) (v := ?_) rfl (by kernel_rfl) (by kernel_rfl) (by kernel_rfl) (fun _ _ _ h => h) (Or.inl ⟨by rfl, ?_⟩) hHeld ?_
            rotate_left
            focus
              intro w hSw
              clear hSw
              go_simp
              try with_reducible rfl
            try simp only [Act.put, List.getElem_toArray, List.getElem_cons_zero, List.getElem_cons_succ, List.setIfInBounds_toArray, List.set_cons_zero, List.set_cons_succ]
            refine wpAnyH_take (i := 1) (v := ?_) rfl (by kernel_rfl) (by kernel_rfl) (by kernel_rfl) (fun _ _ _ h => h) (Or.inl ⟨by rfl, ?_⟩) hHeld ?_
            rotate_left
            focus
              intro w hSw
              clear hSw
              go_simp
              try with_reducible rfl
            try simp only [Act.put, List.getElem_toArray, List.getElem_cons_zero, List.getElem_cons_succ, List.setIfInBounds_toArray, List.set_cons_zero, List.set_cons_succ]
            refine wpAnyH_take (i := 2) (v := ?_) rfl (by kernel_rfl) (by kernel_rfl) (by kernel_rfl) (fun _ _ _ h => h) (Or.inl ⟨by rfl, ?_⟩) hHeld ?_
            rotate_left
            focus
              intro w hSw
              (try dsimp only at hSw)
              go_simp
              try with_reducible rfl
            try simp only [Act.put, List.getElem_toArray, List.getElem_cons_zero, List.getElem_cons_succ, List.setIfInBounds_toArray, List.set_cons_zero, List.set_cons_succ]
            refine wpAnyH_take (i := 3) (v := ?_) rfl (by kernel_rfl) (by kernel_rfl) (by kernel_rfl) (fun _ _ _ h => h) (Or.inl ⟨by rfl, ?_⟩) hHeld ?_
            rotate_left
            focus
              intro w hSw
              clear hSw
              go_simp
              try with_reducible rfl
            try simp only [Act.put, List.getElem_toArray, List.getElem_cons_zero, List.getElem_cons_succ, List.setIfInBounds_toArray, List.set_cons_zero, List.set_cons_succ]
            refine wpAnyH_take (i := 4) (v := ?_) rfl (by kernel_rfl) (by kernel_rfl) (by kernel_rfl) (fun _ _ _ h => h) (Or.inl ⟨by rfl, ?_⟩) hHeld ?_
            rotate_left
            focus
              intro w hSw
              clear hSw
              go_simp
              try with_reducible rfl
            try simp only [Act.put, List.getElem_toArray, List.getElem_cons_zero, List.getElem_cons_succ, List.setIfInBounds_toArray, List.set_cons_zero, List.set_cons_succ]
            refine wpAnyH_take (i := 5) (v := ?_) rfl (by kernel_rfl) (by kernel_rfl) (by kernel_rfl) (fun _ _ _ h => h) (Or.inl ⟨by rfl, ?_⟩) hHeld ?_
            rotate_left
            focus
              intro w hSw
              clear hSw
              go_simp
              try with_reducible rfl
            try simp only [Act.put, List.getElem_toArray, List.getElem_cons_zero, List.getElem_cons_succ, List.setIfInBounds_toArray, List.set_cons_zero, List.set_cons_succ]
            refine wpAnyH_done (by kernel_rfl) ?_ _
            refine NoPanic.normal ?_
            go_wp2_with fail
            go_ret3
            exact HEND.out
  | false =>
    simp only [Bool.not_false] at *
    have j5 := HB6.out
    go_wp2_with fail
    go_loopw [9] (fun s9 wx => ∃ (out : List Fill) (z : Int) (S : List Ord) (L1 : List Ord) (v1 : Value) (W0 : World), W0 = wx ∧ Hid (MR ⟨oi, ot, false, op, ol, oq⟩ l came out z S) ∧ Hid (Both (updL l true S) came L1) ∧ Hid (MD w W0 B u L1 v v1 came ⟨oi, ot, false, op, z, oq⟩ s9 out)) (fun _ wx => lotsAt w.heap.size wx)
    case atStart => exact ⟨[], ol, l true, L, v, _, rfl, HMR0, HBT0, HM7⟩
    case round =>
      obtain ⟨out, z, S, L1, v1, WR, rfl, HMR, HBT, HM⟩ := hrel
      clear HMR0 HBT0 HM7
      obtain ⟨a9, c9, rfl⟩ := own_len HM.out.own
      have HZ0 := Lib.hid HMR.out.z0
      have k4 : WR.cell? ⟨w.heap.size, 4, none⟩ = some (.int .i64 z) := HM.out.k4
      by_cases hz : z = 0
      · have hn : nextOk ⟨oi, ot, false, op, ol, oq⟩ z S = false := by subst hz; unfold nextOk; cases S <;> simp
        have HEND := Lib.hid (rmatch_done0 (HM.out.below (show Below WR.heap.size WR WR.drew from ⟨rfl, rfl, rfl, Nat.le_refl _, fun _ _ => rfl⟩)) HMR.out HBT.out hn hz)
        have hz' : decide (0 < z) = false := by simp; omega
        subst hz
        clear hn
        go_wp2_with fail
        refine wp_region_noPanic ?_
        refine wp_region_held_drew (S := (fun w' => w'.cell? ⟨w.heap.size, 4, none⟩ = some (.int .i64 0))) (by kernel_rfl) k4 (fun hHeld => ?_)
        refine wpAnyH_take (i := 0) (v := ?_) rfl (by kernel_rfl) (by kernel_rfl) (by kernel_rfl) (fun _ _ _ h => h) (Or.inl ⟨by rfl, ?_⟩) hHeld ?_
        rotate_left
        focus
          intro w hSw
          clear hSw
          go_simp
          try with_reducible rfl
        try simp only [Act.put, List.getElem_toArray, List.getElem_cons_zero, List.getElem_cons_succ, List.setIfInBounds_toArray, List.set_cons_zero, List.set_cons_succ]
        refine wpAnyH_take (i := 1) (v := ?_) rfl (by kernel_rfl) (by kernel_rfl) (by kernel_rfl) (fun _ _ _ h => h) (Or.inl ⟨by rfl, ?_⟩) hHeld ?_
        rotate_left
        focus
          intro w hSw
          clear hSw
          go_simp
          try with_reducible rfl
        try simp only [Act.put, List.getElem_toArray, List.getElem_cons_zero, List.getElem_cons_succ, List.setIfInBounds_toArray, List.set_cons_zero, List.set_cons_succ]
        refine wpAnyH_take (i := 2) (v := ?_) rfl (by kernel_rfl) (by kernel_rfl) (by kernel_rfl) (fun _ _ _ h => h) (Or.inl ⟨by rfl, ?_⟩) hHeld ?_
        rotate_left
        focus
          intro w hSw
          (try dsimp only at hSw)
          go_simp
          try with_reducible rfl
        try simp only [Act.put, List.getElem_toArray, List.getElem_cons_zero, List.getElem_cons_succ, List.setIfInBounds_toArray, List.set_cons_zero, List.set_cons_succ]
        refine wpAnyH_take (i := 3) (v := ?_) rfl (by kernel_rfl) (by kernel_rfl) (by kernel_rfl) (fun _ _ _ h => h) (Or.inl ⟨by rfl, ?_⟩) hHeld ?_
        rotate_left
        focus
          intro w hSw
          clear hSw
          go_simp
          try with_reducible rfl
        try simp only [Act.put, List.getElem_toArray, List.getElem_cons_zero, List.getElem_cons_succ, List.setIfInBounds_toArray, List.set_cons_zero, List.set_cons_succ]
        refine wpAnyH_take (i := 4) (v := ?_) rfl (by kernel_rfl) (by kernel_rfl) (by kernel_rfl) (fun _ _ _ h => h) (Or.inl ⟨by rfl, ?_⟩) hHeld ?_
        rotate_left
        focus
          intro w hSw
          clear hSw
          go_simp
          try with_reducible rfl
        try simp only [Act.put, List.getElem_toArray, List.getElem_cons_zero, List.getElem_cons_succ, List.setIfInBounds_toArray, List.set_cons_zero, List.set_cons_succ]
        refine wpAnyH_take (i := 5) (v := ?_) rfl (by kernel_rfl) (by kernel_rfl) (by kernel_rfl) (fun _ _ _ h => h) (Or.inl ⟨by rfl, ?_⟩) hHeld ?_
        rotate_left
        focus
          intro w hSw
          clear hSw
          go_simp
          try with_reducible rfl
        try simp only [Act.put, List.getElem_toArray, List.getElem_cons_zero, List.getElem_cons_succ, List.setIfInBounds_toArray, List.set_cons_zero, List.set_cons_succ]
        refine wpAnyH_done (by kernel_rfl) ?_ _
        refine NoPanic.normal ?_
        go_wp2_with fail
        go_ret3
        exact HEND.out
      · have hz' : decide (0 < z) = true := by have := HZ0.out; simp; omega
        have hz1 : 1 ≤ z := by have := HZ0.out; omega
        have hz2 : z ≤ 1000 := by have := HMR.out.z1; have := HOL.out; simp only at *; omega
        have k2 : WR.cell? ⟨w.heap.size, 2, none⟩ = some (.bool false) := HM.out.k2
        have HRL := Lib.hid (rlist_c B u L1 v1 came true WR (Lib.hid HM.out.rv) (Nat.le_trans HBT.out.few (by decide)))
        rw [HBT.out.list true, updL_same] at HRL
        go_wp2_with fail
        refine HRL.out.mono ?_
        rintro e W1 ⟨va, rfl, hown1, hb1⟩
        have HM1 := Lib.hid (HM.out.below hb1)
        have k2 : W1.cell? ⟨w.heap.size, 2, none⟩ = some (.bool false) := HM1.out.k2
        have k3 : W1.cell? ⟨w.heap.size, 3, none⟩ = some (.int .i64 op) := HM1.out.k3
        have k4 : W1.cell? ⟨w.heap.size, 4, none⟩ = some (.int .i64 z) := HM1.out.k4
        clear hb1 HRL
        cases S with
        | nil =>
          have hn : nextOk ⟨oi, ot, false, op, ol, oq⟩ z [] = false := rfl
          obtain ⟨al, cl, rfl⟩ := own_len hown1
          clear hown1
          go_wp2_with fail
          refine wp_region_noPanic ?_
          refine wp_region_held_drew (S := (fun w' => w'.cell? ⟨w.heap.size, 2, none⟩ = some (.bool false) ∧ w'.cell? ⟨w.heap.size, 3, none⟩ = some (.int .i64 op))) (by kernel_rfl) ⟨k2, k3⟩ (fun hHeld => ?_)
          refine wpAnyH_take (i := 0) (v := ?_) rfl (by kernel_rfl) (by kernel_rfl) (by kernel_rfl) (fun _ _ _ h => h) (Or.inl ⟨by rfl, ?_⟩) hHeld ?_
          rotate_left
          focus
            intro w hSw
            clear hSw
            go_simp
            try with_reducible rfl
          try simp only [Act.put, List.getElem_toArray, List.getElem_cons_zero, List.getElem_cons_succ, List.setIfInBounds_toArray, List.set_cons_zero, List.set_cons_succ]
          refine wpAnyH_take (i := 1) (v := ?_) rfl (by kernel_rfl) (by kernel_rfl) (by kernel_rfl) (fun _ _ _ h => h) (Or.inl ⟨by rfl, ?_⟩) hHeld ?_
          rotate_left
          focus
            intro w hSw
            clear hSw
            go_simp
            try with_reducible rfl
          try simp only [Act.put, List.getElem_toArray, List.getElem_cons_zero, List.getElem_cons_succ, List.setIfInBounds_toArray, List.set_cons_zero, List.set_cons_succ]
          refine wpAnyH_take (i := 2) (v := ?_) rfl (by kernel_rfl) (by kernel_rfl) (by kernel_rfl) (fun _ _ _ h => h) (Or.inl ⟨by rfl, ?_⟩) hHeld ?_
          rotate_left
          focus
            intro w hSw
            clear hSw
            go_simp
            try with_reducible rfl
          try simp only [Act.put, List.getElem_toArray, List.getElem_cons_zero, List.getElem_cons_succ, List.setIfInBounds_toArray, List.set_cons_zero, List.set_cons_succ]
          refine wpAnyH_take (i := 3) (v := ?_) rfl (by kernel_rfl) (by kernel_rfl) (by kernel_rfl) (fun _ _ _ h => h) (Or.inl ⟨by rfl, ?_⟩) hHeld ?_
          rotate_left
          focus
            intro w hSw
            clear hSw
            go_simp
            try with_reducible rfl
          try simp only [Act.put, List.getElem_toArray, List.getElem_cons_zero, List.getElem_cons_succ, List.setIfInBounds_toArray, List.set_cons_zero, List.set_cons_succ]
          refine wpAnyH_take (i := 4) (v := undef) rfl (by kernel_rfl) (by kernel_rfl) (by kernel_rfl) (fun _ _ _ h => h) (Or.inr ⟨by rfl, rfl⟩) hHeld ?_
          try simp only [Act.put, List.getElem_toArray, List.getElem_cons_zero, List.getElem_cons_succ, List.setIfInBounds_toArray, List.set_cons_zero, List.set_cons_succ]
          refine wpAnyH_take (i := 5) (v := undef) rfl (by kernel_rfl) (by kernel_rfl) (by kernel_rfl) (fun _ _ _ h => h) (Or.inr ⟨by rfl, rfl⟩) hHeld ?_
          try simp only [Act.put, List.getElem_toArray, List.getElem_cons_zero, List.getElem_cons_succ, List.setIfInBounds_toArray, List.set_cons_zero, List.set_cons_succ]
          refine wpAnyH_take (i := 6) (v := undef) rfl (by kernel_rfl) (by kernel_rfl) (by kernel_rfl) (fun _ _ _ h => h) (Or.inr ⟨by rfl, rfl⟩) hHeld ?_
          try simp only [Act.put, List.getElem_toArray, List.getElem_cons_zero, List.getElem_cons_succ, List.setIfInBounds_toArray, List.set_cons_zero, List.set_cons_succ]
          refine wpAnyH_take (i := 7) (v := undef) rfl (by kernel_rfl) (by kernel_rfl) (by kernel_rfl) (fun _ _ _ h => h) (Or.inr ⟨by rfl, rfl⟩) hHeld ?_
          try simp only [Act.put, List.getElem_toArray, List.getElem_cons_zero, List.getElem_cons_succ, List.setIfInBounds_toArray, List.set_cons_zero, List.set_cons_succ]
          refine wpAnyH_take (i := 8) (v := undef) rfl (by kernel_rfl) (by kernel_rfl) (by kernel_rfl) (fun _ _ _ h => h) (Or.inr ⟨by rfl, rfl⟩) hHeld ?_
          try simp only [Act.put, List.getElem_toArray, List.getElem_cons_zero, List.getElem_cons_succ, List.setIfInBounds_toArray, List.set_cons_zero, List.set_cons_succ]
          refine wpAnyH_take (i := 9) (v := undef) rfl (by kernel_rfl) (by kernel_rfl) (by kernel_rfl) (fun _ _ _ h => h) (Or.inr ⟨by rfl, rfl⟩) hHeld ?_
          try simp only [Act.put, List.getElem_toArray, List.getElem_cons_zero, List.getElem_cons_succ, List.setIfInBounds_toArray, List.set_cons_zero, List.set_cons_succ]
          refine wpAnyH_take (i := 10) (v := undef) rfl (by kernel_rfl) (by kernel_rfl) (by kernel_rfl) (fun _ _ _ h => h) (Or.inr ⟨by rfl, rfl⟩) hHeld ?_
          try simp only [Act.put, List.getElem_toArray, List.getElem_cons_zero, List.getElem_cons_succ, List.setIfInBounds_toArray, List.set_cons_zero, List.set_cons_succ]
          refine wpAnyH_take (i := 11) (v := undef) rfl (by kernel_rfl) (by kernel_rfl) (by kernel_rfl) (fun _ _ _ h => h) (Or.inr ⟨by rfl, rfl⟩) hHeld ?_
          try simp only [Act.put, List.getElem_toArray, List.getElem_cons_zero, List.getElem_cons_succ, List.setIfInBounds_toArray, List.set_cons_zero, List.set_cons_succ]
          refine wpAnyH_take (i := 12) (v := undef) rfl (by kernel_rfl) (by kernel_rfl) (by kernel_rfl) (fun _ _ _ h => h) (Or.inr ⟨by rfl, rfl⟩) hHeld ?_
          try simp only [Act.put, List.getElem_toArray, List.getElem_cons_zero, List.getElem_cons_succ, List.setIfInBounds_toArray, List.set_cons_zero, List.set_cons_succ]
          refine wpAnyH_take (i := 13) (v := undef) rfl (by kernel_rfl) (by kernel_rfl) (by kernel_rfl) (fun _ _ _ h => h) (Or.inr ⟨by rfl, rfl⟩) hHeld ?_
          try simp only [Act.put, List.getElem_toArray, List.getElem_cons_zero, List.getElem_cons_succ, List.setIfInBounds_toArray, List.set_cons_zero, List.set_cons_succ]
          refine wpAnyH_take (i := 14) (v := undef) rfl (by kernel_rfl) (by kernel_rfl) (by kernel_rfl) (fun _ _ _ h => h) (Or.inr ⟨by rfl, rfl⟩) hHeld ?_
          try simp only [Act.put, List.getElem_toArray, List.getElem_cons_zero, List.getElem_cons_succ, List.setIfInBounds_toArray, List.set_cons_zero, List.set_cons_succ]
          refine wpAnyH_take (i := 15) (v := ?_) rfl (by kernel_rfl) (by kernel_rfl) (by kernel_rfl) (fun _ _ _ h => h) (Or.inl ⟨by rfl, ?_⟩) hHeld ?_
          rotate_left
          focus
            intro w hSw
            clear hSw
            go_simp
            try with_reducible rfl
          try simp only [Act.put, List.getElem_toArray, List.getElem_cons_zero, List.getElem_cons_succ, List.setIfInBounds_toArray, List.set_cons_zero, List.set_cons_succ]
          refine wpAnyH_take (i := 16) (v := ?_) rfl (by kernel_rfl) (by kernel_rfl) (by kernel_rfl) (fun _ _ _ h => h) (Or.inl ⟨by rfl, ?_⟩) hHeld ?_
          rotate_left
          focus
            intro w hSw
            clear hSw
            go_simp
            try with_reducible rfl
          try simp only [Act.put, List.getElem_toArray, List.getElem_cons_zero, List.getElem_cons_succ, List.setIfInBounds_toArray, List.set_cons_zero, List.set_cons_succ]
          refine wpAnyH_take (i := 17) (v := undef) rfl (by kernel_rfl) (by kernel_rfl) (by kernel_rfl) (fun _ _ _ h => h) (Or.inr ⟨by rfl, rfl⟩) hHeld ?_
          try simp only [Act.put, List.getElem_toArray, List.getElem_cons_zero, List.getElem_cons_succ, List.setIfInBounds_toArray, List.set_cons_zero, List.set_cons_succ]
          refine wpAnyH_take (i := 18) (v := undef) rfl (by kernel_rfl) (by kernel_rfl) (by kernel_rfl) (fun _ _ _ h => h) (Or.inr ⟨by rfl, rfl⟩) hHeld ?_
          try simp only [Act.put, List.getElem_toArray, List.getElem_cons_zero, List.getElem_cons_succ, List.setIfInBounds_toArray, List.set_cons_zero, List.set_cons_succ]
          refine wpAnyH_take (i := 19) (v := undef) rfl (by kernel_rfl) (by kernel_rfl) (by kernel_rfl) (fun _ _ _ h => h) (Or.inr ⟨by rfl, rfl⟩) hHeld ?_
          try simp only [Act.put, List.getElem_toArray, List.getElem_cons_zero, List.getElem_cons_succ, List.setIfInBounds_toArray, List.set_cons_zero, List.set_cons_succ]
          refine wpAnyH_take (i := 20) (v := undef) rfl (by kernel_rfl) (by kernel_rfl) (by kernel_rfl) (fun _ _ _ h => h) (Or.inr ⟨by rfl, rfl⟩) hHeld ?_
          try simp only [Act.put, List.getElem_toArray, List.getElem_cons_zero, List.getElem_cons_succ, List.setIfInBounds_toArray, List.set_cons_zero, List.set_cons_succ]
          refine wpAnyH_take (i := 21) (v := undef) rfl (by kernel_rfl) (by kernel_rfl) (by kernel_rfl) (fun _ _ _ h => h) (Or.inr ⟨by rfl, rfl⟩) hHeld ?_
          try simp only [Act.put, List.getElem_toArray, List.getElem_cons_zero, List.getElem_cons_succ, List.setIfInBounds_toArray, List.set_cons_zero, List.set_cons_succ]
          refine wpAnyH_take (i := 22) (v := undef) rfl (by kernel_rfl) (by kernel_rfl) (by kernel_rfl) (fun _ _ _ h => h) (Or.inr ⟨by rfl, rfl⟩) hHeld ?_
          try simp only [Act.put, List.getElem_toArray, List.getElem_cons_zero, List.getElem_cons_succ, List.setIfInBounds_toArray, List.set_cons_zero, List.set_cons_succ]
          refine wpAnyH_take (i := 23) (v := undef) rfl (by kernel_rfl) (by kernel_rfl) (by kernel_rfl) (fun _ _ _ h => h) (Or.inr ⟨by rfl, rfl⟩) hHeld ?_
          try simp only [Act.put, List.getElem_toArray, List.getElem_cons_zero, List.getElem_cons_succ, List.setIfInBounds_toArray, List.set_cons_zero, List.set_cons_succ]
          refine wpAnyH_take (i := 24) (v := undef) rfl (by kernel_rfl) (by kernel_rfl) (by kernel_rfl) (fun _ _ _ h => h) (Or.inr ⟨by rfl, rfl⟩) hHeld ?_
          try simp only [Act.put, List.getElem_toArray, List.getElem_cons_zero, List.getElem_cons_succ, List.setIfInBounds_toArray, List.set_cons_zero, List.set_cons_succ]
          refine wpAnyH_take (i := 25) (v := undef) rfl (by kernel_rfl) (by kernel_rfl) (by kernel_rfl) (fun _ _ _ h => h) (Or.inr ⟨by rfl, rfl⟩) hHeld ?_
          try simp only [Act.put, List.getElem_toArray, List.getElem_cons_zero, List.getElem_cons_succ, List.setIfInBounds_toArray, List.set_cons_zero, List.set_cons_succ]
          refine wpAnyH_take (i := 26) (v := undef) rfl (by kernel_rfl) (by kernel_rfl) (by kernel_rfl) (fun _ _ _ h => h) (Or.inr ⟨by rfl, rfl⟩) hHeld ?_
          try simp only [Act.put, List.getElem_toArray, List.getElem_cons_zero, List.getElem_cons_succ, List.setIfInBounds_toArray, List.set_cons_zero, List.set_cons_succ]
          refine wpAnyH_take (i := 27) (v := undef) rfl (by kernel_rfl) (by kernel_rfl) (by kernel_rfl) (fun _ _ _ h => h) (Or.inr ⟨by rfl, rfl⟩) hHeld ?_
          try simp only [Act.put, List.getElem_toArray, List.getElem_cons_zero, List.getElem_cons_succ, List.setIfInBounds_toArray, List.set_cons_zero, List.set_cons_succ]
          refine wpAnyH_take (i := 28) (v := undef) rfl (by kernel_rfl) (by kernel_rfl) (by kernel_rfl) (fun _ _ _ h => h) (Or.inr ⟨by rfl, rfl⟩) hHeld ?_
          try simp only [Act.put, List.getElem_toArray, List.getElem_cons_zero, List.getElem_cons_succ, List.setIfInBounds_toArray, List.set_cons_zero, List.set_cons_succ]
          refine wpAnyH_take (i := 29) (v := ?_) rfl (by kernel_rfl) (by kernel_rfl) (by kernel_rfl) (fun _ _ _ h => h) (Or.inl ⟨by rfl, ?_⟩) hHeld ?_
          rotate_left
          focus
            intro w hSw
            clear hSw
            go_simp
            try with_reducible rfl
          try simp only [Act.put, List.getElem_toArray, List.getElem_cons_zero, List.getElem_cons_succ, List.setIfInBounds_toArray, List.set_cons_zero, List.set_cons_succ]
          refine wpAnyH_done (by kernel_rfl) ?_ _
          refine NoPanic.normal ?_
          have HM1d := Lib.hid (HM1.out.below (show Below W1.heap.size W1 W1.drew from ⟨rfl, rfl, rfl, Nat.le_refl _, fun _ _ => rfl⟩))
          clear k2 k3 k4
          generalize W1.drew = WD at HM1d ⊢
          have hn' := hn
          have HADD : Hid (∀ W, MD w W B u L1 v v1 came ⟨oi, ot, false, op, z, oq⟩ (.slice a9 out.length c9) out → Calls Tryd.prog 58 #[.pointer (some ⟨u, 0, none⟩), .agg #[.int .i64 oi, .int .i64 ot, .bool false, .int .i64 op, .int .i64 z, .int .i64 oq]] W fun e w' => e = .returned (.int .i64 0) ∧ ∃ L' v', RV w' B u L' v' (came + 1) ∧ Both (addL (updL l true []) ⟨oi, ot, false, op, z, oq⟩ came) (came + 1) L' ∧ RTn W w' B u v1) := fun W hm =>
            radd_any2 B u _ L1 v1 came ⟨oi, ot, false, op, z, oq⟩ W hm.hBW (Lib.hid hm.rv) HBT.out HC.out (HMR.out.addK HK.out hz)
          have HEND : Hid (∀ W9 L9 v9, W9.ownsRow w.heap.size 111 6 (.slice a9 out.length c9) out.length (flatOf Fill.cells out) → RV W9 B u L9 v9 (came + 1) → Both (addL (updL l true []) ⟨oi, ot, false, op, z, oq⟩ came) (came + 1) L9 → RStep w W9 B → RMatchQ w B u v l ⟨oi, ot, false, op, ol, oq⟩ came (.returned (.tuple #[.slice a9 out.length c9, .int .i64 z, .int .i64 0])) W9) := fun W9 L9 v9 a b c d => rmatch_done1 HMR.out hn' hz a b c d
          have rx := HM1d.out.rx
          have rx : WD.rangeAt w.heap.size 0 [.int .i64 oi, .int .i64 ot, .bool false, .int .i64 op, .int .i64 z, .int .i64 oq] := rx
          have k4 := HM1d.out.k4
          have k4 : WD.cell? ⟨w.heap.size, 4, none⟩ = some (.int .i64 z) := k4
          clear hn hn' hz
          go_wp2_with (refine wpList_load_mid rfl 97 _ rfl w.heap.size 0 rfl [.int .i64 oi, .int .i64 ot, .bool false, .int .i64 op, .int .i64 z, .int .i64 oq] _ rx Tryd.underlying97 rfl size_ror ?_)
          refine (HADD.out WD HM1d.out).mono ?_
          rintro e W9 ⟨rfl, L9, v9, hr9, hb9, hs9⟩
          have hx9 : Blk W9 w.heap.size #[.int .i64 oi, .int .i64 ot, .bool false, .int .i64 op, .int .i64 z, .int .i64 oq] 97 := hs9.turns.blk HM1d.out.ob (fun e => by
            rcases e with e | e
            · have := HM1d.out.ux; omega
            · exact HM1d.out.vx e)
          have k4 : W9.cell? ⟨w.heap.size, 4, none⟩ = some (.int .i64 z) := hx9.cell 4 _ rfl
          have HEND := Lib.hid (HEND.out W9.drew L9 v9 (hs9.old.owns HM1d.out.own (by decide) (by decide)) hr9.drew hb9 (HM1d.out.st.old.trans hs9.old).drew)
          clear hr9 hb9 hs9 hx9 rx
          go_wp2_with fail
          refine wp_region_noPanic ?_
          refine wp_region_held_drew (S := (fun w' => w'.cell? ⟨w.heap.size, 4, none⟩ = some (.int .i64 z))) (by kernel_rfl) k4 (fun hHeld => ?_)
          refine wpAnyH_take (i := 0) (v := ?_) rfl (by kernel_rfl) (by kernel_rfl) (by kernel_rfl) (fun _ _ _ h => h) (Or.inl ⟨by rfl, ?_⟩) hHeld ?_
          rotate_left
          focus
            intro w hSw
            clear hSw
            go_simp
            try with_reducible rfl
          try simp only [Act.put, List.getElem_toArray, List.getElem_cons_zero, List.getElem_cons_succ, List.setIfInBounds_toArray, List.set_cons_zero, List.set_cons_succ]
          refine wpAnyH_take (i := 1) (v := ?_) rfl (by kernel_rfl) (by kernel_rfl) (by kernel_rfl) (fun _ _ _ h => h) (Or.inl ⟨by rfl, ?_⟩) hHeld ?_
          rotate_left
          focus
            intro w hSw
            clear hSw
            go_simp
            try with_reducible rfl
          try simp only [Act.put, List.getElem_toArray, List.getElem_cons_zero, List.getElem_cons_succ, List.setIfInBounds_toArray, List.set_cons_zero, List.set_cons_succ]
          refine wpAnyH_take (i := 2) (v := ?_) rfl (by kernel_rfl) (by kernel_rfl) (by kernel_rfl) (fun _ _ _ h => h) (Or.inl ⟨by rfl, ?_⟩) hHeld ?_
          rotate_left
          focus
            intro w hSw
            (try dsimp only at hSw)
            go_simp
            try with_reducible rfl
          try simp only [Act.put, List.getElem_toArray, List.getElem_cons_zero, List.getElem_cons_succ, List.setIfInBounds_toArray, List.set_cons_zero, List.set_cons_succ]
          refine wpAnyH_take (i := 3) (v := ?_) rfl (by kernel_rfl) (by kernel_rfl) (by kernel_rfl) (fun _ _ _ h => h) (Or.inl ⟨by rfl, ?_⟩) hHeld ?_
          rotate_left
          focus
            intro w hSw
            clear hSw
            go_simp
            try with_reducible rfl
          try simp only [Act.put, List.getElem_toArray, List.getElem_cons_zero, List.getElem_cons_succ, List.setIfInBounds_toArray, List.set_cons_zero, List.set_cons_succ]
          refine wpAnyH_take (i := 4) (v := ?_) rfl (by kernel_rfl) (by kernel_rfl) (by kernel_rfl) (fun _ _ _ h => h) (Or.inl ⟨by rfl, ?_⟩) hHeld ?_
          rotate_left
          focus
            intro w hSw
            clear hSw
            go_simp
            try with_reducible rfl
          try simp only [Act.put, List.getElem_toArray, List.getElem_cons_zero, List.getElem_cons_succ, List.setIfInBounds_toArray, List.set_cons_zero, List.set_cons_succ]
          refine wpAnyH_take (i := 5) (v := ?_) rfl (by kernel_rfl) (by kernel_rfl) (by kernel_rfl) (fun _ _ _ h => h) (Or.inl ⟨by rfl, ?_⟩) hHeld ?_
          rotate_left
          focus
            intro w hSw
            clear hSw
            go_simp
            try with_reducible rfl
          try simp only [Act.put, List.getElem_toArray, List.getElem_cons_zero, List.getElem_cons_succ, List.setIfInBounds_toArray, List.set_cons_zero, List.set_cons_succ]
          refine wpAnyH_done (by kernel_rfl) ?_ _
          refine NoPanic.normal ?_
          go_wp2_with fail
          go_ret3
          exact HEND.out
        | cons x r =>
          obtain ⟨gl, cap, cur, rfl, _, _, hgl, hblk, _, hrows⟩ := own_rows' Ord.k6 hown1 rfl (by simp)
          have rr : W1.rangeAt gl 0 x.cells := by
            have := hrows 0 _ rfl
            simpa using this
          have hglt : gl < W1.heap.size := (Array.getElem?_eq_some_iff.1 hblk).1
          have x3 : W1.cell? ⟨gl, 3, none⟩ = some (.int .i64 x.price) := by have := rr 3 _ rfl; simpa using this
          have hlen : (x :: r).length = r.length + 1 := rfl
          rw [hlen]
          obtain ⟨m, hm⟩ : ∃ m, m = r.length := ⟨_, rfl⟩
          rw [← hm]
          have hm0 : (0 : Int) < (m : Int) + 1 := by omega
          have hm1 : ((m : Int) + 1 == 0) = false := by simp; omega
          clear hown1 hblk hrows hlen hm
          by_cases hmt : meetsO ⟨oi, ot, false, op, ol, oq⟩ x = true
          · have hn : nextOk ⟨oi, ot, false, op, ol, oq⟩ z (x :: r) = true := by unfold nextOk; simp only [if_neg hz]; exact hmt
            have HST := Lib.hid (HMR.out.step hn)
            have HCUT := Lib.hid (fun (W : World) (s : Value) (fs : List Fill) (hm : MD w W B u L1 v v1 came ⟨oi, ot, false, op, z, oq⟩ s fs) => rcut_head ⟨oi, ot, false, op, ol, oq⟩ x l came out z r B u L1 v1 W HMR.out hm.hBW (Lib.hid hm.rv) HBT.out)
            have HFL : Hid (out.length ≤ 1000) := by have := HMR.out.z1; have := HMR.out.z0; have := HOL.out; show _ ≤ _; simp only at *; omega
            have HGL := Lib.hid (fun (g : Fill) (hg : g ∈ out) => HMR.out.lots g hg)
            obtain ⟨xi, xt, xs, xp, xl, xq⟩ := x
            have rr : W1.rangeAt gl 0 [.int .i64 xi, .int .i64 xt, .bool xs, .int .i64 xp, .int .i64 xl, .int .i64 xq] := rr
            simp only at x3
            have d1 : decide (op < xp) = false := by
              unfold meetsO at hmt
              simpa using hmt
            have HST : Hid (MR ⟨oi, ot, false, op, ol, oq⟩ l came (putF out ⟨xi, oi, xt, ot, xp, 1⟩) (z - 1) (cutS 1 (⟨xi, xt, xs, xp, xl, xq⟩ :: r))) := HST
            clear hn hmt
            go_wp2_with fail
            refine wp_region_noPanic ?_
            refine wp_region_held_drew (S := (fun w' => w'.cell? ⟨w.heap.size, 2, none⟩ = some (.bool false) ∧ w'.cell? ⟨w.heap.size, 3, none⟩ = some (.int .i64 op) ∧ w'.cell? ⟨gl, 3, none⟩ = some (.int .i64 xp))) (by kernel_rfl) ⟨k2, k3, x3⟩ (fun hHeld => ?_)
            refine wpAnyH_take (i := 0) (v := ?_) rfl (by kernel_rfl) (by kernel_rfl) (by kernel_rfl) (fun _ _ _ h => h) (Or.inl ⟨by rfl, ?_⟩) hHeld ?_
            rotate_left
            focus
              intro w hSw
              clear hSw
              go_simp
              try with_reducible rfl
            try simp only [Act.put, List.getElem_toArray, List.getElem_cons_zero, List.getElem_cons_succ, List.setIfInBounds_toArray, List.set_cons_zero, List.set_cons_succ]
            refine wpAnyH_take (i := 1) (v := ?_) rfl (by kernel_rfl) (by kernel_rfl) (by kernel_rfl) (fun _ _ _ h => h) (Or.inl ⟨by rfl, ?_⟩) hHeld ?_
            rotate_left
            focus
              intro w hSw
              clear hSw
              go_simp
              try with_reducible rfl
            try simp only [Act.put, List.getElem_toArray, List.getElem_cons_zero, List.getElem_cons_succ, List.setIfInBounds_toArray, List.set_cons_zero, List.set_cons_succ]
            refine wpAnyH_take (i := 2) (v := ?_) rfl (by kernel_rfl) (by kernel_rfl) (by kernel_rfl) (fun _ _ _ h => h) (Or.inl ⟨by rfl, ?_⟩) hHeld ?_
            rotate_left
            focus
              intro w hSw
              clear hSw
              go_simp
              try with_reducible rfl
            try simp only [Act.put, List.getElem_toArray, List.getElem_cons_zero, List.getElem_cons_succ, List.setIfInBounds_toArray, List.set_cons_zero, List.set_cons_succ]
            refine wpAnyH_take (i := 3) (v := ?_) rfl (by kernel_rfl) (by kernel_rfl) (by kernel_rfl) (fun _ _ _ h => h) (Or.inl ⟨by rfl, ?_⟩) hHeld ?_
            rotate_left
            focus
              intro w hSw
              clear hSw
              go_simp
              try with_reducible rfl
            try simp only [Act.put, List.getElem_toArray, List.getElem_cons_zero, List.getElem_cons_succ, List.setIfInBounds_toArray, List.set_cons_zero, List.set_cons_succ]
            refine wpAnyH_take (i := 4) (v := ?_) rfl (by kernel_rfl) (by kernel_rfl) (by kernel_rfl) (fun _ _ _ h => h) (Or.inl ⟨by rfl, ?_⟩) hHeld ?_
            rotate_left
            focus
              intro w hSw
              clear hSw
              go_simp
              try with_reducible rfl
            try simp only [Act.put, List.getElem_toArray, List.getElem_cons_zero, List.getElem_cons_succ, List.setIfInBounds_toArray, List.set_cons_zero, List.set_cons_succ]
            refine wpAnyH_take (i := 5) (v := ?_) rfl (by kernel_rfl) (by kernel_rfl) (by kernel_rfl) (fun _ _ _ h => h) (Or.inl ⟨by rfl, ?_⟩) hHeld ?_
            rotate_left
            focus
              intro w hSw
              (try dsimp only at hSw)
              go_simp
              try with_reducible rfl
            try simp only [Act.put, List.getElem_toArray, List.getElem_cons_zero, List.getElem_cons_succ, List.setIfInBounds_toArray, List.set_cons_zero, List.set_cons_succ]
            refine wpAnyH_take (i := 6) (v := ?_) rfl (by kernel_rfl) (by kernel_rfl) (by kernel_rfl) (fun _ _ _ h => h) (Or.inl ⟨by rfl, ?_⟩) hHeld ?_
            rotate_left
            focus
              intro w hSw
              clear hSw
              go_simp
              try with_reducible rfl
            try simp only [Act.put, List.getElem_toArray, List.getElem_cons_zero, List.getElem_cons_succ, List.setIfInBounds_toArray, List.set_cons_zero, List.set_cons_succ]
            refine wpAnyH_take (i := 7) (v := undef) rfl (by kernel_rfl) (by kernel_rfl) (by kernel_rfl) (fun _ _ _ h => h) (Or.inr ⟨by rfl, rfl⟩) hHeld ?_
            try simp only [Act.put, List.getElem_toArray, List.getElem_cons_zero, List.getElem_cons_succ, List.setIfInBounds_toArray, List.set_cons_zero, List.set_cons_succ]
            refine wpAnyH_take (i := 8) (v := undef) rfl (by kernel_rfl) (by kernel_rfl) (by kernel_rfl) (fun _ _ _ h => h) (Or.inr ⟨by rfl, rfl⟩) hHeld ?_
            try simp only [Act.put, List.getElem_toArray, List.getElem_cons_zero, List.getElem_cons_succ, List.setIfInBounds_toArray, List.set_cons_zero, List.set_cons_succ]
            refine wpAnyH_take (i := 9) (v := undef) rfl (by kernel_rfl) (by kernel_rfl) (by kernel_rfl) (fun _ _ _ h => h) (Or.inr ⟨by rfl, rfl⟩) hHeld ?_
            try simp only [Act.put, List.getElem_toArray, List.getElem_cons_zero, List.getElem_cons_succ, List.setIfInBounds_toArray, List.set_cons_zero, List.set_cons_succ]
            refine wpAnyH_take (i := 10) (v := undef) rfl (by kernel_rfl) (by kernel_rfl) (by kernel_rfl) (fun _ _ _ h => h) (Or.inr ⟨by rfl, rfl⟩) hHeld ?_
            try simp only [Act.put, List.getElem_toArray, List.getElem_cons_zero, List.getElem_cons_succ, List.setIfInBounds_toArray, List.set_cons_zero, List.set_cons_succ]
            refine wpAnyH_take (i := 11) (v := undef) rfl (by kernel_rfl) (by kernel_rfl) (by kernel_rfl) (fun _ _ _ h => h) (Or.inr ⟨by rfl, rfl⟩) hHeld ?_
            try simp only [Act.put, List.getElem_toArray, List.getElem_cons_zero, List.getElem_cons_succ, List.setIfInBounds_toArray, List.set_cons_zero, List.set_cons_succ]
            refine wpAnyH_take (i := 12) (v := undef) rfl (by kernel_rfl) (by kernel_rfl) (by kernel_rfl) (fun _ _ _ h => h) (Or.inr ⟨by rfl, rfl⟩) hHeld ?_
            try simp only [Act.put, List.getElem_toArray, List.getElem_cons_zero, List.getElem_cons_succ, List.setIfInBounds_toArray, List.set_cons_zero, List.set_cons_succ]
            refine wpAnyH_take (i := 13) (v := undef) rfl (by kernel_rfl) (by kernel_rfl) (by kernel_rfl) (fun _ _ _ h => h) (Or.inr ⟨by rfl, rfl⟩) hHeld ?_
            try simp only [Act.put, List.getElem_toArray, List.getElem_cons_zero, List.getElem_cons_succ, List.setIfInBounds_toArray, List.set_cons_zero, List.set_cons_succ]
            refine wpAnyH_take (i := 14) (v := ?_) rfl (by kernel_rfl) (by kernel_rfl) (by kernel_rfl) (fun _ _ _ h => h) (Or.inl ⟨by rfl, ?_⟩) hHeld ?_
            rotate_left
            focus
              intro w hSw
              clear hSw
              go_simp
              try with_reducible rfl
            try simp only [Act.put, List.getElem_toArray, List.getElem_cons_zero, List.getElem_cons_succ, List.setIfInBounds_toArray, List.set_cons_zero, List.set_cons_succ]
            refine wpAnyH_take (i := 15) (v := ?_) rfl (by kernel_rfl) (by kernel_rfl) (by kernel_rfl) (fun _ _ _ h => h) (Or.inl ⟨by rfl, ?_⟩) hHeld ?_
            rotate_left
            focus
              intro w hSw
              clear hSw
              go_simp
              try with_reducible rfl
            try simp only [Act.put, List.getElem_toArray, List.getElem_cons_zero, List.getElem_cons_succ, List.setIfInBounds_toArray, List.set_cons_zero, List.set_cons_succ]
            refine wpAnyH_take (i := 16) (v := ?_) rfl (by kernel_rfl) (by kernel_rfl) (by kernel_rfl) (fun _ _ _ h => h) (Or.inl ⟨by rfl, ?_⟩) hHeld ?_
            rotate_left
            focus
              intro w hSw
              clear hSw
              go_simp
              try with_reducible rfl
            try simp only [Act.put, List.getElem_toArray, List.getElem_cons_zero, List.getElem_cons_succ, List.setIfInBounds_toArray, List.set_cons_zero, List.set_cons_succ]
            refine wpAnyH_take (i := 17) (v := ?_) rfl (by kernel_rfl) (by kernel_rfl) (by kernel_rfl) (fun _ _ _ h => h) (Or.inl ⟨by rfl, ?_⟩) hHeld ?_
            rotate_left
            focus
              intro w hSw
              clear hSw
              go_simp
              try with_reducible rfl
            try simp only [Act.put, List.getElem_toArray, List.getElem_cons_zero, List.getElem_cons_succ, List.setIfInBounds_toArray, List.set_cons_zero, List.set_cons_succ]
            refine wpAnyH_take (i := 18) (v := ?_) rfl (by kernel_rfl) (by kernel_rfl) (by kernel_rfl) (fun _ _ _ h => h) (Or.inl ⟨by rfl, ?_⟩) hHeld ?_
            rotate_left
            focus
              intro w hSw
              (try dsimp only at hSw)
              go_simp
              try with_reducible rfl
            try simp only [Act.put, List.getElem_toArray, List.getElem_cons_zero, List.getElem_cons_succ, List.setIfInBounds_toArray, List.set_cons_zero, List.set_cons_succ]
            refine wpAnyH_take (i := 19) (v := ?_) rfl (by kernel_rfl) (by kernel_rfl) (by kernel_rfl) (fun _ _ _ h => h) (Or.inl ⟨by rfl, ?_⟩) hHeld ?_
            rotate_left
            focus
              intro w hSw
              clear hSw
              go_simp
              try with_reducible rfl
            try simp only [Act.put, List.getElem_toArray, List.getElem_cons_zero, List.getElem_cons_succ, List.setIfInBounds_toArray, List.set_cons_zero, List.set_cons_succ]
            refine wpAnyH_take (i := 20) (v := ?_) rfl (by kernel_rfl) (by kernel_rfl) (by kernel_rfl) (fun _ _ _ h => h) (Or.inl ⟨by rfl, ?_⟩) hHeld ?_
            rotate_left
            focus
              intro w hSw
              clear hSw
              go_simp
              try with_reducible rfl
            try simp only [Act.put, List.getElem_toArray, List.getElem_cons_zero, List.getElem_cons_succ, List.setIfInBounds_toArray, List.set_cons_zero, List.set_cons_succ]
            refine wpAnyH_take (i := 21) (v := ?_) rfl (by kernel_rfl) (by kernel_rfl) (by kernel_rfl) (fun _ _ _ h => h) (Or.inl ⟨by rfl, ?_⟩) hHeld ?_
            rotate_left
            focus
              intro w hSw
              clear hSw
              go_simp
              try with_reducible rfl
            try simp only [Act.put, List.getElem_toArray, List.getElem_cons_zero, List.getElem_cons_succ, List.setIfInBounds_toArray, List.set_cons_zero, List.set_cons_succ]
            refine wpAnyH_take (i := 22) (v := ?_) rfl (by kernel_rfl) (by kernel_rfl) (by kernel_rfl) (fun _ _ _ h => h) (Or.inl ⟨by rfl, ?_⟩) hHeld ?_
            rotate_left
            focus
              intro w hSw
              clear hSw
              go_simp
              try with_reducible rfl
            try simp only [Act.put, List.getElem_toArray, List.getElem_cons_zero, List.getElem_cons_succ, List.setIfInBounds_toArray, List.set_cons_zero, List.set_cons_succ]
            refine wpAnyH_take (i := 23) (v := ?_) rfl (by kernel_rfl) (by kernel_rfl) (by kernel_rfl) (fun _ _ _ h => h) (Or.inl ⟨by rfl, ?_⟩) hHeld ?_
            rotate_left
            focus
              intro w hSw
              clear hSw
              go_simp
              try with_reducible rfl
            try simp only [Act.put, List.getElem_toArray, List.getElem_cons_zero, List.getElem_cons_succ, List.setIfInBounds_toArray, List.set_cons_zero, List.set_cons_succ]
            refine wpAnyH_take (i := 24) (v := ?_) rfl (by kernel_rfl) (by kernel_rfl) (by kernel_rfl) (fun _ _ _ h => h) (Or.inl ⟨by rfl, ?_⟩) hHeld ?_
            rotate_left
            focus
              intro w hSw
              (try dsimp only at hSw)
              go_simp
              try with_reducible rfl
            try simp only [Act.put, List.getElem_toArray, List.getElem_cons_zero, List.getElem_cons_succ, List.setIfInBounds_toArray, List.set_cons_zero, List.set_cons_succ]
            refine wpAnyH_take (i := 25) (v := ?_) rfl (by kernel_rfl) (by kernel_rfl) (by kernel_rfl) (fun _ _ _ h => h) (Or.inl ⟨by rfl, ?_⟩) hHeld ?_
            rotate_left
            focus
              intro w hSw
              clear hSw
              go_simp
              try with_reducible rfl
            try simp only [Act.put, List.getElem_toArray, List.getElem_cons_zero, List.getElem_cons_succ, List.setIfInBounds_toArray, List.set_cons_zero, List.set_cons_succ]
            refine wpAnyH_take (i := 26) (v := ?_) rfl (by kernel_rfl) (by kernel_rfl) (by kernel_rfl) (fun _ _ _ h => h) (Or.inl ⟨by rfl, ?_⟩) hHeld ?_
            rotate_left
            focus
              intro w hSw
              (try dsimp only at hSw)
              go_simp
              try with_reducible rfl
            try simp only [Act.put, List.getElem_toArray, List.getElem_cons_zero, List.getElem_cons_succ, List.setIfInBounds_toArray, List.set_cons_zero, List.set_cons_succ]
            refine wpAnyH_take (i := 27) (v := ?_) rfl (by kernel_rfl) (by kernel_rfl) (by kernel_rfl) (fun _ _ _ h => h) (Or.inl ⟨by rfl, ?_⟩) hHeld ?_
            rotate_left
            focus
              intro w hSw
              clear hSw
              go_simp
              try with_reducible rfl
            try simp only [Act.put, List.getElem_toArray, List.getElem_cons_zero, List.getElem_cons_succ, List.setIfInBounds_toArray, List.set_cons_zero, List.set_cons_succ]
            refine wpAnyH_take (i := 28) (v := ?_) rfl (by kernel_rfl) (by kernel_rfl) (by kernel_rfl) (fun _ _ _ h => h) (Or.inl ⟨by rfl, ?_⟩) hHeld ?_
            rotate_left
            focus
              intro w hSw
              clear hSw
              go_simp
              try with_reducible rfl
            try simp only [Act.put, List.getElem_toArray, List.getElem_cons_zero, List.getElem_cons_succ, List.setIfInBounds_toArray, List.set_cons_zero, List.set_cons_succ]
            refine wpAnyH_take (i := 29) (v := ?_) rfl (by kernel_rfl) (by kernel_rfl) (by kernel_rfl) (fun _ _ _ h => h) (Or.inl ⟨by rfl, ?_⟩) hHeld ?_
            rotate_left
            focus
              intro w hSw
              clear hSw
              go_simp
              try with_reducible rfl
            try simp only [Act.put, List.getElem_toArray, List.getElem_cons_zero, List.getElem_cons_succ, List.setIfInBounds_toArray, List.set_cons_zero, List.set_cons_succ]
            refine wpAnyH_done (by kernel_rfl) ?_ _
            refine NoPanic.normal ?_
            have HM1d := Lib.hid (HM1.out.below (show Below W1.heap.size W1 W1.drew from ⟨rfl, rfl, rfl, Nat.le_refl _, fun _ _ => rfl⟩))
            have rr : W1.drew.rangeAt gl 0 [.int .i64 xi, .int .i64 xt, .bool xs, .int .i64 xp, .int .i64 xl, .int .i64 xq] := rr
            clear x3
            clear k2 k3 k4
            generalize W1.drew = WD at HM1d rr ⊢
            obtain ⟨XB, hXB⟩ : ∃ b, b = WD.heap.size := ⟨_, rfl⟩
            obtain ⟨W2, hW2⟩ : ∃ W, W = WD.alloc (.cells #[.int .i64 xi, .int .i64 xt, .bool xs, .int .i64 xp, .int .i64 xl, .int .i64 xq] 97) := ⟨_, rfl⟩
            obtain ⟨fb, hfb⟩ : ∃ b, b = WD.heap.size + 1 := ⟨_, rfl⟩
            have hsz2 : W2.heap.size = fb := by rw [hW2, hfb]; simp
            obtain ⟨W2b, hW2b⟩ : ∃ W, W = W2.alloc (.cells #[.int .i64 xi, .int .i64 oi, .int .i64 xt, .int .i64 ot, .int .i64 xp, .int .i64 1] 111) := ⟨_, rfl⟩
            have hb2 : Below WD.heap.size WD W2 := by rw [hW2]; exact (Below.refl _ _).alloc (Nat.le_refl _) _
            have hb2b : Below W2.heap.size W2 W2b := by rw [hW2b]; exact (Below.refl _ _).alloc (Nat.le_refl _) _
            have HM2 := Lib.hid (HM1d.out.below hb2)
            have HM2b := Lib.hid (HM2.out.below hb2b)
            have hxb2 : Blk W2 XB #[.int .i64 xi, .int .i64 xt, .bool xs, .int .i64 xp, .int .i64 xl, .int .i64 xq] 97 := by rw [hW2, hXB]; exact Blk.new WD _ _
            have HXB2 := Lib.hid (hxb2.below hb2b)
            have HFB2 : Hid (Blk W2b fb #[.int .i64 xi, .int .i64 oi, .int .i64 xt, .int .i64 ot, .int .i64 xp, .int .i64 1] 111) := by show Blk _ _ _ _; rw [hW2b, ← hsz2]; exact Blk.new W2 _ _
            have HFBL : Hid (w.heap.size ≤ fb) := by show _ ≤ _; rw [← hsz2]; exact HM2.out.sz
            have HNE : Hid ((Value.slice a9 out.length c9).ownBlock ≠ some fb) := fun e => by
              have h1 := (HM2.out.own.lt fb e).2
              omega
            have x20 : W2.cell? ⟨XB, 0, none⟩ = some (.int .i64 xi) := hxb2.cell 0 _ rfl
            have x21 : W2.cell? ⟨XB, 1, none⟩ = some (.int .i64 xt) := hxb2.cell 1 _ rfl
            have x23 : W2.cell? ⟨XB, 3, none⟩ = some (.int .i64 xp) := hxb2.cell 3 _ rfl
            have o20 : W2.cell? ⟨w.heap.size, 0, none⟩ = some (.int .i64 oi) := HM2.out.k0
            have o21 : W2.cell? ⟨w.heap.size, 1, none⟩ = some (.int .i64 ot) := HM2.out.k1
            have HW2 := Lib.hid hW2
            have HXE := Lib.hid hXB
            have HW2B := Lib.hid hW2b
            have HFE := Lib.hid hfb
            clear hb2 hb2b hxb2
            clear hfb hW2b hsz2
            rw [hW2, hXB] at x20 x21 x23
            rw [hW2] at o20 o21
            clear hW2 hXB
            go_upto_region 11 with (refine wpList_load_mid rfl 97 _ rfl gl 0 rfl [.int .i64 xi, .int .i64 xt, .bool xs, .int .i64 xp, .int .i64 xl, .int .i64 xq] _ rr Tryd.underlying97 rfl size_ror ?_)
            rw [← HW2.out, ← HFE.out, ← HW2B.out, ← HXE.out]
            clear x20 x21 x23 o20 o21 rr
            have k2 : W2b.cell? ⟨w.heap.size, 2, none⟩ = some (.bool false) := HM2b.out.k2
            go_upto_region 13 with fail
            clear k2
            obtain ⟨W3, hW3⟩ : ∃ W, W = W2b := ⟨_, rfl⟩
            have HM3 : Hid (MD w W3 B u L1 v v1 came ⟨oi, ot, false, op, z, oq⟩ (.slice a9 out.length c9) out) := by rw [hW3]; exact HM2b
            have HFB : Hid (Blk W3 fb #[.int .i64 xi, .int .i64 oi, .int .i64 xt, .int .i64 ot, .int .i64 xp, .int .i64 1] 111) := by rw [hW3]; exact HFB2
            have HXB : Hid (Blk W3 XB #[.int .i64 xi, .int .i64 xt, .bool xs, .int .i64 xp, .int .i64 xl, .int .i64 xq] 97) := by rw [hW3]; exact HXB2
            rw [← hW3]
            clear hW3
            have f0 : W3.cell? ⟨fb, 0, none⟩ = some (.int .i64 xi) := HFB.out.cell 0 _ rfl
            have f1 : W3.cell? ⟨fb, 1, none⟩ = some (.int .i64 oi) := HFB.out.cell 1 _ rfl
            rcases snoc_cases out with ho | ⟨ii, gg, ho⟩
            · subst ho
              have HPUT : Hid (putF [] (⟨xi, oi, xt, ot, xp, 1⟩ : Fill) = [] ++ [⟨xi, oi, xt, ot, xp, 1⟩]) := rfl
              have hl0 : ([] : List Fill).length = 0 := rfl
              go_wp2_with fail
              refine wp_region_noPanic ?_
              refine wp_region_held_drew (S := (fun _ => True)) (by kernel_rfl) trivial (fun hHeld => ?_)
              refine wpAnyH_take (i := 0) (v := ?_) rfl (by kernel_rfl) (by kernel_rfl) (by kernel_rfl) (fun _ _ _ h => h) (Or.inl ⟨by rfl, ?_⟩) hHeld ?_
              rotate_left
              focus
                intro w hSw
                clear hSw
                go_simp
                try with_reducible rfl
              try simp only [Act.put, List.getElem_toArray, List.getElem_cons_zero, List.getElem_cons_succ, List.setIfInBounds_toArray, List.set_cons_zero, List.set_cons_succ]
              refine wpAnyH_take (i := 1) (v := ?_) rfl (by kernel_rfl) (by kernel_rfl) (by kernel_rfl) (fun _ _ _ h => h) (Or.inl ⟨by rfl, ?_⟩) hHeld ?_
              rotate_left
              focus
                intro w hSw
                clear hSw
                go_simp
                try with_reducible rfl
              try simp only [Act.put, List.getElem_toArray, List.getElem_cons_zero, List.getElem_cons_succ, List.setIfInBounds_toArray, List.set_cons_zero, List.set_cons_succ]
              refine wpAnyH_take (i := 2) (v := ?_) rfl (by kernel_rfl) (by kernel_rfl) (by kernel_rfl) (fun _ _ _ h => h) (Or.inl ⟨by rfl, ?_⟩) hHeld ?_
              rotate_left
              focus
                intro w hSw
                clear hSw
                go_simp
                try with_reducible rfl
              try simp only [Act.put, List.getElem_toArray, List.getElem_cons_zero, List.getElem_cons_succ, List.setIfInBounds_toArray, List.set_cons_zero, List.set_cons_succ]
              refine wpAnyH_take (i := 3) (v := undef) rfl (by kernel_rfl) (by kernel_rfl) (by kernel_rfl) (fun _ _ _ h => h) (Or.inr ⟨by rfl, rfl⟩) hHeld ?_
              try simp only [Act.put, List.getElem_toArray, List.getElem_cons_zero, List.getElem_cons_succ, List.setIfInBounds_toArray, List.set_cons_zero, List.set_cons_succ]
              refine wpAnyH_take (i := 4) (v := undef) rfl (by kernel_rfl) (by kernel_rfl) (by kernel_rfl) (fun _ _ _ h => h) (Or.inr ⟨by rfl, rfl⟩) hHeld ?_
              try simp only [Act.put, List.getElem_toArray, List.getElem_cons_zero, List.getElem_cons_succ, List.setIfInBounds_toArray, List.set_cons_zero, List.set_cons_succ]
              refine wpAnyH_take (i := 5) (v := undef) rfl (by kernel_rfl) (by kernel_rfl) (by kernel_rfl) (fun _ _ _ h => h) (Or.inr ⟨by rfl, rfl⟩) hHeld ?_
              try simp only [Act.put, List.getElem_toArray, List.getElem_cons_zero, List.getElem_cons_succ, List.setIfInBounds_toArray, List.set_cons_zero, List.set_cons_succ]
              refine wpAnyH_take (i := 6) (v := undef) rfl (by kernel_rfl) (by kernel_rfl) (by kernel_rfl) (fun _ _ _ h => h) (Or.inr ⟨by rfl, rfl⟩) hHeld ?_
              try simp only [Act.put, List.getElem_toArray, List.getElem_cons_zero, List.getElem_cons_succ, List.setIfInBounds_toArray, List.set_cons_zero, List.set_cons_succ]
              refine wpAnyH_take (i := 7) (v := undef) rfl (by kernel_rfl) (by kernel_rfl) (by kernel_rfl) (fun _ _ _ h => h) (Or.inr ⟨by rfl, rfl⟩) hHeld ?_
              try simp only [Act.put, List.getElem_toArray, List.getElem_cons_zero, List.getElem_cons_succ, List.setIfInBounds_toArray, List.set_cons_zero, List.set_cons_succ]
              refine wpAnyH_take (i := 8) (v := undef) rfl (by kernel_rfl) (by kernel_rfl) (by kernel_rfl) (fun _ _ _ h => h) (Or.inr ⟨by rfl, rfl⟩) hHeld ?_
              try simp only [Act.put, List.getElem_toArray, List.getElem_cons_zero, List.getElem_cons_succ, List.setIfInBounds_toArray, List.set_cons_zero, List.set_cons_succ]
              refine wpAnyH_take (i := 9) (v := undef) rfl (by kernel_rfl) (by kernel_rfl) (by kernel_rfl) (fun _ _ _ h => h) (Or.inr ⟨by rfl, rfl⟩) hHeld ?_
              try simp only [Act.put, List.getElem_toArray, List.getElem_cons_zero, List.getElem_cons_succ, List.setIfInBounds_toArray, List.set_cons_zero, List.set_cons_succ]
              refine wpAnyH_take (i := 10) (v := undef) rfl (by kernel_rfl) (by kernel_rfl) (by kernel_rfl) (fun _ _ _ h => h) (Or.inr ⟨by rfl, rfl⟩) hHeld ?_
              try simp only [Act.put, List.getElem_toArray, List.getElem_cons_zero, List.getElem_cons_succ, List.setIfInBounds_toArray, List.set_cons_zero, List.set_cons_succ]
              refine wpAnyH_take (i := 11) (v := undef) rfl (by kernel_rfl) (by kernel_rfl) (by kernel_rfl) (fun _ _ _ h => h) (Or.inr ⟨by rfl, rfl⟩) hHeld ?_
              try simp only [Act.put, List.getElem_toArray, List.getElem_cons_zero, List.getElem_cons_succ, List.setIfInBounds_toArray, List.set_cons_zero, List.set_cons_succ]
              refine wpAnyH_take (i := 12) (v := ?_) rfl (by kernel_rfl) (by kernel_rfl) (by kernel_rfl) (fun _ _ _ h => h) (Or.inl ⟨by rfl, ?_⟩) hHeld ?_
              rotate_left
              focus
                intro w hSw
                clear hSw
                go_simp
                try with_reducible rfl
              try simp only [Act.put, List.getElem_toArray, List.getElem_cons_zero, List.getElem_cons_succ, List.setIfInBounds_toArray, List.set_cons_zero, List.set_cons_succ]
              refine wpAnyH_take (i := 13) (v := ?_) rfl (by kernel_rfl) (by kernel_rfl) (by kernel_rfl) (fun _ _ _ h => h) (Or.inl ⟨by rfl, ?_⟩) hHeld ?_
              rotate_left
              focus
                intro w hSw
                clear hSw
                go_simp
                try with_reducible rfl
              try simp only [Act.put, List.getElem_toArray, List.getElem_cons_zero, List.getElem_cons_succ, List.setIfInBounds_toArray, List.set_cons_zero, List.set_cons_succ]
              refine wpAnyH_take (i := 14) (v := undef) rfl (by kernel_rfl) (by kernel_rfl) (by kernel_rfl) (fun _ _ _ h => h) (Or.inr ⟨by rfl, rfl⟩) hHeld ?_
              try simp only [Act.put, List.getElem_toArray, List.getElem_cons_zero, List.getElem_cons_succ, List.setIfInBounds_toArray, List.set_cons_zero, List.set_cons_succ]
              refine wpAnyH_take (i := 15) (v := undef) rfl (by kernel_rfl) (by kernel_rfl) (by kernel_rfl) (fun _ _ _ h => h) (Or.inr ⟨by rfl, rfl⟩) hHeld ?_
              try simp only [Act.put, List.getElem_toArray, List.getElem_cons_zero, List.getElem_cons_succ, List.setIfInBounds_toArray, List.set_cons_zero, List.set_cons_succ]
              refine wpAnyH_take (i := 16) (v := undef) rfl (by kernel_rfl) (by kernel_rfl) (by kernel_rfl) (fun _ _ _ h => h) (Or.inr ⟨by rfl, rfl⟩) hHeld ?_
              try simp only [Act.put, List.getElem_toArray, List.getElem_cons_zero, List.getElem_cons_succ, List.setIfInBounds_toArray, List.set_cons_zero, List.set_cons_succ]
              refine wpAnyH_take (i := 17) (v := undef) rfl (by kernel_rfl) (by kernel_rfl) (by kernel_rfl) (fun _ _ _ h => h) (Or.inr ⟨by rfl, rfl⟩) hHeld ?_
              try simp only [Act.put, List.getElem_toArray, List.getElem_cons_zero, List.getElem_cons_succ, List.setIfInBounds_toArray, List.set_cons_zero, List.set_cons_succ]
              refine wpAnyH_take (i := 18) (v := undef) rfl (by kernel_rfl) (by kernel_rfl) (by kernel_rfl) (fun _ _ _ h => h) (Or.inr ⟨by rfl, rfl⟩) hHeld ?_
              try simp only [Act.put, List.getElem_toArray, List.getElem_cons_zero, List.getElem_cons_succ, List.setIfInBounds_toArray, List.set_cons_zero, List.set_cons_succ]
              refine wpAnyH_take (i := 19) (v := undef) rfl (by kernel_rfl) (by kernel_rfl) (by kernel_rfl) (fun _ _ _ h => h) (Or.inr ⟨by rfl, rfl⟩) hHeld ?_
              try simp only [Act.put, List.getElem_toArray, List.getElem_cons_zero, List.getElem_cons_succ, List.setIfInBounds_toArray, List.set_cons_zero, List.set_cons_succ]
              refine wpAnyH_take (i := 20) (v := undef) rfl (by kernel_rfl) (by kernel_rfl) (by kernel_rfl) (fun _ _ _ h => h) (Or.inr ⟨by rfl, rfl⟩) hHeld ?_
              try simp only [Act.put, List.getElem_toArray, List.getElem_cons_zero, List.getElem_cons_succ, List.setIfInBounds_toArray, List.set_cons_zero, List.set_cons_succ]
              refine wpAnyH_take (i := 21) (v := undef) rfl (by kernel_rfl) (by kernel_rfl) (by kernel_rfl) (fun _ _ _ h => h) (Or.inr ⟨by rfl, rfl⟩) hHeld ?_
              try simp only [Act.put, List.getElem_toArray, List.getElem_cons_zero, List.getElem_cons_succ, List.setIfInBounds_toArray, List.set_cons_zero, List.set_cons_succ]
              refine wpAnyH_take (i := 22) (v := undef) rfl (by kernel_rfl) (by kernel_rfl) (by kernel_rfl) (fun _ _ _ h => h) (Or.inr ⟨by rfl, rfl⟩) hHeld ?_
              try simp only [Act.put, List.getElem_toArray, List.getElem_cons_zero, List.getElem_cons_succ, List.setIfInBounds_toArray, List.set_cons_zero, List.set_cons_succ]
              refine wpAnyH_take (i := 23) (v := ?_) rfl (by kernel_rfl) (by kernel_rfl) (by kernel_rfl) (fun _ _ _ h => h) (Or.inl ⟨by rfl, ?_⟩) hHeld ?_
              rotate_left
              focus
                intro w hSw
                clear hSw
                go_simp
                try with_reducible rfl
              try simp only [Act.put, List.getElem_toArray, List.getElem_cons_zero, List.getElem_cons_succ, List.setIfInBounds_toArray, List.set_cons_zero, List.set_cons_succ]
              refine wpAnyH_done (by kernel_rfl) ?_ _
              refine NoPanic.normal ?_
              have HM3d := Lib.hid (HM3.out.below (show Below W3.heap.size W3 W3.drew from ⟨rfl, rfl, rfl, Nat.le_refl _, fun _ _ => rfl⟩))
              have HFBd : Hid (Blk W3.drew fb #[.int .i64 xi, .int .i64 oi, .int .i64 xt, .int .i64 ot, .int .i64 xp, .int .i64 1] 111) := HFB.out
              have HXBd : Hid (Blk W3.drew XB #[.int .i64 xi, .int .i64 xt, .bool xs, .int .i64 xp, .int .i64 xl, .int .i64 xq] 97) := HXB.out
              clear f0 f1
              generalize W3.drew = W3d at HM3d HFBd HXBd ⊢
              have HOWN : Hid (W3d.ownsRow w.heap.size 111 6 (.slice a9 0 c9) 0 (flatOf Fill.cells ([] : List Fill))) := by
                show World.ownsRow _ _ _ _ _ _ _
                rw [← hl0]
                exact HM3d.out.own
              have rf : W3d.rangeAt fb 0 [.int .i64 xi, .int .i64 oi, .int .i64 xt, .int .i64 ot, .int .i64 xp, .int .i64 1] := rangeAt_blk HFBd.out
              have hszm : w.heap.size ≤ W3d.heap.size := HM3d.out.sz
              go_wp2_with (first
                | (refine wpList_load_mid rfl 111 _ rfl fb 0 rfl [.int .i64 xi, .int .i64 oi, .int .i64 xt, .int .i64 ot, .int .i64 xp, .int .i64 1] _ rf Tryd.underlying111 rfl size_rft ?_)
                | (at_builtin; refine wpList_app1 rfl _ _ 108 rfl w.heap.size 111 j0 (.agg #[.int .i64 0, .int .i64 0, .int .i64 0, .int .i64 0, .int .i64 0, .int .i64 0]) 6 48 Tryd.underlying108 hj hy0 hy1 hy2 rfl (by decide) _ _ _ rfl HOWN.out [.int .i64 xi, .int .i64 oi, .int .i64 xt, .int .i64 ot, .int .i64 xp, .int .i64 1] _ rfl ?ca0 ?ca1 ?ca2 ?ca3 ?ca4 hszm ?_))
              case ca0 => rfl
              case ca1 => rfl
              case ca2 => simp [Value.oneCell']
              case ca3 => have := HFL.out; unfold maxLen; try simp at this; omega
              case ca4 => have := HFL.out; try simp at this; omega
              intro s9' W4 hown4 hg4 _
              have hown4 : W4.ownsRow w.heap.size 111 6 s9' (([] : List Fill) ++ [(⟨xi, oi, xt, ot, xp, 1⟩ : Fill)]).length (flatOf Fill.cells (([] : List Fill) ++ [(⟨xi, oi, xt, ot, xp, 1⟩ : Fill)])) := by
                rw [List.length_append, hl0, flatOf_append, flatOf_one]
                exact hown4
              rw [← HPUT.out] at hown4
              have HM4 := Lib.hid (HM3d.out.app (out' := putF ([] : List Fill) ⟨xi, oi, xt, ot, xp, 1⟩) hg4 hown4)
              obtain ⟨a10, c10, rfl⟩ := own_len hown4
              have hx4 : Blk W4 XB #[.int .i64 xi, .int .i64 xt, .bool xs, .int .i64 xp, .int .i64 xl, .int .i64 xq] 97 := (Turns.of_grown hg4).blk HXBd.out (fun e => by
                obtain ⟨cur, hc⟩ := own_type HM3d.out.own e
                exact absurd (HXBd.out.type_eq hc) (by decide))
              clear hown4 hg4 rf hszm
              have x0 : W4.cell? ⟨XB, 0, none⟩ = some (.int .i64 xi) := hx4.cell 0 _ rfl
              clear hx4
              go_wp2_with fail
              refine (HCUT.out W4 _ _ HM4.out).mono ?_
              rintro e W5 ⟨rfl, L5, v5, hr5, hb5, hs5⟩
              have HM5 := Lib.hid (HM4.out.book hr5 hs5)
              have HBT5 := Lib.hid hb5
              have k4 : W5.cell? ⟨w.heap.size, 4, none⟩ = some (.int .i64 z) := HM5.out.k4
              have f4 := HM5.out.f4
              have HM6 := Lib.hid (HM5.out.setl (z - 1))
              clear hr5 hb5 hs5 x0
              go_wp2_with fail
              go_roundw
              case rel => exact ⟨_, z - 1, _, L5, v5, _, rfl, HST, HBT5, HM6⟩
              case measure =>
                rw [lotsAt_of HM6.out.k4, lotsAt_of HM.out.k4]
                show (z - 1).toNat < z.toNat
                omega
            · subst ho
              have hl1 : (ii ++ [gg]).length = ii.length + 1 := by simp
              obtain ⟨g9, cap9, cur9, hv9, _, _, hg9, hblk9, _, hrows9⟩ := own_rows' Fill.k6 HM3.out.own rfl (by simp)
              have rg := hrows9 ii.length gg (by simp)
              rw [Nat.zero_add] at rg
              have hgl := HGL.out gg (by simp)
              obtain ⟨ga, gb, gs, gy, gp, gn⟩ := gg
              have q0 : W3.cell? ⟨g9, ii.length * 6, none⟩ = some (.int .i64 ga) := rg 0 _ rfl
              have q1 : W3.cell? ⟨g9, ii.length * 6 + 1, none⟩ = some (.int .i64 gb) := rg 1 _ rfl
              have q5 : W3.cell? ⟨g9, ii.length * 6 + 5, none⟩ = some (.int .i64 gn) := rg 5 _ rfl
              have fq5 : W3.frozen? ⟨g9, ii.length * 6 + 5, none⟩ = false := Blk.free (w := W3) hblk9 (ii.length * 6 + 5)
              cases hv9
              have hii : ii.length ≤ 1000 := by have := HFL.out; omega
              have hw1 : IntKind.i64.wrap ((ii.length : Int) + 1 - 1) = (ii.length : Int) := by rw [IntKind.wrap_i64]; omega
              have hw2 : IntKind.i64.wrap (ii.length : Int) = (ii.length : Int) := by rw [IntKind.wrap_i64]; omega
              have hp1 : (0 : Int) < (ii.length : Int) + 1 := by omega
              have hp2 : (ii.length : Int) < (ii.length : Int) + 1 := by omega
              have hp3 : (0 : Int) ≤ (ii.length : Int) := by omega
              have hgn : IntKind.i64.wrap (gn + 1) = gn + 1 := by have h5 := HOL.out; have h6 : 0 ≤ gn ∧ gn + z ≤ ol := hgl; rw [IntKind.wrap_i64]; omega
              clear rg hrows9 hblk9 hgl
              by_cases ha : ga = xi
              · by_cases hbq : gb = oi
                · have ha' : (ga == xi) = true := by simpa using ha
                  have hb' : (gb == oi) = true := by simpa using hbq
                  have HPUT : Hid (putF (ii ++ [(⟨ga, gb, gs, gy, gp, gn⟩ : Fill)]) (⟨xi, oi, xt, ot, xp, 1⟩ : Fill) = (ii ++ [(⟨ga, gb, gs, gy, gp, gn⟩ : Fill)]).set ii.length (⟨ga, gb, gs, gy, gp, gn + 1⟩ : Fill)) := by
                    show _ = _
                    rw [putF_join ha hbq]
                    simp
                  clear ha hbq
                  rw [hl1]
                  go_wp2_with fail
                  refine wp_region_noPanic ?_
                  refine wp_region_held_drew (S := (fun w' => w'.cell? ⟨g9, ii.length * 6, none⟩ = some (.int .i64 ga) ∧ w'.cell? ⟨g9, ii.length * 6 + 1, none⟩ = some (.int .i64 gb) ∧ w'.cell? ⟨fb, 0, none⟩ = some (.int .i64 xi) ∧ w'.cell? ⟨fb, 1, none⟩ = some (.int .i64 oi))) (by kernel_rfl) ⟨q0, q1, f0, f1⟩ (fun hHeld => ?_)
                  refine wpAnyH_take (i := 0) (v := ?_) rfl (by kernel_rfl) (by kernel_rfl) (by kernel_rfl) (fun _ _ _ h => h) (Or.inl ⟨by rfl, ?_⟩) hHeld ?_
                  rotate_left
                  focus
                    intro w hSw
                    clear hSw
                    go_simp
                    try with_reducible rfl
                  try simp only [Act.put, List.getElem_toArray, List.getElem_cons_zero, List.getElem_cons_succ, List.setIfInBounds_toArray, List.set_cons_zero, List.set_cons_succ]
                  refine wpAnyH_take (i := 1) (v := ?_) rfl (by kernel_rfl) (by kernel_rfl) (by kernel_rfl) (fun _ _ _ h => h) (Or.inl ⟨by rfl, ?_⟩) hHeld ?_
                  rotate_left
                  focus
                    intro w hSw
                    clear hSw
                    go_simp
                    try with_reducible rfl
                  try simp only [Act.put, List.getElem_toArray, List.getElem_cons_zero, List.getElem_cons_succ, List.setIfInBounds_toArray, List.set_cons_zero, List.set_cons_succ]
                  refine wpAnyH_take (i := 2) (v := ?_) rfl (by kernel_rfl) (by kernel_rfl) (by kernel_rfl) (fun _ _ _ h => h) (Or.inl ⟨by rfl, ?_⟩) hHeld ?_
                  rotate_left
                  focus
                    intro w hSw
                    clear hSw
                    go_simp
                    try with_reducible rfl
                  try simp only [Act.put, List.getElem_toArray, List.getElem_cons_zero, List.getElem_cons_succ, List.setIfInBounds_toArray, List.set_cons_zero, List.set_cons_succ]
                  refine wpAnyH_take (i := 3) (v := ?_) rfl (by kernel_rfl) (by kernel_rfl) (by kernel_rfl) (fun _ _ _ h => h) (Or.inl ⟨by rfl, ?_⟩) hHeld ?_
                  rotate_left
                  focus
                    intro w hSw
                    clear hSw
                    go_simp
                    try with_reducible rfl
                  try simp only [Act.put, List.getElem_toArray, List.getElem_cons_zero, List.getElem_cons_succ, List.setIfInBounds_toArray, List.set_cons_zero, List.set_cons_succ]
                  refine wpAnyH_take (i := 4) (v := ?_) rfl (by kernel_rfl) (by kernel_rfl) (by kernel_rfl) (fun _ _ _ h => h) (Or.inl ⟨by rfl, ?_⟩) hHeld ?_
                  rotate_left
                  focus
                    intro w hSw
                    clear hSw
                    go_simp
                    try with_reducible rfl
                  try simp only [Act.put, List.getElem_toArray, List.getElem_cons_zero, List.getElem_cons_succ, List.setIfInBounds_toArray, List.set_cons_zero, List.set_cons_succ]
                  refine wpAnyH_take (i := 5) (v := ?_) rfl (by kernel_rfl) (by kernel_rfl) (by kernel_rfl) (fun _ _ _ h => h) (Or.inl ⟨by rfl, ?_⟩) hHeld ?_
                  rotate_left
                  focus
                    intro w hSw
                    clear hSw
                    go_simp
                    try with_reducible rfl
                  try simp only [Act.put, List.getElem_toArray, List.getElem_cons_zero, List.getElem_cons_succ, List.setIfInBounds_toArray, List.set_cons_zero, List.set_cons_succ]
                  refine wpAnyH_take (i := 6) (v := ?_) rfl (by kernel_rfl) (by kernel_rfl) (by kernel_rfl) (fun _ _ _ h => h) (Or.inl ⟨by rfl, ?_⟩) hHeld ?_
                  rotate_left
                  focus
                    intro w hSw
                    clear hSw
                    go_simp
                    try with_reducible rfl
                  try simp only [Act.put, List.getElem_toArray, List.getElem_cons_zero, List.getElem_cons_succ, List.setIfInBounds_toArray, List.set_cons_zero, List.set_cons_succ]
                  refine wpAnyH_take (i := 7) (v := ?_) rfl (by kernel_rfl) (by kernel_rfl) (by kernel_rfl) (fun _ _ _ h => h) (Or.inl ⟨by rfl, ?_⟩) hHeld ?_
                  rotate_left
                  focus
                    intro w hSw
                    clear hSw
                    go_simp
                    try with_reducible rfl
                  try simp only [Act.put, List.getElem_toArray, List.getElem_cons_zero, List.getElem_cons_succ, List.setIfInBounds_toArray, List.set_cons_zero, List.set_cons_succ]
                  refine wpAnyH_take (i := 8) (v := ?_) rfl (by kernel_rfl) (by kernel_rfl) (by kernel_rfl) (fun _ _ _ h => h) (Or.inl ⟨by rfl, ?_⟩) hHeld ?_
                  rotate_left
                  focus
                    intro w hSw
                    (try dsimp only at hSw)
                    go_simp
                    try with_reducible rfl
                  try simp only [Act.put, List.getElem_toArray, List.getElem_cons_zero, List.getElem_cons_succ, List.setIfInBounds_toArray, List.set_cons_zero, List.set_cons_succ]
                  refine wpAnyH_take (i := 9) (v := ?_) rfl (by kernel_rfl) (by kernel_rfl) (by kernel_rfl) (fun _ _ _ h => h) (Or.inl ⟨by rfl, ?_⟩) hHeld ?_
                  rotate_left
                  focus
                    intro w hSw
                    clear hSw
                    go_simp
                    try with_reducible rfl
                  try simp only [Act.put, List.getElem_toArray, List.getElem_cons_zero, List.getElem_cons_succ, List.setIfInBounds_toArray, List.set_cons_zero, List.set_cons_succ]
                  refine wpAnyH_take (i := 10) (v := ?_) rfl (by kernel_rfl) (by kernel_rfl) (by kernel_rfl) (fun _ _ _ h => h) (Or.inl ⟨by rfl, ?_⟩) hHeld ?_
                  rotate_left
                  focus
                    intro w hSw
                    (try dsimp only at hSw)
                    go_simp
                    try with_reducible rfl
                  try simp only [Act.put, List.getElem_toArray, List.getElem_cons_zero, List.getElem_cons_succ, List.setIfInBounds_toArray, List.set_cons_zero, List.set_cons_succ]
                  refine wpAnyH_take (i := 11) (v := ?_) rfl (by kernel_rfl) (by kernel_rfl) (by kernel_rfl) (fun _ _ _ h => h) (Or.inl ⟨by rfl, ?_⟩) hHeld ?_
                  rotate_left
                  focus
                    intro w hSw
                    clear hSw
                    go_simp
                    try with_reducible rfl
                  try simp only [Act.put, List.getElem_toArray, List.getElem_cons_zero, List.getElem_cons_succ, List.setIfInBounds_toArray, List.set_cons_zero, List.set_cons_succ]
                  refine wpAnyH_take (i := 12) (v := ?_) rfl (by kernel_rfl) (by kernel_rfl) (by kernel_rfl) (fun _ _ _ h => h) (Or.inl ⟨by rfl, ?_⟩) hHeld ?_
                  rotate_left
                  focus
                    intro w hSw
                    clear hSw
                    go_simp
                    try with_reducible rfl
                  try simp only [Act.put, List.getElem_toArray, List.getElem_cons_zero, List.getElem_cons_succ, List.setIfInBounds_toArray, List.set_cons_zero, List.set_cons_succ]
                  refine wpAnyH_take (i := 13) (v := ?_) rfl (by kernel_rfl) (by kernel_rfl) (by kernel_rfl) (fun _ _ _ h => h) (Or.inl ⟨by rfl, ?_⟩) hHeld ?_
                  rotate_left
                  focus
                    intro w hSw
                    clear hSw
                    go_simp
                    try with_reducible rfl
                  try simp only [Act.put, List.getElem_toArray, List.getElem_cons_zero, List.getElem_cons_succ, List.setIfInBounds_toArray, List.set_cons_zero, List.set_cons_succ]
                  refine wpAnyH_take (i := 14) (v := ?_) rfl (by kernel_rfl) (by kernel_rfl) (by kernel_rfl) (fun _ _ _ h => h) (Or.inl ⟨by rfl, ?_⟩) hHeld ?_
                  rotate_left
                  focus
                    intro w hSw
                    clear hSw
                    go_simp
                    try with_reducible rfl
                  try simp only [Act.put, List.getElem_toArray, List.getElem_cons_zero, List.getElem_cons_succ, List.setIfInBounds_toArray, List.set_cons_zero, List.set_cons_succ]
                  refine wpAnyH_take (i := 15) (v := ?_) rfl (by kernel_rfl) (by kernel_rfl) (by kernel_rfl) (fun _ _ _ h => h) (Or.inl ⟨by rfl, ?_⟩) hHeld ?_
                  rotate_left
                  focus
                    intro w hSw
                    clear hSw
                    go_simp
                    try with_reducible rfl
                  try simp only [Act.put, List.getElem_toArray, List.getElem_cons_zero, List.getElem_cons_succ, List.setIfInBounds_toArray, List.set_cons_zero, List.set_cons_succ]
                  refine wpAnyH_take (i := 16) (v := ?_) rfl (by kernel_rfl) (by kernel_rfl) (by kernel_rfl) (fun _ _ _ h => h) (Or.inl ⟨by rfl, ?_⟩) hHeld ?_
                  rotate_left
                  focus
                    intro w hSw
                    clear hSw
                    go_simp
                    try with_reducible rfl
                  try simp only [Act.put, List.getElem_toArray, List.getElem_cons_zero, List.getElem_cons_succ, List.setIfInBounds_toArray, List.set_cons_zero, List.set_cons_succ]
                  refine wpAnyH_take (i := 17) (v := ?_) rfl (by kernel_rfl) (by kernel_rfl) (by kernel_rfl) (fun _ _ _ h => h) (Or.inl ⟨by rfl, ?_⟩) hHeld ?_
                  rotate_left
                  focus
                    intro w hSw
                    clear hSw
                    go_simp
                    try with_reducible rfl
                  try simp only [Act.put, List.getElem_toArray, List.getElem_cons_zero, List.getElem_cons_succ, List.setIfInBounds_toArray, List.set_cons_zero, List.set_cons_succ]
                  refine wpAnyH_take (i := 18) (v := ?_) rfl (by kernel_rfl) (by kernel_rfl) (by kernel_rfl) (fun _ _ _ h => h) (Or.inl ⟨by rfl, ?_⟩) hHeld ?_
                  rotate_left
                  focus
                    intro w hSw
                    clear hSw
                    go_simp
                    try with_reducible rfl
                  try simp only [Act.put, List.getElem_toArray, List.getElem_cons_zero, List.getElem_cons_succ, List.setIfInBounds_toArray, List.set_cons_zero, List.set_cons_succ]
                  refine wpAnyH_take (i := 19) (v := ?_) rfl (by kernel_rfl) (by kernel_rfl) (by kernel_rfl) (fun _ _ _ h => h) (Or.inl ⟨by rfl, ?_⟩) hHeld ?_
                  rotate_left
                  focus
                    intro w hSw
                    (try dsimp only at hSw)
                    go_simp
                    try with_reducible rfl
                  try simp only [Act.put, List.getElem_toArray, List.getElem_cons_zero, List.getElem_cons_succ, List.setIfInBounds_toArray, List.set_cons_zero, List.set_cons_succ]
                  refine wpAnyH_take (i := 20) (v := ?_) rfl (by kernel_rfl) (by kernel_rfl) (by kernel_rfl) (fun _ _ _ h => h) (Or.inl ⟨by rfl, ?_⟩) hHeld ?_
                  rotate_left
                  focus
                    intro w hSw
                    clear hSw
                    go_simp
                    try with_reducible rfl
                  try simp only [Act.put, List.getElem_toArray, List.getElem_cons_zero, List.getElem_cons_succ, List.setIfInBounds_toArray, List.set_cons_zero, List.set_cons_succ]
                  refine wpAnyH_take (i := 21) (v := ?_) rfl (by kernel_rfl) (by kernel_rfl) (by kernel_rfl) (fun _ _ _ h => h) (Or.inl ⟨by rfl, ?_⟩) hHeld ?_
                  rotate_left
                  focus
                    intro w hSw
                    (try dsimp only at hSw)
                    go_simp
                    try with_reducible rfl
                  try simp only [Act.put, List.getElem_toArray, List.getElem_cons_zero, List.getElem_cons_succ, List.setIfInBounds_toArray, List.set_cons_zero, List.set_cons_succ]
                  refine wpAnyH_take (i := 22) (v := ?_) rfl (by kernel_rfl) (by kernel_rfl) (by kernel_rfl) (fun _ _ _ h => h) (Or.inl ⟨by rfl, ?_⟩) hHeld ?_
                  rotate_left
                  focus
                    intro w hSw
                    clear hSw
                    go_simp
                    try with_reducible rfl
                  try simp only [Act.put, List.getElem_toArray, List.getElem_cons_zero, List.getElem_cons_succ, List.setIfInBounds_toArray, List.set_cons_zero, List.set_cons_succ]
                  refine wpAnyH_take (i := 23) (v := ?_) rfl (by kernel_rfl) (by kernel_rfl) (by kernel_rfl) (fun _ _ _ h => h) (Or.inl ⟨by rfl, ?_⟩) hHeld ?_
                  rotate_left
                  focus
                    intro w hSw
                    clear hSw
                    go_simp
                    try with_reducible rfl
                  try simp only [Act.put, List.getElem_toArray, List.getElem_cons_zero, List.getElem_cons_succ, List.setIfInBounds_toArray, List.set_cons_zero, List.set_cons_succ]
                  refine wpAnyH_done (by kernel_rfl) ?_ _
                  refine NoPanic.normal ?_
                  have HM3d := Lib.hid (HM3.out.below (show Below W3.heap.size W3 W3.drew from ⟨rfl, rfl, rfl, Nat.le_refl _, fun _ _ => rfl⟩))
                  have HFBd : Hid (Blk W3.drew fb #[.int .i64 xi, .int .i64 oi, .int .i64 xt, .int .i64 ot, .int .i64 xp, .int .i64 1] 111) := HFB.out
                  have HXBd : Hid (Blk W3.drew XB #[.int .i64 xi, .int .i64 xt, .bool xs, .int .i64 xp, .int .i64 xl, .int .i64 xq] 97) := HXB.out
                  have q5 : W3.drew.cell? ⟨g9, ii.length * 6 + 5, none⟩ = some (.int .i64 gn) := q5
                  have fq5 : W3.drew.frozen? ⟨g9, ii.length * 6 + 5, none⟩ = false := fq5
                  clear f0 f1 q0 q1
                  generalize W3.drew = W3d at HM3d HFBd HXBd q5 fq5 ⊢
                  have HM4 : Hid (MD w (W3d.setCell ⟨g9, ii.length * 6 + 5, none⟩ (.int .i64 (gn + 1))) B u L1 v v1 came ⟨oi, ot, false, op, z, oq⟩ (.slice (some ⟨g9, 0, none⟩) (ii ++ [(⟨ga, gb, gs, gy, gp, gn⟩ : Fill)]).length c9) (putF (ii ++ [(⟨ga, gb, gs, gy, gp, gn⟩ : Fill)]) ⟨xi, oi, xt, ot, xp, 1⟩)) := by
                    rw [HPUT.out]
                    exact HM3d.out.setF (f := ⟨ga, gb, gs, gy, gp, gn⟩) (gn + 1) (by simp)
                  have hx4 : Blk (W3d.setCell ⟨g9, ii.length * 6 + 5, none⟩ (.int .i64 (gn + 1))) XB #[.int .i64 xi, .int .i64 xt, .bool xs, .int .i64 xp, .int .i64 xl, .int .i64 xq] 97 := (Turns.set (F := fun k => k = g9) rfl).blk HXBd.out (fun e => by
                    obtain ⟨cur, hc⟩ := own_type HM3d.out.own (g := g9) rfl
                    subst e
                    exact absurd (HXBd.out.type_eq hc) (by decide))
                  obtain ⟨W4, hW4⟩ : ∃ z, z = W3d.setCell ⟨g9, ii.length * 6 + 5, none⟩ (.int .i64 (gn + 1)) := ⟨_, rfl⟩
                  have HW4 := Lib.hid hW4
                  rw [← hW4] at HM4 hx4
                  rw [hl1] at HM4
                  clear hW4
                  go_upto_region 17 with fail
                  rw [← HW4.out]
                  have x0 : W4.cell? ⟨XB, 0, none⟩ = some (.int .i64 xi) := hx4.cell 0 _ rfl
                  clear hx4
                  go_wp2_with fail
                  refine (HCUT.out W4 _ _ HM4.out).mono ?_
                  rintro e W5 ⟨rfl, L5, v5, hr5, hb5, hs5⟩
                  have HM5 := Lib.hid (HM4.out.book hr5 hs5)
                  have HBT5 := Lib.hid hb5
                  have k4 : W5.cell? ⟨w.heap.size, 4, none⟩ = some (.int .i64 z) := HM5.out.k4
                  have f4 := HM5.out.f4
                  have HM6 := Lib.hid (HM5.out.setl (z - 1))
                  clear hr5 hb5 hs5 x0
                  go_wp2_with fail
                  go_roundw
                  case rel => exact ⟨_, z - 1, _, L5, v5, _, rfl, HST, HBT5, HM6⟩
                  case measure =>
                    rw [lotsAt_of HM6.out.k4, lotsAt_of HM.out.k4]
                    show (z - 1).toNat < z.toNat
                    omega
                · have ha' : (ga == xi) = true := by simpa using ha
                  have hb' : (gb == oi) = false := by simpa using hbq
                  have HPUT : Hid (putF (ii ++ [(⟨ga, gb, gs, gy, gp, gn⟩ : Fill)]) (⟨xi, oi, xt, ot, xp, 1⟩ : Fill) = ii ++ [(⟨ga, gb, gs, gy, gp, gn⟩ : Fill)] ++ [⟨xi, oi, xt, ot, xp, 1⟩]) := putF_new (fun h => hbq h.2)
                  clear ha hbq
                  rw [hl1]
                  go_wp2_with fail
                  refine wp_region_noPanic ?_
                  refine wp_region_held_drew (S := (fun w' => w'.cell? ⟨g9, ii.length * 6, none⟩ = some (.int .i64 ga) ∧ w'.cell? ⟨g9, ii.length * 6 + 1, none⟩ = some (.int .i64 gb) ∧ w'.cell? ⟨fb, 0, none⟩ = some (.int .i64 xi) ∧ w'.cell? ⟨fb, 1, none⟩ = some (.int .i64 oi))) (by kernel_rfl) ⟨q0, q1, f0, f1⟩ (fun hHeld => ?_)
                  refine wpAnyH_take (i := 0) (v := ?_) rfl (by kernel_rfl) (by kernel_rfl) (by kernel_rfl) (fun _ _ _ h => h) (Or.inl ⟨by rfl, ?_⟩) hHeld ?_
                  rotate_left
                  focus
                    intro w hSw
                    clear hSw
                    go_simp
                    try with_reducible rfl
                  try simp only [Act.put, List.getElem_toArray, List.getElem_cons_zero, List.getElem_cons_succ, List.setIfInBounds_toArray, List.set_cons_zero, List.set_cons_succ]
                  refine wpAnyH_take (i := 1) (v := ?_) rfl (by kernel_rfl) (by kernel_rfl) (by kernel_rfl) (fun _ _ _ h => h) (Or.inl ⟨by rfl, ?_⟩) hHeld ?_
                  rotate_left
                  focus
                    intro w hSw
                    clear hSw
                    go_simp
                    try with_reducible rfl
                  try simp only [Act.put, List.getElem_toArray, List.getElem_cons_zero, List.getElem_cons_succ, List.setIfInBounds_toArray, List.set_cons_zero, List.set_cons_succ]
                  refine wpAnyH_take (i := 2) (v := ?_) rfl (by kernel_rfl) (by kernel_rfl) (by kernel_rfl) (fun _ _ _ h => h) (Or.inl ⟨by rfl, ?_⟩) hHeld ?_
                  rotate_left
                  focus
                    intro w hSw
                    clear hSw
                    go_simp
                    try with_reducible rfl
                  try simp only [Act.put, List.getElem_toArray, List.getElem_cons_zero, List.getElem_cons_succ, List.setIfInBounds_toArray, List.set_cons_zero, List.set_cons_succ]
                  refine wpAnyH_take (i := 3) (v := ?_) rfl (by kernel_rfl) (by kernel_rfl) (by kernel_rfl) (fun _ _ _ h => h) (Or.inl ⟨by rfl, ?_⟩) hHeld ?_
                  rotate_left
                  focus
                    intro w hSw
                    clear hSw
                    go_simp
                    try with_reducible rfl
                  try simp only [Act.put, List.getElem_toArray, List.getElem_cons_zero, List.getElem_cons_succ, List.setIfInBounds_toArray, List.set_cons_zero, List.set_cons_succ]
                  refine wpAnyH_take (i := 4) (v := ?_) rfl (by kernel_rfl) (by kernel_rfl) (by kernel_rfl) (fun _ _ _ h => h) (Or.inl ⟨by rfl, ?_⟩) hHeld ?_
                  rotate_left
                  focus
                    intro w hSw
                    clear hSw
                    go_simp
                    try with_reducible rfl
                  try simp only [Act.put, List.getElem_toArray, List.getElem_cons_zero, List.getElem_cons_succ, List.setIfInBounds_toArray, List.set_cons_zero, List.set_cons_succ]
                  refine wpAnyH_take (i := 5) (v := ?_) rfl (by kernel_rfl) (by kernel_rfl) (by kernel_rfl) (fun _ _ _ h => h) (Or.inl ⟨by rfl, ?_⟩) hHeld ?_
                  rotate_left
                  focus
                    intro w hSw
                    clear hSw
                    go_simp
                    try with_reducible rfl
                  try simp only [Act.put, List.getElem_toArray, List.getElem_cons_zero, List.getElem_cons_succ, List.setIfInBounds_toArray, List.set_cons_zero, List.set_cons_succ]
                  refine wpAnyH_take (i := 6) (v := ?_) rfl (by kernel_rfl) (by kernel_rfl) (by kernel_rfl) (fun _ _ _ h => h) (Or.inl ⟨by rfl, ?_⟩) hHeld ?_
                  rotate_left
                  focus
                    intro w hSw
                    clear hSw
                    go_simp
                    try with_reducible rfl
                  try simp only [Act.put, List.getElem_toArray, List.getElem_cons_zero, List.getElem_cons_succ, List.setIfInBounds_toArray, List.set_cons_zero, List.set_cons_succ]
                  refine wpAnyH_take (i := 7) (v := ?_) rfl (by kernel_rfl) (by kernel_rfl) (by kernel_rfl) (fun _ _ _ h => h) (Or.inl ⟨by rfl, ?_⟩) hHeld ?_
                  rotate_left
                  focus
                    intro w hSw
                    clear hSw
                    go_simp
                    try with_reducible rfl
                  try simp only [Act.put, List.getElem_toArray, List.getElem_cons_zero, List.getElem_cons_succ, List.setIfInBounds_toArray, List.set_cons_zero, List.set_cons_succ]
                  refine wpAnyH_take (i := 8) (v := ?_) rfl (by kernel_rfl) (by kernel_rfl) (by kernel_rfl) (fun _ _ _ h => h) (Or.inl ⟨by rfl, ?_⟩) hHeld ?_
                  rotate_left
                  focus
                    intro w hSw
                    (try dsimp only at hSw)
                    go_simp
                    try with_reducible rfl
                  try simp only [Act.put, List.getElem_toArray, List.getElem_cons_zero, List.getElem_cons_succ, List.setIfInBounds_toArray, List.set_cons_zero, List.set_cons_succ]
                  refine wpAnyH_take (i := 9) (v := ?_) rfl (by kernel_rfl) (by kernel_rfl) (by kernel_rfl) (fun _ _ _ h => h) (Or.inl ⟨by rfl, ?_⟩) hHeld ?_
                  rotate_left
                  focus
                    intro w hSw
                    clear hSw
                    go_simp
                    try with_reducible rfl
                  try simp only [Act.put, List.getElem_toArray, List.getElem_cons_zero, List.getElem_cons_succ, List.setIfInBounds_toArray, List.set_cons_zero, List.set_cons_succ]
                  refine wpAnyH_take (i := 10) (v := ?_) rfl (by kernel_rfl) (by kernel_rfl) (by kernel_rfl) (fun _ _ _ h => h) (Or.inl ⟨by rfl, ?_⟩) hHeld ?_
                  rotate_left
                  focus
                    intro w hSw
                    (try dsimp only at hSw)
                    go_simp
                    try with_reducible rfl
                  try simp only [Act.put, List.getElem_toArray, List.getElem_cons_zero, List.getElem_cons_succ, List.setIfInBounds_toArray, List.set_cons_zero, List.set_cons_succ]
                  refine wpAnyH_take (i := 11) (v := ?_) rfl (by kernel_rfl) (by kernel_rfl) (by kernel_rfl) (fun _ _ _ h => h) (Or.inl ⟨by rfl, ?_⟩) hHeld ?_
                  rotate_left
                  focus
                    intro w hSw
                    clear hSw
                    go_simp
                    try with_reducible rfl
                  try simp only [Act.put, List.getElem_toArray, List.getElem_cons_zero, List.getElem_cons_succ, List.setIfInBounds_toArray, List.set_cons_zero, List.set_cons_succ]
                  refine wpAnyH_take (i := 12) (v := ?_) rfl (by kernel_rfl) (by kernel_rfl) (by kernel_rfl) (fun _ _ _ h => h) (Or.inl ⟨by rfl, ?_⟩) hHeld ?_
                  rotate_left
                  focus
                    intro w hSw
                    clear hSw
                    go_simp
                    try with_reducible rfl
                  try simp only [Act.put, List.getElem_toArray, List.getElem_cons_zero, List.getElem_cons_succ, List.setIfInBounds_toArray, List.set_cons_zero, List.set_cons_succ]
                  refine wpAnyH_take (i := 13) (v := ?_) rfl (by kernel_rfl) (by kernel_rfl) (by kernel_rfl) (fun _ _ _ h => h) (Or.inl ⟨by rfl, ?_⟩) hHeld ?_
                  rotate_left
                  focus
                    intro w hSw
                    clear hSw
                    go_simp
                    try with_reducible rfl
                  try simp only [Act.put, List.getElem_toArray, List.getElem_cons_zero, List.getElem_cons_succ, List.setIfInBounds_toArray, List.set_cons_zero, List.set_cons_succ]
                  refine wpAnyH_take (i := 14) (v := ?_) rfl (by kernel_rfl) (by kernel_rfl) (by kernel_rfl) (fun _ _ _ h => h) (Or.inl ⟨by rfl, ?_⟩) hHeld ?_
                  rotate_left
                  focus
                    intro w hSw
                    clear hSw
                    go_simp
                    try with_reducible rfl
                  try simp only [Act.put, List.getElem_toArray, List.getElem_cons_zero, List.getElem_cons_succ, List.setIfInBounds_toArray, List.set_cons_zero, List.set_cons_succ]
                  refine wpAnyH_take (i := 15) (v := ?_) rfl (by kernel_rfl) (by kernel_rfl) (by kernel_rfl) (fun _ _ _ h => h) (Or.inl ⟨by rfl, ?_⟩) hHeld ?_
                  rotate_left
                  focus
                    intro w hSw
                    clear hSw
                    go_simp
                    try with_reducible rfl
                  try simp only [Act.put, List.getElem_toArray, List.getElem_cons_zero, List.getElem_cons_succ, List.setIfInBounds_toArray, List.set_cons_zero, List.set_cons_succ]
                  refine wpAnyH_take (i := 16) (v := ?_) rfl (by kernel_rfl) (by kernel_rfl) (by kernel_rfl) (fun _ _ _ h => h) (Or.inl ⟨by rfl, ?_⟩) hHeld ?_
                  rotate_left
                  focus
                    intro w hSw
                    clear hSw
                    go_simp
                    try with_reducible rfl
                  try simp only [Act.put, List.getElem_toArray, List.getElem_cons_zero, List.getElem_cons_succ, List.setIfInBounds_toArray, List.set_cons_zero, List.set_cons_succ]
                  refine wpAnyH_take (i := 17) (v := ?_) rfl (by kernel_rfl) (by kernel_rfl) (by kernel_rfl) (fun _ _ _ h => h) (Or.inl ⟨by rfl, ?_⟩) hHeld ?_
                  rotate_left
                  focus
                    intro w hSw
                    clear hSw
                    go_simp
                    try with_reducible rfl
                  try simp only [Act.put, List.getElem_toArray, List.getElem_cons_zero, List.getElem_cons_succ, List.setIfInBounds_toArray, List.set_cons_zero, List.set_cons_succ]
                  refine wpAnyH_take (i := 18) (v := ?_) rfl (by kernel_rfl) (by kernel_rfl) (by kernel_rfl) (fun _ _ _ h => h) (Or.inl ⟨by rfl, ?_⟩) hHeld ?_
                  rotate_left
                  focus
                    intro w hSw
                    clear hSw
                    go_simp
                    try with_reducible rfl
                  try simp only [Act.put, List.getElem_toArray, List.getElem_cons_zero, List.getElem_cons_succ, List.setIfInBounds_toArray, List.set_cons_zero, List.set_cons_succ]
                  refine wpAnyH_take (i := 19) (v := ?_) rfl (by kernel_rfl) (by kernel_rfl) (by kernel_rfl) (fun _ _ _ h => h) (Or.inl ⟨by rfl, ?_⟩) hHeld ?_
                  rotate_left
                  focus
                    intro w hSw
                    (try dsimp only at hSw)
                    go_simp
                    try with_reducible rfl
                  try simp only [Act.put, List.getElem_toArray, List.getElem_cons_zero, List.getElem_cons_succ, List.setIfInBounds_toArray, List.set_cons_zero, List.set_cons_succ]
                  refine wpAnyH_take (i := 20) (v := ?_) rfl (by kernel_rfl) (by kernel_rfl) (by kernel_rfl) (fun _ _ _ h => h) (Or.inl ⟨by rfl, ?_⟩) hHeld ?_
                  rotate_left
                  focus
                    intro w hSw
                    clear hSw
                    go_simp
                    try with_reducible rfl
                  try simp only [Act.put, List.getElem_toArray, List.getElem_cons_zero, List.getElem_cons_succ, List.setIfInBounds_toArray, List.set_cons_zero, List.set_cons_succ]
                  refine wpAnyH_take (i := 21) (v := ?_) rfl (by kernel_rfl) (by kernel_rfl) (by kernel_rfl) (fun _ _ _ h => h) (Or.inl ⟨by rfl, ?_⟩) hHeld ?_
                  rotate_left
                  focus
                    intro w hSw
                    (try dsimp only at hSw)
                    go_simp
                    try with_reducible rfl
                  try simp only [Act.put, List.getElem_toArray, List.getElem_cons_zero, List.getElem_cons_succ, List.setIfInBounds_toArray, List.set_cons_zero, List.set_cons_succ]
                  refine wpAnyH_take (i := 22) (v := ?_) rfl (by kernel_rfl) (by kernel_rfl) (by kernel_rfl) (fun _ _ _ h => h) (Or.inl ⟨by rfl, ?_⟩) hHeld ?_
                  rotate_left
                  focus
                    intro w hSw
                    clear hSw
                    go_simp
                    try with_reducible rfl
                  try simp only [Act.put, List.getElem_toArray, List.getElem_cons_zero, List.getElem_cons_succ, List.setIfInBounds_toArray, List.set_cons_zero, List.set_cons_succ]
                  refine wpAnyH_take (i := 23) (v := ?_) rfl (by kernel_rfl) (by kernel_rfl) (by kernel_rfl) (fun _ _ _ h => h) (Or.inl ⟨by rfl, ?_⟩) hHeld ?_
                  rotate_left
                  focus
                    intro w hSw
                    clear hSw
                    go_simp
                    try with_reducible rfl
                  try simp only [Act.put, List.getElem_toArray, List.getElem_cons_zero, List.getElem_cons_succ, List.setIfInBounds_toArray, List.set_cons_zero, List.set_cons_succ]
                  refine wpAnyH_done (by kernel_rfl) ?_ _
                  refine NoPanic.normal ?_
                  have HM3d := Lib.hid (HM3.out.below (show Below W3.heap.size W3 W3.drew from ⟨rfl, rfl, rfl, Nat.le_refl _, fun _ _ => rfl⟩))
                  have HFBd : Hid (Blk W3.drew fb #[.int .i64 xi, .int .i64 oi, .int .i64 xt, .int .i64 ot, .int .i64 xp, .int .i64 1] 111) := HFB.out
                  have HXBd : Hid (Blk W3.drew XB #[.int .i64 xi, .int .i64 xt, .bool xs, .int .i64 xp, .int .i64 xl, .int .i64 xq] 97) := HXB.out
                  clear f0 f1
                  generalize W3.drew = W3d at HM3d HFBd HXBd ⊢
                  have HOWN : Hid (W3d.ownsRow w.heap.size 111 6 (.slice (some ⟨g9, 0, none⟩) (ii.length + 1) c9) (ii.length + 1) (flatOf Fill.cells (ii ++ [(⟨ga, gb, gs, gy, gp, gn⟩ : Fill)]))) := by
                    show World.ownsRow _ _ _ _ _ _ _
                    rw [← hl1]
                    exact HM3d.out.own
                  have rf : W3d.rangeAt fb 0 [.int .i64 xi, .int .i64 oi, .int .i64 xt, .int .i64 ot, .int .i64 xp, .int .i64 1] := rangeAt_blk HFBd.out
                  have hszm : w.heap.size ≤ W3d.heap.size := HM3d.out.sz
                  go_wp2_with (first
                    | (refine wpList_load_mid rfl 111 _ rfl fb 0 rfl [.int .i64 xi, .int .i64 oi, .int .i64 xt, .int .i64 ot, .int .i64 xp, .int .i64 1] _ rf Tryd.underlying111 rfl size_rft ?_)
                    | (at_builtin; refine wpList_app1 rfl _ _ 108 rfl w.heap.size 111 j0 (.agg #[.int .i64 0, .int .i64 0, .int .i64 0, .int .i64 0, .int .i64 0, .int .i64 0]) 6 48 Tryd.underlying108 hj hy0 hy1 hy2 rfl (by decide) _ _ _ rfl HOWN.out [.int .i64 xi, .int .i64 oi, .int .i64 xt, .int .i64 ot, .int .i64 xp, .int .i64 1] _ rfl ?ca0 ?ca1 ?ca2 ?ca3 ?ca4 hszm ?_))
                  case ca0 => rfl
                  case ca1 => rfl
                  case ca2 => simp [Value.oneCell']
                  case ca3 => have := HFL.out; unfold maxLen; try simp at this; omega
                  case ca4 => have := HFL.out; try simp at this; omega
                  intro s9' W4 hown4 hg4 _
                  have hown4 : W4.ownsRow w.heap.size 111 6 s9' ((ii ++ [(⟨ga, gb, gs, gy, gp, gn⟩ : Fill)]) ++ [(⟨xi, oi, xt, ot, xp, 1⟩ : Fill)]).length (flatOf Fill.cells ((ii ++ [(⟨ga, gb, gs, gy, gp, gn⟩ : Fill)]) ++ [(⟨xi, oi, xt, ot, xp, 1⟩ : Fill)])) := by
                    rw [List.length_append, hl1, flatOf_append, flatOf_one]
                    exact hown4
                  rw [← HPUT.out] at hown4
                  have HM4 := Lib.hid (HM3d.out.app (out' := putF (ii ++ [(⟨ga, gb, gs, gy, gp, gn⟩ : Fill)]) ⟨xi, oi, xt, ot, xp, 1⟩) hg4 hown4)
                  obtain ⟨a10, c10, rfl⟩ := own_len hown4
                  have hx4 : Blk W4 XB #[.int .i64 xi, .int .i64 xt, .bool xs, .int .i64 xp, .int .i64 xl, .int .i64 xq] 97 := (Turns.of_grown hg4).blk HXBd.out (fun e => by
                    obtain ⟨cur, hc⟩ := own_type HM3d.out.own e
                    exact absurd (HXBd.out.type_eq hc) (by decide))
                  clear hown4 hg4 rf hszm
                  have x0 : W4.cell? ⟨XB, 0, none⟩ = some (.int .i64 xi) := hx4.cell 0 _ rfl
                  clear hx4
                  go_wp2_with fail
                  refine (HCUT.out W4 _ _ HM4.out).mono ?_
                  rintro e W5 ⟨rfl, L5, v5, hr5, hb5, hs5⟩
                  have HM5 := Lib.hid (HM4.out.book hr5 hs5)
                  have HBT5 := Lib.hid hb5
                  have k4 : W5.cell? ⟨w.heap.size, 4, none⟩ = some (.int .i64 z) := HM5.out.k4
                  have f4 := HM5.out.f4
                  have HM6 := Lib.hid (HM5.out.setl (z - 1))
                  clear hr5 hb5 hs5 x0
                  go_wp2_with fail
                  go_roundw
                  case rel => exact ⟨_, z - 1, _, L5, v5, _, rfl, HST, HBT5, HM6⟩
                  case measure =>
                    rw [lotsAt_of HM6.out.k4, lotsAt_of HM.out.k4]
                    show (z - 1).toNat < z.toNat
                    omega
              · have ha' : (ga == xi) = false := by simpa using ha
                have HPUT : Hid (putF (ii ++ [(⟨ga, gb, gs, gy, gp, gn⟩ : Fill)]) (⟨xi, oi, xt, ot, xp, 1⟩ : Fill) = ii ++ [(⟨ga, gb, gs, gy, gp, gn⟩ : Fill)] ++ [⟨xi, oi, xt, ot, xp, 1⟩]) := putF_new (fun h => ha h.1)
                clear ha
                rw [hl1]
                go_wp2_with fail
                refine wp_region_noPanic ?_
                refine wp_region_held_drew (S := (fun w' => w'.cell? ⟨g9, ii.length * 6, none⟩ = some (.int .i64 ga) ∧ w'.cell? ⟨g9, ii.length * 6 + 1, none⟩ = some (.int .i64 gb) ∧ w'.cell? ⟨fb, 0, none⟩ = some (.int .i64 xi) ∧ w'.cell? ⟨fb, 1, none⟩ = some (.int .i64 oi))) (by kernel_rfl) ⟨q0, q1, f0, f1⟩ (fun hHeld => ?_)
                refine wpAnyH_take (i := 0) (v := ?_) rfl (by kernel_rfl) (by kernel_rfl) (by kernel_rfl) (fun _ _ _ h => h) (Or.inl ⟨by rfl, ?_⟩) hHeld ?_
                rotate_left
                focus
                  intro w hSw
                  clear hSw
                  go_simp
                  try with_reducible rfl
                try simp only [Act.put, List.getElem_toArray, List.getElem_cons_zero, List.getElem_cons_succ, List.setIfInBounds_toArray, List.set_cons_zero, List.set_cons_succ]
                refine wpAnyH_take (i := 1) (v := ?_) rfl (by kernel_rfl) (by kernel_rfl) (by kernel_rfl) (fun _ _ _ h => h) (Or.inl ⟨by rfl, ?_⟩) hHeld ?_
                rotate_left
                focus
                  intro w hSw
                  clear hSw
                  go_simp
                  try with_reducible rfl
                try simp only [Act.put, List.getElem_toArray, List.getElem_cons_zero, List.getElem_cons_succ, List.setIfInBounds_toArray, List.set_cons_zero, List.set_cons_succ]
                refine wpAnyH_take (i := 2) (v := ?_) rfl (by kernel_rfl) (by kernel_rfl) (by kernel_rfl) (fun _ _ _ h => h) (Or.inl ⟨by rfl, ?_⟩) hHeld ?_
                rotate_left
                focus
                  intro w hSw
                  clear hSw
                  go_simp
                  try with_reducible rfl
                try simp only [Act.put, List.getElem_toArray, List.getElem_cons_zero, List.getElem_cons_succ, List.setIfInBounds_toArray, List.set_cons_zero, List.set_cons_succ]
                refine wpAnyH_take (i := 3) (v := ?_) rfl (by kernel_rfl) (by kernel_rfl) (by kernel_rfl) (fun _ _ _ h => h) (Or.inl ⟨by rfl, ?_⟩) hHeld ?_
                rotate_left
                focus
                  intro w hSw
                  clear hSw
                  go_simp
                  try with_reducible rfl
                try simp only [Act.put, List.getElem_toArray, List.getElem_cons_zero, List.getElem_cons_succ, List.setIfInBounds_toArray, List.set_cons_zero, List.set_cons_succ]
                refine wpAnyH_take (i := 4) (v := ?_) rfl (by kernel_rfl) (by kernel_rfl) (by kernel_rfl) (fun _ _ _ h => h) (Or.inl ⟨by rfl, ?_⟩) hHeld ?_
                rotate_left
                focus
                  intro w hSw
                  clear hSw
                  go_simp
                  try with_reducible rfl
                try simp only [Act.put, List.getElem_toArray, List.getElem_cons_zero, List.getElem_cons_succ, List.setIfInBounds_toArray, List.set_cons_zero, List.set_cons_succ]
                refine wpAnyH_take (i := 5) (v := ?_) rfl (by kernel_rfl) (by kernel_rfl) (by kernel_rfl) (fun _ _ _ h => h) (Or.inl ⟨by rfl, ?_⟩) hHeld ?_
                rotate_left
                focus
                  intro w hSw
                  clear hSw
                  go_simp
                  try with_reducible rfl
                try simp only [Act.put, List.getElem_toArray, List.getElem_cons_zero, List.getElem_cons_succ, List.setIfInBounds_toArray, List.set_cons_zero, List.set_cons_succ]
                refine wpAnyH_take (i := 6) (v := ?_) rfl (by kernel_rfl) (by kernel_rfl) (by kernel_rfl) (fun _ _ _ h => h) (Or.inl ⟨by rfl, ?_⟩) hHeld ?_
                rotate_left
                focus
                  intro w hSw
                  clear hSw
                  go_simp
                  try with_reducible rfl
                try simp only [Act.put, List.getElem_toArray, List.getElem_cons_zero, List.getElem_cons_succ, List.setIfInBounds_toArray, List.set_cons_zero, List.set_cons_succ]
                refine wpAnyH_take (i := 7) (v := ?_) rfl (by kernel_rfl) (by kernel_rfl) (by kernel_rfl) (fun _ _ _ h => h) (Or.inl ⟨by rfl, ?_⟩) hHeld ?_
                rotate_left
                focus
                  intro w hSw
                  clear hSw
                  go_simp
                  try with_reducible rfl
                try simp only [Act.put, List.getElem_toArray, List.getElem_cons_zero, List.getElem_cons_succ, List.setIfInBounds_toArray, List.set_cons_zero, List.set_cons_succ]
                refine wpAnyH_take (i := 8) (v := ?_) rfl (by kernel_rfl) (by kernel_rfl) (by kernel_rfl) (fun _ _ _ h => h) (Or.inl ⟨by rfl, ?_⟩) hHeld ?_
                rotate_left
                focus
                  intro w hSw
                  (try dsimp only at hSw)
                  go_simp
                  try with_reducible rfl
                try simp only [Act.put, List.getElem_toArray, List.getElem_cons_zero, List.getElem_cons_succ, List.setIfInBounds_toArray, List.set_cons_zero, List.set_cons_succ]
                refine wpAnyH_take (i := 9) (v := ?_) rfl (by kernel_rfl) (by kernel_rfl) (by kernel_rfl) (fun _ _ _ h => h) (Or.inl ⟨by rfl, ?_⟩) hHeld ?_
                rotate_left
                focus
                  intro w hSw
                  clear hSw
                  go_simp
                  try with_reducible rfl
                try simp only [Act.put, List.getElem_toArray, List.getElem_cons_zero, List.getElem_cons_succ, List.setIfInBounds_toArray, List.set_cons_zero, List.set_cons_succ]
                refine wpAnyH_take (i := 10) (v := ?_) rfl (by kernel_rfl) (by kernel_rfl) (by kernel_rfl) (fun _ _ _ h => h) (Or.inl ⟨by rfl, ?_⟩) hHeld ?_
                rotate_left
                focus
                  intro w hSw
                  (try dsimp only at hSw)
                  go_simp
                  try with_reducible rfl
                try simp only [Act.put, List.getElem_toArray, List.getElem_cons_zero, List.getElem_cons_succ, List.setIfInBounds_toArray, List.set_cons_zero, List.set_cons_succ]
                refine wpAnyH_take (i := 11) (v := ?_) rfl (by kernel_rfl) (by kernel_rfl) (by kernel_rfl) (fun _ _ _ h => h) (Or.inl ⟨by rfl, ?_⟩) hHeld ?_
                rotate_left
                focus
                  intro w hSw
                  clear hSw
                  go_simp
                  try with_reducible rfl
                try simp only [Act.put, List.getElem_toArray, List.getElem_cons_zero, List.getElem_cons_succ, List.setIfInBounds_toArray, List.set_cons_zero, List.set_cons_succ]
                refine wpAnyH_take (i := 12) (v := ?_) rfl (by kernel_rfl) (by kernel_rfl) (by kernel_rfl) (fun _ _ _ h => h) (Or.inl ⟨by rfl, ?_⟩) hHeld ?_
                rotate_left
                focus
                  intro w hSw
                  clear hSw
                  go_simp
                  try with_reducible rfl
                try simp only [Act.put, List.getElem_toArray, List.getElem_cons_zero, List.getElem_cons_succ, List.setIfInBounds_toArray, List.set_cons_zero, List.set_cons_succ]
                refine wpAnyH_take (i := 13) (v := ?_) rfl (by kernel_rfl) (by kernel_rfl) (by kernel_rfl) (fun _ _ _ h => h) (Or.inl ⟨by rfl, ?_⟩) hHeld ?_
                rotate_left
                focus
                  intro w hSw
                  clear hSw
                  go_simp
                  try with_reducible rfl
                try simp only [Act.put, List.getElem_toArray, List.getElem_cons_zero, List.getElem_cons_succ, List.setIfInBounds_toArray, List.set_cons_zero, List.set_cons_succ]
                refine wpAnyH_take (i := 14) (v := undef) rfl (by kernel_rfl) (by kernel_rfl) (by kernel_rfl) (fun _ _ _ h => h) (Or.inr ⟨by rfl, rfl⟩) hHeld ?_
                try simp only [Act.put, List.getElem_toArray, List.getElem_cons_zero, List.getElem_cons_succ, List.setIfInBounds_toArray, List.set_cons_zero, List.set_cons_succ]
                refine wpAnyH_take (i := 15) (v := undef) rfl (by kernel_rfl) (by kernel_rfl) (by kernel_rfl) (fun _ _ _ h => h) (Or.inr ⟨by rfl, rfl⟩) hHeld ?_
                try simp only [Act.put, List.getElem_toArray, List.getElem_cons_zero, List.getElem_cons_succ, List.setIfInBounds_toArray, List.set_cons_zero, List.set_cons_succ]
                refine wpAnyH_take (i := 16) (v := undef) rfl (by kernel_rfl) (by kernel_rfl) (by kernel_rfl) (fun _ _ _ h => h) (Or.inr ⟨by rfl, rfl⟩) hHeld ?_
                try simp only [Act.put, List.getElem_toArray, List.getElem_cons_zero, List.getElem_cons_succ, List.setIfInBounds_toArray, List.set_cons_zero, List.set_cons_succ]
                refine wpAnyH_take (i := 17) (v := undef) rfl (by kernel_rfl) (by kernel_rfl) (by kernel_rfl) (fun _ _ _ h => h) (Or.inr ⟨by rfl, rfl⟩) hHeld ?_
                try simp only [Act.put, List.getElem_toArray, List.getElem_cons_zero, List.getElem_cons_succ, List.setIfInBounds_toArray, List.set_cons_zero, List.set_cons_succ]
                refine wpAnyH_take (i := 18) (v := undef) rfl (by kernel_rfl) (by kernel_rfl) (by kernel_rfl) (fun _ _ _ h => h) (Or.inr ⟨by rfl, rfl⟩) hHeld ?_
                try simp only [Act.put, List.getElem_toArray, List.getElem_cons_zero, List.getElem_cons_succ, List.setIfInBounds_toArray, List.set_cons_zero, List.set_cons_succ]
                refine wpAnyH_take (i := 19) (v := undef) rfl (by kernel_rfl) (by kernel_rfl) (by kernel_rfl) (fun _ _ _ h => h) (Or.inr ⟨by rfl, rfl⟩) hHeld ?_
                try simp only [Act.put, List.getElem_toArray, List.getElem_cons_zero, List.getElem_cons_succ, List.setIfInBounds_toArray, List.set_cons_zero, List.set_cons_succ]
                refine wpAnyH_take (i := 20) (v := undef) rfl (by kernel_rfl) (by kernel_rfl) (by kernel_rfl) (fun _ _ _ h => h) (Or.inr ⟨by rfl, rfl⟩) hHeld ?_
                try simp only [Act.put, List.getElem_toArray, List.getElem_cons_zero, List.getElem_cons_succ, List.setIfInBounds_toArray, List.set_cons_zero, List.set_cons_succ]
                refine wpAnyH_take (i := 21) (v := undef) rfl (by kernel_rfl) (by kernel_rfl) (by kernel_rfl) (fun _ _ _ h => h) (Or.inr ⟨by rfl, rfl⟩) hHeld ?_
                try simp only [Act.put, List.getElem_toArray, List.getElem_cons_zero, List.getElem_cons_succ, List.setIfInBounds_toArray, List.set_cons_zero, List.set_cons_succ]
                refine wpAnyH_take (i := 22) (v := undef) rfl (by kernel_rfl) (by kernel_rfl) (by kernel_rfl) (fun _ _ _ h => h) (Or.inr ⟨by rfl, rfl⟩) hHeld ?_
                try simp only [Act.put, List.getElem_toArray, List.getElem_cons_zero, List.getElem_cons_succ, List.setIfInBounds_toArray, List.set_cons_zero, List.set_cons_succ]
                refine wpAnyH_take (i := 23) (v := ?_) rfl (by kernel_rfl) (by kernel_rfl) (by kernel_rfl) (fun _ _ _ h => h) (Or.inl ⟨by rfl, ?_⟩) hHeld ?_
                rotate_left
                focus
                  intro w hSw
                  clear hSw
                  go_simp
                  try with_reducible rfl
                try simp only [Act.put, List.getElem_toArray, List.getElem_cons_zero, List.getElem_cons_succ, List.setIfInBounds_toArray, List.set_cons_zero, List.set_cons_succ]
                refine wpAnyH_done (by kernel_rfl) ?_ _
                refine NoPanic.normal ?_
                have HM3d := Lib.hid (HM3.out.below (show Below W3.heap.size W3 W3.drew from ⟨rfl, rfl, rfl, Nat.le_refl _, fun _ _ => rfl⟩))
                have HFBd : Hid (Blk W3.drew fb #[.int .i64 xi, .int .i64 oi, .int .i64 xt, .int .i64 ot, .int .i64 xp, .int .i64 1] 111) := HFB.out
                have HXBd : Hid (Blk W3.drew XB #[.int .i64 xi, .int .i64 xt, .bool xs, .int .i64 xp, .int .i64 xl, .int .i64 xq] 97) := HXB.out
                clear f0 f1
                generalize W3.drew = W3d at HM3d HFBd HXBd ⊢
                have HOWN : Hid (W3d.ownsRow w.heap.size 111 6 (.slice (some ⟨g9, 0, none⟩) (ii.length + 1) c9) (ii.length + 1) (flatOf Fill.cells (ii ++ [(⟨ga, gb, gs, gy, gp, gn⟩ : Fill)]))) := by
                  show World.ownsRow _ _ _ _ _ _ _
                  rw [← hl1]
                  exact HM3d.out.own
                have rf : W3d.rangeAt fb 0 [.int .i64 xi, .int .i64 oi, .int .i64 xt, .int .i64 ot, .int .i64 xp, .int .i64 1] := rangeAt_blk HFBd.out
                have hszm : w.heap.size ≤ W3d.heap.size := HM3d.out.sz
                go_wp2_with (first
                  | (refine wpList_load_mid rfl 111 _ rfl fb 0 rfl [.int .i64 xi, .int .i64 oi, .int .i64 xt, .int .i64 ot, .int .i64 xp, .int .i64 1] _ rf Tryd.underlying111 rfl size_rft ?_)
                  | (at_builtin; refine wpList_app1 rfl _ _ 108 rfl w.heap.size 111 j0 (.agg #[.int .i64 0, .int .i64 0, .int .i64 0, .int .i64 0, .int .i64 0, .int .i64 0]) 6 48 Tryd.underlying108 hj hy0 hy1 hy2 rfl (by decide) _ _ _ rfl HOWN.out [.int .i64 xi, .int .i64 oi, .int .i64 xt, .int .i64 ot, .int .i64 xp, .int .i64 1] _ rfl ?ca0 ?ca1 ?ca2 ?ca3 ?ca4 hszm ?_))
                case ca0 => rfl
                case ca1 => rfl
                case ca2 => simp [Value.oneCell']
                case ca3 => have := HFL.out; unfold maxLen; try simp at this; omega
                case ca4 => have := HFL.out; try simp at this; omega
                intro s9' W4 hown4 hg4 _
                have hown4 : W4.ownsRow w.heap.size 111 6 s9' ((ii ++ [(⟨ga, gb, gs, gy, gp, gn⟩ : Fill)]) ++ [(⟨xi, oi, xt, ot, xp, 1⟩ : Fill)]).length (flatOf Fill.cells ((ii ++ [(⟨ga, gb, gs, gy, gp, gn⟩ : Fill)]) ++ [(⟨xi, oi, xt, ot, xp, 1⟩ : Fill)])) := by
                  rw [List.length_append, hl1, flatOf_append, flatOf_one]
                  exact hown4
                rw [← HPUT.out] at hown4
                have HM4 := Lib.hid (HM3d.out.app (out' := putF (ii ++ [(⟨ga, gb, gs, gy, gp, gn⟩ : Fill)]) ⟨xi, oi, xt, ot, xp, 1⟩) hg4 hown4)
                obtain ⟨a10, c10, rfl⟩ := own_len hown4
                have hx4 : Blk W4 XB #[.int .i64 xi, .int .i64 xt, .bool xs, .int .i64 xp, .int .i64 xl, .int .i64 xq] 97 := (Turns.of_grown hg4).blk HXBd.out (fun e => by
                  obtain ⟨cur, hc⟩ := own_type HM3d.out.own e
                  exact absurd (HXBd.out.type_eq hc) (by decide))
                clear hown4 hg4 rf hszm
                have x0 : W4.cell? ⟨XB, 0, none⟩ = some (.int .i64 xi) := hx4.cell 0 _ rfl
                clear hx4
                go_wp2_with fail
                refine (HCUT.out W4 _ _ HM4.out).mono ?_
                rintro e W5 ⟨rfl, L5, v5, hr5, hb5, hs5⟩
                have HM5 := Lib.hid (HM4.out.book hr5 hs5)
                have HBT5 := Lib.hid hb5
                have k4 : W5.cell? ⟨w.heap.size, 4, none⟩ = some (.int .i64 z) := HM5.out.k4
                have f4 := HM5.out.f4
                have HM6 := Lib.hid (HM5.out.setl (z - 1))
                clear hr5 hb5 hs5 x0
                go_wp2_with fail
                go_roundw
                case rel => exact ⟨_, z - 1, _, L5, v5, _, rfl, HST, HBT5, HM6⟩
                case measure =>
                  rw [lotsAt_of HM6.out.k4, lotsAt_of HM.out.k4]
                  show (z - 1).toNat < z.toNat
                  omega
          · have hn : nextOk ⟨oi, ot, false, op, ol, oq⟩ z (x :: r) = false := by unfold nextOk; simp only [if_neg hz]; simpa using hmt
            obtain ⟨xi, xt, xs, xp, xl, xq⟩ := x
            simp only at x3
            have d1 : decide (op < xp) = true := by
              unfold meetsO at hmt
              simpa using hmt
            clear hmt
            go_wp2_with fail
            refine wp_region_noPanic ?_
            refine wp_region_held_drew (S := (fun w' => w'.cell? ⟨w.heap.size, 2, none⟩ = some (.bool false) ∧ w'.cell? ⟨w.heap.size, 3, none⟩ = some (.int .i64 op) ∧ w'.cell? ⟨gl, 3, none⟩ = some (.int .i64 xp))) (by kernel_rfl) ⟨k2, k3, x3⟩ (fun hHeld => ?_)
            refine wpAnyH_take (i := 0) (v := ?_) rfl (by kernel_rfl) (by kernel_rfl) (by kernel_rfl) (fun _ _ _ h => h) (Or.inl ⟨by rfl, ?_⟩) hHeld ?_
            rotate_left
            focus
              intro w hSw
              clear hSw
              go_simp
              try with_reducible rfl
            try simp only [Act.put, List.getElem_toArray, List.getElem_cons_zero, List.getElem_cons_succ, List.setIfInBounds_toArray, List.set_cons_zero, List.set_cons_succ]
            refine wpAnyH_take (i := 1) (v := ?_) rfl (by kernel_rfl) (by kernel_rfl) (by kernel_rfl) (fun _ _ _ h => h) (Or.inl ⟨by rfl, ?_⟩) hHeld ?_
            rotate_left
            focus
              intro w hSw
              clear hSw
              go_simp
              try with_reducible rfl
            try simp only [Act.put, List.getElem_toArray, List.getElem_cons_zero, List.getElem_cons_succ, List.setIfInBounds_toArray, List.set_cons_zero, List.set_cons_succ]
            refine wpAnyH_take (i := 2) (v := ?_) rfl (by kernel_rfl) (by kernel_rfl) (by kernel_rfl) (fun _ _ _ h => h) (Or.inl ⟨by rfl, ?_⟩) hHeld ?_
            rotate_left
            focus
              intro w hSw
              clear hSw
              go_simp
              try with_reducible rfl
            try simp only [Act.put, List.getElem_toArray, List.getElem_cons_zero, List.getElem_cons_succ, List.setIfInBounds_toArray, List.set_cons_zero, List.set_cons_succ]
            refine wpAnyH_take (i := 3) (v := ?_) rfl (by kernel_rfl) (by kernel_rfl) (by kernel_rfl) (fun _ _ _ h => h) (Or.inl ⟨by rfl, ?_⟩) hHeld ?_
            rotate_left
            focus
              intro w hSw
              clear hSw
              go_simp
              try with_reducible rfl
            try simp only [Act.put, List.getElem_toArray, List.getElem_cons_zero, List.getElem_cons_succ, List.setIfInBounds_toArray, List.set_cons_zero, List.set_cons_succ]
            refine wpAnyH_take (i := 4) (v := ?_) rfl (by kernel_rfl) (by kernel_rfl) (by kernel_rfl) (fun _ _ _ h => h) (Or.inl ⟨by rfl, ?_⟩) hHeld ?_
            rotate_left
            focus
              intro w hSw
              clear hSw
              go_simp
              try with_reducible rfl
            try simp only [Act.put, List.getElem_toArray, List.getElem_cons_zero, List.getElem_cons_succ, List.setIfInBounds_toArray, List.set_cons_zero, List.set_cons_succ]
            refine wpAnyH_take (i := 5) (v := ?_) rfl (by kernel_rfl) (by kernel_rfl) (by kernel_rfl) (fun _ _ _ h => h) (Or.inl ⟨by rfl, ?_⟩) hHeld ?_
            rotate_left
            focus
              intro w hSw
              (try dsimp only at hSw)
              go_simp
              try with_reducible rfl
            try simp only [Act.put, List.getElem_toArray, List.getElem_cons_zero, List.getElem_cons_succ, List.setIfInBounds_toArray, List.set_cons_zero, List.set_cons_succ]
            refine wpAnyH_take (i := 6) (v := ?_) rfl (by kernel_rfl) (by kernel_rfl) (by kernel_rfl) (fun _ _ _ h => h) (Or.inl ⟨by rfl, ?_⟩) hHeld ?_
            rotate_left
            focus
              intro w hSw
              clear hSw
              go_simp
              try with_reducible rfl
            try simp only [Act.put, List.getElem_toArray, List.getElem_cons_zero, List.getElem_cons_succ, List.setIfInBounds_toArray, List.set_cons_zero, List.set_cons_succ]
            refine wpAnyH_take (i := 7) (v := undef) rfl (by kernel_rfl) (by kernel_rfl) (by kernel_rfl) (fun _ _ _ h => h) (Or.inr ⟨by rfl, rfl⟩) hHeld ?_
            try simp only [Act.put, List.getElem_toArray, List.getElem_cons_zero, List.getElem_cons_succ, List.setIfInBounds_toArray, List.set_cons_zero, List.set_cons_succ]
            refine wpAnyH_take (i := 8) (v := undef) rfl (by kernel_rfl) (by kernel_rfl) (by kernel_rfl) (fun _ _ _ h => h) (Or.inr ⟨by rfl, rfl⟩) hHeld ?_
            try simp only [Act.put, List.getElem_toArray, List.getElem_cons_zero, List.getElem_cons_succ, List.setIfInBounds_toArray, List.set_cons_zero, List.set_cons_succ]
            refine wpAnyH_take (i := 9) (v := undef) rfl (by kernel_rfl) (by kernel_rfl) (by kernel_rfl) (fun _ _ _ h => h) (Or.inr ⟨by rfl, rfl⟩) hHeld ?_
            try simp only [Act.put, List.getElem_toArray, List.getElem_cons_zero, List.getElem_cons_succ, List.setIfInBounds_toArray, List.set_cons_zero, List.set_cons_succ]
            refine wpAnyH_take (i := 10) (v := undef) rfl (by kernel_rfl) (by kernel_rfl) (by kernel_rfl) (fun _ _ _ h => h) (Or.inr ⟨by rfl, rfl⟩) hHeld ?_
            try simp only [Act.put, List.getElem_toArray, List.getElem_cons_zero, List.getElem_cons_succ, List.setIfInBounds_toArray, List.set_cons_zero, List.set_cons_succ]
            refine wpAnyH_take (i := 11) (v := undef) rfl (by kernel_rfl) (by kernel_rfl) (by kernel_rfl) (fun _ _ _ h => h) (Or.inr ⟨by rfl, rfl⟩) hHeld ?_
            try simp only [Act.put, List.getElem_toArray, List.getElem_cons_zero, List.getElem_cons_succ, List.setIfInBounds_toArray, List.set_cons_zero, List.set_cons_succ]
            refine wpAnyH_take (i := 12) (v := undef) rfl (by kernel_rfl) (by kernel_rfl) (by kernel_rfl) (fun _ _ _ h => h) (Or.inr ⟨by rfl, rfl⟩) hHeld ?_
            try simp only [Act.put, List.getElem_toArray, List.getElem_cons_zero, List.getElem_cons_succ, List.setIfInBounds_toArray, List.set_cons_zero, List.set_cons_succ]
            refine wpAnyH_take (i := 13) (v := undef) rfl (by kernel_rfl) (by kernel_rfl) (by kernel_rfl) (fun _ _ _ h => h) (Or.inr ⟨by rfl, rfl⟩) hHeld ?_
            try simp only [Act.put, List.getElem_toArray, List.getElem_cons_zero, List.getElem_cons_succ, List.setIfInBounds_toArray, List.set_cons_zero, List.set_cons_succ]
            refine wpAnyH_take (i := 14) (v := ?_) rfl (by kernel_rfl) (by kernel_rfl) (by kernel_rfl) (fun _ _ _ h => h) (Or.inl ⟨by rfl, ?_⟩) hHeld ?_
            rotate_left
            focus
              intro w hSw
              clear hSw
              go_simp
              try with_reducible rfl
            try simp only [Act.put, List.getElem_toArray, List.getElem_cons_zero, List.getElem_cons_succ, List.setIfInBounds_toArray, List.set_cons_zero, List.set_cons_succ]
            refine wpAnyH_take (i := 15) (v := ?_) rfl (by kernel_rfl) (by kernel_rfl) (by kernel_rfl) (fun _ _ _ h => h) (Or.inl ⟨by rfl, ?_⟩) hHeld ?_
            rotate_left
            focus
              intro w hSw
              clear hSw
              go_simp
              try with_reducible rfl
            try simp only [Act.put, List.getElem_toArray, List.getElem_cons_zero, List.getElem_cons_succ, List.setIfInBounds_toArray, List.set_cons_zero, List.set_cons_succ]
            refine wpAnyH_take (i := 16) (v := ?_) rfl (by kernel_rfl) (by kernel_rfl) (by kernel_rfl) (fun _ _ _ h => h) (Or.inl ⟨by rfl, ?_⟩) hHeld ?_
            rotate_left
            focus
              intro w hSw
              clear hSw
              go_simp
              try with_reducible rfl
            try simp only [Act.put, List.getElem_toArray, List.getElem_cons_zero, List.getElem_cons_succ, List.setIfInBounds_toArray, List.set_cons_zero, List.set_cons_succ]
            refine wpAnyH_take (i := 17) (v := ?_) rfl (by kernel_rfl) (by kernel_rfl) (by kernel_rfl) (fun _ _ _ h => h) (Or.inl ⟨by rfl, ?_⟩) hHeld ?_
            rotate_left
            focus
              intro w hSw
              clear hSw
              go_simp
              try with_reducible rfl
            try simp only [Act.put, List.getElem_toArray, List.getElem_cons_zero, List.getElem_cons_succ, List.setIfInBounds_toArray, List.set_cons_zero, List.set_cons_succ]
            refine wpAnyH_take (i := 18) (v := ?_) rfl (by kernel_rfl) (by kernel_rfl) (by kernel_rfl) (fun _ _ _ h => h) (Or.inl ⟨by rfl, ?_⟩) hHeld ?_
            rotate_left
            focus
              intro w hSw
              (try dsimp only at hSw)
              go_simp
              try with_reducible rfl
            try simp only [Act.put, List.getElem_toArray, List.getElem_cons_zero, List.getElem_cons_succ, List.setIfInBounds_toArray, List.set_cons_zero, List.set_cons_succ]
            refine wpAnyH_take (i := 19) (v := ?_) rfl (by kernel_rfl) (by kernel_rfl) (by kernel_rfl) (fun _ _ _ h => h) (Or.inl ⟨by rfl, ?_⟩) hHeld ?_
            rotate_left
            focus
              intro w hSw
              clear hSw
              go_simp
              try with_reducible rfl
            try simp only [Act.put, List.getElem_toArray, List.getElem_cons_zero, List.getElem_cons_succ, List.setIfInBounds_toArray, List.set_cons_zero, List.set_cons_succ]
            refine wpAnyH_take (i := 20) (v := ?_) rfl (by kernel_rfl) (by kernel_rfl) (by kernel_rfl) (fun _ _ _ h => h) (Or.inl ⟨by rfl, ?_⟩) hHeld ?_
            rotate_left
            focus
              intro w hSw
              clear hSw
              go_simp
              try with_reducible rfl
            try simp only [Act.put, List.getElem_toArray, List.getElem_cons_zero, List.getElem_cons_succ, List.setIfInBounds_toArray, List.set_cons_zero, List.set_cons_succ]
            refine wpAnyH_take (i := 21) (v := ?_) rfl (by kernel_rfl) (by kernel_rfl) (by kernel_rfl) (fun _ _ _ h => h) (Or.inl ⟨by rfl, ?_⟩) hHeld ?_
            rotate_left
            focus
              intro w hSw
              clear hSw
              go_simp
              try with_reducible rfl
            try simp only [Act.put, List.getElem_toArray, List.getElem_cons_zero, List.getElem_cons_succ, List.setIfInBounds_toArray, List.set_cons_zero, List.set_cons_succ]
            refine wpAnyH_take (i := 22) (v := ?_) rfl (by kernel_rfl) (by kernel_rfl) (by kernel_rfl) (fun _ _ _ h => h) (Or.inl ⟨by rfl, ?_⟩) hHeld ?_
            rotate_left
            focus
              intro w hSw
              clear hSw
              go_simp
              try with_reducible rfl
            try simp only [Act.put, List.getElem_toArray, List.getElem_cons_zero, List.getElem_cons_succ, List.setIfInBounds_toArray, List.set_cons_zero, List.set_cons_succ]
            refine wpAnyH_take (i := 23) (v := ?_) rfl (by kernel_rfl) (by kernel_rfl) (by kernel_rfl) (fun _ _ _ h => h) (Or.inl ⟨by rfl, ?_⟩) hHeld ?_
            rotate_left
            focus
              intro w hSw
              clear hSw
              go_simp
              try with_reducible rfl
            try simp only [Act.put, List.getElem_toArray, List.getElem_cons_zero, List.getElem_cons_succ, List.setIfInBounds_toArray, List.set_cons_zero, List.set_cons_succ]
            refine wpAnyH_take (i := 24) (v := ?_) rfl (by kernel_rfl) (by kernel_rfl) (by kernel_rfl) (fun _ _ _ h => h) (Or.inl ⟨by rfl, ?_⟩) hHeld ?_
            rotate_left
            focus
              intro w hSw
              (try dsimp only at hSw)
              go_simp
              try with_reducible rfl
            try simp only [Act.put, List.getElem_toArray, List.getElem_cons_zero, List.getElem_cons_succ, List.setIfInBounds_toArray, List.set_cons_zero, List.set_cons_succ]
            refine wpAnyH_take (i := 25) (v := ?_) rfl (by kernel_rfl) (by kernel_rfl) (by kernel_rfl) (fun _ _ _ h => h) (Or.inl ⟨by rfl, ?_⟩) hHeld ?_
            rotate_left
            focus
              intro w hSw
              clear hSw
              go_simp
              try with_reducible rfl
            try simp only [Act.put, List.getElem_toArray, List.getElem_cons_zero, List.getElem_cons_succ, List.setIfInBounds_toArray, List.set_cons_zero, List.set_cons_succ]
            refine wpAnyH_take (i := 26) (v := ?_) rfl (by kernel_rfl) (by kernel_rfl) (by kernel_rfl) (fun _ _ _ h => h) (Or.inl ⟨by rfl, ?_⟩) hHeld ?_
            rotate_left
            focus
              intro w hSw
              (try dsimp only at hSw)
              go_simp
              try with_reducible rfl
            try simp only [Act.put, List.getElem_toArray, List.getElem_cons_zero, List.getElem_cons_succ, List.setIfInBounds_toArray, List.set_cons_zero, List.set_cons_succ]
            refine wpAnyH_take (i := 27) (v := ?_) rfl (by kernel_rfl) (by kernel_rfl) (by kernel_rfl) (fun _ _ _ h => h) (Or.inl ⟨by rfl, ?_⟩) hHeld ?_
            rotate_left
            focus
              intro w hSw
              clear hSw
              go_simp
              try with_reducible rfl
            try simp only [Act.put, List.getElem_toArray, List.getElem_cons_zero, List.getElem_cons_succ, List.setIfInBounds_toArray, List.set_cons_zero, List.set_cons_succ]
            refine wpAnyH_take (i := 28) (v := ?_) rfl (by kernel_rfl) (by kernel_rfl) (by kernel_rfl) (fun _ _ _ h => h) (Or.inl ⟨by rfl, ?_⟩) hHeld ?_
            rotate_left
            focus
              intro w hSw
              clear hSw
              go_simp
              try with_reducible rfl
            try simp only [Act.put, List.getElem_toArray, List.getElem_cons_zero, List.getElem_cons_succ, List.setIfInBounds_toArray, List.set_cons_zero, List.set_cons_succ]
            refine wpAnyH_take (i := 29) (v := ?_) rfl (by kernel_rfl) (by kernel_rfl) (by kernel_rfl) (fun _ _ _ h => h) (Or.inl ⟨by rfl, ?_⟩) hHeld ?_
            rotate_left
            focus
              intro w hSw
              clear hSw
              go_simp
              try with_reducible rfl
            try simp only [Act.put, List.getElem_toArray, List.getElem_cons_zero, List.getElem_cons_succ, List.setIfInBounds_toArray, List.set_cons_zero, List.set_cons_succ]
            refine wpAnyH_done (by kernel_rfl) ?_ _
            refine NoPanic.normal ?_
            have HM1d := Lib.hid (HM1.out.below (show Below W1.heap.size W1 W1.drew from ⟨rfl, rfl, rfl, Nat.le_refl _, fun _ _ => rfl⟩))
            clear k2 k3 k4
            generalize W1.drew = WD at HM1d ⊢
            have hn' := hn
            have HADD : Hid (∀ W, MD w W B u L1 v v1 came ⟨oi, ot, false, op, z, oq⟩ (.slice a9 out.length c9) out → Calls Tryd.prog 58 #[.pointer (some ⟨u, 0, none⟩), .agg #[.int .i64 oi, .int .i64 ot, .bool false, .int .i64 op, .int .i64 z, .int .i64 oq]] W fun e w' => e = .returned (.int .i64 0) ∧ ∃ L' v', RV w' B u L' v' (came + 1) ∧ Both (addL (updL l true (⟨xi, xt, xs, xp, xl, xq⟩ :: r)) ⟨oi, ot, false, op, z, oq⟩ came) (came + 1) L' ∧ RTn W w' B u v1) := fun W hm =>
              radd_any2 B u _ L1 v1 came ⟨oi, ot, false, op, z, oq⟩ W hm.hBW (Lib.hid hm.rv) HBT.out HC.out (HMR.out.addK HK.out hz)
            have HEND : Hid (∀ W9 L9 v9, W9.ownsRow w.heap.size 111 6 (.slice a9 out.length c9) out.length (flatOf Fill.cells out) → RV W9 B u L9 v9 (came + 1) → Both (addL (updL l true (⟨xi, xt, xs, xp, xl, xq⟩ :: r)) ⟨oi, ot, false, op, z, oq⟩ came) (came + 1) L9 → RStep w W9 B → RMatchQ w B u v l ⟨oi, ot, false, op, ol, oq⟩ came (.returned (.tuple #[.slice a9 out.length c9, .int .i64 z, .int .i64 0])) W9) := fun W9 L9 v9 a b c d => rmatch_done1 HMR.out hn' hz a b c d
            have rx := HM1d.out.rx
            have rx : WD.rangeAt w.heap.size 0 [.int .i64 oi, .int .i64 ot, .bool false, .int .i64 op, .int .i64 z, .int .i64 oq] := rx
            have k4 := HM1d.out.k4
            have k4 : WD.cell? ⟨w.heap.size, 4, none⟩ = some (.int .i64 z) := k4
            clear hn hn' hz
            go_wp2_with (refine wpList_load_mid rfl 97 _ rfl w.heap.size 0 rfl [.int .i64 oi, .int .i64 ot, .bool false, .int .i64 op, .int .i64 z, .int .i64 oq] _ rx Tryd.underlying97 rfl size_ror ?_)
            refine (HADD.out WD HM1d.out).mono ?_
            rintro e W9 ⟨rfl, L9, v9, hr9, hb9, hs9⟩
            have hx9 : Blk W9 w.heap.size #[.int .i64 oi, .int .i64 ot, .bool false, .int .i64 op, .int .i64 z, .int .i64 oq] 97 := hs9.turns.blk HM1d.out.ob (fun e => by
              rcases e with e | e
              · have := HM1d.out.ux; omega
              · exact HM1d.out.vx e)
            have k4 : W9.cell? ⟨w.heap.size, 4, none⟩ = some (.int .i64 z) := hx9.cell 4 _ rfl
            have HEND := Lib.hid (HEND.out W9.drew L9 v9 (hs9.old.owns HM1d.out.own (by decide) (by decide)) hr9.drew hb9 (HM1d.out.st.old.trans hs9.old).drew)
            clear hr9 hb9 hs9 hx9 rx
            go_wp2_with fail
            refine wp_region_noPanic ?_
            refine wp_region_held_drew (S := (fun w' => w'.cell? ⟨w.heap.size, 4, none⟩ = some (.int .i64 z))) (by kernel_rfl) k4 (fun hHeld => ?_)
            refine wpAnyH_take (i := 0) (v := ?_) rfl (by kernel_rfl) (by kernel_rfl) (by kernel_rfl) (fun _ _ _ h => h) (Or.inl ⟨by rfl, ?_⟩) hHeld ?_
            rotate_left
            focus
              intro w hSw
              clear hSw
              go_simp
              try with_reducible rfl
            try simp only [Act.put, List.getElem_toArray, List.getElem_cons_zero, List.getElem_cons_succ, List.setIfInBounds_toArray, List.set_cons_zero, List.set_cons_succ]
            refine wpAnyH_take (i := 1) (v := ?_) rfl (by kernel_rfl) (by kernel_rfl) (by kernel_rfl) (fun _ _ _ h => h) (Or.inl ⟨by rfl, ?_⟩) hHeld ?_
            rotate_left
            focus
              intro w hSw
              clear hSw
              go_simp
              try with_reducible rfl
            try simp only [Act.put, List.getElem_toArray, List.getElem_cons_zero, List.getElem_cons_succ, List.setIfInBounds_toArray, List.set_cons_zero, List.set_cons_succ]
            refine wpAnyH_take (i := 2) (v := ?_) rfl (by kernel_rfl) (by kernel_rfl) (by kernel_rfl) (fun _ _ _ h => h) (Or.inl ⟨by rfl, ?_⟩) hHeld ?_
            rotate_left
            focus
              intro w hSw
              (try dsimp only at hSw)
              go_simp
              try with_reducible rfl
            try simp only [Act.put, List.getElem_toArray, List.getElem_cons_zero, List.getElem_cons_succ, List.setIfInBounds_toArray, List.set_cons_zero, List.set_cons_succ]
            refine wpAnyH_take (i := 3) (v := ?_) rfl (by kernel_rfl) (by kernel_rfl) (by kernel_rfl) (fun _ _ _ h => h) (Or.inl ⟨by rfl, ?_⟩) hHeld ?_
            rotate_left
            focus
              intro w hSw
              clear hSw
              go_simp
              try with_reducible rfl
            try simp only [Act.put, List.getElem_toArray, List.getElem_cons_zero, List.getElem_cons_succ, List.setIfInBounds_toArray, List.set_cons_zero, List.set_cons_succ]
            refine wpAnyH_take (i := 4) (v := ?_) rfl (by kernel_rfl) (by kernel_rfl) (by kernel_rfl) (fun _ _ _ h => h) (Or.inl ⟨by rfl, ?_⟩) hHeld ?_
            rotate_left
            focus
              intro w hSw
              clear hSw
              go_simp
              try with_reducible rfl
            try simp only [Act.put, List.getElem_toArray, List.getElem_cons_zero, List.getElem_cons_succ, List.setIfInBounds_toArray, List.set_cons_zero, List.set_cons_succ]
            refine wpAnyH_take (i := 5) (v := ?_) rfl (by kernel_rfl) (by kernel_rfl) (by kernel_rfl) (fun _ _ _ h => h) (Or.inl ⟨by rfl, ?_⟩) hHeld ?_
            rotate_left
            focus
              intro w hSw
              clear hSw
              go_simp
              try with_reducible rfl
            try simp only [Act.put, List.getElem_toArray, List.getElem_cons_zero, List.getElem_cons_succ, List.setIfInBounds_toArray, List.set_cons_zero, List.set_cons_succ]
            refine wpAnyH_done (by kernel_rfl) ?_ _
            refine NoPanic.normal ?_
            go_wp2_with fail
            go_ret3
            exact HEND.out
theorem rmatch_any (B u : Nat) (l : Bool → List Ord) (L : List Ord) (v : Value) (came : Nat) (o : Ord) (w : World) (hB : B ≤ w.heap.size) (h : Hid (RV w B u L v came)) (hb : Both l came L) (hc : came ≤ 1000000) :
    Calls Tryd.prog 63 #[.pointer (some ⟨u, 0, none⟩), .agg o.cells.toArray] w fun e w' => (addK l o ≠ 0 ∧ e = .returned (.tuple #[.slice none 0 0, .int .i64 0, .int .i64 (addK l o)]) ∧ Below w.heap.size w w') ∨ (addK l o = 0 ∧ RMatchQ w B u v l o came e w') := by
  by_cases hk : addK l o = 0
  · exact (rmatch_ok B u l L v came o w hB h hb hc hk).mono fun e w' hq => .inr ⟨hk, hq⟩
  · exact (rmatch_err B u l L v came o w hB h hb hc hk).mono fun e w' ⟨h1, h2⟩ => .inl ⟨hk, h1, h2⟩
end Go.Proofs.YtdebldpmloignaaDoor
