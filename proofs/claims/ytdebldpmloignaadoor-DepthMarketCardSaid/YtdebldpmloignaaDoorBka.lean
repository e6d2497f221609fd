/-
  book: what a book answers in every case; the nil book.
-/
import Derived.Test.YtdebldpmloignaaDoorBokW
import Derived.Test.YtdebldpmloignaaDoorBokE
namespace Go.Proofs.YtdebldpmloignaaDoor
open Go.RowKit
set_option linter.unusedVariables false
set_option linter.unusedSimpArgs false

theorem cell_setRow {w : World} {g b o : Nat} {cs : Array Value} (h : b ≠ g) : (w.setRow g cs).cell? ⟨b, o, none⟩ = w.cell? ⟨b, o, none⟩ := World.cell?_of_block (w := w) (a := ⟨b, o, none⟩) (setRow_other w g b cs h)
set_option maxRecDepth 100000 in
set_option maxHeartbeats 1000000 in
theorem drop_none (E : Nat → Addr) (B q : Nat) (l : Bool → List Ord) (v : Bool → Value) (came : Nat) (id : Int) (w : World) (h : Hid (BV w B q l v came)) (hE : Hid (EnvK w E)) (hN : ∀ s, (l s).length ≤ 1000000) (hf : fnd l id = none) :
    Calls Tryd.prog 47 #[.pointer (some ⟨q, 0, none⟩), .int .i64 id] w fun e w' => e = .returned (.tuple #[.agg #[.int .i64 0, .int .i64 0, .bool false, .int .i64 0, .int .i64 0, .int .i64 0], erV E 5]) ∧ Below w.heap.size w w' := by
  have hb0 : Below w.heap.size w (w.alloc (.cells #[.int .i64 0, .int .i64 0, .bool false, .int .i64 0, .int .i64 0, .int .i64 0] 67)) := (Below.refl _ w).alloc (Nat.le_refl _) _
  have HF := Lib.hid (find_c B q l v came id (w.alloc (.cells #[.int .i64 0, .int .i64 0, .bool false, .int .i64 0, .int .i64 0, .int .i64 0] 67)) (Lib.hid (h.out.below hb0)) hN)
  rw [hf] at HF
  have hR0 : (w.alloc (.cells #[.int .i64 0, .int .i64 0, .bool false, .int .i64 0, .int .i64 0, .int .i64 0] 67)).heap[w.heap.size]? = some (.cells #[.int .i64 0, .int .i64 0, .bool false, .int .i64 0, .int .i64 0, .int .i64 0] 67 (0, 0)) := heap_alloc_new w _
  have HR0 := Lib.hid hR0
  have hs0 : (w.alloc (.cells #[.int .i64 0, .int .i64 0, .bool false, .int .i64 0, .int .i64 0, .int .i64 0] 67)).heap.size = w.heap.size + 1 := by simp
  have HS0 := Lib.hid hs0
  have HB0 := Lib.hid hb0
  rw [erV_some E 5 (by decide)]
  have HENV := Lib.hid (fun (w1 : World) (hb : Below w.heap.size w w1) => hE.out.below hb)
  have HGL : Hid (6 < w.heap.size) := World.block_lt_of_cell? w ⟨6, 0, none⟩ (hE.out 5 (by decide) (by decide))
  clear hf h hE hN hb0 hR0 hs0
  go_enter Tryd.func47, Tryd.ntmps47
  go_wp2_with fail
  refine HF.out.mono ?_
  rintro e w1 ⟨rfl, hb1⟩
  have hR1 := (hb1.block w.heap.size (by rw [HS0.out]; omega)).trans HR0.out
  have HB1 := Lib.hid (HB0.out.trans (hb1.mono (by rw [HS0.out]; omega)))
  have ce : w1.cell? ⟨6, 0, none⟩ = some (.iface 202 (.pointer (some (E 5)))) := by rw [← erV_some E 5 (by decide)]; exact HENV.out w1 HB1.out 5 (by decide) (by decide)
  have HNE : Hid (6 ≠ w.heap.size) := fun e => by have := HGL.out; omega
  clear hb1
  unfold fndV
  go_wp2_with fail
  refine wp_region_noPanic ?_
  refine wp_region_held_drew (S := (fun w' => w'.cell? ⟨6, 0, none⟩ = some (.iface 202 (.pointer (some (E 5)))))) (by kernel_rfl) ce (fun hHeld => ?_)
  refine wpAnyH_take (i := 0) (v := ?_) rfl (by kernel_rfl) (by kernel_rfl) (by kernel_rfl) (fun _ _ _ h => h) (Or.inl ⟨by rfl, ?_⟩) hHeld ?_
  rotate_left
  focus
    intro w hSw
    clear hSw
    go_simp
    try with_reducible rfl
  try simp only [Act.put, List.getElem_toArray, List.getElem_cons_zero, List.getElem_cons_succ, List.setIfInBounds_toArray, List.set_cons_zero, List.set_cons_succ]
  refine wpAnyH_take (i := 1) (v := ?_) rfl (by kernel_rfl) (by kernel_rfl) (by kernel_rfl) (fun _ _ _ h => h) (Or.inl ⟨by rfl, ?_⟩) hHeld ?_
  rotate_left
  focus
    intro w hSw
    (try dsimp only at hSw)
    go_simp
    try with_reducible rfl
  try simp only [Act.put, List.getElem_toArray, List.getElem_cons_zero, List.getElem_cons_succ, List.setIfInBounds_toArray, List.set_cons_zero, List.set_cons_succ]
  refine wpAnyH_ready (rs := [2]) (by kernel_rfl) (by simp) ?_
  refine AllReadyH.cons rfl (fun K hK => ?_) AllReadyH.nil
  refine wp_store_row 67 _ _ (by rfl) w.heap.size #[.int .i64 0, .int .i64 0, .bool false, .int .i64 0, .int .i64 0, .int .i64 0] (by rfl) (by rfl) 67 #[.int .i64 0, .int .i64 0, .bool false, .int .i64 0, .int .i64 0, .int .i64 0] hR1 size_ord rfl (by kernel_rfl) ?_
  refine hK.out _ _ ((cell_setRow HNE.out).trans ce) (fun hHeld => ?_)
  clear hK K
  try simp only [Act.put, List.getElem_toArray, List.getElem_cons_zero, List.getElem_cons_succ, List.setIfInBounds_toArray, List.set_cons_zero, List.set_cons_succ]
  refine wpAnyH_take (i := 3) (v := ?_) rfl (by kernel_rfl) (by kernel_rfl) (by kernel_rfl) (fun _ _ _ h => h) (Or.inl ⟨by rfl, ?_⟩) hHeld ?_
  rotate_left
  focus
    intro w hSw
    clear hSw
    go_simp
    try with_reducible rfl
  try simp only [Act.put, List.getElem_toArray, List.getElem_cons_zero, List.getElem_cons_succ, List.setIfInBounds_toArray, List.set_cons_zero, List.set_cons_succ]
  refine wpAnyH_done (by kernel_rfl) ?_ _
  refine NoPanic.normal ?_
  go_wp2_with fail
  exact bodyPost_pair Tryd.results47 rfl w.heap.size rfl #[.int .i64 0, .int .i64 0, .bool false, .int .i64 0, .int .i64 0, .int .i64 0] _ (0, 0) (setRow_heap _ _ _ _ _ _ hR1) _ Tryd.underlying67 rfl 6 size_ord rfl (.iface 202 (.pointer (some (E 5)))) rfl ⟨rfl, below_setRow' HB1.out.drew (Nat.le_refl _) _⟩
/-- The nil book. -/
theorem nil_add (E : Nat → Addr) (o : Ord) (w : World) (hE : Hid (EnvK w E)) : Calls Tryd.prog 41 #[.pointer none, .agg o.cells.toArray] w fun e w' => e = .returned (erV E 2) ∧ Below w.heap.size w w' := by
  obtain ⟨id, tenant, sell, price, lots, seq⟩ := o
  rw [erV_some E 2 (by decide)]
  have ce0 : (w.alloc (.cells #[.int .i64 id, .int .i64 tenant, .bool sell, .int .i64 price, .int .i64 lots, .int .i64 seq] 67)).cell? ⟨0, 0, none⟩ = some (.iface 202 (.pointer (some (E 2)))) := by rw [← erV_some E 2 (by decide)]; exact (hE.out.below ((Below.refl _ w).alloc (Nat.le_refl _) _)) 2 (by decide) (by decide)
  clear hE
  simp only [Ord.cells]
  go_enter Tryd.func41, Tryd.ntmps41
  go_wp2_with fail
  go_ret
  exact ⟨rfl, (Below.refl _ w).alloc (Nat.le_refl _) _⟩
set_option maxRecDepth 100000 in
theorem nil_find (id : Int) (w : World) : Calls Tryd.prog 81 #[.pointer none, .int .i64 id] w fun e w' => e = .returned (.tuple #[.pointer none, .int .i64 0]) ∧ Below w.heap.size w w' := by
  go_enter Tryd.func81, Tryd.ntmps81
  go_wp2_with fail
  go_ret2
  exact ⟨rfl, (Below.refl _ w).alloc (Nat.le_refl _) _⟩
set_option maxRecDepth 100000 in
theorem nil_cut (E : Nat → Addr) (id k : Int) (w : World) (hE : Hid (EnvK w E)) : Calls Tryd.prog 44 #[.pointer none, .int .i64 id, .int .i64 k] w fun e w' => e = .returned (erV E 2) ∧ Below w.heap.size w w' := by
  rw [erV_some E 2 (by decide)]
  have ce : w.cell? ⟨0, 0, none⟩ = some (.iface 202 (.pointer (some (E 2)))) := by rw [← erV_some E 2 (by decide)]; exact hE.out 2 (by decide) (by decide)
  clear hE
  go_enter Tryd.func44, Tryd.ntmps44
  go_wp2_with fail
  go_ret
  exact ⟨rfl, Below.refl _ w⟩
set_option maxRecDepth 100000 in
theorem nil_len (w : World) : Calls Tryd.prog 46 #[.pointer none] w fun e w' => e = .returned (.int .i64 0) ∧ Below w.heap.size w w' := by
  go_enter Tryd.func46, Tryd.ntmps46
  go_wp2_with fail
  go_ret
  exact ⟨rfl, Below.refl _ w⟩
set_option maxRecDepth 100000 in
theorem nil_list (s : Bool) (w : World) : Calls Tryd.prog 42 #[.pointer none, .bool s] w fun e w' => e = .returned (.slice none 0 0) ∧ Below w.heap.size w w' := by
  go_enter Tryd.func42, Tryd.ntmps42
  go_wp2_with fail
  go_ret
  exact ⟨rfl, Below.refl _ w⟩
set_option maxRecDepth 100000 in
theorem nil_best (s : Bool) (w : World) : Calls Tryd.prog 51 #[.pointer none, .bool s] w (OneQ w none) := by
  have hb0 : Below w.heap.size w (w.alloc (.cells #[.int .i64 0, .int .i64 0, .bool false, .int .i64 0, .int .i64 0, .int .i64 0] 67)) := (Below.refl _ w).alloc (Nat.le_refl _) _
  have HL := Lib.hid (nil_list s (w.alloc (.cells #[.int .i64 0, .int .i64 0, .bool false, .int .i64 0, .int .i64 0, .int .i64 0] 67)))
  have hR0 : (w.alloc (.cells #[.int .i64 0, .int .i64 0, .bool false, .int .i64 0, .int .i64 0, .int .i64 0] 67)).heap[w.heap.size]? = some (.cells #[.int .i64 0, .int .i64 0, .bool false, .int .i64 0, .int .i64 0, .int .i64 0] 67 (0, 0)) := heap_alloc_new w _
  have HR0 := Lib.hid hR0
  have hs0 : (w.alloc (.cells #[.int .i64 0, .int .i64 0, .bool false, .int .i64 0, .int .i64 0, .int .i64 0] 67)).heap.size = w.heap.size + 1 := by simp
  have HS0 := Lib.hid hs0
  have HB0 := Lib.hid hb0
  have HQ : Hid (∀ w', Below w.heap.size w w' → OneQ w none (.returned (.tuple #[.agg #[.int .i64 0, .int .i64 0, .bool false, .int .i64 0, .int .i64 0, .int .i64 0], .bool false])) w') := fun w' hb => ⟨rfl, hb⟩
  clear hb0 hR0 hs0
  go_enter Tryd.func51, Tryd.ntmps51
  go_wp2_with fail
  refine HL.out.mono ?_
  rintro e w1 ⟨rfl, hb1⟩
  have hR1 := (hb1.block w.heap.size (by rw [HS0.out]; omega)).trans HR0.out
  have HB1 := Lib.hid (HB0.out.trans (hb1.mono (by rw [HS0.out]; omega)))
  clear hb1
  go_wp2_with (refine wpList_store_row rfl 67 _ _ rfl w.heap.size #[.int .i64 0, .int .i64 0, .bool false, .int .i64 0, .int .i64 0, .int .i64 0] rfl rfl 67 #[.int .i64 0, .int .i64 0, .bool false, .int .i64 0, .int .i64 0, .int .i64 0] hR1 size_ord rfl (by kernel_rfl) ?_)
  exact bodyPost_pair Tryd.results51 rfl w.heap.size rfl #[.int .i64 0, .int .i64 0, .bool false, .int .i64 0, .int .i64 0, .int .i64 0] _ (0, 0) (setRow_heap _ _ _ _ _ _ hR1) _ Tryd.underlying67 rfl 6 size_ord rfl (.bool false) rfl (HQ.out _ (below_setRow' HB1.out (Nat.le_refl _) _))
set_option maxRecDepth 100000 in
theorem nil_of (id : Int) (w : World) : Calls Tryd.prog 45 #[.pointer none, .int .i64 id] w (OneQ w none) := by
  have hb0 : Below w.heap.size w (w.alloc (.cells #[.int .i64 0, .int .i64 0, .bool false, .int .i64 0, .int .i64 0, .int .i64 0] 67)) := (Below.refl _ w).alloc (Nat.le_refl _) _
  have HL := Lib.hid (nil_find id (w.alloc (.cells #[.int .i64 0, .int .i64 0, .bool false, .int .i64 0, .int .i64 0, .int .i64 0] 67)))
  have hR0 : (w.alloc (.cells #[.int .i64 0, .int .i64 0, .bool false, .int .i64 0, .int .i64 0, .int .i64 0] 67)).heap[w.heap.size]? = some (.cells #[.int .i64 0, .int .i64 0, .bool false, .int .i64 0, .int .i64 0, .int .i64 0] 67 (0, 0)) := heap_alloc_new w _
  have HR0 := Lib.hid hR0
  have hs0 : (w.alloc (.cells #[.int .i64 0, .int .i64 0, .bool false, .int .i64 0, .int .i64 0, .int .i64 0] 67)).heap.size = w.heap.size + 1 := by simp
  have HS0 := Lib.hid hs0
  have HB0 := Lib.hid hb0
  have HQ : Hid (∀ w', Below w.heap.size w w' → OneQ w none (.returned (.tuple #[.agg #[.int .i64 0, .int .i64 0, .bool false, .int .i64 0, .int .i64 0, .int .i64 0], .bool false])) w') := fun w' hb => ⟨rfl, hb⟩
  clear hb0 hR0 hs0
  go_enter Tryd.func45, Tryd.ntmps45
  go_wp2_with fail
  refine HL.out.mono ?_
  rintro e w1 ⟨rfl, hb1⟩
  have hR1 := (hb1.block w.heap.size (by rw [HS0.out]; omega)).trans HR0.out
  have HB1 := Lib.hid (HB0.out.trans (hb1.mono (by rw [HS0.out]; omega)))
  clear hb1
  go_wp2_with (refine wpList_store_row rfl 67 _ _ rfl w.heap.size #[.int .i64 0, .int .i64 0, .bool false, .int .i64 0, .int .i64 0, .int .i64 0] rfl rfl 67 #[.int .i64 0, .int .i64 0, .bool false, .int .i64 0, .int .i64 0, .int .i64 0] hR1 size_ord rfl (by kernel_rfl) ?_)
  exact bodyPost_pair Tryd.results45 rfl w.heap.size rfl #[.int .i64 0, .int .i64 0, .bool false, .int .i64 0, .int .i64 0, .int .i64 0] _ (0, 0) (setRow_heap _ _ _ _ _ _ hR1) _ Tryd.underlying67 rfl 6 size_ord rfl (.bool false) rfl (HQ.out _ (below_setRow' HB1.out (Nat.le_refl _) _))
set_option maxRecDepth 100000 in
theorem nil_drop (E : Nat → Addr) (id : Int) (w : World) (hE : Hid (EnvK w E)) : Calls Tryd.prog 47 #[.pointer none, .int .i64 id] w fun e w' => e = .returned (.tuple #[.agg #[.int .i64 0, .int .i64 0, .bool false, .int .i64 0, .int .i64 0, .int .i64 0], erV E 2]) ∧ Below w.heap.size w w' := by
  have hb0 : Below w.heap.size w (w.alloc (.cells #[.int .i64 0, .int .i64 0, .bool false, .int .i64 0, .int .i64 0, .int .i64 0] 67)) := (Below.refl _ w).alloc (Nat.le_refl _) _
  have hR0 : (w.alloc (.cells #[.int .i64 0, .int .i64 0, .bool false, .int .i64 0, .int .i64 0, .int .i64 0] 67)).heap[w.heap.size]? = some (.cells #[.int .i64 0, .int .i64 0, .bool false, .int .i64 0, .int .i64 0, .int .i64 0] 67 (0, 0)) := heap_alloc_new w _
  have HB0 := Lib.hid hb0
  rw [erV_some E 2 (by decide)]
  have HGL : Hid (0 < w.heap.size) := World.block_lt_of_cell? w ⟨0, 0, none⟩ (hE.out 2 (by decide) (by decide))
  have HNE : Hid (0 ≠ w.heap.size) := fun e => by have := HGL.out; omega
  have ce : (w.alloc (.cells #[.int .i64 0, .int .i64 0, .bool false, .int .i64 0, .int .i64 0, .int .i64 0] 67)).cell? ⟨0, 0, none⟩ = some (.iface 202 (.pointer (some (E 2)))) := by rw [← erV_some E 2 (by decide)]; exact (hE.out.below hb0) 2 (by decide) (by decide)
  clear hE hb0
  go_enter Tryd.func47, Tryd.ntmps47
  go_wp2_with fail
  refine wp_region_noPanic ?_
  refine wp_region_held_drew (S := (fun w' => w'.cell? ⟨0, 0, none⟩ = some (.iface 202 (.pointer (some (E 2)))))) (by kernel_rfl) ce (fun hHeld => ?_)
  refine wpAnyH_take (i := 0) (v := ?_) rfl (by kernel_rfl) (by kernel_rfl) (by kernel_rfl) (fun _ _ _ h => h) (Or.inl ⟨by rfl, ?_⟩) hHeld ?_
  rotate_left
  focus
    intro w hSw
    clear hSw
    go_simp
    try with_reducible rfl
  try simp only [Act.put, List.getElem_toArray, List.getElem_cons_zero, List.getElem_cons_succ, List.setIfInBounds_toArray, List.set_cons_zero, List.set_cons_succ]
  refine wpAnyH_take (i := 1) (v := ?_) rfl (by kernel_rfl) (by kernel_rfl) (by kernel_rfl) (fun _ _ _ h => h) (Or.inl ⟨by rfl, ?_⟩) hHeld ?_
  rotate_left
  focus
    intro w hSw
    (try dsimp only at hSw)
    go_simp
    try with_reducible rfl
  try simp only [Act.put, List.getElem_toArray, List.getElem_cons_zero, List.getElem_cons_succ, List.setIfInBounds_toArray, List.set_cons_zero, List.set_cons_succ]
  refine wpAnyH_ready (rs := [2]) (by kernel_rfl) (by simp) ?_
  refine AllReadyH.cons rfl (fun K hK => ?_) AllReadyH.nil
  refine wp_store_row 67 _ _ (by rfl) w.heap.size #[.int .i64 0, .int .i64 0, .bool false, .int .i64 0, .int .i64 0, .int .i64 0] (by rfl) (by rfl) 67 #[.int .i64 0, .int .i64 0, .bool false, .int .i64 0, .int .i64 0, .int .i64 0] hR0 size_ord rfl (by kernel_rfl) ?_
  refine hK.out _ _ ((cell_setRow HNE.out).trans ce) (fun hHeld => ?_)
  clear hK K
  try simp only [Act.put, List.getElem_toArray, List.getElem_cons_zero, List.getElem_cons_succ, List.setIfInBounds_toArray, List.set_cons_zero, List.set_cons_succ]
  refine wpAnyH_take (i := 3) (v := ?_) rfl (by kernel_rfl) (by kernel_rfl) (by kernel_rfl) (fun _ _ _ h => h) (Or.inl ⟨by rfl, ?_⟩) hHeld ?_
  rotate_left
  focus
    intro w hSw
    clear hSw
    go_simp
    try with_reducible rfl
  try simp only [Act.put, List.getElem_toArray, List.getElem_cons_zero, List.getElem_cons_succ, List.setIfInBounds_toArray, List.set_cons_zero, List.set_cons_succ]
  refine wpAnyH_done (by kernel_rfl) ?_ _
  refine NoPanic.normal ?_
  go_wp2_with fail
  exact bodyPost_pair Tryd.results47 rfl w.heap.size rfl #[.int .i64 0, .int .i64 0, .bool false, .int .i64 0, .int .i64 0, .int .i64 0] _ (0, 0) (setRow_heap _ _ _ _ _ _ hR0) _ Tryd.underlying67 rfl 6 size_ord rfl (.iface 202 (.pointer (some (E 2)))) rfl ⟨rfl, below_setRow' HB0.out.drew (Nat.le_refl _) _⟩
end Go.Proofs.YtdebldpmloignaaDoor
