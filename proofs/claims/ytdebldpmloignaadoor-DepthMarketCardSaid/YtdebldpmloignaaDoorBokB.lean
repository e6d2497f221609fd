/-
  book: Len, List, Best, Of.
-/
import Derived.Test.YtdebldpmloignaaDoorBokA
namespace Go.Proofs.YtdebldpmloignaaDoor
open Go.RowKit
set_option linter.unusedVariables false
set_option linter.unusedSimpArgs false

theorem BV.cellF {w : World} {B q : Nat} {l : Bool → List Ord} {v : Bool → Value} {came : Nat} (h : BV w B q l v came) (s : Bool) : w.cell? ⟨q, offS s, none⟩ = some (.slice (sA (v s)) (l s).length (sC (v s))) := by
  rw [← (h.form s).1]
  exact h.cell s
set_option maxRecDepth 100000 in
theorem blen_c (B q : Nat) (l : Bool → List Ord) (v : Bool → Value) (came : Nat) (w : World) (h : Hid (BV w B q l v came)) (hN : ∀ s, (l s).length ≤ 1000000) :
    Calls Tryd.prog 46 #[.pointer (some ⟨q, 0, none⟩)] w fun e w' => e = .returned (.int .i64 (((l true).length + (l false).length : Nat) : Int)) ∧ Below w.heap.size w w' := by
  have g0 : w.cell? ⟨q, 0, none⟩ = _ := h.out.cellF true
  have g1 : w.cell? ⟨q, 1, none⟩ = _ := h.out.cellF false
  have h0 := hN true
  have h1 := hN false
  generalize (l true).length = n0 at *
  generalize (l false).length = n1 at *
  generalize sA (v true) = A0 at *
  generalize sA (v false) = A1 at *
  generalize sC (v true) = c0 at *
  generalize sC (v false) = c1 at *
  have e0 : IntKind.i64.wrap ((n0 : Int) + (n1 : Int)) = ((n0 + n1 : Nat) : Int) := by rw [IntKind.wrap_i64]; omega
  clear h hN h0 h1
  go_enter Tryd.func46, Tryd.ntmps46
  go_wp2_with fail
  refine wp_region_noPanic ?_
  refine wp_region_held_drew (S := (fun w' => w'.cell? ⟨q, 0, none⟩ = some (.slice A0 n0 c0) ∧ w'.cell? ⟨q, 1, none⟩ = some (.slice A1 n1 c1))) (by kernel_rfl) ⟨g0, g1⟩ (fun hHeld => ?_)
  refine wpAnyH_take (i := 0) (v := ?_) rfl (by kernel_rfl) (by kernel_rfl) (by kernel_rfl) (fun _ _ _ h => h) (Or.inl ⟨by rfl, ?_⟩) hHeld ?_
  rotate_left
  focus
    intro w hSw
    clear hSw
    go_simp
    try with_reducible rfl
  try simp only [Act.put, List.getElem_toArray, List.getElem_cons_zero, List.getElem_cons_succ, List.setIfInBounds_toArray, List.set_cons_zero, List.set_cons_succ]
  refine wpAnyH_take (i := 1) (v := ?_) rfl (by kernel_rfl) (by kernel_rfl) (by kernel_rfl) (fun _ _ _ h => h) (Or.inl ⟨by rfl, ?_⟩) hHeld ?_
  rotate_left
  focus
    intro w hSw
    clear hSw
    go_simp
    try with_reducible rfl
  try simp only [Act.put, List.getElem_toArray, List.getElem_cons_zero, List.getElem_cons_succ, List.setIfInBounds_toArray, List.set_cons_zero, List.set_cons_succ]
  refine wpAnyH_take (i := 2) (v := ?_) rfl (by kernel_rfl) (by kernel_rfl) (by kernel_rfl) (fun _ _ _ h => h) (Or.inl ⟨by rfl, ?_⟩) hHeld ?_
  rotate_left
  focus
    intro w hSw
    clear hSw
    go_simp
    try with_reducible rfl
  try simp only [Act.put, List.getElem_toArray, List.getElem_cons_zero, List.getElem_cons_succ, List.setIfInBounds_toArray, List.set_cons_zero, List.set_cons_succ]
  refine wpAnyH_take (i := 3) (v := ?_) rfl (by kernel_rfl) (by kernel_rfl) (by kernel_rfl) (fun _ _ _ h => h) (Or.inl ⟨by rfl, ?_⟩) hHeld ?_
  rotate_left
  focus
    intro w hSw
    (try dsimp only at hSw)
    go_simp
    try with_reducible rfl
  try simp only [Act.put, List.getElem_toArray, List.getElem_cons_zero, List.getElem_cons_succ, List.setIfInBounds_toArray, List.set_cons_zero, List.set_cons_succ]
  refine wpAnyH_take (i := 4) (v := ?_) rfl (by kernel_rfl) (by kernel_rfl) (by kernel_rfl) (fun _ _ _ h => h) (Or.inl ⟨by rfl, ?_⟩) hHeld ?_
  rotate_left
  focus
    intro w hSw
    clear hSw
    go_simp
    try with_reducible rfl
  try simp only [Act.put, List.getElem_toArray, List.getElem_cons_zero, List.getElem_cons_succ, List.setIfInBounds_toArray, List.set_cons_zero, List.set_cons_succ]
  refine wpAnyH_take (i := 5) (v := ?_) rfl (by kernel_rfl) (by kernel_rfl) (by kernel_rfl) (fun _ _ _ h => h) (Or.inl ⟨by rfl, ?_⟩) hHeld ?_
  rotate_left
  focus
    intro w hSw
    clear hSw
    go_simp
    try with_reducible rfl
  try simp only [Act.put, List.getElem_toArray, List.getElem_cons_zero, List.getElem_cons_succ, List.setIfInBounds_toArray, List.set_cons_zero, List.set_cons_succ]
  refine wpAnyH_take (i := 6) (v := ?_) rfl (by kernel_rfl) (by kernel_rfl) (by kernel_rfl) (fun _ _ _ h => h) (Or.inl ⟨by rfl, ?_⟩) hHeld ?_
  rotate_left
  focus
    intro w hSw
    clear hSw
    go_simp
    try with_reducible rfl
  try simp only [Act.put, List.getElem_toArray, List.getElem_cons_zero, List.getElem_cons_succ, List.setIfInBounds_toArray, List.set_cons_zero, List.set_cons_succ]
  refine wpAnyH_take (i := 7) (v := ?_) rfl (by kernel_rfl) (by kernel_rfl) (by kernel_rfl) (fun _ _ _ h => h) (Or.inl ⟨by rfl, ?_⟩) hHeld ?_
  rotate_left
  focus
    intro w hSw
    clear hSw
    go_simp
    try with_reducible rfl
  try simp only [Act.put, List.getElem_toArray, List.getElem_cons_zero, List.getElem_cons_succ, List.setIfInBounds_toArray, List.set_cons_zero, List.set_cons_succ]
  refine wpAnyH_take (i := 8) (v := ?_) rfl (by kernel_rfl) (by kernel_rfl) (by kernel_rfl) (fun _ _ _ h => h) (Or.inl ⟨by rfl, ?_⟩) hHeld ?_
  rotate_left
  focus
    intro w hSw
    (try dsimp only at hSw)
    go_simp
    try with_reducible rfl
  try simp only [Act.put, List.getElem_toArray, List.getElem_cons_zero, List.getElem_cons_succ, List.setIfInBounds_toArray, List.set_cons_zero, List.set_cons_succ]
  refine wpAnyH_take (i := 9) (v := ?_) rfl (by kernel_rfl) (by kernel_rfl) (by kernel_rfl) (fun _ _ _ h => h) (Or.inl ⟨by rfl, ?_⟩) hHeld ?_
  rotate_left
  focus
    intro w hSw
    clear hSw
    go_simp
    try with_reducible rfl
  try simp only [Act.put, List.getElem_toArray, List.getElem_cons_zero, List.getElem_cons_succ, List.setIfInBounds_toArray, List.set_cons_zero, List.set_cons_succ]
  refine wpAnyH_take (i := 10) (v := ?_) rfl (by kernel_rfl) (by kernel_rfl) (by kernel_rfl) (fun _ _ _ h => h) (Or.inl ⟨by rfl, ?_⟩) hHeld ?_
  rotate_left
  focus
    intro w hSw
    clear hSw
    go_simp
    try with_reducible rfl
  try simp only [Act.put, List.getElem_toArray, List.getElem_cons_zero, List.getElem_cons_succ, List.setIfInBounds_toArray, List.set_cons_zero, List.set_cons_succ]
  refine wpAnyH_take (i := 11) (v := ?_) rfl (by kernel_rfl) (by kernel_rfl) (by kernel_rfl) (fun _ _ _ h => h) (Or.inl ⟨by rfl, ?_⟩) hHeld ?_
  rotate_left
  focus
    intro w hSw
    clear hSw
    go_simp
    try with_reducible rfl
  try simp only [Act.put, List.getElem_toArray, List.getElem_cons_zero, List.getElem_cons_succ, List.setIfInBounds_toArray, List.set_cons_zero, List.set_cons_succ]
  refine wpAnyH_done (by kernel_rfl) ?_ _
  refine NoPanic.normal ?_
  go_wp2_with fail
  go_ret
  exact ⟨rfl, (Below.refl _ w).drew⟩
set_option maxRecDepth 100000 in
theorem blist_c (B q : Nat) (l : Bool → List Ord) (v : Bool → Value) (came : Nat) (s : Bool) (w : World) (h : Hid (BV w B q l v came)) (hN : ∀ s, (l s).length ≤ 1000000) :
    Calls Tryd.prog 42 #[.pointer (some ⟨q, 0, none⟩), .bool s] w fun e w' => ∃ v', e = .returned v' ∧ w'.ownsRow w.heap.size 67 6 v' (l s).length (flatOf Ord.cells (l s)) ∧ Below w.heap.size w w' := by
  have g0 := h.out.cellF s
  have HC := Lib.hid (clone_ord Ord.cells Ord.k6 Ord.one (sA (v s)) (l s).length (sC (v s)) (l s) w (h.out.form s).2.2 (h.out.form s).2.1 (by have := hN s; unfold maxLen; omega) (by have := hN s; omega))
  clear h hN
  go_enter Tryd.func42, Tryd.ntmps42
  go_wp2_with fail
  refine (side_c q s w).mono ?_
  rintro e w1 ⟨rfl, rfl⟩
  go_wp2_with fail
  refine HC.out.mono ?_
  rintro e w2 ⟨v2, rfl, hown, hb2⟩
  have HO := Lib.hid hown
  clear hown
  go_wp2_with fail
  go_ret
  exact ⟨_, rfl, HO.out, hb2⟩
/-- One order, or none: as a value. -/
def ordV : Option Ord → Value
  | none => .agg #[.int .i64 0, .int .i64 0, .bool false, .int .i64 0, .int .i64 0, .int .i64 0]
  | some o => .agg o.cells.toArray
def OneQ (w : World) (r : Option Ord) (e : Ending) (w' : World) : Prop := e = .returned (.tuple #[ordV r, .bool r.isSome]) ∧ Below w.heap.size w w'
set_option maxRecDepth 100000 in
set_option maxHeartbeats 1000000 in
theorem best_c (B q : Nat) (l : Bool → List Ord) (v : Bool → Value) (came : Nat) (s : Bool) (w : World) (h : Hid (BV w B q l v came)) (hN : ∀ s, (l s).length ≤ 1000000) :
    Calls Tryd.prog 51 #[.pointer (some ⟨q, 0, none⟩), .bool s] w (OneQ w (l s).head?) := by
  have hb0 : Below w.heap.size w (w.alloc (.cells #[.int .i64 0, .int .i64 0, .bool false, .int .i64 0, .int .i64 0, .int .i64 0] 67)) := (Below.refl _ w).alloc (Nat.le_refl _) _
  have HL := Lib.hid (blist_c B q l v came s (w.alloc (.cells #[.int .i64 0, .int .i64 0, .bool false, .int .i64 0, .int .i64 0, .int .i64 0] 67)) (Lib.hid (h.out.below hb0)) hN)
  have hR0 : (w.alloc (.cells #[.int .i64 0, .int .i64 0, .bool false, .int .i64 0, .int .i64 0, .int .i64 0] 67)).heap[w.heap.size]? = some (.cells #[.int .i64 0, .int .i64 0, .bool false, .int .i64 0, .int .i64 0, .int .i64 0] 67 (0, 0)) := heap_alloc_new w _
  have HR0 := Lib.hid hR0
  have hs0 : (w.alloc (.cells #[.int .i64 0, .int .i64 0, .bool false, .int .i64 0, .int .i64 0, .int .i64 0] 67)).heap.size = w.heap.size + 1 := by simp
  have HS0 := Lib.hid hs0
  have HB0 := Lib.hid hb0
  cases hl : l s with
  | nil =>
    rw [hl] at HL
    have HQ : Hid (∀ w', Below w.heap.size w w' → OneQ w (List.head? ([] : List Ord)) (.returned (.tuple #[.agg #[.int .i64 0, .int .i64 0, .bool false, .int .i64 0, .int .i64 0, .int .i64 0], .bool false])) w') := fun w' hb => ⟨rfl, hb⟩
    clear h hN hb0 hR0 hs0 hl
    go_enter Tryd.func51, Tryd.ntmps51
    go_wp2_with fail
    refine HL.out.mono ?_
    rintro e w1 ⟨v1, rfl, hown, hb1⟩
    have hR1 := (hb1.block w.heap.size (by rw [HS0.out]; omega)).trans HR0.out
    have HB1 := Lib.hid (HB0.out.trans (hb1.mono (by rw [HS0.out]; omega)))
    obtain ⟨a1, c1, rfl⟩ := own_len hown
    clear hown hb1
    go_wp2_with (refine wpList_store_row rfl 67 _ _ rfl w.heap.size #[.int .i64 0, .int .i64 0, .bool false, .int .i64 0, .int .i64 0, .int .i64 0] rfl rfl 67 #[.int .i64 0, .int .i64 0, .bool false, .int .i64 0, .int .i64 0, .int .i64 0] hR1 size_ord rfl (by kernel_rfl) ?_)
    exact bodyPost_pair Tryd.results51 rfl w.heap.size rfl #[.int .i64 0, .int .i64 0, .bool false, .int .i64 0, .int .i64 0, .int .i64 0] _ (0, 0) (setRow_heap _ _ _ _ _ _ hR1) _ Tryd.underlying67 rfl 6 size_ord rfl (.bool false) rfl (HQ.out _ (below_setRow' HB1.out (Nat.le_refl _) _))
  | cons o r =>
    rw [hl] at HL
    have HQ : Hid (∀ w', Below w.heap.size w w' → OneQ w (List.head? (o :: r)) (.returned (.tuple #[.agg o.cells.toArray, .bool true])) w') := fun w' hb => ⟨rfl, hb⟩
    clear h hN hb0 hR0 hs0 hl
    go_enter Tryd.func51, Tryd.ntmps51
    go_wp2_with fail
    refine HL.out.mono ?_
    rintro e w1 ⟨v1, rfl, hown, hb1⟩
    have hR1 := (hb1.block w.heap.size (by rw [HS0.out]; omega)).trans HR0.out
    have HB1 := Lib.hid (HB0.out.trans (hb1.mono (by rw [HS0.out]; omega)))
    obtain ⟨g, cap, cur, rfl, hnc, hcm, _, _, _, hrows⟩ := own_rows' Ord.k6 hown rfl (by simp)
    have r1 : w1.rangeAt g 0 o.cells := by
      have := hrows 0 o rfl
      rwa [Nat.zero_mul, Nat.add_zero] at this
    have hlen : (o :: r).length = r.length + 1 := rfl
    rw [hlen]
    generalize r.length = m at *
    clear hown hb1 hrows hcm hnc hlen
    go_wp2_with (first
      | (refine wpList_load_mid rfl 67 _ rfl g 0 rfl o.cells _ r1 Tryd.underlying67 rfl (ord_szL o) ?_)
      | (refine wpList_store_row rfl 67 _ _ rfl w.heap.size o.cells.toArray rfl rfl 67 #[.int .i64 0, .int .i64 0, .bool false, .int .i64 0, .int .i64 0, .int .i64 0] hR1 (ord_szA o) (ord_h6 o) (ord_oneA o) ?_))
    exact bodyPost_pair Tryd.results51 rfl w.heap.size rfl o.cells.toArray _ (0, 0) (setRow_heap _ _ _ _ _ _ hR1) _ Tryd.underlying67 rfl 6 size_ord (ord_h6 o).symm (.bool true) rfl (HQ.out _ (below_setRow' HB1.out (Nat.le_refl _) _))
def getO (l : Bool → List Ord) (id : Int) : Option Ord := match fnd l id with
  | none => none
  | some (s, i) => (l s)[i]?
set_option maxRecDepth 100000 in
set_option maxHeartbeats 1000000 in
theorem of_book (B q : Nat) (l : Bool → List Ord) (v : Bool → Value) (came : Nat) (id : Int) (w : World) (h : Hid (BV w B q l v came)) (hN : ∀ s, (l s).length ≤ 1000000) :
    Calls Tryd.prog 45 #[.pointer (some ⟨q, 0, none⟩), .int .i64 id] w (OneQ w (getO l id)) := by
  have hb0 : Below w.heap.size w (w.alloc (.cells #[.int .i64 0, .int .i64 0, .bool false, .int .i64 0, .int .i64 0, .int .i64 0] 67)) := (Below.refl _ w).alloc (Nat.le_refl _) _
  have HF := Lib.hid (find_c B q l v came id (w.alloc (.cells #[.int .i64 0, .int .i64 0, .bool false, .int .i64 0, .int .i64 0, .int .i64 0] 67)) (Lib.hid (h.out.below hb0)) hN)
  have hR0 : (w.alloc (.cells #[.int .i64 0, .int .i64 0, .bool false, .int .i64 0, .int .i64 0, .int .i64 0] 67)).heap[w.heap.size]? = some (.cells #[.int .i64 0, .int .i64 0, .bool false, .int .i64 0, .int .i64 0, .int .i64 0] 67 (0, 0)) := heap_alloc_new w _
  have HR0 := Lib.hid hR0
  have hs0 : (w.alloc (.cells #[.int .i64 0, .int .i64 0, .bool false, .int .i64 0, .int .i64 0, .int .i64 0] 67)).heap.size = w.heap.size + 1 := by simp
  have HS0 := Lib.hid hs0
  have HB0 := Lib.hid hb0
  cases hf : fnd l id with
  | none =>
    rw [hf] at HF
    have HQ : Hid (∀ w', Below w.heap.size w w' → OneQ w (getO l id) (.returned (.tuple #[.agg #[.int .i64 0, .int .i64 0, .bool false, .int .i64 0, .int .i64 0, .int .i64 0], .bool false])) w') := fun w' hb => by unfold getO; rw [hf]; exact ⟨rfl, hb⟩
    clear h hN hb0 hR0 hs0 hf
    go_enter Tryd.func45, Tryd.ntmps45
    go_wp2_with fail
    refine HF.out.mono ?_
    rintro e w1 ⟨rfl, hb1⟩
    have hR1 := (hb1.block w.heap.size (by rw [HS0.out]; omega)).trans HR0.out
    have HB1 := Lib.hid (HB0.out.trans (hb1.mono (by rw [HS0.out]; omega)))
    clear hb1
    unfold fndV
    go_wp2_with (refine wpList_store_row rfl 67 _ _ rfl w.heap.size #[.int .i64 0, .int .i64 0, .bool false, .int .i64 0, .int .i64 0, .int .i64 0] rfl rfl 67 #[.int .i64 0, .int .i64 0, .bool false, .int .i64 0, .int .i64 0, .int .i64 0] hR1 size_ord rfl (by kernel_rfl) ?_)
    exact bodyPost_pair Tryd.results45 rfl w.heap.size rfl #[.int .i64 0, .int .i64 0, .bool false, .int .i64 0, .int .i64 0, .int .i64 0] _ (0, 0) (setRow_heap _ _ _ _ _ _ hR1) _ Tryd.underlying67 rfl 6 size_ord rfl (.bool false) rfl (HQ.out _ (below_setRow' HB1.out (Nat.le_refl _) _))
  | some p =>
    obtain ⟨s, i⟩ := p
    obtain ⟨o, ho, hid⟩ := fnd_some hf
    rw [hf] at HF
    have HQ : Hid (∀ w', Below w.heap.size w w' → OneQ w (getO l id) (.returned (.tuple #[.agg o.cells.toArray, .bool true])) w') := fun w' hb => by unfold getO; rw [hf]; simp only; rw [ho]; exact ⟨rfl, hb⟩
    have hin : i < (l s).length := (List.getElem?_eq_some_iff.1 ho).1
    obtain ⟨g, cap, cur, hv, hnc, hcm, _, hblk, _, hrows⟩ := own_rows' Ord.k6 ((h.out.below hb0).row s) rfl (by omega)
    have r0 := hrows i o ho
    have hg0 : (w.alloc (.cells #[.int .i64 0, .int .i64 0, .bool false, .int .i64 0, .int .i64 0, .int .i64 0] 67)).cell? ⟨q, offS s, none⟩ = some (.slice (some ⟨g, 0, none⟩) (l s).length cap) := by rw [← hv]; exact (h.out.below hb0).cell s
    have hq0 := (h.out.below hb0).lt
    have hglt : g < (w.alloc (.cells #[.int .i64 0, .int .i64 0, .bool false, .int .i64 0, .int .i64 0, .int .i64 0] 67)).heap.size := (Array.getElem?_eq_some_iff.1 hblk).1
    have HG := Lib.hid hg0
    have HRR := Lib.hid r0
    generalize (l s).length = n at *
    have hin' : (i : Int) < (n : Int) := by omega
    clear h hN hb0 hR0 hs0 hf hid ho hrows hblk hv hnc hcm hg0 r0
    go_enter Tryd.func45, Tryd.ntmps45
    go_wp2_with fail
    refine HF.out.mono ?_
    rintro e w1 ⟨rfl, hb1⟩
    have hR1 := (hb1.block w.heap.size (by rw [HS0.out]; omega)).trans HR0.out
    have HB1 := Lib.hid (HB0.out.trans (hb1.mono (by rw [HS0.out]; omega)))
    have g1 := (hb1.cell (p := ⟨q, offS s, none⟩) hq0).trans HG.out
    have r1 := rangeAt_below HRR.out hb1 hglt
    clear hb1 hglt hq0
    rw [Nat.zero_add] at r1
    unfold fndV
    go_wp2_with (first
      | (refine wpList_load_mid rfl 67 _ rfl g (i * 6) rfl o.cells _ r1 Tryd.underlying67 rfl (ord_szL o) ?_)
      | (refine wpList_store_row rfl 67 _ _ rfl w.heap.size o.cells.toArray rfl rfl 67 #[.int .i64 0, .int .i64 0, .bool false, .int .i64 0, .int .i64 0, .int .i64 0] hR1 (ord_szA o) (ord_h6 o) (ord_oneA o) ?_))
    exact bodyPost_pair Tryd.results45 rfl w.heap.size rfl o.cells.toArray _ (0, 0) (setRow_heap _ _ _ _ _ _ hR1) _ Tryd.underlying67 rfl 6 size_ord (ord_h6 o).symm (.bool true) rfl (HQ.out _ (below_setRow' HB1.out (Nat.le_refl _) _))
end Go.Proofs.YtdebldpmloignaaDoor
