/-
  book: the document's Cut.
-/
import Derived.Test.YtdebldpmloignaaDoorBokV
namespace Go.Proofs.YtdebldpmloignaaDoor
open Go.RowKit
set_option linter.unusedVariables false
set_option linter.unusedSimpArgs false

theorem rown_setLots {w : World} {base g n cap i : Nat} {xs : List Ord} {x : Ord} (z : Int) (h : w.ownsRow base 97 6 (.slice (some ⟨g, 0, none⟩) n cap) n (flatOf Ord.cells xs)) (hl : xs.length = n) (hx : xs[i]? = some x) :
    (w.setCell ⟨g, i * 6 + 4, none⟩ (.int .i64 z)).ownsRow base 97 6 (.slice (some ⟨g, 0, none⟩) n cap) n (flatOf Ord.cells (xs.set i { x with lots := z })) := by
  have hi : i < xs.length := (List.getElem?_eq_some_iff.1 hx).1
  obtain ⟨g', cap', cur, hv, hnc, hcm, hbg, hblk, hcs, hrows⟩ := own_rows' Ord.k6 h hl (by omega)
  cases hv
  have hb2 : (w.setCell ⟨g, i * 6 + 4, none⟩ (.int .i64 z)).heap[g]? = some (.cells (cur.setIfInBounds (i * 6 + 4) (.int .i64 z)) 97 (0, 0)) := Blk.set (w := w) (cs := cur) hblk (i * 6 + 4) (.int .i64 z)
  refine own_of_rows Ord.k6 (by decide) hbg hb2 (by simp [hcs]) hnc hcm (by rw [List.length_set, hl]) ?_
  intro t u hu j val hj
  have hjl : j < 6 := by have := (List.getElem?_eq_some_iff.1 hj).1; rwa [Ord.k6] at this
  rw [Nat.zero_add, cell_of_row _ g (t * 6 + j) _ 97 (0, 0) hb2]
  by_cases ht : t = i
  · subst ht
    rw [List.getElem?_set_self hi] at hu
    cases hu
    have ho := hrows t x hx
    match j, hjl, hj with
    | 4, _, hj =>
      have hj' : Value.int .i64 z = val := by simpa [Ord.cells] using hj
      subst hj'
      rw [Array.getElem?_setIfInBounds_self]
      have hsz : t * 6 + 4 < cur.size := by omega
      simp [hsz]
    | 0, _, hj => exact (by
        rw [Array.getElem?_setIfInBounds_ne (by omega)]
        have := ho 0 val hj
        rwa [Nat.zero_add, cell_of_row w g (t * 6 + 0) cur 97 (0, 0) hblk] at this)
    | 1, _, hj => exact (by
        rw [Array.getElem?_setIfInBounds_ne (by omega)]
        have := ho 1 val hj
        rwa [Nat.zero_add, cell_of_row w g (t * 6 + 1) cur 97 (0, 0) hblk] at this)
    | 2, _, hj => exact (by
        rw [Array.getElem?_setIfInBounds_ne (by omega)]
        have := ho 2 val hj
        rwa [Nat.zero_add, cell_of_row w g (t * 6 + 2) cur 97 (0, 0) hblk] at this)
    | 3, _, hj => exact (by
        rw [Array.getElem?_setIfInBounds_ne (by omega)]
        have := ho 3 val hj
        rwa [Nat.zero_add, cell_of_row w g (t * 6 + 3) cur 97 (0, 0) hblk] at this)
    | 5, _, hj => exact (by
        rw [Array.getElem?_setIfInBounds_ne (by omega)]
        have := ho 5 val hj
        rwa [Nat.zero_add, cell_of_row w g (t * 6 + 5) cur 97 (0, 0) hblk] at this)
  · rw [List.getElem?_set_ne (by omega)] at hu
    rw [Array.getElem?_setIfInBounds_ne (by omega)]
    have := hrows t u hu j val hj
    rwa [Nat.zero_add, cell_of_row w g (t * 6 + j) cur 97 (0, 0) hblk] at this
theorem RV.drew {w : World} {B u came : Nat} {L : List Ord} {v : Value} (h : RV w B u L v came) : RV w.drew B u L v came := ⟨h.low, h.blk, h.row⟩
theorem RStep.drew {w w' : World} {B : Nat} (h : RStep w w' B) : RStep w w'.drew B := ⟨h.below.drew, h.size, h.block⟩
theorem RV.setLots {w : World} {B u g cap i came : Nat} {L : List Ord} {x : Ord} (z : Int) (h : RV w B u L (.slice (some ⟨g, 0, none⟩) L.length cap) came) (hx : L[i]? = some x) :
    RV (w.setCell ⟨g, i * 6 + 4, none⟩ (.int .i64 z)) B u (L.set i { x with lots := z }) (.slice (some ⟨g, 0, none⟩) L.length cap) came ∧ RStep w (w.setCell ⟨g, i * 6 + 4, none⟩ (.int .i64 z)) B := by
  have hset : Turns (fun k => k = g) w (w.setCell ⟨g, i * 6 + 4, none⟩ (.int .i64 z)) := Turns.set (F := fun k => k = g) rfl
  have hob : (Value.slice (some ⟨g, 0, none⟩) L.length cap).ownBlock = some g := rfl
  have hgu : g ≠ u := fun e => h.notu (by rw [hob, e])
  obtain ⟨cur, hc⟩ := own_type h.row hob
  have hb := (h.row.lt g hob).1
  refine ⟨⟨h.low, hset.blk h.blk (fun e => hgu e.symm), ?_⟩, hset.below (Nat.le_trans hb (Nat.le_of_lt (h.row.lt g hob).2)) (fun k hk => by subst hk; exact hb), hset.size, fun k c t hk h1 h2 => hset.block k hk.lt (fun e => by subst e; exact h1 (hk.type_eq hc))⟩
  rw [List.length_set]
  exact rown_setLots z h.row rfl hx
theorem find_set {L : List Ord} {i : Nat} {x : Ord} {id : Int} (z : Int) (hf : L.findIdx? (hasId id) = some i) (hx : L[i]? = some x) : (L.set i { x with lots := z }).findIdx? (hasId id) = some i := by
  rw [List.findIdx?_eq_some_iff_getElem] at hf ⊢
  obtain ⟨h1, h2, h3⟩ := hf
  have hxe : L[i] = x := (List.getElem?_eq_some_iff.1 hx).2
  refine ⟨by rw [List.length_set]; exact h1, ?_, fun j hj => ?_⟩
  · rw [List.getElem_set_self]
    rw [hxe] at h2
    exact h2
  · rw [List.getElem_set_ne (by omega)]
    exact h3 j hj
set_option maxRecDepth 100000 in
set_option maxHeartbeats 1000000 in
theorem rcut_none (B u : Nat) (L : List Ord) (v : Value) (came : Nat) (id k : Int) (w : World) (h : Hid (RV w B u L v came)) (hN : L.length ≤ 1000000) (hf : L.findIdx? (hasId id) = none) :
    Calls Tryd.prog 57 #[.pointer (some ⟨u, 0, none⟩), .int .i64 id, .int .i64 k] w fun e w' => e = .returned (.int .i64 5) ∧ w = w' := by
  have HF := Lib.hid (rat_c B u L v came id w h hN)
  rw [at_of_none hf] at HF
  clear hf h
  go_enter Tryd.func57, Tryd.ntmps57
  go_wp2_with fail
  refine HF.out.mono ?_
  rintro e w1 ⟨rfl, rfl⟩
  go_wp2_with fail
  go_ret
  exact ⟨rfl, rfl⟩
set_option maxRecDepth 100000 in
set_option maxHeartbeats 1000000 in
theorem rcut_arg (B u : Nat) (L : List Ord) (v : Value) (came : Nat) (id k : Int) (i : Nat) (x : Ord) (w : World) (h : Hid (RV w B u L v came)) (hN : L.length ≤ 1000000) (hf : L.findIdx? (hasId id) = some i) (hx : L[i]? = some x) (hk : k < 1 ∨ x.lots < k) :
    Calls Tryd.prog 57 #[.pointer (some ⟨u, 0, none⟩), .int .i64 id, .int .i64 k] w fun e w' => e = .returned (.int .i64 1) ∧ w = w' := by
  have hin : i < L.length := (List.getElem?_eq_some_iff.1 hx).1
  obtain ⟨g, cap, cur, hv, hnc, hcm, hbg, hblk, hcs, hrows⟩ := own_rows' Ord.k6 h.out.row rfl (by omega)
  subst hv
  have r0 : w.rangeAt g (i * 6) x.cells := by
    have := hrows i x hx
    rwa [Nat.zero_add] at this
  have cl : w.cell? ⟨g, i * 6 + 4, none⟩ = some (.int .i64 x.lots) := r0 4 _ rfl
  have gq : w.cell? ⟨u, 0, none⟩ = some (.slice (some ⟨g, 0, none⟩) L.length cap) := h.out.blk.cell 0 _ rfl
  have hglt : g < w.heap.size := (Array.getElem?_eq_some_iff.1 hblk).1
  have hgu : ¬ g = u := fun e => h.out.notu (by rw [← e]; rfl)
  have hug : ¬ u = g := fun e => hgu e.symm
  have hug' : u ≠ g := hug
  have HF := Lib.hid (rat_c B u L (.slice (some ⟨g, 0, none⟩) L.length cap) came id w h (by omega))
  rw [at_of_some hf] at HF
  have hin' : (i : Int) < (L.length : Int) := by omega
  have hil : (i : Int) ≤ 1000000 := by omega
  have fl : w.frozen? ⟨g, i * 6 + 4, none⟩ = false := Blk.free (w := w) hblk (i * 6 + 4)
  obtain ⟨xl, hxl⟩ : ∃ z, z = x.lots := ⟨_, rfl⟩
  rw [← hxl] at cl hk
  have hway : (decide (k < 1) = true) ∨ (decide (k < 1) = false ∧ decide (xl < k) = true) := by
    by_cases h1 : k < 1
    · exact .inl (decide_eq_true h1)
    · exact .inr ⟨decide_eq_false h1, decide_eq_true (by omega)⟩
  clear hf hx hk h hrows hblk hcs hbg hcm hnc r0 hxl
  generalize L.length = n at *
  rcases hway with d1 | ⟨d1, d2⟩
  all_goals
    go_enter Tryd.func57, Tryd.ntmps57
    go_wp2_with fail
    refine HF.out.mono ?_
    rintro e w1 ⟨rfl, rfl⟩
    go_wp2_with fail
    go_ret
    exact ⟨rfl, rfl⟩
set_option maxRecDepth 100000 in
set_option maxHeartbeats 1000000 in
theorem rcut_part (B u : Nat) (L : List Ord) (v : Value) (came : Nat) (id k : Int) (i : Nat) (x : Ord) (w : World) (h : Hid (RV w B u L v came)) (hN : L.length ≤ 1000000) (hf : L.findIdx? (hasId id) = some i) (hx : L[i]? = some x) (hk1 : 1 ≤ k) (hk2 : k < x.lots) (hk3 : x.lots ≤ 1000000) :
    Calls Tryd.prog 57 #[.pointer (some ⟨u, 0, none⟩), .int .i64 id, .int .i64 k] w fun e w' => e = .returned (.int .i64 0) ∧ ∃ v', RV w' B u (L.set i { x with lots := x.lots - k }) v' came ∧ RStep w w' B := by
  have hin : i < L.length := (List.getElem?_eq_some_iff.1 hx).1
  obtain ⟨g, cap, cur, hv, hnc, hcm, hbg, hblk, hcs, hrows⟩ := own_rows' Ord.k6 h.out.row rfl (by omega)
  subst hv
  have r0 : w.rangeAt g (i * 6) x.cells := by
    have := hrows i x hx
    rwa [Nat.zero_add] at this
  have cl : w.cell? ⟨g, i * 6 + 4, none⟩ = some (.int .i64 x.lots) := r0 4 _ rfl
  have gq : w.cell? ⟨u, 0, none⟩ = some (.slice (some ⟨g, 0, none⟩) L.length cap) := h.out.blk.cell 0 _ rfl
  have hglt : g < w.heap.size := (Array.getElem?_eq_some_iff.1 hblk).1
  have hgu : ¬ g = u := fun e => h.out.notu (by rw [← e]; rfl)
  have hug : ¬ u = g := fun e => hgu e.symm
  have hug' : u ≠ g := hug
  have HF := Lib.hid (rat_c B u L (.slice (some ⟨g, 0, none⟩) L.length cap) came id w h (by omega))
  rw [at_of_some hf] at HF
  have hin' : (i : Int) < (L.length : Int) := by omega
  have hil : (i : Int) ≤ 1000000 := by omega
  have fl : w.frozen? ⟨g, i * 6 + 4, none⟩ = false := Blk.free (w := w) hblk (i * 6 + 4)
  have HEND := Lib.hid (h.out.setLots (x.lots - k) hx)
  obtain ⟨LR, hLR⟩ : ∃ LR, LR = L.set i { x with lots := x.lots - k } := ⟨_, rfl⟩
  rw [← hLR] at HEND ⊢
  obtain ⟨xl, hxl⟩ : ∃ z, z = x.lots := ⟨_, rfl⟩
  rw [← hxl] at cl hk2 hk3 HEND
  have d1 : decide (k < 1) = false := decide_eq_false (by omega)
  have d2 : decide (xl < k) = false := decide_eq_false (by omega)
  have d3 : ((xl - k) == 0) = false := beq_eq_false_iff_ne.2 (by omega)
  have d4 : ¬ (xl - k = 0) := by omega
  have d5 : IntKind.i64.wrap (xl - k) = xl - k := by rw [IntKind.wrap_i64]; omega
  clear hf hx h hrows hblk hcs hbg hcm hnc r0 hxl hLR
  generalize L.length = n at *
  go_enter Tryd.func57, Tryd.ntmps57
  go_wp2_with fail
  refine HF.out.mono ?_
  rintro e w1 ⟨rfl, rfl⟩
  go_wp2_with fail
  refine wp_region_noPanic ?_
  refine wp_region_held_drew (S := (fun w' => w'.cell? ⟨u, 0, none⟩ = some (.slice (some ⟨g, 0, none⟩) n cap))) (by kernel_rfl) gq (fun hHeld => ?_)
  refine wpAnyH_take (i := 0) (v := ?_) rfl (by kernel_rfl) (by kernel_rfl) (by kernel_rfl) (fun _ _ _ h => h) (Or.inl ⟨by rfl, ?_⟩) hHeld ?_
  rotate_left
  focus
    intro w hSw
    clear hSw
    go_simp
    try with_reducible rfl
  try simp only [Act.put, List.getElem_toArray, List.getElem_cons_zero, List.getElem_cons_succ, List.setIfInBounds_toArray, List.set_cons_zero, List.set_cons_succ]
  refine wpAnyH_take (i := 1) (v := ?_) rfl (by kernel_rfl) (by kernel_rfl) (by kernel_rfl) (fun _ _ _ h => h) (Or.inl ⟨by rfl, ?_⟩) hHeld ?_
  rotate_left
  focus
    intro w hSw
    clear hSw
    go_simp
    try with_reducible rfl
  try simp only [Act.put, List.getElem_toArray, List.getElem_cons_zero, List.getElem_cons_succ, List.setIfInBounds_toArray, List.set_cons_zero, List.set_cons_succ]
  refine wpAnyH_take (i := 2) (v := ?_) rfl (by kernel_rfl) (by kernel_rfl) (by kernel_rfl) (fun _ _ _ h => h) (Or.inl ⟨by rfl, ?_⟩) hHeld ?_
  rotate_left
  focus
    intro w hSw
    clear hSw
    go_simp
    try with_reducible rfl
  try simp only [Act.put, List.getElem_toArray, List.getElem_cons_zero, List.getElem_cons_succ, List.setIfInBounds_toArray, List.set_cons_zero, List.set_cons_succ]
  refine wpAnyH_take (i := 3) (v := ?_) rfl (by kernel_rfl) (by kernel_rfl) (by kernel_rfl) (fun _ _ _ h => h) (Or.inl ⟨by rfl, ?_⟩) hHeld ?_
  rotate_left
  focus
    intro w hSw
    (try dsimp only at hSw)
    go_simp
    try with_reducible rfl
  try simp only [Act.put, List.getElem_toArray, List.getElem_cons_zero, List.getElem_cons_succ, List.setIfInBounds_toArray, List.set_cons_zero, List.set_cons_succ]
  refine wpAnyH_take (i := 4) (v := ?_) rfl (by kernel_rfl) (by kernel_rfl) (by kernel_rfl) (fun _ _ _ h => h) (Or.inl ⟨by rfl, ?_⟩) hHeld ?_
  rotate_left
  focus
    intro w hSw
    clear hSw
    go_simp
    try with_reducible rfl
  try simp only [Act.put, List.getElem_toArray, List.getElem_cons_zero, List.getElem_cons_succ, List.setIfInBounds_toArray, List.set_cons_zero, List.set_cons_succ]
  refine wpAnyH_take (i := 5) (v := ?_) rfl (by kernel_rfl) (by kernel_rfl) (by kernel_rfl) (fun _ _ _ h => h) (Or.inl ⟨by rfl, ?_⟩) hHeld ?_
  rotate_left
  focus
    intro w hSw
    clear hSw
    go_simp
    try with_reducible rfl
  try simp only [Act.put, List.getElem_toArray, List.getElem_cons_zero, List.getElem_cons_succ, List.setIfInBounds_toArray, List.set_cons_zero, List.set_cons_succ]
  refine wpAnyH_take (i := 6) (v := ?_) rfl (by kernel_rfl) (by kernel_rfl) (by kernel_rfl) (fun _ _ _ h => h) (Or.inl ⟨by rfl, ?_⟩) hHeld ?_
  rotate_left
  focus
    intro w hSw
    clear hSw
    go_simp
    try with_reducible rfl
  try simp only [Act.put, List.getElem_toArray, List.getElem_cons_zero, List.getElem_cons_succ, List.setIfInBounds_toArray, List.set_cons_zero, List.set_cons_succ]
  refine wpAnyH_take (i := 7) (v := ?_) rfl (by kernel_rfl) (by kernel_rfl) (by kernel_rfl) (fun _ _ _ h => h) (Or.inl ⟨by rfl, ?_⟩) hHeld ?_
  rotate_left
  focus
    intro w hSw
    clear hSw
    go_simp
    try with_reducible rfl
  try simp only [Act.put, List.getElem_toArray, List.getElem_cons_zero, List.getElem_cons_succ, List.setIfInBounds_toArray, List.set_cons_zero, List.set_cons_succ]
  refine wpAnyH_take (i := 8) (v := ?_) rfl (by kernel_rfl) (by kernel_rfl) (by kernel_rfl) (fun _ _ _ h => h) (Or.inl ⟨by rfl, ?_⟩) hHeld ?_
  rotate_left
  focus
    intro w hSw
    (try dsimp only at hSw)
    go_simp
    try with_reducible rfl
  try simp only [Act.put, List.getElem_toArray, List.getElem_cons_zero, List.getElem_cons_succ, List.setIfInBounds_toArray, List.set_cons_zero, List.set_cons_succ]
  refine wpAnyH_take (i := 9) (v := ?_) rfl (by kernel_rfl) (by kernel_rfl) (by kernel_rfl) (fun _ _ _ h => h) (Or.inl ⟨by rfl, ?_⟩) hHeld ?_
  rotate_left
  focus
    intro w hSw
    clear hSw
    go_simp
    try with_reducible rfl
  try simp only [Act.put, List.getElem_toArray, List.getElem_cons_zero, List.getElem_cons_succ, List.setIfInBounds_toArray, List.set_cons_zero, List.set_cons_succ]
  refine wpAnyH_take (i := 10) (v := ?_) rfl (by kernel_rfl) (by kernel_rfl) (by kernel_rfl) (fun _ _ _ h => h) (Or.inl ⟨by rfl, ?_⟩) hHeld ?_
  rotate_left
  focus
    intro w hSw
    clear hSw
    go_simp
    try with_reducible rfl
  try simp only [Act.put, List.getElem_toArray, List.getElem_cons_zero, List.getElem_cons_succ, List.setIfInBounds_toArray, List.set_cons_zero, List.set_cons_succ]
  refine wpAnyH_take (i := 11) (v := ?_) rfl (by kernel_rfl) (by kernel_rfl) (by kernel_rfl) (fun _ _ _ h => h) (Or.inl ⟨by rfl, ?_⟩) hHeld ?_
  rotate_left
  focus
    intro w hSw
    clear hSw
    go_simp
    try with_reducible rfl
  try simp only [Act.put, List.getElem_toArray, List.getElem_cons_zero, List.getElem_cons_succ, List.setIfInBounds_toArray, List.set_cons_zero, List.set_cons_succ]
  refine wpAnyH_take (i := 13) (v := ?_) rfl (by kernel_rfl) (by kernel_rfl) (by kernel_rfl) (fun _ _ _ h => h) (Or.inl ⟨by rfl, ?_⟩) hHeld ?_
  rotate_left
  focus
    intro w hSw
    clear hSw
    go_simp
    try with_reducible rfl
  try simp only [Act.put, List.getElem_toArray, List.getElem_cons_zero, List.getElem_cons_succ, List.setIfInBounds_toArray, List.set_cons_zero, List.set_cons_succ]
  refine wpAnyH_ready (rs := [12]) (by kernel_rfl) (by simp) ?_
  refine AllReadyH.cons rfl (fun K hK => ?_) AllReadyH.nil
  go_simp
  refine hK.out _ _ gq (fun hHeld => ?_)
  clear hK K
  try simp only [Act.put, List.getElem_toArray, List.getElem_cons_zero, List.getElem_cons_succ, List.setIfInBounds_toArray, List.set_cons_zero, List.set_cons_succ]
  refine wpAnyH_take (i := 14) (v := ?_) rfl (by kernel_rfl) (by kernel_rfl) (by kernel_rfl) (fun _ _ _ h => h) (Or.inl ⟨by rfl, ?_⟩) hHeld ?_
  rotate_left
  focus
    intro w hSw
    clear hSw
    go_simp
    try with_reducible rfl
  try simp only [Act.put, List.getElem_toArray, List.getElem_cons_zero, List.getElem_cons_succ, List.setIfInBounds_toArray, List.set_cons_zero, List.set_cons_succ]
  refine wpAnyH_take (i := 15) (v := ?_) rfl (by kernel_rfl) (by kernel_rfl) (by kernel_rfl) (fun _ _ _ h => h) (Or.inl ⟨by rfl, ?_⟩) hHeld ?_
  rotate_left
  focus
    intro w hSw
    clear hSw
    go_simp
    try with_reducible rfl
  try simp only [Act.put, List.getElem_toArray, List.getElem_cons_zero, List.getElem_cons_succ, List.setIfInBounds_toArray, List.set_cons_zero, List.set_cons_succ]
  refine wpAnyH_take (i := 16) (v := ?_) rfl (by kernel_rfl) (by kernel_rfl) (by kernel_rfl) (fun _ _ _ h => h) (Or.inl ⟨by rfl, ?_⟩) hHeld ?_
  rotate_left
  focus
    intro w hSw
    clear hSw
    go_simp
    try with_reducible rfl
  try simp only [Act.put, List.getElem_toArray, List.getElem_cons_zero, List.getElem_cons_succ, List.setIfInBounds_toArray, List.set_cons_zero, List.set_cons_succ]
  refine wpAnyH_ready (rs := [17]) (by kernel_rfl) (by simp) ?_
  refine AllReadyH.cons rfl (fun K hK => ?_) AllReadyH.nil
  go_simp
  refine hK.out _ _ ((World.cell?_setCell_far w ⟨g, i * 6 + 4, none⟩ ⟨u, 0, none⟩ _ hgu).trans gq) (fun hHeld => ?_)
  clear hK K
  try simp only [Act.put, List.getElem_toArray, List.getElem_cons_zero, List.getElem_cons_succ, List.setIfInBounds_toArray, List.set_cons_zero, List.set_cons_succ]
  refine wpAnyH_done (by kernel_rfl) ?_ _
  refine NoPanic.normal ?_
  go_wp2_with fail
  go_ret
  exact ⟨rfl, _, HEND.out.1.drew, HEND.out.2.drew⟩
set_option maxRecDepth 100000 in
set_option maxHeartbeats 1000000 in
theorem rcut_gone (B u : Nat) (L : List Ord) (v : Value) (came : Nat) (id k : Int) (i : Nat) (x : Ord) (w : World) (hB : B ≤ w.heap.size) (h : Hid (RV w B u L v came)) (hN : L.length ≤ 100000) (hf : L.findIdx? (hasId id) = some i) (hx : L[i]? = some x) (hk1 : 1 ≤ k) (hk2 : k = x.lots) (hk3 : x.lots ≤ 1000000) :
    Calls Tryd.prog 57 #[.pointer (some ⟨u, 0, none⟩), .int .i64 id, .int .i64 k] w fun e w' => e = .returned (.int .i64 0) ∧ ∃ v', RV w' B u (L.eraseIdx i) v' came ∧ RStep w w' B := by
  have hin : i < L.length := (List.getElem?_eq_some_iff.1 hx).1
  obtain ⟨g, cap, cur, hv, hnc, hcm, hbg, hblk, hcs, hrows⟩ := own_rows' Ord.k6 h.out.row rfl (by omega)
  subst hv
  have r0 : w.rangeAt g (i * 6) x.cells := by
    have := hrows i x hx
    rwa [Nat.zero_add] at this
  have cl : w.cell? ⟨g, i * 6 + 4, none⟩ = some (.int .i64 x.lots) := r0 4 _ rfl
  have gq : w.cell? ⟨u, 0, none⟩ = some (.slice (some ⟨g, 0, none⟩) L.length cap) := h.out.blk.cell 0 _ rfl
  have hglt : g < w.heap.size := (Array.getElem?_eq_some_iff.1 hblk).1
  have hgu : ¬ g = u := fun e => h.out.notu (by rw [← e]; rfl)
  have hug : ¬ u = g := fun e => hgu e.symm
  have hug' : u ≠ g := hug
  have HF := Lib.hid (rat_c B u L (.slice (some ⟨g, 0, none⟩) L.length cap) came id w h (by omega))
  rw [at_of_some hf] at HF
  have hin' : (i : Int) < (L.length : Int) := by omega
  have hil : (i : Int) ≤ 1000000 := by omega
  have fl : w.frozen? ⟨g, i * 6 + 4, none⟩ = false := Blk.free (w := w) hblk (i * 6 + 4)
  have HST := Lib.hid (h.out.setLots 0 hx)
  have HDR : Hid (∀ W, W = (w.setCell ⟨g, i * 6 + 4, none⟩ (.int .i64 0)).drew → Calls Tryd.prog 55 #[.pointer (some ⟨u, 0, none⟩), .int .i64 id] W fun e w' => e = .returned (.tuple #[.agg (Ord.cells { x with lots := 0 }).toArray, .int .i64 0]) ∧ ∃ v', RV w' B u (L.eraseIdx i) v' came ∧ RStep w w' B) := fun W hW => by
    subst hW
    refine (rdrop_ok B u (L.set i { x with lots := 0 }) _ came id i { x with lots := 0 } (w.setCell ⟨g, i * 6 + 4, none⟩ (.int .i64 0)).drew (Nat.le_trans hB HST.out.2.size) (Lib.hid HST.out.1.drew) (by rw [List.length_set]; exact hN) (find_set 0 hf hx) (List.getElem?_set_self hin)).mono ?_
    rintro e w' ⟨rfl, v', hv, hs⟩
    have e1 : (L.set i { x with lots := 0 }).eraseIdx i = L.eraseIdx i := by
      rw [List.eraseIdx_eq_take_drop_succ, List.eraseIdx_eq_take_drop_succ, List.take_set_of_le (Nat.le_refl i), List.drop_set_of_lt (Nat.lt_succ_self i)]
    rw [e1] at hv
    exact ⟨rfl, v', hv, HST.out.2.drew.trans hs⟩
  obtain ⟨LR, hLR⟩ : ∃ LR, LR = L.eraseIdx i := ⟨_, rfl⟩
  rw [← hLR] at HDR ⊢
  obtain ⟨YC, hYC⟩ : ∃ z, z = (Ord.cells { x with lots := 0 }).toArray := ⟨_, rfl⟩
  rw [← hYC] at HDR
  obtain ⟨xl, hxl⟩ : ∃ z, z = x.lots := ⟨_, rfl⟩
  rw [← hxl] at cl hk2 hk3
  subst hk2
  have d1 : decide (k < 1) = false := decide_eq_false (by omega)
  have d2 : decide (k < k) = false := decide_eq_false (by omega)
  have d5 : IntKind.i64.wrap (k - k) = 0 := by rw [IntKind.wrap_i64]; omega
  clear hf hx h hrows hblk hcs hbg hcm hnc r0 hxl hLR hYC HST
  generalize L.length = n at *
  go_enter Tryd.func57, Tryd.ntmps57
  go_wp2_with fail
  refine HF.out.mono ?_
  rintro e w1 ⟨rfl, rfl⟩
  go_wp2_with fail
  refine wp_region_noPanic ?_
  refine wp_region_held_drew (S := (fun w' => w'.cell? ⟨u, 0, none⟩ = some (.slice (some ⟨g, 0, none⟩) n cap))) (by kernel_rfl) gq (fun hHeld => ?_)
  refine wpAnyH_take (i := 0) (v := ?_) rfl (by kernel_rfl) (by kernel_rfl) (by kernel_rfl) (fun _ _ _ h => h) (Or.inl ⟨by rfl, ?_⟩) hHeld ?_
  rotate_left
  focus
    intro w hSw
    clear hSw
    go_simp
    try with_reducible rfl
  try simp only [Act.put, List.getElem_toArray, List.getElem_cons_zero, List.getElem_cons_succ, List.setIfInBounds_toArray, List.set_cons_zero, List.set_cons_succ]
  refine wpAnyH_take (i := 1) (v := ?_) rfl (by kernel_rfl) (by kernel_rfl) (by kernel_rfl) (fun _ _ _ h => h) (Or.inl ⟨by rfl, ?_⟩) hHeld ?_
  rotate_left
  focus
    intro w hSw
    clear hSw
    go_simp
    try with_reducible rfl
  try simp only [Act.put, List.getElem_toArray, List.getElem_cons_zero, List.getElem_cons_succ, List.setIfInBounds_toArray, List.set_cons_zero, List.set_cons_succ]
  refine wpAnyH_take (i := 2) (v := ?_) rfl (by kernel_rfl) (by kernel_rfl) (by kernel_rfl) (fun _ _ _ h => h) (Or.inl ⟨by rfl, ?_⟩) hHeld ?_
  rotate_left
  focus
    intro w hSw
    clear hSw
    go_simp
    try with_reducible rfl
  try simp only [Act.put, List.getElem_toArray, List.getElem_cons_zero, List.getElem_cons_succ, List.setIfInBounds_toArray, List.set_cons_zero, List.set_cons_succ]
  refine wpAnyH_take (i := 3) (v := ?_) rfl (by kernel_rfl) (by kernel_rfl) (by kernel_rfl) (fun _ _ _ h => h) (Or.inl ⟨by rfl, ?_⟩) hHeld ?_
  rotate_left
  focus
    intro w hSw
    (try dsimp only at hSw)
    go_simp
    try with_reducible rfl
  try simp only [Act.put, List.getElem_toArray, List.getElem_cons_zero, List.getElem_cons_succ, List.setIfInBounds_toArray, List.set_cons_zero, List.set_cons_succ]
  refine wpAnyH_take (i := 4) (v := ?_) rfl (by kernel_rfl) (by kernel_rfl) (by kernel_rfl) (fun _ _ _ h => h) (Or.inl ⟨by rfl, ?_⟩) hHeld ?_
  rotate_left
  focus
    intro w hSw
    clear hSw
    go_simp
    try with_reducible rfl
  try simp only [Act.put, List.getElem_toArray, List.getElem_cons_zero, List.getElem_cons_succ, List.setIfInBounds_toArray, List.set_cons_zero, List.set_cons_succ]
  refine wpAnyH_take (i := 5) (v := ?_) rfl (by kernel_rfl) (by kernel_rfl) (by kernel_rfl) (fun _ _ _ h => h) (Or.inl ⟨by rfl, ?_⟩) hHeld ?_
  rotate_left
  focus
    intro w hSw
    clear hSw
    go_simp
    try with_reducible rfl
  try simp only [Act.put, List.getElem_toArray, List.getElem_cons_zero, List.getElem_cons_succ, List.setIfInBounds_toArray, List.set_cons_zero, List.set_cons_succ]
  refine wpAnyH_take (i := 6) (v := ?_) rfl (by kernel_rfl) (by kernel_rfl) (by kernel_rfl) (fun _ _ _ h => h) (Or.inl ⟨by rfl, ?_⟩) hHeld ?_
  rotate_left
  focus
    intro w hSw
    clear hSw
    go_simp
    try with_reducible rfl
  try simp only [Act.put, List.getElem_toArray, List.getElem_cons_zero, List.getElem_cons_succ, List.setIfInBounds_toArray, List.set_cons_zero, List.set_cons_succ]
  refine wpAnyH_take (i := 7) (v := ?_) rfl (by kernel_rfl) (by kernel_rfl) (by kernel_rfl) (fun _ _ _ h => h) (Or.inl ⟨by rfl, ?_⟩) hHeld ?_
  rotate_left
  focus
    intro w hSw
    clear hSw
    go_simp
    try with_reducible rfl
  try simp only [Act.put, List.getElem_toArray, List.getElem_cons_zero, List.getElem_cons_succ, List.setIfInBounds_toArray, List.set_cons_zero, List.set_cons_succ]
  refine wpAnyH_take (i := 8) (v := ?_) rfl (by kernel_rfl) (by kernel_rfl) (by kernel_rfl) (fun _ _ _ h => h) (Or.inl ⟨by rfl, ?_⟩) hHeld ?_
  rotate_left
  focus
    intro w hSw
    (try dsimp only at hSw)
    go_simp
    try with_reducible rfl
  try simp only [Act.put, List.getElem_toArray, List.getElem_cons_zero, List.getElem_cons_succ, List.setIfInBounds_toArray, List.set_cons_zero, List.set_cons_succ]
  refine wpAnyH_take (i := 9) (v := ?_) rfl (by kernel_rfl) (by kernel_rfl) (by kernel_rfl) (fun _ _ _ h => h) (Or.inl ⟨by rfl, ?_⟩) hHeld ?_
  rotate_left
  focus
    intro w hSw
    clear hSw
    go_simp
    try with_reducible rfl
  try simp only [Act.put, List.getElem_toArray, List.getElem_cons_zero, List.getElem_cons_succ, List.setIfInBounds_toArray, List.set_cons_zero, List.set_cons_succ]
  refine wpAnyH_take (i := 10) (v := ?_) rfl (by kernel_rfl) (by kernel_rfl) (by kernel_rfl) (fun _ _ _ h => h) (Or.inl ⟨by rfl, ?_⟩) hHeld ?_
  rotate_left
  focus
    intro w hSw
    clear hSw
    go_simp
    try with_reducible rfl
  try simp only [Act.put, List.getElem_toArray, List.getElem_cons_zero, List.getElem_cons_succ, List.setIfInBounds_toArray, List.set_cons_zero, List.set_cons_succ]
  refine wpAnyH_take (i := 11) (v := ?_) rfl (by kernel_rfl) (by kernel_rfl) (by kernel_rfl) (fun _ _ _ h => h) (Or.inl ⟨by rfl, ?_⟩) hHeld ?_
  rotate_left
  focus
    intro w hSw
    clear hSw
    go_simp
    try with_reducible rfl
  try simp only [Act.put, List.getElem_toArray, List.getElem_cons_zero, List.getElem_cons_succ, List.setIfInBounds_toArray, List.set_cons_zero, List.set_cons_succ]
  refine wpAnyH_take (i := 13) (v := ?_) rfl (by kernel_rfl) (by kernel_rfl) (by kernel_rfl) (fun _ _ _ h => h) (Or.inl ⟨by rfl, ?_⟩) hHeld ?_
  rotate_left
  focus
    intro w hSw
    clear hSw
    go_simp
    try with_reducible rfl
  try simp only [Act.put, List.getElem_toArray, List.getElem_cons_zero, List.getElem_cons_succ, List.setIfInBounds_toArray, List.set_cons_zero, List.set_cons_succ]
  refine wpAnyH_ready (rs := [12]) (by kernel_rfl) (by simp) ?_
  refine AllReadyH.cons rfl (fun K hK => ?_) AllReadyH.nil
  go_simp
  refine hK.out _ _ gq (fun hHeld => ?_)
  clear hK K
  try simp only [Act.put, List.getElem_toArray, List.getElem_cons_zero, List.getElem_cons_succ, List.setIfInBounds_toArray, List.set_cons_zero, List.set_cons_succ]
  refine wpAnyH_take (i := 14) (v := ?_) rfl (by kernel_rfl) (by kernel_rfl) (by kernel_rfl) (fun _ _ _ h => h) (Or.inl ⟨by rfl, ?_⟩) hHeld ?_
  rotate_left
  focus
    intro w hSw
    clear hSw
    go_simp
    try with_reducible rfl
  try simp only [Act.put, List.getElem_toArray, List.getElem_cons_zero, List.getElem_cons_succ, List.setIfInBounds_toArray, List.set_cons_zero, List.set_cons_succ]
  refine wpAnyH_take (i := 15) (v := ?_) rfl (by kernel_rfl) (by kernel_rfl) (by kernel_rfl) (fun _ _ _ h => h) (Or.inl ⟨by rfl, ?_⟩) hHeld ?_
  rotate_left
  focus
    intro w hSw
    clear hSw
    go_simp
    try with_reducible rfl
  try simp only [Act.put, List.getElem_toArray, List.getElem_cons_zero, List.getElem_cons_succ, List.setIfInBounds_toArray, List.set_cons_zero, List.set_cons_succ]
  refine wpAnyH_take (i := 16) (v := ?_) rfl (by kernel_rfl) (by kernel_rfl) (by kernel_rfl) (fun _ _ _ h => h) (Or.inl ⟨by rfl, ?_⟩) hHeld ?_
  rotate_left
  focus
    intro w hSw
    clear hSw
    go_simp
    try with_reducible rfl
  try simp only [Act.put, List.getElem_toArray, List.getElem_cons_zero, List.getElem_cons_succ, List.setIfInBounds_toArray, List.set_cons_zero, List.set_cons_succ]
  refine wpAnyH_ready (rs := [17]) (by kernel_rfl) (by simp) ?_
  refine AllReadyH.cons rfl (fun K hK => ?_) AllReadyH.nil
  go_simp
  refine hK.out _ _ ((World.cell?_setCell_far w ⟨g, i * 6 + 4, none⟩ ⟨u, 0, none⟩ _ hgu).trans gq) (fun hHeld => ?_)
  clear hK K
  try simp only [Act.put, List.getElem_toArray, List.getElem_cons_zero, List.getElem_cons_succ, List.setIfInBounds_toArray, List.set_cons_zero, List.set_cons_succ]
  refine wpAnyH_done (by kernel_rfl) ?_ _
  refine NoPanic.normal ?_
  go_wp2_with fail
  refine (HDR.out _ (by rfl)).mono ?_
  rintro e w2 ⟨rfl, hq⟩
  have HQ := Lib.hid hq
  clear hq
  go_wp2_with fail
  go_ret
  exact ⟨rfl, HQ.out⟩
end Go.Proofs.YtdebldpmloignaaDoor
