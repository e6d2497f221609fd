/-
  slices.Insert at book.Order, of one element.
-/
import Derived.Test.YtdebldpmloignaaDoorSlOrd
import Derived.Lib.SlBuf
import Derived.Lib.Overlaps
import Derived.Lib.AppendZerosOnto
import Derived.Laws.Externs
import Derived.Deep.AppendLies
namespace Go.Proofs.YtdebldpmloignaaDoor
open Go.RowKit
set_option linter.unusedVariables false
set_option linter.unusedSimpArgs false

theorem shape_of {w : World} {g : Nat} {cur : Array Value} {e : TypeId} {fr : Nat × Nat} (h : w.heap[g]? = some (.cells cur e fr)) : w.shape? g = some (e, cur.size) := by simp [World.shape?, h]
theorem free_of {w : World} {g : Nat} {cur : Array Value} {e : TypeId} (h : w.heap[g]? = some (.cells cur e (0, 0))) (o : Nat) : w.frozen? ⟨g, o, none⟩ = false := by simp [World.frozen?, h]
theorem sizeOf_ord (w : World) : (Go.sizeOf 67).run Tryd.prog w = .ok 6 w := by kernel_rfl
theorem setCells_blk {g : Nat} {e : TypeId} {vs : List Value} {o : Nat} {w : World} {cur : Array Value} (h : w.heap[g]? = some (.cells cur e (0, 0))) : ∃ cur' : Array Value, (w.setCells g o vs).heap[g]? = some (.cells cur' e (0, 0)) ∧ cur'.size = cur.size := block_setCells vs o w cur h
theorem cell_of_rows {α : Type} {enc : α → List Value} {k : Nat} (hk : ∀ x, (enc x).length = k) (hk0 : 0 < k) {w : World} {b o : Nat} {xs : List α} (h : RowsAt w enc k b o xs) (i : Nat) : ∀ j v, (flatOf enc (xs.drop i))[j]? = some v → w.cell? ((⟨b, o + i * k, none⟩ : Addr).add j) = some v := fun j v hj => by
  rw [Addr.add_mid]
  exact range_of_rows hk hk0 (rows_drop h i) j v hj
theorem drew_setCells' (b : Nat) : ∀ (vs : List Value) (o : Nat) (w : World), w.drew.setCells b o vs = (w.setCells b o vs).drew
  | [], _, _ => rfl
  | v :: r, o, w => by rw [World.setCells, World.setCells, ← drew_setCells' b r]; rfl
set_option maxRecDepth 100000 in
set_option maxHeartbeats 4000000 in
theorem insert_shift (b n c i vb : Nat) (xs : List Ord) (o : Ord) (cur : Array Value) (w : World) (hi : i < n) (hroom : n + 1 ≤ c) (hc63 : c ≤ maxLen) (hl : xs.length = n) (hb : w.heap[b]? = some (.cells cur 67 (0, 0))) (hcs : cur.size = c * 6) (hr : RowsAt w Ord.cells 6 b 0 xs) (hv : w.heap[vb]? = some (.cells o.cells.toArray 67 (0, 0))) (hne : vb ≠ b) :
    Calls Tryd.prog 85 #[.slice (some ⟨b, 0, none⟩) n c, .int .i64 i, .slice (some ⟨vb, 0, none⟩) 1 1] w fun e w' => e = .returned (.slice (some ⟨b, 0, none⟩) (n + 1) c) ∧ w' = (w.drew.setCells b ((i + 1) * 6) (flatOf Ord.cells (xs.drop i))).setCells b (i * 6) o.cells := by
  unfold maxLen at hc63
  have hov : ∀ lb cb, (callFunc 102 #[.slice (some ⟨vb, 0, none⟩) 1 1, .slice (some ⟨b, (i + 1) * 6, none⟩) lb cb]).run Tryd.prog w = .ok (.value (.bool false)) w := fun lb cb => by
    rw [run_callFunc_extern (P := Tryd.prog) Tryd.func102 (by kernel_rfl) (by kernel_rfl) (by kernel_rfl) (e := Extern.SlicesOverlaps.overlaps #[62, 62] #[4]) (by kernel_rfl),
      Lib.run_overlaps_apart w 62 4 67 Tryd.underlying62 6 sizeOf_ord ⟨vb, 0, none⟩ ⟨b, (i + 1) * 6, none⟩ 1 1 lb cb hne 67 67 6 (c * 6) (by rw [shape_of hv]; rfl) (by rw [shape_of hb, hcs]) (by omega) (free_of hv _) (free_of hv _)]
    rfl
  have hdl : (flatOf Ord.cells (xs.drop i)).length = (n - i) * 6 := by rw [flatOf_length Ord.k6, List.length_drop, hl]
  have hth : w.there b 0 (c * 6) := there_of_block hb 0 _ (by omega)
  obtain ⟨W1, hW1⟩ : ∃ W1, W1 = w.drew.setCells b ((i + 1) * 6) (flatOf Ord.cells (xs.drop i)) := ⟨_, rfl⟩
  have hcp1 : ∀ ty dc sc, (Builtin.copy_ #[62, 62] ty #[.slice (some ⟨b, (i + 1) * 6, none⟩) (n - i) dc, .slice (some ⟨b, i * 6, none⟩) (n + 1 - i) sc]).run Tryd.prog w.drew = .ok (goInt (Nat.min (n + 1 - i) (n - i))) W1 := fun ty dc sc => by
    rw [hW1]
    refine run_copy_k w.drew _ _ ty 67 6 b ((i + 1) * 6) (n - i) dc ⟨b, i * 6, none⟩ (n + 1 - i) sc (flatOf Ord.cells (xs.drop i)) Tryd.underlying62 size_ord (by rw [hdl]; simp only [Nat.min_def]; split <;> omega) ?_ (there_sub (w := w) hth (Nat.zero_le _) (by rw [hdl]; omega)) (flatOf_mem Ord.one _)
    have := cell_of_rows Ord.k6 (by decide) hr i
    rw [Nat.zero_add] at this
    exact this
  have hvs : ∀ j v, o.cells[j]? = some v → W1.cell? ((⟨vb, 0, none⟩ : Addr).add j) = some v := fun j v hj => by
    rw [Addr.add_mid, Nat.zero_add, hW1, World.cell?_setCells_out b _ _ _ _ (fun h _ => absurd h hne), show w.drew.cell? ⟨vb, j, none⟩ = w.cell? ⟨vb, j, none⟩ from rfl, cell_of_row w vb j _ 67 (0, 0) hv]
    simpa using hj
  have hth1 : W1.there b (i * 6) 6 := by rw [hW1]; exact World.there_setCells (there_sub (w := w.drew) hth (Nat.zero_le _) (by omega)) _ _ _
  have hcp2 : ∀ ty dl dc, 0 < dl → (Builtin.copy_ #[62, 62] ty #[.slice (some ⟨b, i * 6, none⟩) dl dc, .slice (some ⟨vb, 0, none⟩) 1 1]).run Tryd.prog W1 = .ok (goInt (Nat.min 1 dl)) (W1.setCells b (i * 6) o.cells) := fun ty dl dc hdl =>
    run_copy_k W1 _ _ ty 67 6 b (i * 6) dl dc ⟨vb, 0, none⟩ 1 1 o.cells Tryd.underlying62 size_ord (by simp only [Nat.min_def, Ord.k6]; split <;> omega) hvs hth1 (Ord.one o)
  have hz2 : ¬ ((i : Int) = (n : Int)) := by omega
  have hz3 : ¬ ((c : Int) < (n : Int) + 1) := by omega
  have hb3 : (i : Int) ≤ (n : Int) + 1 := by omega
  have hin : i ≤ n := by omega
  have hdpos : 0 < n + 1 - i := by omega
  have ew : IntKind.i64.wrap ((i : Int) + 1) = (i : Int) + 1 := by rw [IntKind.wrap_i64]; omega
  have hb1 : (0 : Int) ≤ (i : Int) + 1 := by omega
  have htn : ((i : Int) + 1).toNat = i + 1 := by omega
  have hin1 : i + 1 ≤ n + 1 := by omega
  have hci : ¬ (c = i) := by omega
  have hci1 : ¬ (c = i + 1) := by omega
  rw [← hW1]
  have HW1 := Lib.hid hW1
  clear hW1 hvs hth1 hth hdl hr hb hv hcs hl hroom
  go_enter Tryd.func85, Tryd.ntmps85
  go_wp2_with (simp only [hov])
  refine wp_region_noPanic ?_
  refine wp_region_held_drew (S := (fun _ => True)) (by kernel_rfl) trivial (fun hHeld => ?_)
  refine wpAnyH_take (i := 0) (v := ?_) rfl (by kernel_rfl) (by kernel_rfl) (by kernel_rfl) (fun _ _ _ h => h) (Or.inl ⟨by rfl, ?_⟩) hHeld ?_
  rotate_left
  focus
    intro w hSw
    clear hSw
    go_simp
    try with_reducible rfl
  try simp only [Act.put, List.getElem_toArray, List.getElem_cons_zero, List.getElem_cons_succ, List.setIfInBounds_toArray, List.set_cons_zero, List.set_cons_succ]
  refine wpAnyH_take (i := 1) (v := ?_) rfl (by kernel_rfl) (by kernel_rfl) (by kernel_rfl) (fun _ _ _ h => h) (Or.inl ⟨by rfl, ?_⟩) hHeld ?_
  rotate_left
  focus
    intro w hSw
    clear hSw
    go_simp
    try with_reducible rfl
  try simp only [Act.put, List.getElem_toArray, List.getElem_cons_zero, List.getElem_cons_succ, List.setIfInBounds_toArray, List.set_cons_zero, List.set_cons_succ]
  refine wpAnyH_take (i := 2) (v := ?_) rfl (by kernel_rfl) (by kernel_rfl) (by kernel_rfl) (fun _ _ _ h => h) (Or.inl ⟨by rfl, ?_⟩) hHeld ?_
  rotate_left
  focus
    intro w hSw
    clear hSw
    go_simp
    try with_reducible rfl
  try simp only [Act.put, List.getElem_toArray, List.getElem_cons_zero, List.getElem_cons_succ, List.setIfInBounds_toArray, List.set_cons_zero, List.set_cons_succ]
  refine wpAnyH_take (i := 3) (v := ?_) rfl (by kernel_rfl) (by kernel_rfl) (by kernel_rfl) (fun _ _ _ h => h) (Or.inl ⟨by rfl, ?_⟩) hHeld ?_
  rotate_left
  focus
    intro w hSw
    clear hSw
    go_simp
    try with_reducible rfl
  try simp only [Act.put, List.getElem_toArray, List.getElem_cons_zero, List.getElem_cons_succ, List.setIfInBounds_toArray, List.set_cons_zero, List.set_cons_succ]
  refine wpAnyH_take (i := 4) (v := ?_) rfl (by kernel_rfl) (by kernel_rfl) (by kernel_rfl) (fun _ _ _ h => h) (Or.inl ⟨by rfl, ?_⟩) hHeld ?_
  rotate_left
  focus
    intro w hSw
    clear hSw
    go_simp
    try with_reducible rfl
  try simp only [Act.put, List.getElem_toArray, List.getElem_cons_zero, List.getElem_cons_succ, List.setIfInBounds_toArray, List.set_cons_zero, List.set_cons_succ]
  refine wpAnyH_take (i := 5) (v := ?_) rfl (by kernel_rfl) (by kernel_rfl) (by kernel_rfl) (fun _ _ _ h => h) (Or.inl ⟨by rfl, ?_⟩) hHeld ?_
  rotate_left
  focus
    intro w hSw
    clear hSw
    go_simp
    try with_reducible rfl
  try simp only [Act.put, List.getElem_toArray, List.getElem_cons_zero, List.getElem_cons_succ, List.setIfInBounds_toArray, List.set_cons_zero, List.set_cons_succ]
  refine wpAnyH_take (i := 6) (v := ?_) rfl (by kernel_rfl) (by kernel_rfl) (by kernel_rfl) (fun _ _ _ h => h) (Or.inl ⟨by rfl, ?_⟩) hHeld ?_
  rotate_left
  focus
    intro w hSw
    clear hSw
    go_simp
    try with_reducible rfl
  try simp only [Act.put, List.getElem_toArray, List.getElem_cons_zero, List.getElem_cons_succ, List.setIfInBounds_toArray, List.set_cons_zero, List.set_cons_succ]
  refine wpAnyH_take (i := 7) (v := ?_) rfl (by kernel_rfl) (by kernel_rfl) (by kernel_rfl) (fun _ _ _ h => h) (Or.inl ⟨by rfl, ?_⟩) hHeld ?_
  rotate_left
  focus
    intro w hSw
    clear hSw
    go_simp
    try with_reducible rfl
  try simp only [Act.put, List.getElem_toArray, List.getElem_cons_zero, List.getElem_cons_succ, List.setIfInBounds_toArray, List.set_cons_zero, List.set_cons_succ]
  refine wpAnyH_ready (rs := [8]) (by kernel_rfl) (by simp) ?_
  refine AllReadyH.cons rfl (fun K hK => ?_) AllReadyH.nil
  rw [if_pos (by rfl)]
  refine Lib.wp_copy_run _ _ _ 62 62 rfl _ _ rfl rfl (hcp1 _ _ _) ?_
  refine hK.out _ _ trivial (fun hHeld => ?_)
  clear hK K
  try simp only [Act.put, List.getElem_toArray, List.getElem_cons_zero, List.getElem_cons_succ, List.setIfInBounds_toArray, List.set_cons_zero, List.set_cons_succ]
  refine wpAnyH_done (by kernel_rfl) ?_ _
  refine NoPanic.normal ?_
  go_wp2_with (with_reducible refine Lib.wpList_copy_run _ rfl _ _ 62 62 rfl _ _ rfl rfl (hcp2 _ _ _ hdpos) ?_)
  go_ret
  exact ⟨rfl, rfl⟩
/-- What a growing Insert leaves. -/
def InsG (w : World) (n : Nat) (l : List Ord) (e : Ending) (w' : World) : Prop := ∃ (G : Nat) (cur : Array Value), e = .returned (.slice (some ⟨w.heap.size, 0, none⟩) (n + 1) G) ∧ w'.heap[w.heap.size]? = some (.cells cur 67 (0, 0)) ∧ cur.size = G * 6 ∧ n + 1 ≤ G ∧ G ≤ maxLen ∧ RowsAt w' Ord.cells 6 w.heap.size 0 l ∧ Below w.heap.size w w'
theorem zeros_size (z : Array Value) (m : Nat) : (Builtin.zeroCells z m).size = m * z.size := by
  unfold Builtin.zeroCells
  simp
set_option maxRecDepth 100000 in
set_option maxHeartbeats 4000000 in
theorem insert_grow (b n c i vb : Nat) (xs : List Ord) (o : Ord) (w : World) (hi : i < n) (hnc : n ≤ c) (hroom : c < n + 1) (hn : n ≤ 100000) (hl : xs.length = n) (hbw : b < w.heap.size) (hr : RowsAt w Ord.cells 6 b 0 xs) (hv : w.heap[vb]? = some (.cells o.cells.toArray 67 (0, 0))) :
    Calls Tryd.prog 85 #[.slice (some ⟨b, 0, none⟩) n c, .int .i64 i, .slice (some ⟨vb, 0, none⟩) 1 1] w (InsG w n (xs.take i ++ o :: xs.drop i)) := by
  obtain ⟨i0, hi0, hz0, hzs, hzb⟩ := info_parts info_ord
  have hvw : vb < w.heap.size := (Array.getElem?_eq_some_iff.1 hv).1
  have hdl : (flatOf Ord.cells (xs.drop i)).length = (n - i) * 6 := by rw [flatOf_length Ord.k6, List.length_drop, hl]
  have htl : (flatOf Ord.cells (xs.take i)).length = i * 6 := by rw [flatOf_length Ord.k6, List.length_take, Nat.min_eq_left (by omega)]
  have hkk : (n : Int) + 1 - (i : Int) = ((n + 1 - i : Nat) : Int) := by omega
  have hik : i + (n + 1 - i) = n + 1 := by omega
  have hold : (Builtin.firstCells i0.size i (.slice (some ⟨b, 0, none⟩) i c)).run Tryd.prog w.drew = .ok (flatOf Ord.cells (xs.take i)).toArray w.drew := by
    rw [hzs]
    exact run_firstCells_some w.drew 6 i ⟨b, 0, none⟩ i c _ htl (fun j v hj => by
      rw [Addr.add_mid]
      exact range_of_rows Ord.k6 (by decide) (rows_take hr i) j v hj)
  obtain ⟨G, hG⟩ : ∃ G, G = grownCap w (n + 1) c 67 := ⟨_, rfl⟩
  have hGn : n + 1 ≤ G := by rw [hG]; exact grownCap_ge w _ _ _
  have hG63 : G ≤ maxLen := by rw [hG]; exact grownCap_le_maxLen w (n + 1) c 67 (by unfold maxLen; omega)
  obtain ⟨ROW, hROW⟩ : ∃ ROW : Array Value, ROW = (flatOf Ord.cells (xs.take i)).toArray ++ Builtin.zeroCells (Value.agg #[.int .i64 0, .int .i64 0, .bool false, .int .i64 0, .int .i64 0, .int .i64 0]).cells (n + 1 - i) ++ Builtin.zeroCells (Value.agg #[.int .i64 0, .int .i64 0, .bool false, .int .i64 0, .int .i64 0, .int .i64 0]).cells (G - (n + 1)) := ⟨_, rfl⟩
  obtain ⟨W1, hW1⟩ : ∃ W1, W1 = w.drew.alloc (.cells ROW 67) := ⟨_, rfl⟩
  have hrz : ∀ ty, (Builtin.append_ #[62, 3] ty #[.slice (some ⟨b, 0, none⟩) i c, .int .i64 ((n : Int) + 1 - (i : Int))]).run Tryd.prog w = .ok (.slice (some ⟨w.heap.size, 0, none⟩) (n + 1) G) W1 := fun ty => by
    have h := Lib.run_append_grow_zeros (P := Tryd.prog) w 62 3 ty 67 i0 _ .i64 .i64 Tryd.underlying62 Tryd.underlying3 hi0 hz0 (some ⟨b, 0, none⟩) i c _ hold (n + 1 - i) (by omega) (by rw [hzs]; decide) (by omega) (by omega) (by rw [hzb]; omega) (by rw [hzb, hik]; exact growslice_fits hroom (by omega))
    rw [hik, ← hG, ← hROW, ← hW1] at h
    rw [hkk]
    exact h
  have hRs : ROW.size = G * 6 := by
    have h6 : (Value.agg #[.int .i64 0, .int .i64 0, .bool false, .int .i64 0, .int .i64 0, .int .i64 0]).cells.size = 6 := rfl
    rw [hROW, Array.size_append, Array.size_append, zeros_size, zeros_size, h6, List.size_toArray, htl]
    omega
  have hN1 : W1.heap[w.heap.size]? = some (.cells ROW 67 (0, 0)) := by rw [hW1]; exact heap_alloc_new w.drew _
  have hth1 : W1.there w.heap.size 0 (G * 6) := there_of_block hN1 0 _ (by omega)
  have hb1 : Below w.heap.size w W1 := by rw [hW1]; exact (Below.refl _ w).drew.alloc (Nat.le_refl _) _
  have hlow : W1.rangeAt w.heap.size 0 (flatOf Ord.cells (xs.take i)) := fun j v hj => by
    rw [Nat.zero_add, cell_of_row W1 w.heap.size j _ 67 (0, 0) hN1, hROW]
    have hjl := (List.getElem?_eq_some_iff.1 hj).1
    rw [Array.append_assoc, Array.getElem?_append_left (by simpa using hjl)]
    simpa using hj
  obtain ⟨W2, hW2⟩ : ∃ W2, W2 = W1.setCells w.heap.size (i * 6) o.cells := ⟨_, rfl⟩
  have hcpA : ∀ ty dl dc, 0 < dl → (Builtin.copy_ #[62, 62] ty #[.slice (some ⟨w.heap.size, i * 6, none⟩) dl dc, .slice (some ⟨vb, 0, none⟩) 1 1]).run Tryd.prog W1 = .ok (goInt (Nat.min 1 dl)) W2 := fun ty dl dc hdp => by
    rw [hW2]
    refine run_copy_k W1 _ _ ty 67 6 w.heap.size (i * 6) dl dc ⟨vb, 0, none⟩ 1 1 o.cells Tryd.underlying62 size_ord (by simp only [Nat.min_def, Ord.k6]; split <;> omega) ?_ (there_sub hth1 (Nat.zero_le _) (by rw [Ord.k6]; omega)) (Ord.one o)
    intro j v hj
    rw [Addr.add_mid, Nat.zero_add, cell_of_row W1 vb j o.cells.toArray 67 (0, 0) ((hb1.block vb hvw).trans hv)]
    simpa using hj
  have hcpB : ∀ ty dc sc, (Builtin.copy_ #[62, 62] ty #[.slice (some ⟨w.heap.size, (i + 1) * 6, none⟩) (n - i) dc, .slice (some ⟨b, i * 6, none⟩) (n - i) sc]).run Tryd.prog W2.drew = .ok (goInt (Nat.min (n - i) (n - i))) (W2.drew.setCells w.heap.size ((i + 1) * 6) (flatOf Ord.cells (xs.drop i))) := fun ty dc sc => by
    refine run_copy_k W2.drew _ _ ty 67 6 w.heap.size ((i + 1) * 6) _ dc ⟨b, i * 6, none⟩ _ sc _ Tryd.underlying62 size_ord (by rw [hdl]; simp only [Nat.min_def]; split <;> omega) ?_ ?_ (flatOf_mem Ord.one _)
    · intro j v hj
      have h1 := cell_of_rows Ord.k6 (by decide) hr i j v hj
      rw [Nat.zero_add, Addr.add_mid] at h1
      rw [Addr.add_mid]
      show W2.cell? _ = _
      rw [hW2, World.cell?_setCells_out _ _ _ _ _ (fun h _ => absurd h (by show b ≠ _; omega))]
      exact (hb1.cell (p := ⟨b, i * 6 + j, none⟩) hbw).trans h1
    · refine there_sub (w := W2.drew) (o := 0) (n := G * 6) ?_ (Nat.zero_le _) (by rw [hdl]; omega)
      show W2.there _ _ _
      rw [hW2]
      exact World.there_setCells hth1 _ _ _
  have HFIN : Hid (InsG w n (xs.take i ++ o :: xs.drop i) (.returned (.slice (some ⟨w.heap.size, 0, none⟩) (n + 1) G)) (W2.drew.setCells w.heap.size ((i + 1) * 6) (flatOf Ord.cells (xs.drop i)))) := by
    have hrows := rows_insert2 (x := o) Ord.k6 (by decide) hlow hl (Nat.le_of_lt hi) (there_sub hth1 (Nat.le_refl _) (by omega))
    obtain ⟨cur2, hc2, hs2⟩ := setCells_blk (vs := o.cells) (o := i * 6) hN1
    rw [← hW2] at hrows hc2
    obtain ⟨cur3, hc3, hs3⟩ := setCells_blk (w := W2.drew) (vs := flatOf Ord.cells (xs.drop i)) (o := (i + 1) * 6) hc2
    refine ⟨G, cur3, rfl, hc3, by omega, hGn, hG63, (by rw [drew_setCells']; exact hrows), ?_⟩
    have hb2 : Below w.heap.size w W2 := by rw [hW2]; exact hb1.grown (grownBy_setCells _ _ _ _) hb1.size (fun k hk => by simp at hk; omega)
    exact hb2.drew.grown (grownBy_setCells _ _ _ _) hb2.size (fun k hk => by simp at hk; omega)
  have hz2 : ¬ ((i : Int) = (n : Int)) := by omega
  have hz3 : (c : Int) < (n : Int) + 1 := by omega
  have hb3 : (i : Int) ≤ (n : Int) := by omega
  have hin : i ≤ n := by omega
  have hdpos : 0 < n + 1 - i := by omega
  have ew : IntKind.i64.wrap ((i : Int) + 1) = (i : Int) + 1 := by rw [IntKind.wrap_i64]; omega
  have hbi : (0 : Int) ≤ (i : Int) + 1 := by omega
  have htn : ((i : Int) + 1).toNat = i + 1 := by omega
  have hin1 : i + 1 ≤ n + 1 := by omega
  have hci : ¬ (c = i) := by omega
  have hGi : ¬ (G = i) := by omega
  have hGi1 : ¬ (G = i + 1) := by omega
  unfold maxLen at hG63
  clear hW1 hth1 hb1 hlow hdl htl hr hv hl hroom hG hROW hRs hN1 hold hkk hik
  go_enter Tryd.func85, Tryd.ntmps85
  go_wp2_with (first
    | (at_builtin; refine Lib.wpList_append_run _ rfl _ _ _ _ rfl _ _ rfl rfl _ _ (hrz _) ?_)
    | (with_reducible refine Lib.wpList_copy_run _ rfl _ _ 62 62 rfl _ _ rfl rfl (hcpA _ _ _ hdpos) ?_))
  refine wp_region_noPanic ?_
  refine wp_region_held_drew (S := (fun _ => True)) (by kernel_rfl) trivial (fun hHeld => ?_)
  refine wpAnyH_take (i := 0) (v := ?_) rfl (by kernel_rfl) (by kernel_rfl) (by kernel_rfl) (fun _ _ _ h => h) (Or.inl ⟨by rfl, ?_⟩) hHeld ?_
  rotate_left
  focus
    intro w hSw
    clear hSw
    go_simp
    try with_reducible rfl
  try simp only [Act.put, List.getElem_toArray, List.getElem_cons_zero, List.getElem_cons_succ, List.setIfInBounds_toArray, List.set_cons_zero, List.set_cons_succ]
  refine wpAnyH_take (i := 1) (v := ?_) rfl (by kernel_rfl) (by kernel_rfl) (by kernel_rfl) (fun _ _ _ h => h) (Or.inl ⟨by rfl, ?_⟩) hHeld ?_
  rotate_left
  focus
    intro w hSw
    clear hSw
    go_simp
    try with_reducible rfl
  try simp only [Act.put, List.getElem_toArray, List.getElem_cons_zero, List.getElem_cons_succ, List.setIfInBounds_toArray, List.set_cons_zero, List.set_cons_succ]
  refine wpAnyH_take (i := 2) (v := ?_) rfl (by kernel_rfl) (by kernel_rfl) (by kernel_rfl) (fun _ _ _ h => h) (Or.inl ⟨by rfl, ?_⟩) hHeld ?_
  rotate_left
  focus
    intro w hSw
    clear hSw
    go_simp
    try with_reducible rfl
  try simp only [Act.put, List.getElem_toArray, List.getElem_cons_zero, List.getElem_cons_succ, List.setIfInBounds_toArray, List.set_cons_zero, List.set_cons_succ]
  refine wpAnyH_take (i := 3) (v := ?_) rfl (by kernel_rfl) (by kernel_rfl) (by kernel_rfl) (fun _ _ _ h => h) (Or.inl ⟨by rfl, ?_⟩) hHeld ?_
  rotate_left
  focus
    intro w hSw
    clear hSw
    go_simp
    try with_reducible rfl
  try simp only [Act.put, List.getElem_toArray, List.getElem_cons_zero, List.getElem_cons_succ, List.setIfInBounds_toArray, List.set_cons_zero, List.set_cons_succ]
  refine wpAnyH_take (i := 4) (v := ?_) rfl (by kernel_rfl) (by kernel_rfl) (by kernel_rfl) (fun _ _ _ h => h) (Or.inl ⟨by rfl, ?_⟩) hHeld ?_
  rotate_left
  focus
    intro w hSw
    clear hSw
    go_simp
    try with_reducible rfl
  try simp only [Act.put, List.getElem_toArray, List.getElem_cons_zero, List.getElem_cons_succ, List.setIfInBounds_toArray, List.set_cons_zero, List.set_cons_succ]
  refine wpAnyH_take (i := 5) (v := ?_) rfl (by kernel_rfl) (by kernel_rfl) (by kernel_rfl) (fun _ _ _ h => h) (Or.inl ⟨by rfl, ?_⟩) hHeld ?_
  rotate_left
  focus
    intro w hSw
    clear hSw
    go_simp
    try with_reducible rfl
  try simp only [Act.put, List.getElem_toArray, List.getElem_cons_zero, List.getElem_cons_succ, List.setIfInBounds_toArray, List.set_cons_zero, List.set_cons_succ]
  refine wpAnyH_take (i := 6) (v := ?_) rfl (by kernel_rfl) (by kernel_rfl) (by kernel_rfl) (fun _ _ _ h => h) (Or.inl ⟨by rfl, ?_⟩) hHeld ?_
  rotate_left
  focus
    intro w hSw
    clear hSw
    go_simp
    try with_reducible rfl
  try simp only [Act.put, List.getElem_toArray, List.getElem_cons_zero, List.getElem_cons_succ, List.setIfInBounds_toArray, List.set_cons_zero, List.set_cons_succ]
  refine wpAnyH_take (i := 7) (v := ?_) rfl (by kernel_rfl) (by kernel_rfl) (by kernel_rfl) (fun _ _ _ h => h) (Or.inl ⟨by rfl, ?_⟩) hHeld ?_
  rotate_left
  focus
    intro w hSw
    clear hSw
    go_simp
    try with_reducible rfl
  try simp only [Act.put, List.getElem_toArray, List.getElem_cons_zero, List.getElem_cons_succ, List.setIfInBounds_toArray, List.set_cons_zero, List.set_cons_succ]
  refine wpAnyH_ready (rs := [8]) (by kernel_rfl) (by simp) ?_
  refine AllReadyH.cons rfl (fun K hK => ?_) AllReadyH.nil
  rw [if_pos (by rfl)]
  refine Lib.wp_copy_run _ _ _ 62 62 rfl _ _ rfl rfl (hcpB _ _ _) ?_
  refine hK.out _ _ trivial (fun hHeld => ?_)
  clear hK K
  try simp only [Act.put, List.getElem_toArray, List.getElem_cons_zero, List.getElem_cons_succ, List.setIfInBounds_toArray, List.set_cons_zero, List.set_cons_succ]
  refine wpAnyH_done (by kernel_rfl) ?_ _
  refine NoPanic.normal ?_
  go_wp2_with fail
  go_ret
  exact HFIN.out

/-- What Insert leaves. -/
def InsQ (w : World) (base : Nat) (v : Value) (n : Nat) (l : List Ord) (e : Ending) (w' : World) : Prop := ∃ v', e = .returned v' ∧ w'.ownsRow base 67 6 v' (n + 1) (flatOf Ord.cells l) ∧ w.grownBy w' v.ownBlock ∧ (v'.ownBlock = v.ownBlock ∨ ∃ g, v'.ownBlock = some g ∧ w.heap.size ≤ g)
set_option maxRecDepth 100000 in
set_option maxHeartbeats 4000000 in
theorem insert_end (base vb : Nat) (v : Value) (n : Nat) (xs : List Ord) (o : Ord) (w : World) (hl : xs.length = n) (hown : Hid (w.ownsRow base 67 6 v n (flatOf Ord.cells xs))) (hn : n ≤ 100000) (hv : w.heap[vb]? = some (.cells o.cells.toArray 67 (0, 0))) (hbase : base ≤ w.heap.size) :
    Calls Tryd.prog 85 #[v, .int .i64 n, .slice (some ⟨vb, 0, none⟩) 1 1] w (InsQ w base v n (xs ++ [o])) := by
  obtain ⟨i0, hi0, hz0, hz1, hz2⟩ := info_parts info_ord
  have hnews : ∀ j u, o.cells[j]? = some u → w.cell? ((⟨vb, 0, none⟩ : Addr).add j) = some u := fun j u hj => by
    rw [Addr.add_mid, Nat.zero_add, cell_of_row w vb j o.cells.toArray 67 (0, 0) hv]
    simpa using hj
  have HN := Lib.hid hnews
  have HFIN : Hid (∀ g cap w', w'.ownsRow base 67 6 (.slice (some ⟨g, 0, none⟩) (n + 1) cap) (n + 1) (flatOf Ord.cells xs ++ o.cells) → w.grownBy w' v.ownBlock → (v.ownBlock = some g ∨ g = w.heap.size) → InsQ w base v n (xs ++ [o]) (.returned (.slice (some ⟨g, 0, none⟩) (n + 1) cap)) w') := fun g cap w' ho hg hlie => by
    refine ⟨_, rfl, by rw [flatOf_append, flatOf_one]; exact ho, hg, ?_⟩
    rcases hlie with h | h
    · exact .inl (by rw [h]; rfl)
    · exact .inr ⟨g, rfl, by omega⟩
  have HV := Lib.hid hv
  clear hnews hv
  rcases hown.out.2 with ⟨rfl, rfl⟩ | ⟨g, cap, cur, rfl, hbg, hblk, hnc, hcm, hcs, htk⟩
  · obtain rfl : xs = [] := List.eq_nil_of_length_eq_zero hl
    go_enter Tryd.func85, Tryd.ntmps85
    go_wp2_with (at_builtin; refine wpList_append_lies (w := w) rfl _ _ 62 rfl base 67 i0 (.agg #[.int .i64 0, .int .i64 0, .bool false, .int .i64 0, .int .i64 0, .int .i64 0]) 6 48 Tryd.underlying62 hi0 hz0 hz1 hz2 rfl (by decide) (.slice none 0 0) 0 _ rfl hown.out ⟨vb, 0, none⟩ 1 1 o.cells rfl rfl HN.out (Ord.one o) (by decide) (by decide) (by decide) hbase w.heap.size rfl ?_)
    intro g cap w' ho hg hlie hlt
    have HF := Lib.hid (HFIN.out g cap w' ho hg hlie)
    clear ho hg hlie hlt
    go_wp2_with fail
    go_ret
    exact HF.out
  · have hnl : n ≤ 100000 := hn
    have hcl : cap ≤ 9223372036854775807 := by unfold maxLen at hcm; omega
    have hm1 : n + 1 ≤ maxLen := by unfold maxLen; omega
    have hm2 : (n + 1) * 48 ≤ 140737488355328 := by omega
    clear hblk hbg hcm hcs htk
    by_cases hcn : cap = n
    · subst hcn
      go_enter Tryd.func85, Tryd.ntmps85
      go_wp2_with (at_builtin; refine wpList_append_lies (w := w) rfl _ _ 62 rfl base 67 i0 (.agg #[.int .i64 0, .int .i64 0, .bool false, .int .i64 0, .int .i64 0, .int .i64 0]) 6 48 Tryd.underlying62 hi0 hz0 hz1 hz2 rfl (by decide) _ _ _ rfl hown.out ⟨vb, 0, none⟩ 1 1 o.cells rfl rfl HN.out (Ord.one o) (by decide) hm1 hm2 hbase w.heap.size rfl ?_)
      intro g cap w' ho hg hlie hlt
      have HF := Lib.hid (HFIN.out g cap w' ho hg hlie)
      clear ho hg hlie hlt
      go_wp2_with fail
      go_ret
      exact HF.out
    · go_enter Tryd.func85, Tryd.ntmps85
      go_wp2_with (at_builtin; refine wpList_append_lies (w := w) rfl _ _ 62 rfl base 67 i0 (.agg #[.int .i64 0, .int .i64 0, .bool false, .int .i64 0, .int .i64 0, .int .i64 0]) 6 48 Tryd.underlying62 hi0 hz0 hz1 hz2 rfl (by decide) _ _ _ rfl hown.out ⟨vb, 0, none⟩ 1 1 o.cells rfl rfl HN.out (Ord.one o) (by decide) hm1 hm2 hbase w.heap.size rfl ?_)
      intro g cap w' ho hg hlie hlt
      have HF := Lib.hid (HFIN.out g cap w' ho hg hlie)
      clear ho hg hlie hlt
      go_wp2_with fail
      go_ret
      exact HF.out
theorem insert_ord (base vb : Nat) (v : Value) (n i : Nat) (xs : List Ord) (o : Ord) (w : World) (hl : xs.length = n) (hown : Hid (w.ownsRow base 67 6 v n (flatOf Ord.cells xs))) (hi : i ≤ n) (hn : n ≤ 100000) (hv : w.heap[vb]? = some (.cells o.cells.toArray 67 (0, 0))) (hne : v.ownBlock ≠ some vb) (hbase : base ≤ w.heap.size) :
    Calls Tryd.prog 85 #[v, .int .i64 i, .slice (some ⟨vb, 0, none⟩) 1 1] w (InsQ w base v n (xs.take i ++ o :: xs.drop i)) := by
  rcases Nat.lt_or_ge i n with hin | hin
  · obtain ⟨g, cap, cur, rfl, hnc, hcm, hbg, hblk, hcs, hrows⟩ := own_rows' Ord.k6 hown.out hl (by omega)
    have hlen : (xs.take i ++ o :: xs.drop i).length = n + 1 := by simp; omega
    by_cases hroom : n + 1 ≤ cap
    · refine (insert_shift g n cap i vb xs o cur w hin hroom hcm hl hblk hcs hrows hv (fun e => hne (by rw [e]; rfl))).mono ?_
      rintro e w' ⟨rfl, rfl⟩
      have hth : w.drew.there g 0 ((n + 1) * 6) := there_of_block (w := w.drew) hblk 0 _ (by omega)
      have hr2 := rows_insert (w := w.drew) (x := o) Ord.k6 (by decide) hrows hl (Nat.le_of_lt hin) hth
      obtain ⟨c2, h2, s2⟩ := setCells_blk (w := w.drew) (vs := flatOf Ord.cells (xs.drop i)) (o := (i + 1) * 6) hblk
      obtain ⟨c3, h3, s3⟩ := setCells_blk (vs := o.cells) (o := i * 6) h2
      exact ⟨_, rfl, own_of_rows Ord.k6 (by decide) hbg h3 (by omega) hroom hcm hlen hr2, grownBy_undrew (grownBy_trans (grownBy_setCells g _ _ _) (grownBy_setCells g _ _ _)), .inl rfl⟩
    · refine (insert_grow g n cap i vb xs o w hin hnc (by omega) hn hl (Array.getElem?_eq_some_iff.1 hblk).1 hrows hv).mono ?_
      rintro e w' ⟨G, c3, rfl, h3, s3, hG1, hG2, hr3, hb3⟩
      exact ⟨_, rfl, own_of_rows Ord.k6 (by decide) hbase h3 s3 hG1 hG2 hlen hr3, grown_of_below hb3 _, .inr ⟨_, rfl, Nat.le_refl _⟩⟩
  · obtain rfl : i = n := by omega
    have e1 : xs.take i ++ o :: xs.drop i = xs ++ [o] := by rw [List.take_of_length_le (by omega), List.drop_eq_nil_of_le (by omega)]
    rw [e1]
    exact insert_end base vb v i xs o w hl hown hn hv hbase
end Go.Proofs.YtdebldpmloignaaDoor
