/-
  book: the document's Add, Drop, Cut.
-/
import Derived.Test.YtdebldpmloignaaDoorBokT
namespace Go.Proofs.YtdebldpmloignaaDoor
open Go.RowKit
set_option linter.unusedVariables false
set_option linter.unusedSimpArgs false

theorem grownBy_unalloc13 {w w' : World} {r : Option Nat} {o : Obj} (h : (w.alloc o).grownBy w' r) : w.grownBy w' r := grownBy_trans (World.grownBy_alloc w o r) h
theorem RV.came' {w : World} {B u came : Nat} {L : List Ord} {v : Value} (h : RV w B u L v came) (z : Nat) : RV (w.setCell ⟨u, 1, none⟩ (.int .i64 z)) B u L v z ∧ RStep w (w.setCell ⟨u, 1, none⟩ (.int .i64 z)) B := by
  have hset : Turns (fun k => k = u) w (w.setCell ⟨u, 1, none⟩ (.int .i64 z)) := Turns.set (F := fun k => k = u) rfl
  refine ⟨⟨h.low, h.blk.set 1 _, hset.owns h.row (fun g hg e => h.notu (by rw [hg, e]))⟩, ?_, hset.size, fun k c t hk h1 h2 => hset.block k hk.lt (fun e => by subst e; exact h2 (hk.type_eq h.blk))⟩
  exact hset.below (by have := h.lt; have := h.low; omega) (fun k hk => by subst hk; exact h.low)
theorem RStep.setNew {w w1 : World} {B X i : Nat} {x : Value} (h : RStep w w1 B) (hX : w.heap.size ≤ X) (hB : B ≤ w.heap.size) : RStep w (w1.setCell ⟨X, i, none⟩ x) B := by
  have hset : Turns (fun k => k = X) w1 (w1.setCell ⟨X, i, none⟩ x) := Turns.set (F := fun k => k = X) rfl
  exact ⟨h.below.trans (hset.below (Nat.le_trans hB h.size) (fun k hk => by omega)), Nat.le_trans h.size hset.size, fun k c t hk h1 h2 => (hset.block k (Nat.lt_of_lt_of_le hk.lt h.size) (fun e => by have := hk.lt; omega)).trans (h.block k c t hk h1 h2)⟩
theorem RV.setNew {w : World} {B u came X i : Nat} {L : List Ord} {v x : Value} (h : RV w B u L v came) (hu : u ≠ X) (hv : v.ownBlock ≠ some X) : RV (w.setCell ⟨X, i, none⟩ x) B u L v came := by
  have hset : Turns (fun k => k = X) w (w.setCell ⟨X, i, none⟩ x) := Turns.set (F := fun k => k = X) rfl
  exact ⟨h.low, hset.blk h.blk hu, hset.owns h.row (fun g hg e => hv (by rw [hg, e]))⟩
theorem at_of_none {L : List Ord} {id : Int} (h : L.findIdx? (hasId id) = none) : idxOf (hasId id) L = -1 := idx_none h
theorem at_of_some {L : List Ord} {id : Int} {i : Nat} (h : L.findIdx? (hasId id) = some i) : idxOf (hasId id) L = i := idx_some h
set_option maxRecDepth 100000 in
set_option maxHeartbeats 1000000 in
theorem radd_err (B u : Nat) (L : List Ord) (v : Value) (came : Nat) (o : Ord) (w : World) (h : Hid (RV w B u L v came)) (hN : L.length ≤ 1000000) (hk : addR L o ≠ 0) :
    Calls Tryd.prog 58 #[.pointer (some ⟨u, 0, none⟩), .agg o.cells.toArray] w fun e w' => e = .returned (.int .i64 (addR L o)) ∧ Below w.heap.size w w' := by
  have hb0 : Below w.heap.size w (w.alloc (.cells o.cells.toArray 97)) := (Below.refl _ w).alloc (Nat.le_refl _) _
  have hsz0 : w.heap.size ≤ (w.alloc (.cells o.cells.toArray 97)).heap.size := hb0.size
  have HG := Lib.hid (rgood_c o (w.alloc (.cells o.cells.toArray 97)))
  have HF := Lib.hid (fun (w1 : World) (hb : Below w.heap.size w w1) => rat_c B u L v came o.id w1 (Lib.hid (h.out.below hb)) hN)
  have HB0 := Lib.hid hb0
  have HS0 := Lib.hid hsz0
  have hXlt : w.heap.size < (w.alloc (.cells o.cells.toArray 97)).heap.size := by simp
  have hX0 : (w.alloc (.cells o.cells.toArray 97)).heap[w.heap.size]? = some (.cells o.cells.toArray 97 (0, 0)) := heap_alloc_new w _
  have HX0 := Lib.hid hX0
  have HXLT := Lib.hid hXlt
  have HV := Lib.hid (fun (w1 : World) (hb : Below w.heap.size w w1) => h.out.below hb)
  by_cases hg : Ord.good o = false
  · have hkk : addR L o = 1 := by unfold addR; rw [if_pos hg]
    rw [hkk]
    rw [hg] at HG
    clear hkk hk hg h hN hb0 hsz0 hX0 hXlt
    obtain ⟨id, tenant, sell, price, lots, seq⟩ := o
    simp only [Ord.cells] at *
    go_enter Tryd.func58, Tryd.ntmps58
    go_wp2_with fail
    refine HG.out.mono ?_
    rintro e w1 ⟨rfl, hb1⟩
    have hx1 := (hb1.block w.heap.size HXLT.out).trans HX0.out
    have HB1 := Lib.hid (HB0.out.trans (hb1.mono HS0.out))
    have x0 := Blk.cell hx1 0 _ rfl
    clear hb1 hx1
    go_wp2_with fail
    go_ret
    exact ⟨rfl, HB1.out⟩
  · have hg1 : Ord.good o = true := by simpa using hg
    rw [hg1] at HG
    cases hf : L.findIdx? (hasId o.id) with
    | some i =>
      have hkk : addR L o = 6 := by unfold addR; rw [if_neg hg, hf, if_pos (by rfl)]
      rw [hkk]
      rw [at_of_some hf] at HF
      clear hkk hk hg hg1 hf h hN hb0 hsz0 hX0 hXlt
      obtain ⟨id, tenant, sell, price, lots, seq⟩ := o
      simp only [Ord.cells] at *
      go_enter Tryd.func58, Tryd.ntmps58
      go_wp2_with fail
      refine HG.out.mono ?_
      rintro e w1 ⟨rfl, hb1⟩
      have hx1 := (hb1.block w.heap.size HXLT.out).trans HX0.out
      have HB1 := Lib.hid (HB0.out.trans (hb1.mono HS0.out))
      have x0 := Blk.cell hx1 0 _ rfl
      clear hb1 hx1
      go_wp2_with fail
      refine (HF.out w1 HB1.out).mono ?_
      rintro e w2 ⟨rfl, rfl⟩
      go_wp2_with fail
      go_ret
      exact ⟨rfl, HB1.out⟩
    | none =>
      by_cases hfull : 32 ≤ L.length
      · have hkk : addR L o = 7 := by unfold addR; rw [if_neg hg, hf, if_neg (by simp), if_pos hfull]
        rw [hkk]
        rw [at_of_none hf] at HF
        clear hkk hk hg hg1 hf h hb0 hsz0 hX0 hXlt
        obtain ⟨id, tenant, sell, price, lots, seq⟩ := o
        simp only [Ord.cells] at *
        go_enter Tryd.func58, Tryd.ntmps58
        go_wp2_with fail
        refine HG.out.mono ?_
        rintro e w1 ⟨rfl, hb1⟩
        have hx1 := (hb1.block w.heap.size HXLT.out).trans HX0.out
        have HB1 := Lib.hid (HB0.out.trans (hb1.mono HS0.out))
        have x0 := Blk.cell hx1 0 _ rfl
        obtain ⟨A, c, hv, _, cq, _, _⟩ := (HV.out w1 HB1.out).form
        clear hb1 hx1 hv
        go_wp2_with fail
        refine (HF.out w1 HB1.out).mono ?_
        rintro e w2 ⟨rfl, rfl⟩
        go_wp2_with fail
        go_ret
        exact ⟨rfl, HB1.out⟩
      · exact absurd (by unfold addR; rw [if_neg hg, hf, if_neg (by simp), if_neg hfull]) hk
set_option maxRecDepth 100000 in
set_option maxHeartbeats 4000000 in
theorem radd_ok (B u : Nat) (L : List Ord) (v : Value) (came : Nat) (o : Ord) (w : World) (hB : B ≤ w.heap.size) (h : Hid (RV w B u L v came)) (hN : L.length ≤ 1000) (hc : came ≤ 1000000) (hk : addR L o = 0) :
    Calls Tryd.prog 58 #[.pointer (some ⟨u, 0, none⟩), .agg o.cells.toArray] w fun e w' => e = .returned (.int .i64 0) ∧ ∃ v', RV w' B u (L ++ [o.at (came + 1)]) v' (came + 1) ∧ RStep w w' B := by
  obtain ⟨i0, hi, hz0, hz1, hz2⟩ := info_parts info_ror
  have hb0 : Below w.heap.size w (w.alloc (.cells o.cells.toArray 97)) := (Below.refl _ w).alloc (Nat.le_refl _) _
  have hsz0 : w.heap.size ≤ (w.alloc (.cells o.cells.toArray 97)).heap.size := hb0.size
  have HG := Lib.hid (rgood_c o (w.alloc (.cells o.cells.toArray 97)))
  have HF := Lib.hid (fun (w1 : World) (hb : Below w.heap.size w w1) => rat_c B u L v came o.id w1 (Lib.hid (h.out.below hb)) (by omega))
  have HB0 := Lib.hid hb0
  have HS0 := Lib.hid hsz0
  have hXlt : w.heap.size < (w.alloc (.cells o.cells.toArray 97)).heap.size := by simp
  have hX0 : (w.alloc (.cells o.cells.toArray 97)).heap[w.heap.size]? = some (.cells o.cells.toArray 97 (0, 0)) := heap_alloc_new w _
  have HX0 := Lib.hid hX0
  have HXLT := Lib.hid hXlt
  have hg1 : Ord.good o = true := by
    cases hg : Ord.good o with
    | true => rfl
    | false => unfold addR at hk; rw [if_pos hg] at hk; cases hk
  have hf : L.findIdx? (hasId o.id) = none := by
    cases hf : L.findIdx? (hasId o.id) with
    | none => rfl
    | some p => unfold addR at hk; rw [if_neg (by rw [hg1]; simp), hf, if_pos (by rfl)] at hk; cases hk
  have hfull : ¬ 32 ≤ L.length := fun h1 => by
    unfold addR at hk
    rw [if_neg (by rw [hg1]; simp), hf, if_neg (by simp), if_pos h1] at hk
    cases hk
  rw [hg1] at HG
  rw [at_of_none hf] at HF
  obtain ⟨A, c, hvv, _, _, _, _⟩ := h.out.form
  subst hvv
  obtain ⟨came2, hc2⟩ : ∃ z : Int, z = (came : Int) + 1 := ⟨_, rfl⟩
  have HC2 : Hid (came2 = ((came + 1 : Nat) : Int)) := by show _ = _; omega
  have HCC := Lib.hid hc2
  have hcc : (came : Int) ≤ 1000000 := by omega
  clear hk hg1 hf hb0 hsz0 hX0 hXlt hc hc2
  obtain ⟨id, tenant, sell, price, lots, seq⟩ := o
  simp only [Ord.cells] at *
  go_enter Tryd.func58, Tryd.ntmps58
  go_wp2_with fail
  refine HG.out.mono ?_
  rintro e w1 ⟨rfl, hb1⟩
  have hx1 : Blk w1 w.heap.size _ _ := (hb1.block w.heap.size HXLT.out).trans HX0.out
  have HB1 := Lib.hid (HB0.out.trans (hb1.mono HS0.out))
  have hv1 := h.out.below HB1.out
  have x0 := Blk.cell hx1 0 _ rfl
  have xf := Blk.free hx1 5
  have xc := Blk.cell hx1 5 _ rfl
  have cq : w1.cell? ⟨u, 0, none⟩ = some (.slice A L.length c) := hv1.blk.cell 0 _ rfl
  have cu : w1.cell? ⟨u, 1, none⟩ = some (.int .i64 came) := hv1.blk.cell 1 _ rfl
  have fu := hv1.blk.free 1
  have huX : ¬ u = w.heap.size := by have := h.out.lt; omega
  have huX2 : ¬ w.heap.size = u := fun e => huX e.symm
  have hfull' : ¬ (32 : Int) ≤ (L.length : Int) := by omega
  have HX1 := Lib.hid hx1
  have HV1 := Lib.hid hv1
  clear hb1 hx1 hv1
  go_wp2_with fail
  refine (HF.out w1 HB1.out).mono ?_
  rintro e w2 ⟨rfl, rfl⟩
  go_wp2_with fail
  rw [← HCC.out]
  obtain ⟨W4, hW4⟩ : ∃ W4, W4 = (w1.setCell ⟨u, 1, none⟩ (.int .i64 came2)).setCell ⟨w.heap.size, 5, none⟩ (.int .i64 came2) := ⟨_, rfl⟩
  have hst := HV1.out.came' (came + 1)
  rw [← HC2.out] at hst
  have hvX : (Value.slice A L.length c).ownBlock ≠ some w.heap.size := fun e => by have := (h.out.row.lt _ e).2; omega
  have HV4 : Hid (RV W4 B u L (.slice A L.length c) (came + 1)) := by
    show RV _ _ _ _ _ _
    rw [hW4]
    exact hst.1.setNew huX hvX
  have HS4 : Hid (RStep w W4 B) := by
    show RStep _ _ _
    rw [hW4]
    exact ((RStep.ofBelow hB HB1.out).trans hst.2).setNew (Nat.le_refl _) hB
  have rX : W4.rangeAt w.heap.size 0 [.int .i64 id, .int .i64 tenant, .bool sell, .int .i64 price, .int .i64 lots, .int .i64 came2] := fun j x hj => by
    rw [hW4, Nat.zero_add]
    have h1 : Blk (w1.setCell ⟨u, 1, none⟩ (.int .i64 came2)) w.heap.size #[.int .i64 id, .int .i64 tenant, .bool sell, .int .i64 price, .int .i64 lots, .int .i64 seq] 97 := (Turns.set (F := fun k => k = u) rfl).blk HX1.out huX2
    exact (h1.set 5 (.int .i64 came2)).cell j x (by simpa using hj)
  have hrow : W4.drew.ownsRow B 97 6 (.slice A L.length c) L.length (flatOf Ord.cells L) := HV4.out.row
  have hszB : B ≤ W4.heap.size := Nat.le_trans hB HS4.out.size
  have HU4 : Hid (u < W4.heap.size) := HV4.out.lt
  have HUX : Hid (u ≠ w.heap.size) := huX
  have HXN : Hid (some w.heap.size ≠ (Value.slice A L.length c).ownBlock) := fun e => hvX e.symm
  have HUN : Hid (some u ≠ (Value.slice A L.length c).ownBlock) := fun e => h.out.notu e.symm
  have HPUSH : Hid (∀ w2 na nc, W4.grownBy w2 (Value.slice A L.length c).ownBlock → w2.ownsRow B 97 6 (.slice na (L.length + 1) nc) (L.length + 1) (flatOf Ord.cells L ++ [.int .i64 id, .int .i64 tenant, .bool sell, .int .i64 price, .int .i64 lots, .int .i64 came2]) → ∃ v', RV (w2.setCell ⟨u, 0, none⟩ (.slice na (L.length + 1) nc)) B u (L ++ [Ord.at ⟨id, tenant, sell, price, lots, seq⟩ (came + 1)]) v' (came + 1) ∧ RStep w (w2.setCell ⟨u, 0, none⟩ (.slice na (L.length + 1) nc)) B) := fun w2 na nc hg ho => by
    have hy : (Ord.at ⟨id, tenant, sell, price, lots, seq⟩ (came + 1)).cells = [.int .i64 id, .int .i64 tenant, .bool sell, .int .i64 price, .int .i64 lots, .int .i64 came2] := by unfold Ord.at Ord.cells; rw [HC2.out]
    obtain ⟨h1, h2⟩ := HV4.out.put (L2 := L ++ [Ord.at ⟨id, tenant, sell, price, lots, seq⟩ (came + 1)]) hg (by rw [List.length_append, flatOf_append, flatOf_one, hy]; exact ho)
    exact ⟨_, h1, HS4.out.trans h2⟩
  have cq : W4.drew.cell? ⟨u, 0, none⟩ = some (.slice A L.length c) := HV4.out.blk.cell 0 _ rfl
  have fq : W4.drew.frozen? ⟨u, 0, none⟩ = false := HV4.out.blk.free 0
  rw [← hW4]
  clear hW4 hst hvX h HG HF HB0 HS0 HX0 HXLT HX1 HV1 x0 xf xc cu fu HB1 hcc HC2 HCC huX huX2
  refine wp_region_noPanic ?_
  refine wp_region_held_drew (S := (fun w' => w'.rangeAt w.heap.size 0 [.int .i64 id, .int .i64 tenant, .bool sell, .int .i64 price, .int .i64 lots, .int .i64 came2])) (by kernel_rfl) rX (fun hHeld => ?_)
  refine wpAnyH_take (i := 0) (v := ?_) rfl (by kernel_rfl) (by kernel_rfl) (by kernel_rfl) (fun _ _ _ h => h) (Or.inl ⟨by rfl, ?_⟩) hHeld ?_
  rotate_left
  focus
    intro w hSw
    clear hSw
    go_simp
    try with_reducible rfl
  try simp only [Act.put, List.getElem_toArray, List.getElem_cons_zero, List.getElem_cons_succ, List.setIfInBounds_toArray, List.set_cons_zero, List.set_cons_succ]
  refine wpAnyH_take (i := 1) (v := ?_) rfl (by kernel_rfl) (by kernel_rfl) (by kernel_rfl) (fun _ _ _ h => h) (Or.inl ⟨by rfl, ?_⟩) hHeld ?_
  rotate_left
  focus
    intro w hSw
    clear hSw
    go_simp
    try with_reducible rfl
  try simp only [Act.put, List.getElem_toArray, List.getElem_cons_zero, List.getElem_cons_succ, List.setIfInBounds_toArray, List.set_cons_zero, List.set_cons_succ]
  refine wpAnyH_take (i := 2) (v := ?_) rfl (by kernel_rfl) (by kernel_rfl) (by kernel_rfl) (fun _ _ _ h => h) (Or.inl ⟨by rfl, ?_⟩) hHeld ?_
  rotate_left
  focus
    intro w hSw
    clear hSw
    go_simp
    try with_reducible rfl
  try simp only [Act.put, List.getElem_toArray, List.getElem_cons_zero, List.getElem_cons_succ, List.setIfInBounds_toArray, List.set_cons_zero, List.set_cons_succ]
  refine wpAnyH_take (i := 3) (v := ?_) rfl (by kernel_rfl) (by kernel_rfl) (by kernel_rfl) (fun _ _ _ h => h) (Or.inl ⟨by rfl, ?_⟩) hHeld ?_
  rotate_left
  focus
    intro w hSw
    clear hSw
    go_simp
    try with_reducible rfl
  try simp only [Act.put, List.getElem_toArray, List.getElem_cons_zero, List.getElem_cons_succ, List.setIfInBounds_toArray, List.set_cons_zero, List.set_cons_succ]
  refine wpAnyH_take (i := 5) rfl (by kernel_rfl) (by kernel_rfl) (by kernel_rfl) (fun _ _ _ h => h) (yieldsIf_load_mid (by rfl) 97 _ rfl w.heap.size (0) rfl [.int .i64 id, .int .i64 tenant, .bool sell, .int .i64 price, .int .i64 lots, .int .i64 came2] _ (fun w h => h) Tryd.underlying97 rfl size_ror) hHeld ?_
  try simp only [Act.put, List.getElem_toArray, List.getElem_cons_zero, List.getElem_cons_succ, List.setIfInBounds_toArray, List.set_cons_zero, List.set_cons_succ]
  refine wpAnyH_ready (rs := [4, 6]) (by kernel_rfl) (by simp) ?_
  refine AllReadyH.cons rfl (fun K hK => ?_) (AllReadyH.cons rfl (fun K hK => ?_) AllReadyH.nil)
  · go_simp
    refine hK.out _ _ rX (fun hHeld => ?_)
    clear hK K
    try simp only [Act.put, List.getElem_toArray, List.getElem_cons_zero, List.getElem_cons_succ, List.setIfInBounds_toArray, List.set_cons_zero, List.set_cons_succ]
    refine wpAnyH_ready (rs := [6]) (by kernel_rfl) (by simp) ?_
    refine AllReadyH.cons rfl (fun K hK => ?_) AllReadyH.nil
    go_simp
    have rX : (W4.drew.alloc (.cells #[.int .i64 id, .int .i64 tenant, .bool sell, .int .i64 price, .int .i64 lots, .int .i64 came2] 97)).rangeAt w.heap.size 0 [.int .i64 id, .int .i64 tenant, .bool sell, .int .i64 price, .int .i64 lots, .int .i64 came2] := World.rangeAt_alloc (w := W4.drew) rX (.cells #[.int .i64 id, .int .i64 tenant, .bool sell, .int .i64 price, .int .i64 lots, .int .i64 came2] 97)
    have cqa : (W4.alloc (.cells #[.int .i64 id, .int .i64 tenant, .bool sell, .int .i64 price, .int .i64 lots, .int .i64 came2] 97)).cell? ⟨u, 0, none⟩ = some (.slice A L.length c) := Lib.cell?_alloc_some (W := W4) (.cells #[.int .i64 id, .int .i64 tenant, .bool sell, .int .i64 price, .int .i64 lots, .int .i64 came2] 97) cq
    refine hK.out _ _ rX (fun hHeld => ?_)
    clear hK K
    try simp only [Act.put, List.getElem_toArray, List.getElem_cons_zero, List.getElem_cons_succ, List.setIfInBounds_toArray, List.set_cons_zero, List.set_cons_succ]
    refine wpAnyH_ready (rs := [7]) (by kernel_rfl) (by simp) ?_
    refine AllReadyH.cons rfl (fun K hK => ?_) AllReadyH.nil
    rw [if_pos (by rfl)]
    refine wp_append_own _ _ _ 92 rfl B 97 i0 (.agg #[.int .i64 0, .int .i64 0, .bool false, .int .i64 0, .int .i64 0, .int .i64 0]) 6 48 Tryd.underlying92 hi hz0 hz1 hz2 rfl (by decide) (.slice A L.length c) L.length (flatOf Ord.cells L) rfl (hrow.alloc _) ⟨W4.heap.size, 0, none⟩ 1 1 [.int .i64 id, .int .i64 tenant, .bool sell, .int .i64 price, .int .i64 lots, .int .i64 came2] rfl rfl ?hnews (by simp [Value.oneCell']) (by unfold maxLen; omega) (by omega) (by simp; omega) ?_
    case hnews =>
      intro j u hj
      have hadd : (⟨W4.heap.size, 0, none⟩ : Addr).add j = ⟨W4.heap.size, j, none⟩ := by unfold Addr.add; split <;> simp_all
      rw [hadd]
      exact (World.cell?_alloc_new W4.drew _ _ j).trans (by simpa using hj)
    intro v' w2 hown2 hg2 hnil
    have hg2' : W4.grownBy w2 (Value.slice A L.length c).ownBlock := grownBy_undrew (grownBy_trans (World.grownBy_alloc W4.drew (.cells #[.int .i64 id, .int .i64 tenant, .bool sell, .int .i64 price, .int .i64 lots, .int .i64 came2] 97) _) hg2)
    obtain ⟨na, nc, rfl⟩ := own_len hown2
    have rX := rangeAt_grown rX hg2 HXN.out
    have cq2 := hg2'.cell cq HUN.out
    have fq2 : w2.frozen? ⟨u, 0, none⟩ = false := (hg2'.frozen_far ⟨u, 0, none⟩ HU4.out HUN.out).trans fq
    have HFIN := Lib.hid (HPUSH.out w2 na nc hg2' hown2)
    clear hown2 hg2 hg2' hnil
    refine hK.out _ _ rX (fun hHeld => ?_)
    clear hK K
    try simp only [Act.put, List.getElem_toArray, List.getElem_cons_zero, List.getElem_cons_succ, List.setIfInBounds_toArray, List.set_cons_zero, List.set_cons_succ]
    refine wpAnyH_take (i := 8) (v := ?_) rfl (by kernel_rfl) (by kernel_rfl) (by kernel_rfl) (fun _ _ _ h => h) (Or.inl ⟨by rfl, ?_⟩) hHeld ?_
    rotate_left
    focus
      intro w hSw
      clear hSw
      go_simp
      try with_reducible rfl
    try simp only [Act.put, List.getElem_toArray, List.getElem_cons_zero, List.getElem_cons_succ, List.setIfInBounds_toArray, List.set_cons_zero, List.set_cons_succ]
    refine wpAnyH_take (i := 9) (v := ?_) rfl (by kernel_rfl) (by kernel_rfl) (by kernel_rfl) (fun _ _ _ h => h) (Or.inl ⟨by rfl, ?_⟩) hHeld ?_
    rotate_left
    focus
      intro w hSw
      clear hSw
      go_simp
      try with_reducible rfl
    try simp only [Act.put, List.getElem_toArray, List.getElem_cons_zero, List.getElem_cons_succ, List.setIfInBounds_toArray, List.set_cons_zero, List.set_cons_succ]
    refine wpAnyH_ready (rs := [10]) (by kernel_rfl) (by simp) ?_
    refine AllReadyH.cons rfl (fun K hK => ?_) AllReadyH.nil
    go_simp
    refine hK.out _ _ (fun j x hj => (World.cell?_setCell_far _ _ _ _ HUX.out).trans (rX j x hj)) (fun hHeld => ?_)
    clear hK K
    try simp only [Act.put, List.getElem_toArray, List.getElem_cons_zero, List.getElem_cons_succ, List.setIfInBounds_toArray, List.set_cons_zero, List.set_cons_succ]
    refine wpAnyH_done (by kernel_rfl) ?_ _
    refine NoPanic.normal ?_
    go_wp2_with fail
    go_ret
    exact ⟨rfl, HFIN.out⟩
  · go_simp
    have rX : (W4.drew.alloc (.cells #[.int .i64 id, .int .i64 tenant, .bool sell, .int .i64 price, .int .i64 lots, .int .i64 came2] 97)).rangeAt w.heap.size 0 [.int .i64 id, .int .i64 tenant, .bool sell, .int .i64 price, .int .i64 lots, .int .i64 came2] := World.rangeAt_alloc (w := W4.drew) rX (.cells #[.int .i64 id, .int .i64 tenant, .bool sell, .int .i64 price, .int .i64 lots, .int .i64 came2] 97)
    have cqa : (W4.alloc (.cells #[.int .i64 id, .int .i64 tenant, .bool sell, .int .i64 price, .int .i64 lots, .int .i64 came2] 97)).cell? ⟨u, 0, none⟩ = some (.slice A L.length c) := Lib.cell?_alloc_some (W := W4) (.cells #[.int .i64 id, .int .i64 tenant, .bool sell, .int .i64 price, .int .i64 lots, .int .i64 came2] 97) cq
    refine hK.out _ _ rX (fun hHeld => ?_)
    clear hK K
    try simp only [Act.put, List.getElem_toArray, List.getElem_cons_zero, List.getElem_cons_succ, List.setIfInBounds_toArray, List.set_cons_zero, List.set_cons_succ]
    refine wpAnyH_ready (rs := [4]) (by kernel_rfl) (by simp) ?_
    refine AllReadyH.cons rfl (fun K hK => ?_) AllReadyH.nil
    go_simp
    refine hK.out _ _ rX (fun hHeld => ?_)
    clear hK K
    try simp only [Act.put, List.getElem_toArray, List.getElem_cons_zero, List.getElem_cons_succ, List.setIfInBounds_toArray, List.set_cons_zero, List.set_cons_succ]
    refine wpAnyH_ready (rs := [7]) (by kernel_rfl) (by simp) ?_
    refine AllReadyH.cons rfl (fun K hK => ?_) AllReadyH.nil
    rw [if_pos (by rfl)]
    refine wp_append_own _ _ _ 92 rfl B 97 i0 (.agg #[.int .i64 0, .int .i64 0, .bool false, .int .i64 0, .int .i64 0, .int .i64 0]) 6 48 Tryd.underlying92 hi hz0 hz1 hz2 rfl (by decide) (.slice A L.length c) L.length (flatOf Ord.cells L) rfl (hrow.alloc _) ⟨W4.heap.size, 0, none⟩ 1 1 [.int .i64 id, .int .i64 tenant, .bool sell, .int .i64 price, .int .i64 lots, .int .i64 came2] rfl rfl ?hnews (by simp [Value.oneCell']) (by unfold maxLen; omega) (by omega) (by simp; omega) ?_
    case hnews =>
      intro j u hj
      have hadd : (⟨W4.heap.size, 0, none⟩ : Addr).add j = ⟨W4.heap.size, j, none⟩ := by unfold Addr.add; split <;> simp_all
      rw [hadd]
      exact (World.cell?_alloc_new W4.drew _ _ j).trans (by simpa using hj)
    intro v' w2 hown2 hg2 hnil
    have hg2' : W4.grownBy w2 (Value.slice A L.length c).ownBlock := grownBy_undrew (grownBy_trans (World.grownBy_alloc W4.drew (.cells #[.int .i64 id, .int .i64 tenant, .bool sell, .int .i64 price, .int .i64 lots, .int .i64 came2] 97) _) hg2)
    obtain ⟨na, nc, rfl⟩ := own_len hown2
    have rX := rangeAt_grown rX hg2 HXN.out
    have cq2 := hg2'.cell cq HUN.out
    have fq2 : w2.frozen? ⟨u, 0, none⟩ = false := (hg2'.frozen_far ⟨u, 0, none⟩ HU4.out HUN.out).trans fq
    have HFIN := Lib.hid (HPUSH.out w2 na nc hg2' hown2)
    clear hown2 hg2 hg2' hnil
    refine hK.out _ _ rX (fun hHeld => ?_)
    clear hK K
    try simp only [Act.put, List.getElem_toArray, List.getElem_cons_zero, List.getElem_cons_succ, List.setIfInBounds_toArray, List.set_cons_zero, List.set_cons_succ]
    refine wpAnyH_take (i := 8) (v := ?_) rfl (by kernel_rfl) (by kernel_rfl) (by kernel_rfl) (fun _ _ _ h => h) (Or.inl ⟨by rfl, ?_⟩) hHeld ?_
    rotate_left
    focus
      intro w hSw
      clear hSw
      go_simp
      try with_reducible rfl
    try simp only [Act.put, List.getElem_toArray, List.getElem_cons_zero, List.getElem_cons_succ, List.setIfInBounds_toArray, List.set_cons_zero, List.set_cons_succ]
    refine wpAnyH_take (i := 9) (v := ?_) rfl (by kernel_rfl) (by kernel_rfl) (by kernel_rfl) (fun _ _ _ h => h) (Or.inl ⟨by rfl, ?_⟩) hHeld ?_
    rotate_left
    focus
      intro w hSw
      clear hSw
      go_simp
      try with_reducible rfl
    try simp only [Act.put, List.getElem_toArray, List.getElem_cons_zero, List.getElem_cons_succ, List.setIfInBounds_toArray, List.set_cons_zero, List.set_cons_succ]
    refine wpAnyH_ready (rs := [10]) (by kernel_rfl) (by simp) ?_
    refine AllReadyH.cons rfl (fun K hK => ?_) AllReadyH.nil
    go_simp
    refine hK.out _ _ (fun j x hj => (World.cell?_setCell_far _ _ _ _ HUX.out).trans (rX j x hj)) (fun hHeld => ?_)
    clear hK K
    try simp only [Act.put, List.getElem_toArray, List.getElem_cons_zero, List.getElem_cons_succ, List.setIfInBounds_toArray, List.set_cons_zero, List.set_cons_succ]
    refine wpAnyH_done (by kernel_rfl) ?_ _
    refine NoPanic.normal ?_
    go_wp2_with fail
    go_ret
    exact ⟨rfl, HFIN.out⟩
end Go.Proofs.YtdebldpmloignaaDoor
