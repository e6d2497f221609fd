/-
  book: the document's book: what a step may turn.
-/
import Derived.Test.YtdebldpmloignaaDoorBkc
namespace Go.Proofs.YtdebldpmloignaaDoor
open Go.RowKit
set_option linter.unusedVariables false
set_option linter.unusedSimpArgs false

/-- A step of the document's book that turns the book's own blocks alone. -/
structure RTn (w w' : World) (B u : Nat) (v : Value) : Prop where
  old : RStep w w' B
  turns : Turns (fun k => k = u ∨ v.ownBlock = some k) w w'
structure RTo (w w' : World) (B u : Nat) (v v' : Value) : Prop where
  old : RStep w w' B
  turns : Turns (fun k => k = u ∨ v.ownBlock = some k) w w'
  own : ∀ k, v'.ownBlock = some k → v.ownBlock = some k ∨ w.heap.size ≤ k
section
variable {w w' w1 : World} {B u X : Nat} {v v' v2 : Value}
theorem RTn.ofBelow (hB : B ≤ w.heap.size) (h : Below w.heap.size w w') : RTn w w' B u v := ⟨RStep.ofBelow hB h, Turns.of_below h⟩
theorem RTo.ofBelow (hB : B ≤ w.heap.size) (h : Below w.heap.size w w') : RTo w w' B u v v := ⟨RStep.ofBelow hB h, Turns.of_below h, fun k hk => .inl hk⟩
theorem RTn.trans (h : RTn w w' B u v) (k : RTn w' w1 B u v) : RTn w w1 B u v := ⟨h.old.trans k.old, h.turns.trans k.turns (fun _ _ h => h)⟩
theorem RTo.trans (h : RTo w w' B u v v') (k : RTo w' w1 B u v' v2) : RTo w w1 B u v v2 :=
  ⟨h.old.trans k.old, h.turns.trans k.turns (fun n hn hf => by
    rcases hf with e | e
    · exact .inl e
    · rcases h.own n e with e | e
      · exact .inr e
      · omega), fun n hn => by
    rcases k.own n hn with e | e
    · exact h.own n e
    · exact .inr (Nat.le_trans h.turns.size e)⟩
theorem RTn.setNew {i : Nat} {x : Value} (h : RTn w w1 B u v) (hX : w.heap.size ≤ X) (hB : B ≤ w.heap.size) : RTn w (w1.setCell ⟨X, i, none⟩ x) B u v :=
  ⟨h.old.setNew hX hB, h.turns.trans (Turns.set (F := fun k => k = X) rfl) (fun k hk e => by omega)⟩
theorem RTo.setRow {cs : Array Value} (h : RTo w w1 B u v v') (hX : w.heap.size ≤ X) (hB : B ≤ w.heap.size) : RTo w (w1.setRow X cs) B u v v' :=
  ⟨h.old.setRow hX hB, h.turns.trans (rturns_setRow w1 X cs) (fun k hk e => by omega), h.own⟩
theorem RTo.drew (h : RTo w w' B u v v') : RTo w w'.drew B u v v' := ⟨h.old.drew, h.turns.drew, h.own⟩
theorem RV.put2 {w w2 : World} {B u came : Nat} {L L2 : List Ord} {v nv : Value} (h : RV w B u L v came) (hg : w.grownBy w2 v.ownBlock) (hown : w2.ownsRow B 97 6 nv L2.length (flatOf Ord.cells L2)) :
    RV (w2.setCell ⟨u, 0, none⟩ nv) B u L2 nv came ∧ RTn w (w2.setCell ⟨u, 0, none⟩ nv) B u v :=
  ⟨(h.put hg hown).1, (h.put hg hown).2, ((Turns.of_grown hg).mono (fun k _ hk => .inr hk)).trans (Turns.set (F := fun k => k = u) rfl) (fun k _ hk => .inl hk)⟩
theorem RV.putO {w w2 : World} {B u came b : Nat} {L L2 : List Ord} {v nv : Value} (h : RV w B u L v came) (hg : w.grownBy w2 v.ownBlock) (hB : B ≤ b) (hb : w.heap.size ≤ b) (hown : w2.ownsRow b 97 6 nv L2.length (flatOf Ord.cells L2)) :
    RV (w2.setCell ⟨u, 0, none⟩ nv) B u L2 nv came ∧ RTo w (w2.setCell ⟨u, 0, none⟩ nv) B u v nv :=
  ⟨(h.put2 hg (hown.mono hB)).1, (h.put2 hg (hown.mono hB)).2.old, (h.put2 hg (hown.mono hB)).2.turns, fun k hk => .inr (Nat.le_trans hb (hown.lt k hk).1)⟩
theorem RV.came2 {w : World} {B u came : Nat} {L : List Ord} {v : Value} (h : RV w B u L v came) (z : Nat) : RV (w.setCell ⟨u, 1, none⟩ (.int .i64 z)) B u L v z ∧ RTn w (w.setCell ⟨u, 1, none⟩ (.int .i64 z)) B u v :=
  ⟨(h.came' z).1, (h.came' z).2, Turns.set (F := fun k => k = u ∨ v.ownBlock = some k) (.inl rfl)⟩
theorem RV.setLots2 {w : World} {B u g cap i came : Nat} {L : List Ord} {x : Ord} (z : Int) (h : RV w B u L (.slice (some ⟨g, 0, none⟩) L.length cap) came) (hx : L[i]? = some x) :
    RV (w.setCell ⟨g, i * 6 + 4, none⟩ (.int .i64 z)) B u (L.set i { x with lots := z }) (.slice (some ⟨g, 0, none⟩) L.length cap) came ∧ RTo w (w.setCell ⟨g, i * 6 + 4, none⟩ (.int .i64 z)) B u (.slice (some ⟨g, 0, none⟩) L.length cap) (.slice (some ⟨g, 0, none⟩) L.length cap) :=
  ⟨(h.setLots z hx).1, (h.setLots z hx).2, Turns.set (F := fun k => k = u ∨ (Value.slice (some ⟨g, 0, none⟩) L.length cap).ownBlock = some k) (.inr rfl), fun k hk => .inl hk⟩
end
set_option maxRecDepth 100000 in
set_option maxHeartbeats 4000000 in
theorem radd_ok2 (B u : Nat) (L : List Ord) (v : Value) (came : Nat) (o : Ord) (w : World) (hB : B ≤ w.heap.size) (h : Hid (RV w B u L v came)) (hN : L.length ≤ 1000) (hc : came ≤ 1000000) (hk : addR L o = 0) :
    Calls Tryd.prog 58 #[.pointer (some ⟨u, 0, none⟩), .agg o.cells.toArray] w fun e w' => e = .returned (.int .i64 0) ∧ ∃ v', RV w' B u (L ++ [o.at (came + 1)]) v' (came + 1) ∧ RTn w w' B u v := by
  obtain ⟨i0, hi, hz0, hz1, hz2⟩ := info_parts info_ror
  have hb0 : Below w.heap.size w (w.alloc (.cells o.cells.toArray 97)) := (Below.refl _ w).alloc (Nat.le_refl _) _
  have hsz0 : w.heap.size ≤ (w.alloc (.cells o.cells.toArray 97)).heap.size := hb0.size
  have HG := Lib.hid (rgood_c o (w.alloc (.cells o.cells.toArray 97)))
  have HF := Lib.hid (fun (w1 : World) (hb : Below w.heap.size w w1) => rat_c B u L v came o.id w1 (Lib.hid (h.out.below hb)) (by omega))
  have HB0 := Lib.hid hb0
  have HS0 := Lib.hid hsz0
  have hXlt : w.heap.size < (w.alloc (.cells o.cells.toArray 97)).heap.size := by simp
  have hX0 : (w.alloc (.cells o.cells.toArray 97)).heap[w.heap.size]? = some (.cells o.cells.toArray 97 (0, 0)) := heap_alloc_new w _
  have HX0 := Lib.hid hX0
  have HXLT := Lib.hid hXlt
  have hg1 : Ord.good o = true := by
    cases hg : Ord.good o with
    | true => rfl
    | false => unfold addR at hk; rw [if_pos hg] at hk; cases hk
  have hf : L.findIdx? (hasId o.id) = none := by
    cases hf : L.findIdx? (hasId o.id) with
    | none => rfl
    | some p => unfold addR at hk; rw [if_neg (by rw [hg1]; simp), hf, if_pos (by rfl)] at hk; cases hk
  have hfull : ¬ 32 ≤ L.length := fun h1 => by
    unfold addR at hk
    rw [if_neg (by rw [hg1]; simp), hf, if_neg (by simp), if_pos h1] at hk
    cases hk
  rw [hg1] at HG
  rw [at_of_none hf] at HF
  obtain ⟨A, c, hvv, _, _, _, _⟩ := h.out.form
  subst hvv
  obtain ⟨came2, hc2⟩ : ∃ z : Int, z = (came : Int) + 1 := ⟨_, rfl⟩
  have HC2 : Hid (came2 = ((came + 1 : Nat) : Int)) := by show _ = _; omega
  have HCC := Lib.hid hc2
  have hcc : (came : Int) ≤ 1000000 := by omega
  clear hk hg1 hf hb0 hsz0 hX0 hXlt hc hc2
  obtain ⟨id, tenant, sell, price, lots, seq⟩ := o
  simp only [Ord.cells] at *
  go_enter Tryd.func58, Tryd.ntmps58
  go_wp2_with fail
  refine HG.out.mono ?_
  rintro e w1 ⟨rfl, hb1⟩
  have hx1 : Blk w1 w.heap.size _ _ := (hb1.block w.heap.size HXLT.out).trans HX0.out
  have HB1 := Lib.hid (HB0.out.trans (hb1.mono HS0.out))
  have hv1 := h.out.below HB1.out
  have x0 := Blk.cell hx1 0 _ rfl
  have xf := Blk.free hx1 5
  have xc := Blk.cell hx1 5 _ rfl
  have cq : w1.cell? ⟨u, 0, none⟩ = some (.slice A L.length c) := hv1.blk.cell 0 _ rfl
  have cu : w1.cell? ⟨u, 1, none⟩ = some (.int .i64 came) := hv1.blk.cell 1 _ rfl
  have fu := hv1.blk.free 1
  have huX : ¬ u = w.heap.size := by have := h.out.lt; omega
  have huX2 : ¬ w.heap.size = u := fun e => huX e.symm
  have hfull' : ¬ (32 : Int) ≤ (L.length : Int) := by omega
  have HX1 := Lib.hid hx1
  have HV1 := Lib.hid hv1
  clear hb1 hx1 hv1
  go_wp2_with fail
  refine (HF.out w1 HB1.out).mono ?_
  rintro e w2 ⟨rfl, rfl⟩
  go_wp2_with fail
  rw [← HCC.out]
  obtain ⟨W4, hW4⟩ : ∃ W4, W4 = (w1.setCell ⟨u, 1, none⟩ (.int .i64 came2)).setCell ⟨w.heap.size, 5, none⟩ (.int .i64 came2) := ⟨_, rfl⟩
  have hst := HV1.out.came2 (came + 1)
  rw [← HC2.out] at hst
  have hvX : (Value.slice A L.length c).ownBlock ≠ some w.heap.size := fun e => by have := (h.out.row.lt _ e).2; omega
  have HV4 : Hid (RV W4 B u L (.slice A L.length c) (came + 1)) := by
    show RV _ _ _ _ _ _
    rw [hW4]
    exact hst.1.setNew huX hvX
  have HS4 : Hid (RTn w W4 B u (.slice A L.length c)) := by
    show RTn _ _ _ _ _
    rw [hW4]
    exact ((RTn.ofBelow hB HB1.out).trans hst.2).setNew (Nat.le_refl _) hB
  have rX : W4.rangeAt w.heap.size 0 [.int .i64 id, .int .i64 tenant, .bool sell, .int .i64 price, .int .i64 lots, .int .i64 came2] := fun j x hj => by
    rw [hW4, Nat.zero_add]
    have h1 : Blk (w1.setCell ⟨u, 1, none⟩ (.int .i64 came2)) w.heap.size #[.int .i64 id, .int .i64 tenant, .bool sell, .int .i64 price, .int .i64 lots, .int .i64 seq] 97 := (Turns.set (F := fun k => k = u) rfl).blk HX1.out huX2
    exact (h1.set 5 (.int .i64 came2)).cell j x (by simpa using hj)
  have hrow : W4.drew.ownsRow B 97 6 (.slice A L.length c) L.length (flatOf Ord.cells L) := HV4.out.row
  have hszB : B ≤ W4.heap.size := Nat.le_trans hB HS4.out.old.size
  have HU4 : Hid (u < W4.heap.size) := HV4.out.lt
  have HUX : Hid (u ≠ w.heap.size) := huX
  have HXN : Hid (some w.heap.size ≠ (Value.slice A L.length c).ownBlock) := fun e => hvX e.symm
  have HUN : Hid (some u ≠ (Value.slice A L.length c).ownBlock) := fun e => h.out.notu e.symm
  have HPUSH : Hid (∀ w2 na nc, W4.grownBy w2 (Value.slice A L.length c).ownBlock → w2.ownsRow B 97 6 (.slice na (L.length + 1) nc) (L.length + 1) (flatOf Ord.cells L ++ [.int .i64 id, .int .i64 tenant, .bool sell, .int .i64 price, .int .i64 lots, .int .i64 came2]) → ∃ v', RV (w2.setCell ⟨u, 0, none⟩ (.slice na (L.length + 1) nc)) B u (L ++ [Ord.at ⟨id, tenant, sell, price, lots, seq⟩ (came + 1)]) v' (came + 1) ∧ RTn w (w2.setCell ⟨u, 0, none⟩ (.slice na (L.length + 1) nc)) B u (.slice A L.length c)) := fun w2 na nc hg ho => by
    have hy : (Ord.at ⟨id, tenant, sell, price, lots, seq⟩ (came + 1)).cells = [.int .i64 id, .int .i64 tenant, .bool sell, .int .i64 price, .int .i64 lots, .int .i64 came2] := by unfold Ord.at Ord.cells; rw [HC2.out]
    obtain ⟨h1, h2⟩ := HV4.out.put2 (L2 := L ++ [Ord.at ⟨id, tenant, sell, price, lots, seq⟩ (came + 1)]) hg (by rw [List.length_append, flatOf_append, flatOf_one, hy]; exact ho)
    exact ⟨_, h1, HS4.out.trans h2⟩
  have cq : W4.drew.cell? ⟨u, 0, none⟩ = some (.slice A L.length c) := HV4.out.blk.cell 0 _ rfl
  have fq : W4.drew.frozen? ⟨u, 0, none⟩ = false := HV4.out.blk.free 0
  rw [← hW4]
  clear hW4 hst hvX h HG HF HB0 HS0 HX0 HXLT HX1 HV1 x0 xf xc cu fu HB1 hcc HC2 HCC huX huX2
  refine wp_region_noPanic ?_
  refine wp_region_held_drew (S := (fun w' => w'.rangeAt w.heap.size 0 [.int .i64 id, .int .i64 tenant, .bool sell, .int .i64 price, .int .i64 lots, .int .i64 came2])) (by kernel_rfl) rX (fun hHeld => ?_)
  refine wpAnyH_take (i := 0) (v := ?_) rfl (by kernel_rfl) (by kernel_rfl) (by kernel_rfl) (fun _ _ _ h => h) (Or.inl ⟨by rfl, ?_⟩) hHeld ?_
  rotate_left
  focus
    intro w hSw
    clear hSw
    go_simp
    try with_reducible rfl
  try simp only [Act.put, List.getElem_toArray, List.getElem_cons_zero, List.getElem_cons_succ, List.setIfInBounds_toArray, List.set_cons_zero, List.set_cons_succ]
  refine wpAnyH_take (i := 1) (v := ?_) rfl (by kernel_rfl) (by kernel_rfl) (by kernel_rfl) (fun _ _ _ h => h) (Or.inl ⟨by rfl, ?_⟩) hHeld ?_
  rotate_left
  focus
    intro w hSw
    clear hSw
    go_simp
    try with_reducible rfl
  try simp only [Act.put, List.getElem_toArray, List.getElem_cons_zero, List.getElem_cons_succ, List.setIfInBounds_toArray, List.set_cons_zero, List.set_cons_succ]
  refine wpAnyH_take (i := 2) (v := ?_) rfl (by kernel_rfl) (by kernel_rfl) (by kernel_rfl) (fun _ _ _ h => h) (Or.inl ⟨by rfl, ?_⟩) hHeld ?_
  rotate_left
  focus
    intro w hSw
    clear hSw
    go_simp
    try with_reducible rfl
  try simp only [Act.put, List.getElem_toArray, List.getElem_cons_zero, List.getElem_cons_succ, List.setIfInBounds_toArray, List.set_cons_zero, List.set_cons_succ]
  refine wpAnyH_take (i := 3) (v := ?_) rfl (by kernel_rfl) (by kernel_rfl) (by kernel_rfl) (fun _ _ _ h => h) (Or.inl ⟨by rfl, ?_⟩) hHeld ?_
  rotate_left
  focus
    intro w hSw
    clear hSw
    go_simp
    try with_reducible rfl
  try simp only [Act.put, List.getElem_toArray, List.getElem_cons_zero, List.getElem_cons_succ, List.setIfInBounds_toArray, List.set_cons_zero, List.set_cons_succ]
  refine wpAnyH_take (i := 5) rfl (by kernel_rfl) (by kernel_rfl) (by kernel_rfl) (fun _ _ _ h => h) (yieldsIf_load_mid (by rfl) 97 _ rfl w.heap.size (0) rfl [.int .i64 id, .int .i64 tenant, .bool sell, .int .i64 price, .int .i64 lots, .int .i64 came2] _ (fun w h => h) Tryd.underlying97 rfl size_ror) hHeld ?_
  try simp only [Act.put, List.getElem_toArray, List.getElem_cons_zero, List.getElem_cons_succ, List.setIfInBounds_toArray, List.set_cons_zero, List.set_cons_succ]
  refine wpAnyH_ready (rs := [4, 6]) (by kernel_rfl) (by simp) ?_
  refine AllReadyH.cons rfl (fun K hK => ?_) (AllReadyH.cons rfl (fun K hK => ?_) AllReadyH.nil)
  · go_simp
    refine hK.out _ _ rX (fun hHeld => ?_)
    clear hK K
    try simp only [Act.put, List.getElem_toArray, List.getElem_cons_zero, List.getElem_cons_succ, List.setIfInBounds_toArray, List.set_cons_zero, List.set_cons_succ]
    refine wpAnyH_ready (rs := [6]) (by kernel_rfl) (by simp) ?_
    refine AllReadyH.cons rfl (fun K hK => ?_) AllReadyH.nil
    go_simp
    have rX : (W4.drew.alloc (.cells #[.int .i64 id, .int .i64 tenant, .bool sell, .int .i64 price, .int .i64 lots, .int .i64 came2] 97)).rangeAt w.heap.size 0 [.int .i64 id, .int .i64 tenant, .bool sell, .int .i64 price, .int .i64 lots, .int .i64 came2] := World.rangeAt_alloc (w := W4.drew) rX (.cells #[.int .i64 id, .int .i64 tenant, .bool sell, .int .i64 price, .int .i64 lots, .int .i64 came2] 97)
    have cqa : (W4.alloc (.cells #[.int .i64 id, .int .i64 tenant, .bool sell, .int .i64 price, .int .i64 lots, .int .i64 came2] 97)).cell? ⟨u, 0, none⟩ = some (.slice A L.length c) := Lib.cell?_alloc_some (W := W4) (.cells #[.int .i64 id, .int .i64 tenant, .bool sell, .int .i64 price, .int .i64 lots, .int .i64 came2] 97) cq
    refine hK.out _ _ rX (fun hHeld => ?_)
    clear hK K
    try simp only [Act.put, List.getElem_toArray, List.getElem_cons_zero, List.getElem_cons_succ, List.setIfInBounds_toArray, List.set_cons_zero, List.set_cons_succ]
    refine wpAnyH_ready (rs := [7]) (by kernel_rfl) (by simp) ?_
    refine AllReadyH.cons rfl (fun K hK => ?_) AllReadyH.nil
    rw [if_pos (by rfl)]
    refine wp_append_own _ _ _ 92 rfl B 97 i0 (.agg #[.int .i64 0, .int .i64 0, .bool false, .int .i64 0, .int .i64 0, .int .i64 0]) 6 48 Tryd.underlying92 hi hz0 hz1 hz2 rfl (by decide) (.slice A L.length c) L.length (flatOf Ord.cells L) rfl (hrow.alloc _) ⟨W4.heap.size, 0, none⟩ 1 1 [.int .i64 id, .int .i64 tenant, .bool sell, .int .i64 price, .int .i64 lots, .int .i64 came2] rfl rfl ?hnews (by simp [Value.oneCell']) (by unfold maxLen; omega) (by omega) (by simp; omega) ?_
    case hnews =>
      intro j u hj
      have hadd : (⟨W4.heap.size, 0, none⟩ : Addr).add j = ⟨W4.heap.size, j, none⟩ := by unfold Addr.add; split <;> simp_all
      rw [hadd]
      exact (World.cell?_alloc_new W4.drew _ _ j).trans (by simpa using hj)
    intro v' w2 hown2 hg2 hnil
    have hg2' : W4.grownBy w2 (Value.slice A L.length c).ownBlock := grownBy_undrew (grownBy_trans (World.grownBy_alloc W4.drew (.cells #[.int .i64 id, .int .i64 tenant, .bool sell, .int .i64 price, .int .i64 lots, .int .i64 came2] 97) _) hg2)
    obtain ⟨na, nc, rfl⟩ := own_len hown2
    have rX := rangeAt_grown rX hg2 HXN.out
    have cq2 := hg2'.cell cq HUN.out
    have fq2 : w2.frozen? ⟨u, 0, none⟩ = false := (hg2'.frozen_far ⟨u, 0, none⟩ HU4.out HUN.out).trans fq
    have HFIN := Lib.hid (HPUSH.out w2 na nc hg2' hown2)
    clear hown2 hg2 hg2' hnil
    refine hK.out _ _ rX (fun hHeld => ?_)
    clear hK K
    try simp only [Act.put, List.getElem_toArray, List.getElem_cons_zero, List.getElem_cons_succ, List.setIfInBounds_toArray, List.set_cons_zero, List.set_cons_succ]
    refine wpAnyH_take (i := 8) (v := ?_) rfl (by kernel_rfl) (by kernel_rfl) (by kernel_rfl) (fun _ _ _ h => h) (Or.inl ⟨by rfl, ?_⟩) hHeld ?_
    rotate_left
    focus
      intro w hSw
      clear hSw
      go_simp
      try with_reducible rfl
    try simp only [Act.put, List.getElem_toArray, List.getElem_cons_zero, List.getElem_cons_succ, List.setIfInBounds_toArray, List.set_cons_zero, List.set_cons_succ]
    refine wpAnyH_take (i := 9) (v := ?_) rfl (by kernel_rfl) (by kernel_rfl) (by kernel_rfl) (fun _ _ _ h => h) (Or.inl ⟨by rfl, ?_⟩) hHeld ?_
    rotate_left
    focus
      intro w hSw
      clear hSw
      go_simp
      try with_reducible rfl
    try simp only [Act.put, List.getElem_toArray, List.getElem_cons_zero, List.getElem_cons_succ, List.setIfInBounds_toArray, List.set_cons_zero, List.set_cons_succ]
    refine wpAnyH_ready (rs := [10]) (by kernel_rfl) (by simp) ?_
    refine AllReadyH.cons rfl (fun K hK => ?_) AllReadyH.nil
    go_simp
    refine hK.out _ _ (fun j x hj => (World.cell?_setCell_far _ _ _ _ HUX.out).trans (rX j x hj)) (fun hHeld => ?_)
    clear hK K
    try simp only [Act.put, List.getElem_toArray, List.getElem_cons_zero, List.getElem_cons_succ, List.setIfInBounds_toArray, List.set_cons_zero, List.set_cons_succ]
    refine wpAnyH_done (by kernel_rfl) ?_ _
    refine NoPanic.normal ?_
    go_wp2_with fail
    go_ret
    exact ⟨rfl, HFIN.out⟩
  · go_simp
    have rX : (W4.drew.alloc (.cells #[.int .i64 id, .int .i64 tenant, .bool sell, .int .i64 price, .int .i64 lots, .int .i64 came2] 97)).rangeAt w.heap.size 0 [.int .i64 id, .int .i64 tenant, .bool sell, .int .i64 price, .int .i64 lots, .int .i64 came2] := World.rangeAt_alloc (w := W4.drew) rX (.cells #[.int .i64 id, .int .i64 tenant, .bool sell, .int .i64 price, .int .i64 lots, .int .i64 came2] 97)
    have cqa : (W4.alloc (.cells #[.int .i64 id, .int .i64 tenant, .bool sell, .int .i64 price, .int .i64 lots, .int .i64 came2] 97)).cell? ⟨u, 0, none⟩ = some (.slice A L.length c) := Lib.cell?_alloc_some (W := W4) (.cells #[.int .i64 id, .int .i64 tenant, .bool sell, .int .i64 price, .int .i64 lots, .int .i64 came2] 97) cq
    refine hK.out _ _ rX (fun hHeld => ?_)
    clear hK K
    try simp only [Act.put, List.getElem_toArray, List.getElem_cons_zero, List.getElem_cons_succ, List.setIfInBounds_toArray, List.set_cons_zero, List.set_cons_succ]
    refine wpAnyH_ready (rs := [4]) (by kernel_rfl) (by simp) ?_
    refine AllReadyH.cons rfl (fun K hK => ?_) AllReadyH.nil
    go_simp
    refine hK.out _ _ rX (fun hHeld => ?_)
    clear hK K
    try simp only [Act.put, List.getElem_toArray, List.getElem_cons_zero, List.getElem_cons_succ, List.setIfInBounds_toArray, List.set_cons_zero, List.set_cons_succ]
    refine wpAnyH_ready (rs := [7]) (by kernel_rfl) (by simp) ?_
    refine AllReadyH.cons rfl (fun K hK => ?_) AllReadyH.nil
    rw [if_pos (by rfl)]
    refine wp_append_own _ _ _ 92 rfl B 97 i0 (.agg #[.int .i64 0, .int .i64 0, .bool false, .int .i64 0, .int .i64 0, .int .i64 0]) 6 48 Tryd.underlying92 hi hz0 hz1 hz2 rfl (by decide) (.slice A L.length c) L.length (flatOf Ord.cells L) rfl (hrow.alloc _) ⟨W4.heap.size, 0, none⟩ 1 1 [.int .i64 id, .int .i64 tenant, .bool sell, .int .i64 price, .int .i64 lots, .int .i64 came2] rfl rfl ?hnews (by simp [Value.oneCell']) (by unfold maxLen; omega) (by omega) (by simp; omega) ?_
    case hnews =>
      intro j u hj
      have hadd : (⟨W4.heap.size, 0, none⟩ : Addr).add j = ⟨W4.heap.size, j, none⟩ := by unfold Addr.add; split <;> simp_all
      rw [hadd]
      exact (World.cell?_alloc_new W4.drew _ _ j).trans (by simpa using hj)
    intro v' w2 hown2 hg2 hnil
    have hg2' : W4.grownBy w2 (Value.slice A L.length c).ownBlock := grownBy_undrew (grownBy_trans (World.grownBy_alloc W4.drew (.cells #[.int .i64 id, .int .i64 tenant, .bool sell, .int .i64 price, .int .i64 lots, .int .i64 came2] 97) _) hg2)
    obtain ⟨na, nc, rfl⟩ := own_len hown2
    have rX := rangeAt_grown rX hg2 HXN.out
    have cq2 := hg2'.cell cq HUN.out
    have fq2 : w2.frozen? ⟨u, 0, none⟩ = false := (hg2'.frozen_far ⟨u, 0, none⟩ HU4.out HUN.out).trans fq
    have HFIN := Lib.hid (HPUSH.out w2 na nc hg2' hown2)
    clear hown2 hg2 hg2' hnil
    refine hK.out _ _ rX (fun hHeld => ?_)
    clear hK K
    try simp only [Act.put, List.getElem_toArray, List.getElem_cons_zero, List.getElem_cons_succ, List.setIfInBounds_toArray, List.set_cons_zero, List.set_cons_succ]
    refine wpAnyH_take (i := 8) (v := ?_) rfl (by kernel_rfl) (by kernel_rfl) (by kernel_rfl) (fun _ _ _ h => h) (Or.inl ⟨by rfl, ?_⟩) hHeld ?_
    rotate_left
    focus
      intro w hSw
      clear hSw
      go_simp
      try with_reducible rfl
    try simp only [Act.put, List.getElem_toArray, List.getElem_cons_zero, List.getElem_cons_succ, List.setIfInBounds_toArray, List.set_cons_zero, List.set_cons_succ]
    refine wpAnyH_take (i := 9) (v := ?_) rfl (by kernel_rfl) (by kernel_rfl) (by kernel_rfl) (fun _ _ _ h => h) (Or.inl ⟨by rfl, ?_⟩) hHeld ?_
    rotate_left
    focus
      intro w hSw
      clear hSw
      go_simp
      try with_reducible rfl
    try simp only [Act.put, List.getElem_toArray, List.getElem_cons_zero, List.getElem_cons_succ, List.setIfInBounds_toArray, List.set_cons_zero, List.set_cons_succ]
    refine wpAnyH_ready (rs := [10]) (by kernel_rfl) (by simp) ?_
    refine AllReadyH.cons rfl (fun K hK => ?_) AllReadyH.nil
    go_simp
    refine hK.out _ _ (fun j x hj => (World.cell?_setCell_far _ _ _ _ HUX.out).trans (rX j x hj)) (fun hHeld => ?_)
    clear hK K
    try simp only [Act.put, List.getElem_toArray, List.getElem_cons_zero, List.getElem_cons_succ, List.setIfInBounds_toArray, List.set_cons_zero, List.set_cons_succ]
    refine wpAnyH_done (by kernel_rfl) ?_ _
    refine NoPanic.normal ?_
    go_wp2_with fail
    go_ret
    exact ⟨rfl, HFIN.out⟩
set_option maxRecDepth 100000 in
set_option maxHeartbeats 4000000 in
theorem rdrop_ok2 (B u : Nat) (L : List Ord) (v : Value) (came : Nat) (id : Int) (i : Nat) (x : Ord) (w : World) (hB : B ≤ w.heap.size) (h : Hid (RV w B u L v came)) (hN : L.length ≤ 100000) (hf : L.findIdx? (hasId id) = some i) (hx : L[i]? = some x) :
    Calls Tryd.prog 55 #[.pointer (some ⟨u, 0, none⟩), .int .i64 id] w fun e w' => e = .returned (.tuple #[.agg x.cells.toArray, .int .i64 0]) ∧ ∃ v', RV w' B u (L.eraseIdx i) v' came ∧ RTo w w' B u v v' := by
  obtain ⟨i0, hi, hz0, hz1, hz2⟩ := info_parts info_ror
  have hb0 : Below w.heap.size w (w.alloc (.cells #[.int .i64 0, .int .i64 0, .bool false, .int .i64 0, .int .i64 0, .int .i64 0] 97)) := (Below.refl _ w).alloc (Nat.le_refl _) _
  have HF := Lib.hid (rat_c B u L v came id (w.alloc (.cells #[.int .i64 0, .int .i64 0, .bool false, .int .i64 0, .int .i64 0, .int .i64 0] 97)) (Lib.hid (h.out.below hb0)) (by omega))
  rw [at_of_some hf] at HF
  have hil : i < L.length := (List.getElem?_eq_some_iff.1 hx).1
  obtain ⟨A, c, hvv, hrd, cq0, hAc, hLc⟩ := h.out.form
  subst hvv
  obtain ⟨g, off, hA, hg, hrows⟩ := hrd.2 (by omega)
  subst hA
  obtain ⟨xi, xt, xs, xp, xl, xq⟩ := x
  have r0 : w.rangeAt g (off + i * 6) [.int .i64 xi, .int .i64 xt, .bool xs, .int .i64 xp, .int .i64 xl, .int .i64 xq] := hrows i _ hx
  obtain ⟨W1, hW1⟩ : ∃ W1, W1 = w.alloc (.cells #[.int .i64 0, .int .i64 0, .bool false, .int .i64 0, .int .i64 0, .int .i64 0] 97) := ⟨_, rfl⟩
  have hR1 : Blk W1 w.heap.size #[.int .i64 0, .int .i64 0, .bool false, .int .i64 0, .int .i64 0, .int .i64 0] 97 := by rw [hW1]; exact Blk.new w _ _
  have hb1 : Below w.heap.size w W1 := by rw [hW1]; exact hb0
  have hs1 : W1.heap.size = w.heap.size + 1 := by rw [hW1]; simp
  rw [← hW1] at HF
  have r1 := rangeAt_below r0 hb1 hg
  have cq1 := (hb1.cell (p := ⟨u, 0, none⟩) h.out.lt).trans cq0
  have HW1 := Lib.hid hW1
  have HB1 := Lib.hid hb1
  clear hf hb0 hrows hx hW1
  simp only [Ord.cells] at *
  go_enter Tryd.func55, Tryd.ntmps55
  go_wp2_with fail
  rw [← HW1.out]
  refine HF.out.mono ?_
  rintro e w1 ⟨rfl, rfl⟩
  have hin : (i : Int) < (L.length : Int) := by omega
  obtain ⟨W2, hW2⟩ : ∃ W2, W2 = W1.alloc (.cells #[.int .i64 xi, .int .i64 xt, .bool xs, .int .i64 xp, .int .i64 xl, .int .i64 xq] 97) := ⟨_, rfl⟩
  have hs2 : W2.heap.size = w.heap.size + 1 + 1 := by rw [hW2]; simp [hs1]
  have hb12 : Below W1.heap.size W1 W2 := by rw [hW2]; exact (Below.refl _ _).alloc (Nat.le_refl _) _
  have hR2 : Blk W2 (w.heap.size + 1) #[.int .i64 xi, .int .i64 xt, .bool xs, .int .i64 xp, .int .i64 xl, .int .i64 xq] 97 := by rw [hW2, ← hs1]; exact Blk.new W1 _ _
  have hb23 : Below W2.heap.size W2 (W2.alloc (.cells #[] 97)) := (Below.refl _ _).alloc (Nat.le_refl _) _
  have hbw2 : Below w.heap.size w W2 := HB1.out.trans (hb12.mono (by rw [hs1]; omega))
  have hbw3 : Below w.heap.size w (W2.alloc (.cells #[] 97)) := hbw2.trans (hb23.mono (by rw [hs2]; omega))
  have hemp : (W2.alloc (.cells #[] 97)).ownsRow (w.heap.size + 1 + 1) 97 6 (.slice (some ⟨w.heap.size + 1 + 1, 0, none⟩) 0 0) ([] : List Ord).length (flatOf Ord.cells ([] : List Ord)) := by
    have := own_empty (w := W2) (e := 97) (size := 6) (Nat.le_refl _)
    rw [hs2] at this
    exact this
  have HEMP := Lib.hid hemp
  have cq3 : (W2.alloc (.cells #[] 97)).cell? ⟨u, 0, none⟩ = some (.slice (some ⟨g, off, none⟩) L.length c) := (hbw3.cell (p := ⟨u, 0, none⟩) h.out.lt).trans cq0
  have HRD3 := Lib.hid (src_below hrd hbw3)
  have HRD := Lib.hid hrd
  have HQ0 := Lib.hid cq0
  have HULT := Lib.hid h.out.lt
  have HR1 := Lib.hid hR1
  have HR2 := Lib.hid hR2
  have HS1 := Lib.hid hs1
  have HS2 := Lib.hid hs2
  have HB12 := Lib.hid hb12
  have HB23 := Lib.hid hb23
  have HBW2 := Lib.hid hbw2
  obtain ⟨oA, hoA⟩ : ∃ z, z = L.take i := ⟨_, rfl⟩
  obtain ⟨oB, hoB⟩ : ∃ z, z = L.drop (i + 1) := ⟨_, rfl⟩
  have HOA := Lib.hid hoA
  have HOB := Lib.hid hoB
  have HLA : Hid (oA.length = i) := by show _ = _; rw [hoA, List.length_take]; omega
  have HLB : Hid (oB.length = L.length - (i + 1)) := by show _ = _; rw [hoB, List.length_drop]
  have HER : Hid (oA ++ oB = L.eraseIdx i) := by show _ = _; rw [hoA, hoB, List.eraseIdx_eq_take_drop_succ]
  have hi1 : i + 1 ≤ L.length := hil
  have hiw : IntKind.i64.wrap ((i : Int) + 1) = ((i + 1 : Nat) : Int) := by rw [IntKind.wrap_i64]; omega
  have HV := Lib.hid h.out
  subst hW2
  clear hoA hoB hb12 hb23 hbw2 hbw3 hR1 hR2 hrd cq0 r0 h hs2 hemp
  go_wp2_with (first
    | (refine wpList_load_mid rfl 97 _ rfl g (off + i * 6) rfl [.int .i64 xi, .int .i64 xt, .bool xs, .int .i64 xp, .int .i64 xl, .int .i64 xq] _ r1 Tryd.underlying97 rfl size_ror ?_)
    | (refine wpList_cutV_h (enc := Ord.cells) rfl 92 _ _ rfl 97 i0 Tryd.underlying92 hi 6 hz1 _ L.length c rfl i .i64 rfl (Nat.le_of_lt hil) hLc hAc w.heap.size L HRD3.out ?_; intro v2 hsrc2; rw [← HOA.out] at hsrc2)
    | (at_builtin; refine wpList_append_src (enc := Ord.cells) rfl _ _ 92 rfl (w.heap.size + 1 + 1) 97 i0 (.agg #[.int .i64 0, .int .i64 0, .bool false, .int .i64 0, .int .i64 0, .int .i64 0]) 6 48 Tryd.underlying92 hi hz0 hz1 hz2 rfl (by decide) Ord.k6 Ord.one _ ([] : List Ord) rfl HEMP.out v2 i oA rfl hsrc2 ?ca0 ?ca1 (by rw [World.size_alloc, HS2.out]; omega) ?_))
  case ca0 => unfold maxLen; simp; omega
  case ca1 => simp; omega
  intro v3 w3 hown3 hg3
  have hown3 : w3.ownsRow (w.heap.size + 1 + 1) 97 6 v3 oA.length (flatOf Ord.cells oA) := hown3
  have hb3 : Below (w.heap.size + 1 + 1) (W1.alloc (.cells #[.int .i64 xi, .int .i64 xt, .bool xs, .int .i64 xp, .int .i64 xl, .int .i64 xq] 97)) w3 := below_app (B := w.heap.size + 1 + 1) (by have := HB23.out; rw [HS2.out] at this; exact this) (by rw [World.size_alloc, HS2.out]; omega) (Nat.le_refl _) HEMP.out hg3
  obtain ⟨a3, c3, rfl⟩ := own_len hown3
  have HO3 := Lib.hid hown3
  have HB3 := Lib.hid hb3
  have hbw : Below w.heap.size w w3 := HBW2.out.trans (hb3.mono (by omega))
  have cq4 := (hbw.cell (p := ⟨u, 0, none⟩) HULT.out).trans HQ0.out
  have HRD4 := Lib.hid (src_below HRD.out hbw)
  have hsz3 : w.heap.size + 1 + 1 ≤ w3.heap.size := by have := hb3.size; rw [HS2.out] at this; exact this
  clear hown3 hg3 hsrc2 hb3 hbw cq3
  go_wp2_with (first
    | (refine wpList_cutV (enc := Ord.cells) rfl 92 _ _ rfl 97 i0 Tryd.underlying92 hi 6 hz1 _ L.length c rfl (i + 1) .i64 (by first | rfl | exact congrArg _ hiw) hi1 hLc hAc w.heap.size L HRD4.out ?_; intro v5 hsrc5; rw [← HOB.out] at hsrc5)
    | (at_builtin; refine wpList_append_src (enc := Ord.cells) rfl _ _ 92 rfl (w.heap.size + 1 + 1) 97 i0 (.agg #[.int .i64 0, .int .i64 0, .bool false, .int .i64 0, .int .i64 0, .int .i64 0]) 6 48 Tryd.underlying92 hi hz0 hz1 hz2 rfl (by decide) Ord.k6 Ord.one _ oA rfl HO3.out v5 (L.length - (i + 1)) oB rfl hsrc5 ?cb0 ?cb1 hsz3 ?_))
  case cb0 => have := HLA.out; unfold maxLen; omega
  case cb1 => have := HLA.out; omega
  intro v6 w6 hown6 hg6
  have hlen6 : oA.length + oB.length = (L.eraseIdx i).length := by rw [← HER.out]; simp
  have hown6 : w6.ownsRow (w.heap.size + 1 + 1) 97 6 v6 (L.eraseIdx i).length (flatOf Ord.cells (L.eraseIdx i)) := by
    rw [← hlen6, ← HER.out]
    simpa using hown6
  have hb6 := below_app (B := w.heap.size + 1 + 1) HB3.out hsz3 (Nat.le_refl _) HO3.out hg6
  have hbw6 : Below w.heap.size w w6 := HBW2.out.trans (hb6.mono (by omega))
  obtain ⟨a6, c6, rfl⟩ := own_len hown6
  have cq6 := (hbw6.cell (p := ⟨u, 0, none⟩) HULT.out).trans HQ0.out
  have hu6 := (HV.out.below hbw6).blk
  have fq6 : w6.frozen? ⟨u, 0, none⟩ = false := hu6.free 0
  obtain ⟨W7, hW7⟩ : ∃ W7, W7 = w6.setCell ⟨u, 0, none⟩ (.slice a6 (L.eraseIdx i).length c6) := ⟨_, rfl⟩
  have hput := HV.out.putO (L2 := L.eraseIdx i) (grown_of_below hbw6 _) (by omega : B ≤ w.heap.size + 1 + 1) (by omega) hown6
  have huX : u ≠ w.heap.size := by have := HULT.out; omega
  have huX1 : u ≠ w.heap.size + 1 := by have := HULT.out; omega
  have hset : Turns (fun k => k = u) w6 W7 := by rw [hW7]; exact Turns.set (F := fun k => k = u) rfl
  have hX6 : Blk w6 w.heap.size #[.int .i64 0, .int .i64 0, .bool false, .int .i64 0, .int .i64 0, .int .i64 0] 97 := HR1.out.of ((hb6.block _ (by omega)).trans (HB12.out.block _ HR1.out.lt))
  have hY6 : Blk w6 (w.heap.size + 1) #[.int .i64 xi, .int .i64 xt, .bool xs, .int .i64 xp, .int .i64 xl, .int .i64 xq] 97 := HR2.out.of (hb6.block _ (by omega))
  have hX7 : W7.heap[w.heap.size]? = some (.cells #[.int .i64 0, .int .i64 0, .bool false, .int .i64 0, .int .i64 0, .int .i64 0] 97 (0, 0)) := hset.blk hX6 (fun e => huX e.symm)
  have hY7 : Blk W7 (w.heap.size + 1) #[.int .i64 xi, .int .i64 xt, .bool xs, .int .i64 xp, .int .i64 xl, .int .i64 xq] 97 := hset.blk hY6 (fun e => huX1 e.symm)
  have r7 : W7.rangeAt (w.heap.size + 1) 0 [.int .i64 xi, .int .i64 xt, .bool xs, .int .i64 xp, .int .i64 xl, .int .i64 xq] := fun j x hj => by
    rw [Nat.zero_add]
    exact hY7.cell j x (by simpa using hj)
  have hv6 : (Value.slice a6 (L.eraseIdx i).length c6).ownBlock ≠ some w.heap.size := fun e => by have := (hown6.lt _ e).1; omega
  have HEND : Hid (RV (W7.setRow w.heap.size #[.int .i64 xi, .int .i64 xt, .bool xs, .int .i64 xp, .int .i64 xl, .int .i64 xq]) B u (L.eraseIdx i) (.slice a6 (L.eraseIdx i).length c6) came ∧ RTo w (W7.setRow w.heap.size #[.int .i64 xi, .int .i64 xt, .bool xs, .int .i64 xp, .int .i64 xl, .int .i64 xq]) B u (.slice (some ⟨g, off, none⟩) L.length c) (.slice a6 (L.eraseIdx i).length c6)) := by
    rw [← hW7] at hput
    exact ⟨hput.1.setRow huX hv6, hput.2.setRow (Nat.le_refl _) hB⟩
  have HLEN := Lib.hid hlen6
  rw [hW7] at hX7 r7
  clear hown6 hg6 hsrc5 hb6 hbw6 hu6 hput hset hX6 hY6 hY7 hv6 hlen6
  go_wp2_with (first
    | (refine wpList_load_mid rfl 97 _ rfl (w.heap.size + 1) 0 rfl [.int .i64 xi, .int .i64 xt, .bool xs, .int .i64 xp, .int .i64 xl, .int .i64 xq] _ r7 Tryd.underlying97 rfl size_ror ?_)
    | (refine wpList_store_row rfl 97 _ _ rfl w.heap.size #[.int .i64 xi, .int .i64 xt, .bool xs, .int .i64 xp, .int .i64 xl, .int .i64 xq] rfl rfl 97 #[.int .i64 0, .int .i64 0, .bool false, .int .i64 0, .int .i64 0, .int .i64 0] hX7 size_ror rfl (by simp [Value.oneCell']) ?_))
  rw [← hW7]
  rw [← hW7] at hX7
  exact bodyPost_pair Tryd.results55 rfl w.heap.size rfl #[.int .i64 xi, .int .i64 xt, .bool xs, .int .i64 xp, .int .i64 xl, .int .i64 xq] _ (0, 0) (setRow_heap _ _ _ _ _ _ hX7) _ Tryd.underlying97 rfl 6 size_ror rfl (.int .i64 0) rfl ⟨rfl, _, HEND.out⟩
set_option maxRecDepth 100000 in
set_option maxHeartbeats 1000000 in
theorem rcut_part2 (B u : Nat) (L : List Ord) (v : Value) (came : Nat) (id k : Int) (i : Nat) (x : Ord) (w : World) (h : Hid (RV w B u L v came)) (hN : L.length ≤ 1000000) (hf : L.findIdx? (hasId id) = some i) (hx : L[i]? = some x) (hk1 : 1 ≤ k) (hk2 : k < x.lots) (hk3 : x.lots ≤ 1000000) :
    Calls Tryd.prog 57 #[.pointer (some ⟨u, 0, none⟩), .int .i64 id, .int .i64 k] w fun e w' => e = .returned (.int .i64 0) ∧ ∃ v', RV w' B u (L.set i { x with lots := x.lots - k }) v' came ∧ RTo w w' B u v v' := by
  have hin : i < L.length := (List.getElem?_eq_some_iff.1 hx).1
  obtain ⟨g, cap, cur, hv, hnc, hcm, hbg, hblk, hcs, hrows⟩ := own_rows' Ord.k6 h.out.row rfl (by omega)
  subst hv
  have r0 : w.rangeAt g (i * 6) x.cells := by
    have := hrows i x hx
    rwa [Nat.zero_add] at this
  have cl : w.cell? ⟨g, i * 6 + 4, none⟩ = some (.int .i64 x.lots) := r0 4 _ rfl
  have gq : w.cell? ⟨u, 0, none⟩ = some (.slice (some ⟨g, 0, none⟩) L.length cap) := h.out.blk.cell 0 _ rfl
  have hglt : g < w.heap.size := (Array.getElem?_eq_some_iff.1 hblk).1
  have hgu : ¬ g = u := fun e => h.out.notu (by rw [← e]; rfl)
  have hug : ¬ u = g := fun e => hgu e.symm
  have hug' : u ≠ g := hug
  have HF := Lib.hid (rat_c B u L (.slice (some ⟨g, 0, none⟩) L.length cap) came id w h (by omega))
  rw [at_of_some hf] at HF
  have hin' : (i : Int) < (L.length : Int) := by omega
  have hil : (i : Int) ≤ 1000000 := by omega
  have fl : w.frozen? ⟨g, i * 6 + 4, none⟩ = false := Blk.free (w := w) hblk (i * 6 + 4)
  have HEND := Lib.hid (h.out.setLots2 (x.lots - k) hx)
  obtain ⟨LR, hLR⟩ : ∃ LR, LR = L.set i { x with lots := x.lots - k } := ⟨_, rfl⟩
  rw [← hLR] at HEND ⊢
  obtain ⟨xl, hxl⟩ : ∃ z, z = x.lots := ⟨_, rfl⟩
  rw [← hxl] at cl hk2 hk3 HEND
  have d1 : decide (k < 1) = false := decide_eq_false (by omega)
  have d2 : decide (xl < k) = false := decide_eq_false (by omega)
  have d3 : ((xl - k) == 0) = false := beq_eq_false_iff_ne.2 (by omega)
  have d4 : ¬ (xl - k = 0) := by omega
  have d5 : IntKind.i64.wrap (xl - k) = xl - k := by rw [IntKind.wrap_i64]; omega
  clear hf hx h hrows hblk hcs hbg hcm hnc r0 hxl hLR
  generalize L.length = n at *
  go_enter Tryd.func57, Tryd.ntmps57
  go_wp2_with fail
  refine HF.out.mono ?_
  rintro e w1 ⟨rfl, rfl⟩
  go_wp2_with fail
  refine wp_region_noPanic ?_
  refine wp_region_held_drew (S := (fun w' => w'.cell? ⟨u, 0, none⟩ = some (.slice (some ⟨g, 0, none⟩) n cap))) (by kernel_rfl) gq (fun hHeld => ?_)
  refine wpAnyH_take (i := 0) (v := ?_) rfl (by kernel_rfl) (by kernel_rfl) (by kernel_rfl) (fun _ _ _ h => h) (Or.inl ⟨by rfl, ?_⟩) hHeld ?_
  rotate_left
  focus
    intro w hSw
    clear hSw
    go_simp
    try with_reducible rfl
  try simp only [Act.put, List.getElem_toArray, List.getElem_cons_zero, List.getElem_cons_succ, List.setIfInBounds_toArray, List.set_cons_zero, List.set_cons_succ]
  refine wpAnyH_take (i := 1) (v := ?_) rfl (by kernel_rfl) (by kernel_rfl) (by kernel_rfl) (fun _ _ _ h => h) (Or.inl ⟨by rfl, ?_⟩) hHeld ?_
  rotate_left
  focus
    intro w hSw
    clear hSw
    go_simp
    try with_reducible rfl
  try simp only [Act.put, List.getElem_toArray, List.getElem_cons_zero, List.getElem_cons_succ, List.setIfInBounds_toArray, List.set_cons_zero, List.set_cons_succ]
  refine wpAnyH_take (i := 2) (v := ?_) rfl (by kernel_rfl) (by kernel_rfl) (by kernel_rfl) (fun _ _ _ h => h) (Or.inl ⟨by rfl, ?_⟩) hHeld ?_
  rotate_left
  focus
    intro w hSw
    clear hSw
    go_simp
    try with_reducible rfl
  try simp only [Act.put, List.getElem_toArray, List.getElem_cons_zero, List.getElem_cons_succ, List.setIfInBounds_toArray, List.set_cons_zero, List.set_cons_succ]
  refine wpAnyH_take (i := 3) (v := ?_) rfl (by kernel_rfl) (by kernel_rfl) (by kernel_rfl) (fun _ _ _ h => h) (Or.inl ⟨by rfl, ?_⟩) hHeld ?_
  rotate_left
  focus
    intro w hSw
    (try dsimp only at hSw)
    go_simp
    try with_reducible rfl
  try simp only [Act.put, List.getElem_toArray, List.getElem_cons_zero, List.getElem_cons_succ, List.setIfInBounds_toArray, List.set_cons_zero, List.set_cons_succ]
  refine wpAnyH_take (i := 4) (v := ?_) rfl (by kernel_rfl) (by kernel_rfl) (by kernel_rfl) (fun _ _ _ h => h) (Or.inl ⟨by rfl, ?_⟩) hHeld ?_
  rotate_left
  focus
    intro w hSw
    clear hSw
    go_simp
    try with_reducible rfl
  try simp only [Act.put, List.getElem_toArray, List.getElem_cons_zero, List.getElem_cons_succ, List.setIfInBounds_toArray, List.set_cons_zero, List.set_cons_succ]
  refine wpAnyH_take (i := 5) (v := ?_) rfl (by kernel_rfl) (by kernel_rfl) (by kernel_rfl) (fun _ _ _ h => h) (Or.inl ⟨by rfl, ?_⟩) hHeld ?_
  rotate_left
  focus
    intro w hSw
    clear hSw
    go_simp
    try with_reducible rfl
  try simp only [Act.put, List.getElem_toArray, List.getElem_cons_zero, List.getElem_cons_succ, List.setIfInBounds_toArray, List.set_cons_zero, List.set_cons_succ]
  refine wpAnyH_take (i := 6) (v := ?_) rfl (by kernel_rfl) (by kernel_rfl) (by kernel_rfl) (fun _ _ _ h => h) (Or.inl ⟨by rfl, ?_⟩) hHeld ?_
  rotate_left
  focus
    intro w hSw
    clear hSw
    go_simp
    try with_reducible rfl
  try simp only [Act.put, List.getElem_toArray, List.getElem_cons_zero, List.getElem_cons_succ, List.setIfInBounds_toArray, List.set_cons_zero, List.set_cons_succ]
  refine wpAnyH_take (i := 7) (v := ?_) rfl (by kernel_rfl) (by kernel_rfl) (by kernel_rfl) (fun _ _ _ h => h) (Or.inl ⟨by rfl, ?_⟩) hHeld ?_
  rotate_left
  focus
    intro w hSw
    clear hSw
    go_simp
    try with_reducible rfl
  try simp only [Act.put, List.getElem_toArray, List.getElem_cons_zero, List.getElem_cons_succ, List.setIfInBounds_toArray, List.set_cons_zero, List.set_cons_succ]
  refine wpAnyH_take (i := 8) (v := ?_) rfl (by kernel_rfl) (by kernel_rfl) (by kernel_rfl) (fun _ _ _ h => h) (Or.inl ⟨by rfl, ?_⟩) hHeld ?_
  rotate_left
  focus
    intro w hSw
    (try dsimp only at hSw)
    go_simp
    try with_reducible rfl
  try simp only [Act.put, List.getElem_toArray, List.getElem_cons_zero, List.getElem_cons_succ, List.setIfInBounds_toArray, List.set_cons_zero, List.set_cons_succ]
  refine wpAnyH_take (i := 9) (v := ?_) rfl (by kernel_rfl) (by kernel_rfl) (by kernel_rfl) (fun _ _ _ h => h) (Or.inl ⟨by rfl, ?_⟩) hHeld ?_
  rotate_left
  focus
    intro w hSw
    clear hSw
    go_simp
    try with_reducible rfl
  try simp only [Act.put, List.getElem_toArray, List.getElem_cons_zero, List.getElem_cons_succ, List.setIfInBounds_toArray, List.set_cons_zero, List.set_cons_succ]
  refine wpAnyH_take (i := 10) (v := ?_) rfl (by kernel_rfl) (by kernel_rfl) (by kernel_rfl) (fun _ _ _ h => h) (Or.inl ⟨by rfl, ?_⟩) hHeld ?_
  rotate_left
  focus
    intro w hSw
    clear hSw
    go_simp
    try with_reducible rfl
  try simp only [Act.put, List.getElem_toArray, List.getElem_cons_zero, List.getElem_cons_succ, List.setIfInBounds_toArray, List.set_cons_zero, List.set_cons_succ]
  refine wpAnyH_take (i := 11) (v := ?_) rfl (by kernel_rfl) (by kernel_rfl) (by kernel_rfl) (fun _ _ _ h => h) (Or.inl ⟨by rfl, ?_⟩) hHeld ?_
  rotate_left
  focus
    intro w hSw
    clear hSw
    go_simp
    try with_reducible rfl
  try simp only [Act.put, List.getElem_toArray, List.getElem_cons_zero, List.getElem_cons_succ, List.setIfInBounds_toArray, List.set_cons_zero, List.set_cons_succ]
  refine wpAnyH_take (i := 13) (v := ?_) rfl (by kernel_rfl) (by kernel_rfl) (by kernel_rfl) (fun _ _ _ h => h) (Or.inl ⟨by rfl, ?_⟩) hHeld ?_
  rotate_left
  focus
    intro w hSw
    clear hSw
    go_simp
    try with_reducible rfl
  try simp only [Act.put, List.getElem_toArray, List.getElem_cons_zero, List.getElem_cons_succ, List.setIfInBounds_toArray, List.set_cons_zero, List.set_cons_succ]
  refine wpAnyH_ready (rs := [12]) (by kernel_rfl) (by simp) ?_
  refine AllReadyH.cons rfl (fun K hK => ?_) AllReadyH.nil
  go_simp
  refine hK.out _ _ gq (fun hHeld => ?_)
  clear hK K
  try simp only [Act.put, List.getElem_toArray, List.getElem_cons_zero, List.getElem_cons_succ, List.setIfInBounds_toArray, List.set_cons_zero, List.set_cons_succ]
  refine wpAnyH_take (i := 14) (v := ?_) rfl (by kernel_rfl) (by kernel_rfl) (by kernel_rfl) (fun _ _ _ h => h) (Or.inl ⟨by rfl, ?_⟩) hHeld ?_
  rotate_left
  focus
    intro w hSw
    clear hSw
    go_simp
    try with_reducible rfl
  try simp only [Act.put, List.getElem_toArray, List.getElem_cons_zero, List.getElem_cons_succ, List.setIfInBounds_toArray, List.set_cons_zero, List.set_cons_succ]
  refine wpAnyH_take (i := 15) (v := ?_) rfl (by kernel_rfl) (by kernel_rfl) (by kernel_rfl) (fun _ _ _ h => h) (Or.inl ⟨by rfl, ?_⟩) hHeld ?_
  rotate_left
  focus
    intro w hSw
    clear hSw
    go_simp
    try with_reducible rfl
  try simp only [Act.put, List.getElem_toArray, List.getElem_cons_zero, List.getElem_cons_succ, List.setIfInBounds_toArray, List.set_cons_zero, List.set_cons_succ]
  refine wpAnyH_take (i := 16) (v := ?_) rfl (by kernel_rfl) (by kernel_rfl) (by kernel_rfl) (fun _ _ _ h => h) (Or.inl ⟨by rfl, ?_⟩) hHeld ?_
  rotate_left
  focus
    intro w hSw
    clear hSw
    go_simp
    try with_reducible rfl
  try simp only [Act.put, List.getElem_toArray, List.getElem_cons_zero, List.getElem_cons_succ, List.setIfInBounds_toArray, List.set_cons_zero, List.set_cons_succ]
  refine wpAnyH_ready (rs := [17]) (by kernel_rfl) (by simp) ?_
  refine AllReadyH.cons rfl (fun K hK => ?_) AllReadyH.nil
  go_simp
  refine hK.out _ _ ((World.cell?_setCell_far w ⟨g, i * 6 + 4, none⟩ ⟨u, 0, none⟩ _ hgu).trans gq) (fun hHeld => ?_)
  clear hK K
  try simp only [Act.put, List.getElem_toArray, List.getElem_cons_zero, List.getElem_cons_succ, List.setIfInBounds_toArray, List.set_cons_zero, List.set_cons_succ]
  refine wpAnyH_done (by kernel_rfl) ?_ _
  refine NoPanic.normal ?_
  go_wp2_with fail
  go_ret
  exact ⟨rfl, _, HEND.out.1.drew, HEND.out.2.drew⟩
set_option maxRecDepth 100000 in
set_option maxHeartbeats 1000000 in
theorem rcut_gone2 (B u : Nat) (L : List Ord) (v : Value) (came : Nat) (id k : Int) (i : Nat) (x : Ord) (w : World) (hB : B ≤ w.heap.size) (h : Hid (RV w B u L v came)) (hN : L.length ≤ 100000) (hf : L.findIdx? (hasId id) = some i) (hx : L[i]? = some x) (hk1 : 1 ≤ k) (hk2 : k = x.lots) (hk3 : x.lots ≤ 1000000) :
    Calls Tryd.prog 57 #[.pointer (some ⟨u, 0, none⟩), .int .i64 id, .int .i64 k] w fun e w' => e = .returned (.int .i64 0) ∧ ∃ v', RV w' B u (L.eraseIdx i) v' came ∧ RTo w w' B u v v' := by
  have hin : i < L.length := (List.getElem?_eq_some_iff.1 hx).1
  obtain ⟨g, cap, cur, hv, hnc, hcm, hbg, hblk, hcs, hrows⟩ := own_rows' Ord.k6 h.out.row rfl (by omega)
  subst hv
  have r0 : w.rangeAt g (i * 6) x.cells := by
    have := hrows i x hx
    rwa [Nat.zero_add] at this
  have cl : w.cell? ⟨g, i * 6 + 4, none⟩ = some (.int .i64 x.lots) := r0 4 _ rfl
  have gq : w.cell? ⟨u, 0, none⟩ = some (.slice (some ⟨g, 0, none⟩) L.length cap) := h.out.blk.cell 0 _ rfl
  have hglt : g < w.heap.size := (Array.getElem?_eq_some_iff.1 hblk).1
  have hgu : ¬ g = u := fun e => h.out.notu (by rw [← e]; rfl)
  have hug : ¬ u = g := fun e => hgu e.symm
  have hug' : u ≠ g := hug
  have HF := Lib.hid (rat_c B u L (.slice (some ⟨g, 0, none⟩) L.length cap) came id w h (by omega))
  rw [at_of_some hf] at HF
  have hin' : (i : Int) < (L.length : Int) := by omega
  have hil : (i : Int) ≤ 1000000 := by omega
  have fl : w.frozen? ⟨g, i * 6 + 4, none⟩ = false := Blk.free (w := w) hblk (i * 6 + 4)
  have HST := Lib.hid (h.out.setLots2 0 hx)
  have HDR : Hid (∀ W, W = (w.setCell ⟨g, i * 6 + 4, none⟩ (.int .i64 0)).drew → Calls Tryd.prog 55 #[.pointer (some ⟨u, 0, none⟩), .int .i64 id] W fun e w' => e = .returned (.tuple #[.agg (Ord.cells { x with lots := 0 }).toArray, .int .i64 0]) ∧ ∃ v', RV w' B u (L.eraseIdx i) v' came ∧ RTo w w' B u (.slice (some ⟨g, 0, none⟩) L.length cap) v') := fun W hW => by
    subst hW
    refine (rdrop_ok2 B u (L.set i { x with lots := 0 }) _ came id i { x with lots := 0 } (w.setCell ⟨g, i * 6 + 4, none⟩ (.int .i64 0)).drew (Nat.le_trans hB HST.out.2.old.size) (Lib.hid HST.out.1.drew) (by rw [List.length_set]; exact hN) (find_set 0 hf hx) (List.getElem?_set_self hin)).mono ?_
    rintro e w' ⟨rfl, v', hv, hs⟩
    have e1 : (L.set i { x with lots := 0 }).eraseIdx i = L.eraseIdx i := by
      rw [List.eraseIdx_eq_take_drop_succ, List.eraseIdx_eq_take_drop_succ, List.take_set_of_le (Nat.le_refl i), List.drop_set_of_lt (Nat.lt_succ_self i)]
    rw [e1] at hv
    exact ⟨rfl, v', hv, HST.out.2.drew.trans hs⟩
  obtain ⟨LR, hLR⟩ : ∃ LR, LR = L.eraseIdx i := ⟨_, rfl⟩
  rw [← hLR] at HDR ⊢
  obtain ⟨YC, hYC⟩ : ∃ z, z = (Ord.cells { x with lots := 0 }).toArray := ⟨_, rfl⟩
  rw [← hYC] at HDR
  obtain ⟨xl, hxl⟩ : ∃ z, z = x.lots := ⟨_, rfl⟩
  rw [← hxl] at cl hk2 hk3
  subst hk2
  have d1 : decide (k < 1) = false := decide_eq_false (by omega)
  have d2 : decide (k < k) = false := decide_eq_false (by omega)
  have d5 : IntKind.i64.wrap (k - k) = 0 := by rw [IntKind.wrap_i64]; omega
  clear hf hx h hrows hblk hcs hbg hcm hnc r0 hxl hLR hYC HST
  generalize L.length = n at *
  go_enter Tryd.func57, Tryd.ntmps57
  go_wp2_with fail
  refine HF.out.mono ?_
  rintro e w1 ⟨rfl, rfl⟩
  go_wp2_with fail
  refine wp_region_noPanic ?_
  refine wp_region_held_drew (S := (fun w' => w'.cell? ⟨u, 0, none⟩ = some (.slice (some ⟨g, 0, none⟩) n cap))) (by kernel_rfl) gq (fun hHeld => ?_)
  refine wpAnyH_take (i := 0) (v := ?_) rfl (by kernel_rfl) (by kernel_rfl) (by kernel_rfl) (fun _ _ _ h => h) (Or.inl ⟨by rfl, ?_⟩) hHeld ?_
  rotate_left
  focus
    intro w hSw
    clear hSw
    go_simp
    try with_reducible rfl
  try simp only [Act.put, List.getElem_toArray, List.getElem_cons_zero, List.getElem_cons_succ, List.setIfInBounds_toArray, List.set_cons_zero, List.set_cons_succ]
  refine wpAnyH_take (i := 1) (v := ?_) rfl (by kernel_rfl) (by kernel_rfl) (by kernel_rfl) (fun _ _ _ h => h) (Or.inl ⟨by rfl, ?_⟩) hHeld ?_
  rotate_left
  focus
    intro w hSw
    clear hSw
    go_simp
    try with_reducible rfl
  try simp only [Act.put, List.getElem_toArray, List.getElem_cons_zero, List.getElem_cons_succ, List.setIfInBounds_toArray, List.set_cons_zero, List.set_cons_succ]
  refine wpAnyH_take (i := 2) (v := ?_) rfl (by kernel_rfl) (by kernel_rfl) (by kernel_rfl) (fun _ _ _ h => h) (Or.inl ⟨by rfl, ?_⟩) hHeld ?_
  rotate_left
  focus
    intro w hSw
    clear hSw
    go_simp
    try with_reducible rfl
  try simp only [Act.put, List.getElem_toArray, List.getElem_cons_zero, List.getElem_cons_succ, List.setIfInBounds_toArray, List.set_cons_zero, List.set_cons_succ]
  refine wpAnyH_take (i := 3) (v := ?_) rfl (by kernel_rfl) (by kernel_rfl) (by kernel_rfl) (fun _ _ _ h => h) (Or.inl ⟨by rfl, ?_⟩) hHeld ?_
  rotate_left
  focus
    intro w hSw
    (try dsimp only at hSw)
    go_simp
    try with_reducible rfl
  try simp only [Act.put, List.getElem_toArray, List.getElem_cons_zero, List.getElem_cons_succ, List.setIfInBounds_toArray, List.set_cons_zero, List.set_cons_succ]
  refine wpAnyH_take (i := 4) (v := ?_) rfl (by kernel_rfl) (by kernel_rfl) (by kernel_rfl) (fun _ _ _ h => h) (Or.inl ⟨by rfl, ?_⟩) hHeld ?_
  rotate_left
  focus
    intro w hSw
    clear hSw
    go_simp
    try with_reducible rfl
  try simp only [Act.put, List.getElem_toArray, List.getElem_cons_zero, List.getElem_cons_succ, List.setIfInBounds_toArray, List.set_cons_zero, List.set_cons_succ]
  refine wpAnyH_take (i := 5) (v := ?_) rfl (by kernel_rfl) (by kernel_rfl) (by kernel_rfl) (fun _ _ _ h => h) (Or.inl ⟨by rfl, ?_⟩) hHeld ?_
  rotate_left
  focus
    intro w hSw
    clear hSw
    go_simp
    try with_reducible rfl
  try simp only [Act.put, List.getElem_toArray, List.getElem_cons_zero, List.getElem_cons_succ, List.setIfInBounds_toArray, List.set_cons_zero, List.set_cons_succ]
  refine wpAnyH_take (i := 6) (v := ?_) rfl (by kernel_rfl) (by kernel_rfl) (by kernel_rfl) (fun _ _ _ h => h) (Or.inl ⟨by rfl, ?_⟩) hHeld ?_
  rotate_left
  focus
    intro w hSw
    clear hSw
    go_simp
    try with_reducible rfl
  try simp only [Act.put, List.getElem_toArray, List.getElem_cons_zero, List.getElem_cons_succ, List.setIfInBounds_toArray, List.set_cons_zero, List.set_cons_succ]
  refine wpAnyH_take (i := 7) (v := ?_) rfl (by kernel_rfl) (by kernel_rfl) (by kernel_rfl) (fun _ _ _ h => h) (Or.inl ⟨by rfl, ?_⟩) hHeld ?_
  rotate_left
  focus
    intro w hSw
    clear hSw
    go_simp
    try with_reducible rfl
  try simp only [Act.put, List.getElem_toArray, List.getElem_cons_zero, List.getElem_cons_succ, List.setIfInBounds_toArray, List.set_cons_zero, List.set_cons_succ]
  refine wpAnyH_take (i := 8) (v := ?_) rfl (by kernel_rfl) (by kernel_rfl) (by kernel_rfl) (fun _ _ _ h => h) (Or.inl ⟨by rfl, ?_⟩) hHeld ?_
  rotate_left
  focus
    intro w hSw
    (try dsimp only at hSw)
    go_simp
    try with_reducible rfl
  try simp only [Act.put, List.getElem_toArray, List.getElem_cons_zero, List.getElem_cons_succ, List.setIfInBounds_toArray, List.set_cons_zero, List.set_cons_succ]
  refine wpAnyH_take (i := 9) (v := ?_) rfl (by kernel_rfl) (by kernel_rfl) (by kernel_rfl) (fun _ _ _ h => h) (Or.inl ⟨by rfl, ?_⟩) hHeld ?_
  rotate_left
  focus
    intro w hSw
    clear hSw
    go_simp
    try with_reducible rfl
  try simp only [Act.put, List.getElem_toArray, List.getElem_cons_zero, List.getElem_cons_succ, List.setIfInBounds_toArray, List.set_cons_zero, List.set_cons_succ]
  refine wpAnyH_take (i := 10) (v := ?_) rfl (by kernel_rfl) (by kernel_rfl) (by kernel_rfl) (fun _ _ _ h => h) (Or.inl ⟨by rfl, ?_⟩) hHeld ?_
  rotate_left
  focus
    intro w hSw
    clear hSw
    go_simp
    try with_reducible rfl
  try simp only [Act.put, List.getElem_toArray, List.getElem_cons_zero, List.getElem_cons_succ, List.setIfInBounds_toArray, List.set_cons_zero, List.set_cons_succ]
  refine wpAnyH_take (i := 11) (v := ?_) rfl (by kernel_rfl) (by kernel_rfl) (by kernel_rfl) (fun _ _ _ h => h) (Or.inl ⟨by rfl, ?_⟩) hHeld ?_
  rotate_left
  focus
    intro w hSw
    clear hSw
    go_simp
    try with_reducible rfl
  try simp only [Act.put, List.getElem_toArray, List.getElem_cons_zero, List.getElem_cons_succ, List.setIfInBounds_toArray, List.set_cons_zero, List.set_cons_succ]
  refine wpAnyH_take (i := 13) (v := ?_) rfl (by kernel_rfl) (by kernel_rfl) (by kernel_rfl) (fun _ _ _ h => h) (Or.inl ⟨by rfl, ?_⟩) hHeld ?_
  rotate_left
  focus
    intro w hSw
    clear hSw
    go_simp
    try with_reducible rfl
  try simp only [Act.put, List.getElem_toArray, List.getElem_cons_zero, List.getElem_cons_succ, List.setIfInBounds_toArray, List.set_cons_zero, List.set_cons_succ]
  refine wpAnyH_ready (rs := [12]) (by kernel_rfl) (by simp) ?_
  refine AllReadyH.cons rfl (fun K hK => ?_) AllReadyH.nil
  go_simp
  refine hK.out _ _ gq (fun hHeld => ?_)
  clear hK K
  try simp only [Act.put, List.getElem_toArray, List.getElem_cons_zero, List.getElem_cons_succ, List.setIfInBounds_toArray, List.set_cons_zero, List.set_cons_succ]
  refine wpAnyH_take (i := 14) (v := ?_) rfl (by kernel_rfl) (by kernel_rfl) (by kernel_rfl) (fun _ _ _ h => h) (Or.inl ⟨by rfl, ?_⟩) hHeld ?_
  rotate_left
  focus
    intro w hSw
    clear hSw
    go_simp
    try with_reducible rfl
  try simp only [Act.put, List.getElem_toArray, List.getElem_cons_zero, List.getElem_cons_succ, List.setIfInBounds_toArray, List.set_cons_zero, List.set_cons_succ]
  refine wpAnyH_take (i := 15) (v := ?_) rfl (by kernel_rfl) (by kernel_rfl) (by kernel_rfl) (fun _ _ _ h => h) (Or.inl ⟨by rfl, ?_⟩) hHeld ?_
  rotate_left
  focus
    intro w hSw
    clear hSw
    go_simp
    try with_reducible rfl
  try simp only [Act.put, List.getElem_toArray, List.getElem_cons_zero, List.getElem_cons_succ, List.setIfInBounds_toArray, List.set_cons_zero, List.set_cons_succ]
  refine wpAnyH_take (i := 16) (v := ?_) rfl (by kernel_rfl) (by kernel_rfl) (by kernel_rfl) (fun _ _ _ h => h) (Or.inl ⟨by rfl, ?_⟩) hHeld ?_
  rotate_left
  focus
    intro w hSw
    clear hSw
    go_simp
    try with_reducible rfl
  try simp only [Act.put, List.getElem_toArray, List.getElem_cons_zero, List.getElem_cons_succ, List.setIfInBounds_toArray, List.set_cons_zero, List.set_cons_succ]
  refine wpAnyH_ready (rs := [17]) (by kernel_rfl) (by simp) ?_
  refine AllReadyH.cons rfl (fun K hK => ?_) AllReadyH.nil
  go_simp
  refine hK.out _ _ ((World.cell?_setCell_far w ⟨g, i * 6 + 4, none⟩ ⟨u, 0, none⟩ _ hgu).trans gq) (fun hHeld => ?_)
  clear hK K
  try simp only [Act.put, List.getElem_toArray, List.getElem_cons_zero, List.getElem_cons_succ, List.setIfInBounds_toArray, List.set_cons_zero, List.set_cons_succ]
  refine wpAnyH_done (by kernel_rfl) ?_ _
  refine NoPanic.normal ?_
  go_wp2_with fail
  refine (HDR.out _ (by rfl)).mono ?_
  rintro e w2 ⟨rfl, hq⟩
  have HQ := Lib.hid hq
  clear hq
  go_wp2_with fail
  go_ret
  exact ⟨rfl, HQ.out⟩
theorem rcut_any2 (B u : Nat) (l : Bool → List Ord) (L : List Ord) (v : Value) (came : Nat) (id k : Int) (w : World) (hB : B ≤ w.heap.size) (h : Hid (RV w B u L v came)) (hb : Both l came L) :
    Calls Tryd.prog 57 #[.pointer (some ⟨u, 0, none⟩), .int .i64 id, .int .i64 k] w fun e w' => e = .returned (.int .i64 (cutK l id k)) ∧ ∃ L' v', RV w' B u L' v' came ∧ Both (cutL l id k) came L' ∧ RTo w w' B u v v' := by
  have hN := hb.few
  cases hj : L.findIdx? (hasId id) with
  | none =>
    have hf := hb.at_none hj
    have hk := cutK_none (k := k) hf
    rw [cutL_err (by omega), hk]
    exact (rcut_none B u L v came id k w h (by omega) hj).mono fun e w' ⟨he, hw⟩ => ⟨he, L, v, hw ▸ h.out, hb, hw ▸ RTo.ofBelow hB (Below.refl _ w)⟩
  | some j =>
    obtain ⟨x, s, i, hx, hid, hf, hxi, hs⟩ := hb.at_some hj
    have hk := cutK_some (k := k) hf hxi
    have hl := hb.inv.lots hxi
    by_cases h1 : k < 1 ∨ x.lots < k
    · rw [if_pos h1] at hk
      rw [cutL_err (by omega), hk]
      exact (rcut_arg B u L v came id k j x w h (by omega) hj hx h1).mono fun e w' ⟨he, hw⟩ => ⟨he, L, v, hw ▸ h.out, hb, hw ▸ RTo.ofBelow hB (Below.refl _ w)⟩
    · rw [if_neg h1] at hk
      rw [cutL_ok hf hxi hk, hk]
      by_cases h2 : k = x.lots
      · rw [if_pos h2]
        exact (rcut_gone2 B u L v came id k j x w hB h (by omega) hj hx (by omega) h2 (by omega)).mono fun e w' ⟨he, v', hv', hs'⟩ => ⟨he, _, v', hv', hb.erase hxi hx, hs'⟩
      · rw [if_neg h2]
        exact (rcut_part2 B u L v came id k j x w h (by omega) hj hx (by omega) (by omega) (by omega)).mono fun e w' ⟨he, v', hv', hs'⟩ => ⟨he, _, v', hv', hb.set (x.lots - k) hxi hx ⟨by omega, by omega⟩, hs'⟩
theorem radd_any2 (B u : Nat) (l : Bool → List Ord) (L : List Ord) (v : Value) (came : Nat) (o : Ord) (w : World) (hB : B ≤ w.heap.size) (h : Hid (RV w B u L v came)) (hb : Both l came L) (hc : came ≤ 1000000) (hk : addK l o = 0) :
    Calls Tryd.prog 58 #[.pointer (some ⟨u, 0, none⟩), .agg o.cells.toArray] w fun e w' => e = .returned (.int .i64 0) ∧ ∃ L' v', RV w' B u L' v' (came + 1) ∧ Both (addL l o came) (came + 1) L' ∧ RTn w w' B u v := by
  have hN := hb.few
  exact (radd_ok2 B u L v came o w hB h (by omega) hc (by rw [← hb.addK_eq]; exact hk)).mono fun e w' ⟨he, v', hv', hs'⟩ => ⟨he, _, v', hv', hb.add hk, hs'⟩
end Go.Proofs.YtdebldpmloignaaDoor
