/-
  QueueExact: the walk.
-/
import Derived.Test.YtkinbidpbgkaoaaDoorQueM
namespace Go.Proofs.YtkinbidpbgkaoaaDoor
open Go.RowKit
set_option linter.unusedVariables false

theorem drew_below (w : World) : Below w.heap.size w w.drew := ⟨rfl, rfl, rfl, Nat.le_refl _, fun _ _ => rfl⟩
/-- The law's state: the queue, the document's queue, the deed under way. -/
structure TwoQ (w W : World) (b1 b2 : Nat) (Lq Lr : List Ent) (v : Nat → Value) (vr : Value) (xb : Nat) (kd j0 a0 bd : Int) : Prop where
  lo1 : w.heap.size ≤ b1
  lo2 : w.heap.size ≤ b2
  q : QV W b1 b1 (rowsOf Lq) v
  r : RV W b2 b2 Lr vr
  x : W.heap[xb]? = some (.cells #[.int .i64 kd, .int .i64 j0, .int .i64 a0, .int .i64 bd] 57 (0, 0))
  b : Below w.heap.size w W
section
variable {w W W' : World} {b1 b2 : Nat} {Lq Lr L' : List Ent} {v v' : Nat → Value} {vr vr' : Value} {xb : Nat} {kd j0 a0 bd : Int}
theorem TwoQ.xlt (h : TwoQ w W b1 b2 Lq Lr v vr xb kd j0 a0 bd) : xb < W.heap.size := (Array.getElem?_eq_some_iff.1 h.x).1
theorem TwoQ.below (h : TwoQ w W b1 b2 Lq Lr v vr xb kd j0 a0 bd) (hb : Below W.heap.size W W') : TwoQ w W' b1 b2 Lq Lr v vr xb kd j0 a0 bd :=
  ⟨h.lo1, h.lo2, h.q.below hb, h.r.below hb, by rw [hb.block _ h.xlt]; exact h.x, h.b.trans (hb.mono h.b.size)⟩
theorem TwoQ.qstep (h : TwoQ w W b1 b2 Lq Lr v vr xb kd j0 a0 bd) (hq : QV W' b1 b1 (rowsOf L') v') (hs : QStep W W' b1 v v') : TwoQ w W' b1 b2 L' Lr v' vr xb kd j0 a0 bd :=
  ⟨h.lo1, h.lo2, hq, h.r.qstep hs h.q, by rw [hs.types h.q _ _ _ _ h.x (by decide) (by decide)]; exact h.x, h.b.trans ((hs.below h.q).mono h.lo1)⟩
theorem TwoQ.rstep (h : TwoQ w W b1 b2 Lq Lr v vr xb kd j0 a0 bd) (hr : RV W' b2 b2 L' vr') (hs : RStep W W' b2) : TwoQ w W' b1 b2 Lq L' v vr' xb kd j0 a0 bd :=
  ⟨h.lo1, h.lo2, h.q.rstep hs, hr, by rw [hs.block _ _ _ _ h.x (by decide) (by decide)]; exact h.x, h.b.trans (hs.below.mono h.lo2)⟩
theorem TwoQ.xr (h : TwoQ w W b1 b2 Lq Lr v vr xb kd j0 a0 bd) : W.rangeAt xb 1 [.int .i64 j0, .int .i64 a0] := fun j u hj => by
  match j, hj with
  | 0, hj => rw [cell_of_row W xb _ _ _ _ h.x]; exact hj
  | 1, hj => rw [cell_of_row W xb _ _ _ _ h.x]; exact hj
theorem TwoQ.x0 (h : TwoQ w W b1 b2 Lq Lr v vr xb kd j0 a0 bd) : W.cell? ⟨xb, 0, none⟩ = some (.int .i64 kd) := cell_of_row W xb 0 _ _ _ h.x
theorem TwoQ.x1 (h : TwoQ w W b1 b2 Lq Lr v vr xb kd j0 a0 bd) : W.cell? ⟨xb, 1, none⟩ = some (.int .i64 j0) := cell_of_row W xb 1 _ _ _ h.x
theorem TwoQ.x2 (h : TwoQ w W b1 b2 Lq Lr v vr xb kd j0 a0 bd) : W.cell? ⟨xb, 2, none⟩ = some (.int .i64 a0) := cell_of_row W xb 2 _ _ _ h.x
theorem TwoQ.x3 (h : TwoQ w W b1 b2 Lq Lr v vr xb kd j0 a0 bd) : W.cell? ⟨xb, 3, none⟩ = some (.int .i64 bd) := cell_of_row W xb 3 _ _ _ h.x
end
set_option maxRecDepth 100000 in
set_option maxHeartbeats 4000000 in
theorem queueExact_walk (Er : Nat → Addr) (A : Option Addr) (len cap : Nat) (ds : List Deed) (w : World) (hE : Errs w.heap.size w allKinds Er) (hz : Hid (RdRows w w.heap.size Deed.cells 4 A len ds)) (hcap : len ≤ cap) (hcm : cap ≤ maxLen) :
    Calls Tryd.prog 5 #[.slice A len cap] w fun e w' => e = .returned (.bool true) ∧ Below w.heap.size w w' := by
  have hlM : (len : Int) ≤ 9223372036854775807 := by unfold maxLen at hcm; omega
  have HE : Hid (∀ W, Below w.heap.size w W → Errs w.heap.size W allKinds Er) := fun W hb => hE.below hb
  have HE2 : Hid (∀ W, Below w.heap.size w W → ∀ k, k = 1 ∨ k = 6 → ∀ g, g = (if k = 1 then 0 else 2) → W.cell? ⟨g, 0, none⟩ = some (erV Er k) ∧ g < W.heap.size) := fun W hb k hk g hg => by
    have e := hE.below hb
    rcases hk with rfl | rfl
    · have := e.var 1 (by decide)
      rw [if_pos rfl] at hg
      subst hg
      exact ⟨this.2, Nat.lt_of_lt_of_le this.1 hb.size⟩
    · have := e.var 6 (by decide)
      rw [if_neg (by decide)] at hg
      subst hg
      exact ⟨this.2, Nat.lt_of_lt_of_le this.1 hb.size⟩
  go_enter Tryd.func5, Tryd.ntmps5
  go_wp2_with fail
  refine (awake21_c Er w hE).mono ?_
  rintro e w1 ⟨rfl, hb1⟩
  go_wp2_with fail
  refine (qnew_c w1).mono ?_
  rintro e w2 ⟨rfl, ⟨v2, hq2⟩, hb2⟩
  have hbw2 := hb1.trans (hb2.mono hb1.size)
  have hs1 := hb1.size
  have hs2 : w.heap.size ≤ w2.heap.size := hbw2.size
  have hq3 := hq2.below (below_grow w2 (.cells #[.slice none 0 0] 55))
  have HQ2 := Lib.hid hq3
  have hlt12 : w1.heap.size < w2.heap.size := hq2.lt
  clear hq2 hb2 hb1 hq3
  go_wp2_with fail
  go_loopw [5, 6, 7, 8] (fun s5 _ _ _ wx => ∃ (k : Nat) (L : List Ent) (v : Nat → Value) (vr : Value) (wr : World), wr = wx ∧ k ≤ 80 ∧ k ≤ len ∧ s5 = .int .i64 k ∧ QV wr w1.heap.size w1.heap.size (rowsOf L) v ∧ RV wr w2.heap.size w2.heap.size L vr ∧ Bands L ∧ L.length ≤ k ∧ Below w.heap.size w wr) (fun s5 _ _ _ _ => 80 - (intOf s5).toNat)
  case atStart =>
    exact ⟨0, [], v2, _, _, rfl, by omega, by omega, rfl, HQ2.out.congr (fun i _ => rfl), ⟨Nat.le_refl _, alloc_new' rfl, ⟨rfl, .inl ⟨rfl, rfl⟩⟩⟩, fun e he => by simp at he, Nat.le_refl _, hbw2.alloc hs2 _⟩
  case round =>
    obtain ⟨k, L, v, vr, wr, rfl, hk, hkl, rfl, hqv, hrv, hbs, hLk, hbl⟩ := hrel
    by_cases h1 : k < len
    · by_cases h2 : k < 80
      · obtain ⟨b, off, rfl, hb, hrows⟩ := hz.out.2 (by omega)
        obtain ⟨x, hx⟩ : ∃ x, ds[k]? = some x := ⟨_, List.getElem?_eq_getElem (by have := hz.out.1; omega)⟩
        have r1 := rangeAt_below (hrows k x hx) hbl hb
        obtain ⟨kd, j0, a0, bd⟩ := x
        have hk1 : (k : Int) < (len : Int) := by omega
        have hk2 : (k : Int) < 80 := by omega
        obtain ⟨W8, hW8⟩ : ∃ Z : World, Z = wr.alloc (.cells #[.int .i64 kd, .int .i64 j0, .int .i64 a0, .int .i64 bd] 57) := ⟨_, rfl⟩
        have T8 : Hid (TwoQ w W8 w1.heap.size w2.heap.size L L v vr wr.heap.size kd j0 a0 bd) := by
          have hb8 : Below wr.heap.size wr W8 := by rw [hW8]; exact below_grow wr _
          exact ⟨hs1, hs2, hqv.below hb8, hrv.below hb8, by rw [hW8]; exact alloc_new' rfl, hbl.trans (hb8.mono hbl.size)⟩
        have HW8 := Lib.hid hW8
        have HBS0 := Lib.hid hbs
        clear hW8 hqv hrv hbs hbl hrows hx
        go_upto_region 9 with (refine wpList_load_mid rfl 57 _ rfl b (off + k * 4) rfl [.int .i64 kd, .int .i64 j0, .int .i64 a0, .int .i64 bd] _ r1 Tryd.underlying57 rfl size_deed ?_)
        rw [← HW8.out]
        clear r1
        have hx := T8.out.xr
        have g0 := T8.out.x0
        have g1 := T8.out.x1
        have g2 := T8.out.x2
        have g3 := T8.out.x3
        have hxl := T8.out.xlt
        by_cases hk4 : kd = 4
        · subst hk4
          go_wp2_with fail
          refine (ris_c w2.heap.size w2.heap.size L ⟨j0, a0⟩ W8 (show Hid _ from ⟨vr, T8.out.r⟩) (by omega)).mono ?_
          rintro e W9 ⟨rfl, hb9⟩
          have T9 := Lib.hid (T8.out.below hb9)
          clear g0 g1 g2 g3 hb9 hx hxl
          have hx := T9.out.xr
          have g0 := T9.out.x0
          have g1 := T9.out.x1
          have g2 := T9.out.x2
          have g3 := T9.out.x3
          have hxl := T9.out.xlt
          cases hh : has L ⟨j0, a0⟩ with
          | true =>
            rw [show (L.any fun x => Tsk.beq x.tsk ⟨j0, a0⟩) = true from hh]
            have HK := Lib.hid (show dropK L ⟨j0, a0⟩ = 0 by unfold dropK; rw [hh]; rfl)
            clear hh
            go_wp2_with fail
            refine (rcut_drop w2.heap.size w2.heap.size L vr ⟨j0, a0⟩ W9 (Nat.le_of_lt T9.out.r.lt) (show Hid _ from T9.out.r) (by omega)).mono ?_
            rintro e W10 ⟨rfl, vr2, hr10, hs10⟩
            have T10 := Lib.hid (T9.out.rstep hr10 hs10)
            clear g0 g1 g2 g3 hr10 hs10 hx hxl
            have hx := T10.out.xr
            have g0 := T10.out.x0
            have g1 := T10.out.x1
            have g2 := T10.out.x2
            have g3 := T10.out.x3
            have hxl := T10.out.xlt
            go_wp2_with fail
            refine (drop_any Er w1.heap.size w1.heap.size L v ⟨j0, a0⟩ W10 (Nat.le_of_lt T10.out.q.lt) ((HE.out W10 T10.out.b).var 5 (by decide)).2 (Nat.lt_of_lt_of_le ((HE.out W10 T10.out.b).var 5 (by decide)).1 T10.out.lo1) (show Hid _ from T10.out.q) HBS0.out (by omega)).mono ?_
            rintro e W11 ⟨rfl, v2, hq11, hs11⟩
            rw [HK.out]
            have T11 := Lib.hid (T10.out.qstep hq11 hs11)
            clear g0 g1 g2 g3 hq11 hs11 hx hxl
            have hx := T11.out.xr
            have g0 := T11.out.x0
            have g1 := T11.out.x1
            have g2 := T11.out.x2
            have g3 := T11.out.x3
            have hxl := T11.out.xlt
            go_wp2_with fail
            refine (kind21_c W11 T11.out.b.size (HE.out W11 T11.out.b) 0 (by omega)).mono ?_
            rintro e W12 ⟨rfl, hb12⟩
            have T12 := Lib.hid (T11.out.below hb12)
            clear g0 g1 g2 g3 hb12 hx hxl
            have hx := T12.out.xr
            have g0 := T12.out.x0
            have g1 := T12.out.x1
            have g2 := T12.out.x2
            have g3 := T12.out.x3
            have hxl := T12.out.xlt
            go_wp2_with fail
            have HBS := Lib.hid (show Bands (dropL L ⟨j0, a0⟩) from HBS0.out.filter _)
            have HLN := Lib.hid (show (dropL L ⟨j0, a0⟩).length ≤ k from Nat.le_trans (List.length_filter_le _ _) hLk)
            have TT := T12
            obtain ⟨LL, hLL⟩ : ∃ z, z = dropL L ⟨j0, a0⟩ := ⟨_, rfl⟩
            rw [← hLL] at TT HBS HLN
            obtain ⟨ans, hans⟩ : ∃ z, z = has LL ⟨j0, a0⟩ := ⟨_, rfl⟩
            obtain ⟨Av, cv, hvr⟩ := own_len TT.out.r.row
            have hc := cell_of_row _ w2.heap.size 0 _ _ _ TT.out.r.cells
            rw [hvr] at hc
            simp only [List.getElem?_toArray, List.getElem?_cons_zero] at hc
            have hx := TT.out.xr
            have hxlW := TT.out.xlt
            have hrlt := TT.out.r.lt
            have HLL := Lib.hid hLL
            have hLN := HLN.out
            clear hLL hvr g0 g1 g2 g3 T12
            refine wp_region_noPanic ?_
            refine wp_region_held_drew (S := (fun w' => w'.rangeAt wr.heap.size 1 [.int .i64 j0, .int .i64 a0] ∧ w'.cell? ⟨w2.heap.size, 0, none⟩ = some (.slice Av LL.length cv))) (by kernel_rfl) ⟨hx, hc⟩ (fun hHeld => ?_)
            have HB : Below W12.heap.size W12 W12.drew := ⟨rfl, rfl, rfl, Nat.le_refl _, fun _ _ => rfl⟩
            have hx : W12.drew.rangeAt wr.heap.size 1 [.int .i64 j0, .int .i64 a0] := hx
            have hc : W12.drew.cell? ⟨w2.heap.size, 0, none⟩ = some (.slice Av LL.length cv) := hc
            refine wpAnyH_take (i := 0) (v := ?_) rfl (by kernel_rfl) (by kernel_rfl) (by kernel_rfl) (fun _ _ _ h => h) (Or.inl ⟨by rfl, ?_⟩) hHeld ?_
            rotate_left
            focus
              intro w hSw
              clear hSw
              go_simp
              try with_reducible rfl
            try simp only [Act.put, List.getElem_toArray, List.getElem_cons_zero, List.getElem_cons_succ, List.setIfInBounds_toArray, List.set_cons_zero, List.set_cons_succ]
            refine wpAnyH_take (i := 1) (v := ?_) rfl (by kernel_rfl) (by kernel_rfl) (by kernel_rfl) (fun _ _ _ h => h) (Or.inl ⟨by rfl, ?_⟩) hHeld ?_
            rotate_left
            focus
              intro w hSw
              clear hSw
              go_simp
              try with_reducible rfl
            try simp only [Act.put, List.getElem_toArray, List.getElem_cons_zero, List.getElem_cons_succ, List.setIfInBounds_toArray, List.set_cons_zero, List.set_cons_succ]
            refine wpAnyH_take (i := 2) rfl (by kernel_rfl) (by kernel_rfl) (by kernel_rfl) (fun _ _ _ h => h) (yieldsIf_load_mid (by rfl) 45 _ rfl wr.heap.size (1) rfl [.int .i64 j0, .int .i64 a0] _ (fun w h => h.1) Tryd.underlying45 rfl size_task) hHeld ?_
            try simp only [Act.put, List.getElem_toArray, List.getElem_cons_zero, List.getElem_cons_succ, List.setIfInBounds_toArray, List.set_cons_zero, List.set_cons_succ]
            refine wpAnyH_take (i := 4) (v := ?_) rfl (by kernel_rfl) (by kernel_rfl) (by kernel_rfl) (fun _ _ _ h => h) (Or.inl ⟨by rfl, ?_⟩) hHeld ?_
            rotate_left
            focus
              intro w hSw
              clear hSw
              go_simp
              try with_reducible rfl
            try simp only [Act.put, List.getElem_toArray, List.getElem_cons_zero, List.getElem_cons_succ, List.setIfInBounds_toArray, List.set_cons_zero, List.set_cons_succ]
            refine wpAnyH_take (i := 5) (v := ?_) rfl (by kernel_rfl) (by kernel_rfl) (by kernel_rfl) (fun _ _ _ h => h) (Or.inl ⟨by rfl, ?_⟩) hHeld ?_
            rotate_left
            focus
              intro w hSw
              clear hSw
              go_simp
              try with_reducible rfl
            try simp only [Act.put, List.getElem_toArray, List.getElem_cons_zero, List.getElem_cons_succ, List.setIfInBounds_toArray, List.set_cons_zero, List.set_cons_succ]
            refine wpAnyH_take (i := 6) rfl (by kernel_rfl) (by kernel_rfl) (by kernel_rfl) (fun _ _ _ h => h) (yieldsIf_load_mid (by rfl) 45 _ rfl wr.heap.size (1) rfl [.int .i64 j0, .int .i64 a0] _ (fun w h => h.1) Tryd.underlying45 rfl size_task) hHeld ?_
            try simp only [Act.put, List.getElem_toArray, List.getElem_cons_zero, List.getElem_cons_succ, List.setIfInBounds_toArray, List.set_cons_zero, List.set_cons_succ]
            refine wpAnyH_ready (rs := [3]) (by kernel_rfl) (by simp) ?_
            refine AllReadyH.cons rfl (fun K hK => ?_) AllReadyH.nil
            go_simp
            refine (qis_c w1.heap.size w1.heap.size (rowsOf LL) ⟨j0, a0⟩ _ (show Hid _ from ⟨_, TT.out.q.below HB⟩) (by rw [len_rows HBS.out]; omega)).mono ?_
            rintro e y1 ⟨rfl, hb1⟩
            rw [mem_rows HBS.out, ← hans]
            have hx := rangeAt_below hx hb1 (Nat.lt_of_lt_of_le hxlW HB.size)
            have hc := (hb1.cell (p := ⟨w2.heap.size, 0, none⟩) (Nat.lt_of_lt_of_le hrlt HB.size)).trans hc
            have HB := HB.trans (hb1.mono HB.size)
            refine hK.out _ _ ⟨hx, hc⟩ (fun hHeld => ?_)
            clear hK K
            try simp only [Act.put, List.getElem_toArray, List.getElem_cons_zero, List.getElem_cons_succ, List.setIfInBounds_toArray, List.set_cons_zero, List.set_cons_succ]
            refine wpAnyH_ready (rs := [7]) (by kernel_rfl) (by simp) ?_
            refine AllReadyH.cons rfl (fun K hK => ?_) AllReadyH.nil
            go_simp
            refine (ris_c w2.heap.size w2.heap.size LL ⟨j0, a0⟩ y1 (show Hid _ from ⟨_, TT.out.r.below HB⟩) (by omega)).mono ?_
            rintro e y2 ⟨rfl, hb2⟩
            rw [show (LL.any fun x => Tsk.beq x.tsk ⟨j0, a0⟩) = ans from hans.symm]
            have hx := rangeAt_below hx hb2 (Nat.lt_of_lt_of_le hxlW HB.size)
            have hc := (hb2.cell (p := ⟨w2.heap.size, 0, none⟩) (Nat.lt_of_lt_of_le hrlt HB.size)).trans hc
            have HB := HB.trans (hb2.mono HB.size)
            refine hK.out _ _ ⟨hx, hc⟩ (fun hHeld => ?_)
            clear hK K
            try simp only [Act.put, List.getElem_toArray, List.getElem_cons_zero, List.getElem_cons_succ, List.setIfInBounds_toArray, List.set_cons_zero, List.set_cons_succ]
            refine wpAnyH_take (i := 8) (v := ?_) rfl (by kernel_rfl) (by kernel_rfl) (by kernel_rfl) (fun _ _ _ h => h) (Or.inl ⟨by rfl, ?_⟩) hHeld ?_
            rotate_left
            focus
              intro w hSw
              clear hSw
              go_simp
              try with_reducible rfl
            try simp only [Act.put, List.getElem_toArray, List.getElem_cons_zero, List.getElem_cons_succ, List.setIfInBounds_toArray, List.set_cons_zero, List.set_cons_succ]
            refine wpAnyH_take (i := 9) (v := ?_) rfl (by kernel_rfl) (by kernel_rfl) (by kernel_rfl) (fun _ _ _ h => h) (Or.inl ⟨by rfl, ?_⟩) hHeld ?_
            rotate_left
            focus
              intro w hSw
              clear hSw
              go_simp
              try with_reducible rfl
            try simp only [Act.put, List.getElem_toArray, List.getElem_cons_zero, List.getElem_cons_succ, List.setIfInBounds_toArray, List.set_cons_zero, List.set_cons_succ]
            refine wpAnyH_take (i := 10) (v := ?_) rfl (by kernel_rfl) (by kernel_rfl) (by kernel_rfl) (fun _ _ _ h => h) (Or.inl ⟨by rfl, ?_⟩) hHeld ?_
            rotate_left
            focus
              intro w hSw
              clear hSw
              go_simp
              try with_reducible rfl
            try simp only [Act.put, List.getElem_toArray, List.getElem_cons_zero, List.getElem_cons_succ, List.setIfInBounds_toArray, List.set_cons_zero, List.set_cons_succ]
            refine wpAnyH_take (i := 12) (v := ?_) rfl (by kernel_rfl) (by kernel_rfl) (by kernel_rfl) (fun _ _ _ h => h) (Or.inl ⟨by rfl, ?_⟩) hHeld ?_
            rotate_left
            focus
              intro w hSw
              clear hSw
              go_simp
              try with_reducible rfl
            try simp only [Act.put, List.getElem_toArray, List.getElem_cons_zero, List.getElem_cons_succ, List.setIfInBounds_toArray, List.set_cons_zero, List.set_cons_succ]
            refine wpAnyH_take (i := 13) (v := ?_) rfl (by kernel_rfl) (by kernel_rfl) (by kernel_rfl) (fun _ _ _ h => h) (Or.inl ⟨by rfl, ?_⟩) hHeld ?_
            rotate_left
            focus
              intro w hSw
              clear hSw
              go_simp
              try with_reducible rfl
            try simp only [Act.put, List.getElem_toArray, List.getElem_cons_zero, List.getElem_cons_succ, List.setIfInBounds_toArray, List.set_cons_zero, List.set_cons_succ]
            refine wpAnyH_take (i := 14) (v := ?_) rfl (by kernel_rfl) (by kernel_rfl) (by kernel_rfl) (fun _ _ _ h => h) (Or.inl ⟨by rfl, ?_⟩) hHeld ?_
            rotate_left
            focus
              intro w hSw
              clear hSw
              go_simp
              try with_reducible rfl
            try simp only [Act.put, List.getElem_toArray, List.getElem_cons_zero, List.getElem_cons_succ, List.setIfInBounds_toArray, List.set_cons_zero, List.set_cons_succ]
            refine wpAnyH_take (i := 15) (v := ?_) rfl (by kernel_rfl) (by kernel_rfl) (by kernel_rfl) (fun _ _ _ h => h) (Or.inl ⟨by rfl, ?_⟩) hHeld ?_
            rotate_left
            focus
              intro w hSw
              (try dsimp only at hSw)
              go_simp
              try with_reducible rfl
            try simp only [Act.put, List.getElem_toArray, List.getElem_cons_zero, List.getElem_cons_succ, List.setIfInBounds_toArray, List.set_cons_zero, List.set_cons_succ]
            refine wpAnyH_take (i := 16) (v := ?_) rfl (by kernel_rfl) (by kernel_rfl) (by kernel_rfl) (fun _ _ _ h => h) (Or.inl ⟨by rfl, ?_⟩) hHeld ?_
            rotate_left
            focus
              intro w hSw
              clear hSw
              go_simp
              try with_reducible rfl
            try simp only [Act.put, List.getElem_toArray, List.getElem_cons_zero, List.getElem_cons_succ, List.setIfInBounds_toArray, List.set_cons_zero, List.set_cons_succ]
            refine wpAnyH_ready (rs := [11]) (by kernel_rfl) (by simp) ?_
            refine AllReadyH.cons rfl (fun K hK => ?_) AllReadyH.nil
            go_simp
            refine (qlen_c w1.heap.size w1.heap.size (rowsOf LL) y2 (show Hid _ from ⟨_, TT.out.q.below HB⟩) (by rw [len_rows HBS.out]; omega)).mono ?_
            rintro e y3 ⟨rfl, hb3⟩
            rw [len_rows HBS.out]
            have hx := rangeAt_below hx hb3 (Nat.lt_of_lt_of_le hxlW HB.size)
            have hc := (hb3.cell (p := ⟨w2.heap.size, 0, none⟩) (Nat.lt_of_lt_of_le hrlt HB.size)).trans hc
            have HB := HB.trans (hb3.mono HB.size)
            refine hK.out _ _ ⟨hx, hc⟩ (fun hHeld => ?_)
            clear hK K
            try simp only [Act.put, List.getElem_toArray, List.getElem_cons_zero, List.getElem_cons_succ, List.setIfInBounds_toArray, List.set_cons_zero, List.set_cons_succ]
            refine wpAnyH_take (i := 17) (v := ?_) rfl (by kernel_rfl) (by kernel_rfl) (by kernel_rfl) (fun _ _ _ h => h) (Or.inl ⟨by rfl, ?_⟩) hHeld ?_
            rotate_left
            focus
              intro w hSw
              clear hSw
              go_simp
              try with_reducible rfl
            try simp only [Act.put, List.getElem_toArray, List.getElem_cons_zero, List.getElem_cons_succ, List.setIfInBounds_toArray, List.set_cons_zero, List.set_cons_succ]
            refine wpAnyH_take (i := 18) (v := ?_) rfl (by kernel_rfl) (by kernel_rfl) (by kernel_rfl) (fun _ _ _ h => h) (Or.inl ⟨by rfl, ?_⟩) hHeld ?_
            rotate_left
            focus
              intro w hSw
              clear hSw
              go_simp
              try with_reducible rfl
            try simp only [Act.put, List.getElem_toArray, List.getElem_cons_zero, List.getElem_cons_succ, List.setIfInBounds_toArray, List.set_cons_zero, List.set_cons_succ]
            refine wpAnyH_take (i := 19) (v := ?_) rfl (by kernel_rfl) (by kernel_rfl) (by kernel_rfl) (fun _ _ _ h => h) (Or.inl ⟨by rfl, ?_⟩) hHeld ?_
            rotate_left
            focus
              intro w hSw
              clear hSw
              go_simp
              try with_reducible rfl
            try simp only [Act.put, List.getElem_toArray, List.getElem_cons_zero, List.getElem_cons_succ, List.setIfInBounds_toArray, List.set_cons_zero, List.set_cons_succ]
            refine wpAnyH_take (i := 20) (v := ?_) rfl (by kernel_rfl) (by kernel_rfl) (by kernel_rfl) (fun _ _ _ h => h) (Or.inl ⟨by rfl, ?_⟩) hHeld ?_
            rotate_left
            focus
              intro w hSw
              clear hSw
              go_simp
              try with_reducible rfl
            try simp only [Act.put, List.getElem_toArray, List.getElem_cons_zero, List.getElem_cons_succ, List.setIfInBounds_toArray, List.set_cons_zero, List.set_cons_succ]
            refine wpAnyH_take (i := 22) (v := ?_) rfl (by kernel_rfl) (by kernel_rfl) (by kernel_rfl) (fun _ _ _ h => h) (Or.inl ⟨by rfl, ?_⟩) hHeld ?_
            rotate_left
            focus
              intro w hSw
              clear hSw
              go_simp
              try with_reducible rfl
            try simp only [Act.put, List.getElem_toArray, List.getElem_cons_zero, List.getElem_cons_succ, List.setIfInBounds_toArray, List.set_cons_zero, List.set_cons_succ]
            refine wpAnyH_ready (rs := [21]) (by kernel_rfl) (by simp) ?_
            refine AllReadyH.cons rfl (fun K hK => ?_) AllReadyH.nil
            go_simp
            refine (qlist_c w1.heap.size w1.heap.size (rowsOf LL) y3 (show Hid _ from ⟨_, TT.out.q.below HB⟩) (by rw [len_rows HBS.out]; omega)).mono ?_
            rintro e y4 ⟨v6, rfl, hown6, hb4⟩
            obtain ⟨A6, c6, hv6, _, hrd6⟩ := own_rows (l := catT (rowsOf LL) 3) Tsk.k2 hown6 rfl
            subst hv6
            have hx := rangeAt_below hx hb4 (Nat.lt_of_lt_of_le hxlW HB.size)
            have hc := (hb4.cell (p := ⟨w2.heap.size, 0, none⟩) (Nat.lt_of_lt_of_le hrlt HB.size)).trans hc
            have HB := HB.trans (hb4.mono HB.size)
            refine hK.out _ _ ⟨hx, hc⟩ (fun hHeld => ?_)
            clear hK K
            try simp only [Act.put, List.getElem_toArray, List.getElem_cons_zero, List.getElem_cons_succ, List.setIfInBounds_toArray, List.set_cons_zero, List.set_cons_succ]
            refine wpAnyH_ready (rs := [23]) (by kernel_rfl) (by simp) ?_
            refine AllReadyH.cons rfl (fun K hK => ?_) AllReadyH.nil
            go_simp
            refine (rlist_c w2.heap.size w2.heap.size LL y4 (show Hid _ from ⟨_, TT.out.r.below HB⟩) (by omega)).mono ?_
            rintro e y5 ⟨v7, rfl, hown7, hb5⟩
            obtain ⟨A7, c7, hv7, _, hrd7⟩ := own_rows (l := catT (rowsOf LL) 3) Tsk.k2 hown7 rfl
            subst hv7
            have hrd6 : Hid (RdRows y5 y5.heap.size Tsk.cells 2 A6 (catT (rowsOf LL) 3).length (catT (rowsOf LL) 3)) := (hrd6.below hb5 (Nat.le_refl _)).mono hb5.size
            have hx := rangeAt_below hx hb5 (Nat.lt_of_lt_of_le hxlW HB.size)
            have hc := (hb5.cell (p := ⟨w2.heap.size, 0, none⟩) (Nat.lt_of_lt_of_le hrlt HB.size)).trans hc
            have HB := HB.trans (hb5.mono HB.size)
            refine hK.out _ _ ⟨hx, hc⟩ (fun hHeld => ?_)
            clear hK K
            try simp only [Act.put, List.getElem_toArray, List.getElem_cons_zero, List.getElem_cons_succ, List.setIfInBounds_toArray, List.set_cons_zero, List.set_cons_succ]
            refine wpAnyH_ready (rs := [24]) (by kernel_rfl) (by simp) ?_
            refine AllReadyH.cons rfl (fun K hK => ?_) AllReadyH.nil
            go_simp
            refine (same_true A6 c6 A7 c7 (catT (rowsOf LL) 3) y5 hrd6 hrd7 (by rw [len_rows HBS.out]; omega)).mono ?_
            rintro e y6 ⟨rfl, hb6⟩
            have hx := rangeAt_below hx hb6 (Nat.lt_of_lt_of_le hxlW HB.size)
            have hc := (hb6.cell (p := ⟨w2.heap.size, 0, none⟩) (Nat.lt_of_lt_of_le hrlt HB.size)).trans hc
            have HB := HB.trans (hb6.mono HB.size)
            refine hK.out _ _ ⟨hx, hc⟩ (fun hHeld => ?_)
            clear hK K
            try simp only [Act.put, List.getElem_toArray, List.getElem_cons_zero, List.getElem_cons_succ, List.setIfInBounds_toArray, List.set_cons_zero, List.set_cons_succ]
            refine wpAnyH_take (i := 25) (v := ?_) rfl (by kernel_rfl) (by kernel_rfl) (by kernel_rfl) (fun _ _ _ h => h) (Or.inl ⟨by rfl, ?_⟩) hHeld ?_
            rotate_left
            focus
              intro w hSw
              clear hSw
              go_simp
              try with_reducible rfl
            try simp only [Act.put, List.getElem_toArray, List.getElem_cons_zero, List.getElem_cons_succ, List.setIfInBounds_toArray, List.set_cons_zero, List.set_cons_succ]
            refine wpAnyH_take (i := 26) (v := ?_) rfl (by kernel_rfl) (by kernel_rfl) (by kernel_rfl) (fun _ _ _ h => h) (Or.inl ⟨by rfl, ?_⟩) hHeld ?_
            rotate_left
            focus
              intro w hSw
              clear hSw
              go_simp
              try with_reducible rfl
            try simp only [Act.put, List.getElem_toArray, List.getElem_cons_zero, List.getElem_cons_succ, List.setIfInBounds_toArray, List.set_cons_zero, List.set_cons_succ]
            refine wpAnyH_done (by kernel_rfl) ?_ _
            refine NoPanic.normal ?_
            go_wp2_with fail
            go_roundw
            case rel => exact ⟨k + 1, LL, _, _, _, rfl, by omega, by omega, by go_num, TT.out.q.below HB, TT.out.r.below HB, HBS.out, by omega, TT.out.b.trans (HB.mono TT.out.b.size)⟩
            case measure => simp [intOf]; omega
          | false =>
            rw [show (L.any fun x => Tsk.beq x.tsk ⟨j0, a0⟩) = false from hh]
            have HK := Lib.hid (show dropK L ⟨j0, a0⟩ = 5 by unfold dropK; rw [hh]; rfl)
            clear hh
            go_wp2_with fail
            refine (rcut_drop w2.heap.size w2.heap.size L vr ⟨j0, a0⟩ W9 (Nat.le_of_lt T9.out.r.lt) (show Hid _ from T9.out.r) (by omega)).mono ?_
            rintro e W10 ⟨rfl, vr2, hr10, hs10⟩
            have T10 := Lib.hid (T9.out.rstep hr10 hs10)
            clear g0 g1 g2 g3 hr10 hs10 hx hxl
            have hx := T10.out.xr
            have g0 := T10.out.x0
            have g1 := T10.out.x1
            have g2 := T10.out.x2
            have g3 := T10.out.x3
            have hxl := T10.out.xlt
            go_wp2_with fail
            refine (drop_any Er w1.heap.size w1.heap.size L v ⟨j0, a0⟩ W10 (Nat.le_of_lt T10.out.q.lt) ((HE.out W10 T10.out.b).var 5 (by decide)).2 (Nat.lt_of_lt_of_le ((HE.out W10 T10.out.b).var 5 (by decide)).1 T10.out.lo1) (show Hid _ from T10.out.q) HBS0.out (by omega)).mono ?_
            rintro e W11 ⟨rfl, v2, hq11, hs11⟩
            rw [HK.out]
            have T11 := Lib.hid (T10.out.qstep hq11 hs11)
            clear g0 g1 g2 g3 hq11 hs11 hx hxl
            have hx := T11.out.xr
            have g0 := T11.out.x0
            have g1 := T11.out.x1
            have g2 := T11.out.x2
            have g3 := T11.out.x3
            have hxl := T11.out.xlt
            go_wp2_with fail
            refine (kind21_c W11 T11.out.b.size (HE.out W11 T11.out.b) 5 (by omega)).mono ?_
            rintro e W12 ⟨rfl, hb12⟩
            have T12 := Lib.hid (T11.out.below hb12)
            clear g0 g1 g2 g3 hb12 hx hxl
            have hx := T12.out.xr
            have g0 := T12.out.x0
            have g1 := T12.out.x1
            have g2 := T12.out.x2
            have g3 := T12.out.x3
            have hxl := T12.out.xlt
            go_wp2_with fail
            have HBS := Lib.hid (show Bands (dropL L ⟨j0, a0⟩) from HBS0.out.filter _)
            have HLN := Lib.hid (show (dropL L ⟨j0, a0⟩).length ≤ k from Nat.le_trans (List.length_filter_le _ _) hLk)
            have TT := T12
            obtain ⟨LL, hLL⟩ : ∃ z, z = dropL L ⟨j0, a0⟩ := ⟨_, rfl⟩
            rw [← hLL] at TT HBS HLN
            obtain ⟨ans, hans⟩ : ∃ z, z = has LL ⟨j0, a0⟩ := ⟨_, rfl⟩
            obtain ⟨Av, cv, hvr⟩ := own_len TT.out.r.row
            have hc := cell_of_row _ w2.heap.size 0 _ _ _ TT.out.r.cells
            rw [hvr] at hc
            simp only [List.getElem?_toArray, List.getElem?_cons_zero] at hc
            have hx := TT.out.xr
            have hxlW := TT.out.xlt
            have hrlt := TT.out.r.lt
            have HLL := Lib.hid hLL
            have hLN := HLN.out
            clear hLL hvr g0 g1 g2 g3 T12
            refine wp_region_noPanic ?_
            refine wp_region_held_drew (S := (fun w' => w'.rangeAt wr.heap.size 1 [.int .i64 j0, .int .i64 a0] ∧ w'.cell? ⟨w2.heap.size, 0, none⟩ = some (.slice Av LL.length cv))) (by kernel_rfl) ⟨hx, hc⟩ (fun hHeld => ?_)
            have HB : Below W12.heap.size W12 W12.drew := ⟨rfl, rfl, rfl, Nat.le_refl _, fun _ _ => rfl⟩
            have hx : W12.drew.rangeAt wr.heap.size 1 [.int .i64 j0, .int .i64 a0] := hx
            have hc : W12.drew.cell? ⟨w2.heap.size, 0, none⟩ = some (.slice Av LL.length cv) := hc
            refine wpAnyH_take (i := 0) (v := ?_) rfl (by kernel_rfl) (by kernel_rfl) (by kernel_rfl) (fun _ _ _ h => h) (Or.inl ⟨by rfl, ?_⟩) hHeld ?_
            rotate_left
            focus
              intro w hSw
              clear hSw
              go_simp
              try with_reducible rfl
            try simp only [Act.put, List.getElem_toArray, List.getElem_cons_zero, List.getElem_cons_succ, List.setIfInBounds_toArray, List.set_cons_zero, List.set_cons_succ]
            refine wpAnyH_take (i := 1) (v := ?_) rfl (by kernel_rfl) (by kernel_rfl) (by kernel_rfl) (fun _ _ _ h => h) (Or.inl ⟨by rfl, ?_⟩) hHeld ?_
            rotate_left
            focus
              intro w hSw
              clear hSw
              go_simp
              try with_reducible rfl
            try simp only [Act.put, List.getElem_toArray, List.getElem_cons_zero, List.getElem_cons_succ, List.setIfInBounds_toArray, List.set_cons_zero, List.set_cons_succ]
            refine wpAnyH_take (i := 2) rfl (by kernel_rfl) (by kernel_rfl) (by kernel_rfl) (fun _ _ _ h => h) (yieldsIf_load_mid (by rfl) 45 _ rfl wr.heap.size (1) rfl [.int .i64 j0, .int .i64 a0] _ (fun w h => h.1) Tryd.underlying45 rfl size_task) hHeld ?_
            try simp only [Act.put, List.getElem_toArray, List.getElem_cons_zero, List.getElem_cons_succ, List.setIfInBounds_toArray, List.set_cons_zero, List.set_cons_succ]
            refine wpAnyH_take (i := 4) (v := ?_) rfl (by kernel_rfl) (by kernel_rfl) (by kernel_rfl) (fun _ _ _ h => h) (Or.inl ⟨by rfl, ?_⟩) hHeld ?_
            rotate_left
            focus
              intro w hSw
              clear hSw
              go_simp
              try with_reducible rfl
            try simp only [Act.put, List.getElem_toArray, List.getElem_cons_zero, List.getElem_cons_succ, List.setIfInBounds_toArray, List.set_cons_zero, List.set_cons_succ]
            refine wpAnyH_take (i := 5) (v := ?_) rfl (by kernel_rfl) (by kernel_rfl) (by kernel_rfl) (fun _ _ _ h => h) (Or.inl ⟨by rfl, ?_⟩) hHeld ?_
            rotate_left
            focus
              intro w hSw
              clear hSw
              go_simp
              try with_reducible rfl
            try simp only [Act.put, List.getElem_toArray, List.getElem_cons_zero, List.getElem_cons_succ, List.setIfInBounds_toArray, List.set_cons_zero, List.set_cons_succ]
            refine wpAnyH_take (i := 6) rfl (by kernel_rfl) (by kernel_rfl) (by kernel_rfl) (fun _ _ _ h => h) (yieldsIf_load_mid (by rfl) 45 _ rfl wr.heap.size (1) rfl [.int .i64 j0, .int .i64 a0] _ (fun w h => h.1) Tryd.underlying45 rfl size_task) hHeld ?_
            try simp only [Act.put, List.getElem_toArray, List.getElem_cons_zero, List.getElem_cons_succ, List.setIfInBounds_toArray, List.set_cons_zero, List.set_cons_succ]
            refine wpAnyH_ready (rs := [3]) (by kernel_rfl) (by simp) ?_
            refine AllReadyH.cons rfl (fun K hK => ?_) AllReadyH.nil
            go_simp
            refine (qis_c w1.heap.size w1.heap.size (rowsOf LL) ⟨j0, a0⟩ _ (show Hid _ from ⟨_, TT.out.q.below HB⟩) (by rw [len_rows HBS.out]; omega)).mono ?_
            rintro e y1 ⟨rfl, hb1⟩
            rw [mem_rows HBS.out, ← hans]
            have hx := rangeAt_below hx hb1 (Nat.lt_of_lt_of_le hxlW HB.size)
            have hc := (hb1.cell (p := ⟨w2.heap.size, 0, none⟩) (Nat.lt_of_lt_of_le hrlt HB.size)).trans hc
            have HB := HB.trans (hb1.mono HB.size)
            refine hK.out _ _ ⟨hx, hc⟩ (fun hHeld => ?_)
            clear hK K
            try simp only [Act.put, List.getElem_toArray, List.getElem_cons_zero, List.getElem_cons_succ, List.setIfInBounds_toArray, List.set_cons_zero, List.set_cons_succ]
            refine wpAnyH_ready (rs := [7]) (by kernel_rfl) (by simp) ?_
            refine AllReadyH.cons rfl (fun K hK => ?_) AllReadyH.nil
            go_simp
            refine (ris_c w2.heap.size w2.heap.size LL ⟨j0, a0⟩ y1 (show Hid _ from ⟨_, TT.out.r.below HB⟩) (by omega)).mono ?_
            rintro e y2 ⟨rfl, hb2⟩
            rw [show (LL.any fun x => Tsk.beq x.tsk ⟨j0, a0⟩) = ans from hans.symm]
            have hx := rangeAt_below hx hb2 (Nat.lt_of_lt_of_le hxlW HB.size)
            have hc := (hb2.cell (p := ⟨w2.heap.size, 0, none⟩) (Nat.lt_of_lt_of_le hrlt HB.size)).trans hc
            have HB := HB.trans (hb2.mono HB.size)
            refine hK.out _ _ ⟨hx, hc⟩ (fun hHeld => ?_)
            clear hK K
            try simp only [Act.put, List.getElem_toArray, List.getElem_cons_zero, List.getElem_cons_succ, List.setIfInBounds_toArray, List.set_cons_zero, List.set_cons_succ]
            refine wpAnyH_take (i := 8) (v := ?_) rfl (by kernel_rfl) (by kernel_rfl) (by kernel_rfl) (fun _ _ _ h => h) (Or.inl ⟨by rfl, ?_⟩) hHeld ?_
            rotate_left
            focus
              intro w hSw
              clear hSw
              go_simp
              try with_reducible rfl
            try simp only [Act.put, List.getElem_toArray, List.getElem_cons_zero, List.getElem_cons_succ, List.setIfInBounds_toArray, List.set_cons_zero, List.set_cons_succ]
            refine wpAnyH_take (i := 9) (v := ?_) rfl (by kernel_rfl) (by kernel_rfl) (by kernel_rfl) (fun _ _ _ h => h) (Or.inl ⟨by rfl, ?_⟩) hHeld ?_
            rotate_left
            focus
              intro w hSw
              clear hSw
              go_simp
              try with_reducible rfl
            try simp only [Act.put, List.getElem_toArray, List.getElem_cons_zero, List.getElem_cons_succ, List.setIfInBounds_toArray, List.set_cons_zero, List.set_cons_succ]
            refine wpAnyH_take (i := 10) (v := ?_) rfl (by kernel_rfl) (by kernel_rfl) (by kernel_rfl) (fun _ _ _ h => h) (Or.inl ⟨by rfl, ?_⟩) hHeld ?_
            rotate_left
            focus
              intro w hSw
              clear hSw
              go_simp
              try with_reducible rfl
            try simp only [Act.put, List.getElem_toArray, List.getElem_cons_zero, List.getElem_cons_succ, List.setIfInBounds_toArray, List.set_cons_zero, List.set_cons_succ]
            refine wpAnyH_take (i := 12) (v := ?_) rfl (by kernel_rfl) (by kernel_rfl) (by kernel_rfl) (fun _ _ _ h => h) (Or.inl ⟨by rfl, ?_⟩) hHeld ?_
            rotate_left
            focus
              intro w hSw
              clear hSw
              go_simp
              try with_reducible rfl
            try simp only [Act.put, List.getElem_toArray, List.getElem_cons_zero, List.getElem_cons_succ, List.setIfInBounds_toArray, List.set_cons_zero, List.set_cons_succ]
            refine wpAnyH_take (i := 13) (v := ?_) rfl (by kernel_rfl) (by kernel_rfl) (by kernel_rfl) (fun _ _ _ h => h) (Or.inl ⟨by rfl, ?_⟩) hHeld ?_
            rotate_left
            focus
              intro w hSw
              clear hSw
              go_simp
              try with_reducible rfl
            try simp only [Act.put, List.getElem_toArray, List.getElem_cons_zero, List.getElem_cons_succ, List.setIfInBounds_toArray, List.set_cons_zero, List.set_cons_succ]
            refine wpAnyH_take (i := 14) (v := ?_) rfl (by kernel_rfl) (by kernel_rfl) (by kernel_rfl) (fun _ _ _ h => h) (Or.inl ⟨by rfl, ?_⟩) hHeld ?_
            rotate_left
            focus
              intro w hSw
              clear hSw
              go_simp
              try with_reducible rfl
            try simp only [Act.put, List.getElem_toArray, List.getElem_cons_zero, List.getElem_cons_succ, List.setIfInBounds_toArray, List.set_cons_zero, List.set_cons_succ]
            refine wpAnyH_take (i := 15) (v := ?_) rfl (by kernel_rfl) (by kernel_rfl) (by kernel_rfl) (fun _ _ _ h => h) (Or.inl ⟨by rfl, ?_⟩) hHeld ?_
            rotate_left
            focus
              intro w hSw
              (try dsimp only at hSw)
              go_simp
              try with_reducible rfl
            try simp only [Act.put, List.getElem_toArray, List.getElem_cons_zero, List.getElem_cons_succ, List.setIfInBounds_toArray, List.set_cons_zero, List.set_cons_succ]
            refine wpAnyH_take (i := 16) (v := ?_) rfl (by kernel_rfl) (by kernel_rfl) (by kernel_rfl) (fun _ _ _ h => h) (Or.inl ⟨by rfl, ?_⟩) hHeld ?_
            rotate_left
            focus
              intro w hSw
              clear hSw
              go_simp
              try with_reducible rfl
            try simp only [Act.put, List.getElem_toArray, List.getElem_cons_zero, List.getElem_cons_succ, List.setIfInBounds_toArray, List.set_cons_zero, List.set_cons_succ]
            refine wpAnyH_ready (rs := [11]) (by kernel_rfl) (by simp) ?_
            refine AllReadyH.cons rfl (fun K hK => ?_) AllReadyH.nil
            go_simp
            refine (qlen_c w1.heap.size w1.heap.size (rowsOf LL) y2 (show Hid _ from ⟨_, TT.out.q.below HB⟩) (by rw [len_rows HBS.out]; omega)).mono ?_
            rintro e y3 ⟨rfl, hb3⟩
            rw [len_rows HBS.out]
            have hx := rangeAt_below hx hb3 (Nat.lt_of_lt_of_le hxlW HB.size)
            have hc := (hb3.cell (p := ⟨w2.heap.size, 0, none⟩) (Nat.lt_of_lt_of_le hrlt HB.size)).trans hc
            have HB := HB.trans (hb3.mono HB.size)
            refine hK.out _ _ ⟨hx, hc⟩ (fun hHeld => ?_)
            clear hK K
            try simp only [Act.put, List.getElem_toArray, List.getElem_cons_zero, List.getElem_cons_succ, List.setIfInBounds_toArray, List.set_cons_zero, List.set_cons_succ]
            refine wpAnyH_take (i := 17) (v := ?_) rfl (by kernel_rfl) (by kernel_rfl) (by kernel_rfl) (fun _ _ _ h => h) (Or.inl ⟨by rfl, ?_⟩) hHeld ?_
            rotate_left
            focus
              intro w hSw
              clear hSw
              go_simp
              try with_reducible rfl
            try simp only [Act.put, List.getElem_toArray, List.getElem_cons_zero, List.getElem_cons_succ, List.setIfInBounds_toArray, List.set_cons_zero, List.set_cons_succ]
            refine wpAnyH_take (i := 18) (v := ?_) rfl (by kernel_rfl) (by kernel_rfl) (by kernel_rfl) (fun _ _ _ h => h) (Or.inl ⟨by rfl, ?_⟩) hHeld ?_
            rotate_left
            focus
              intro w hSw
              clear hSw
              go_simp
              try with_reducible rfl
            try simp only [Act.put, List.getElem_toArray, List.getElem_cons_zero, List.getElem_cons_succ, List.setIfInBounds_toArray, List.set_cons_zero, List.set_cons_succ]
            refine wpAnyH_take (i := 19) (v := ?_) rfl (by kernel_rfl) (by kernel_rfl) (by kernel_rfl) (fun _ _ _ h => h) (Or.inl ⟨by rfl, ?_⟩) hHeld ?_
            rotate_left
            focus
              intro w hSw
              clear hSw
              go_simp
              try with_reducible rfl
            try simp only [Act.put, List.getElem_toArray, List.getElem_cons_zero, List.getElem_cons_succ, List.setIfInBounds_toArray, List.set_cons_zero, List.set_cons_succ]
            refine wpAnyH_take (i := 20) (v := ?_) rfl (by kernel_rfl) (by kernel_rfl) (by kernel_rfl) (fun _ _ _ h => h) (Or.inl ⟨by rfl, ?_⟩) hHeld ?_
            rotate_left
            focus
              intro w hSw
              clear hSw
              go_simp
              try with_reducible rfl
            try simp only [Act.put, List.getElem_toArray, List.getElem_cons_zero, List.getElem_cons_succ, List.setIfInBounds_toArray, List.set_cons_zero, List.set_cons_succ]
            refine wpAnyH_take (i := 22) (v := ?_) rfl (by kernel_rfl) (by kernel_rfl) (by kernel_rfl) (fun _ _ _ h => h) (Or.inl ⟨by rfl, ?_⟩) hHeld ?_
            rotate_left
            focus
              intro w hSw
              clear hSw
              go_simp
              try with_reducible rfl
            try simp only [Act.put, List.getElem_toArray, List.getElem_cons_zero, List.getElem_cons_succ, List.setIfInBounds_toArray, List.set_cons_zero, List.set_cons_succ]
            refine wpAnyH_ready (rs := [21]) (by kernel_rfl) (by simp) ?_
            refine AllReadyH.cons rfl (fun K hK => ?_) AllReadyH.nil
            go_simp
            refine (qlist_c w1.heap.size w1.heap.size (rowsOf LL) y3 (show Hid _ from ⟨_, TT.out.q.below HB⟩) (by rw [len_rows HBS.out]; omega)).mono ?_
            rintro e y4 ⟨v6, rfl, hown6, hb4⟩
            obtain ⟨A6, c6, hv6, _, hrd6⟩ := own_rows (l := catT (rowsOf LL) 3) Tsk.k2 hown6 rfl
            subst hv6
            have hx := rangeAt_below hx hb4 (Nat.lt_of_lt_of_le hxlW HB.size)
            have hc := (hb4.cell (p := ⟨w2.heap.size, 0, none⟩) (Nat.lt_of_lt_of_le hrlt HB.size)).trans hc
            have HB := HB.trans (hb4.mono HB.size)
            refine hK.out _ _ ⟨hx, hc⟩ (fun hHeld => ?_)
            clear hK K
            try simp only [Act.put, List.getElem_toArray, List.getElem_cons_zero, List.getElem_cons_succ, List.setIfInBounds_toArray, List.set_cons_zero, List.set_cons_succ]
            refine wpAnyH_ready (rs := [23]) (by kernel_rfl) (by simp) ?_
            refine AllReadyH.cons rfl (fun K hK => ?_) AllReadyH.nil
            go_simp
            refine (rlist_c w2.heap.size w2.heap.size LL y4 (show Hid _ from ⟨_, TT.out.r.below HB⟩) (by omega)).mono ?_
            rintro e y5 ⟨v7, rfl, hown7, hb5⟩
            obtain ⟨A7, c7, hv7, _, hrd7⟩ := own_rows (l := catT (rowsOf LL) 3) Tsk.k2 hown7 rfl
            subst hv7
            have hrd6 : Hid (RdRows y5 y5.heap.size Tsk.cells 2 A6 (catT (rowsOf LL) 3).length (catT (rowsOf LL) 3)) := (hrd6.below hb5 (Nat.le_refl _)).mono hb5.size
            have hx := rangeAt_below hx hb5 (Nat.lt_of_lt_of_le hxlW HB.size)
            have hc := (hb5.cell (p := ⟨w2.heap.size, 0, none⟩) (Nat.lt_of_lt_of_le hrlt HB.size)).trans hc
            have HB := HB.trans (hb5.mono HB.size)
            refine hK.out _ _ ⟨hx, hc⟩ (fun hHeld => ?_)
            clear hK K
            try simp only [Act.put, List.getElem_toArray, List.getElem_cons_zero, List.getElem_cons_succ, List.setIfInBounds_toArray, List.set_cons_zero, List.set_cons_succ]
            refine wpAnyH_ready (rs := [24]) (by kernel_rfl) (by simp) ?_
            refine AllReadyH.cons rfl (fun K hK => ?_) AllReadyH.nil
            go_simp
            refine (same_true A6 c6 A7 c7 (catT (rowsOf LL) 3) y5 hrd6 hrd7 (by rw [len_rows HBS.out]; omega)).mono ?_
            rintro e y6 ⟨rfl, hb6⟩
            have hx := rangeAt_below hx hb6 (Nat.lt_of_lt_of_le hxlW HB.size)
            have hc := (hb6.cell (p := ⟨w2.heap.size, 0, none⟩) (Nat.lt_of_lt_of_le hrlt HB.size)).trans hc
            have HB := HB.trans (hb6.mono HB.size)
            refine hK.out _ _ ⟨hx, hc⟩ (fun hHeld => ?_)
            clear hK K
            try simp only [Act.put, List.getElem_toArray, List.getElem_cons_zero, List.getElem_cons_succ, List.setIfInBounds_toArray, List.set_cons_zero, List.set_cons_succ]
            refine wpAnyH_take (i := 25) (v := ?_) rfl (by kernel_rfl) (by kernel_rfl) (by kernel_rfl) (fun _ _ _ h => h) (Or.inl ⟨by rfl, ?_⟩) hHeld ?_
            rotate_left
            focus
              intro w hSw
              clear hSw
              go_simp
              try with_reducible rfl
            try simp only [Act.put, List.getElem_toArray, List.getElem_cons_zero, List.getElem_cons_succ, List.setIfInBounds_toArray, List.set_cons_zero, List.set_cons_succ]
            refine wpAnyH_take (i := 26) (v := ?_) rfl (by kernel_rfl) (by kernel_rfl) (by kernel_rfl) (fun _ _ _ h => h) (Or.inl ⟨by rfl, ?_⟩) hHeld ?_
            rotate_left
            focus
              intro w hSw
              clear hSw
              go_simp
              try with_reducible rfl
            try simp only [Act.put, List.getElem_toArray, List.getElem_cons_zero, List.getElem_cons_succ, List.setIfInBounds_toArray, List.set_cons_zero, List.set_cons_succ]
            refine wpAnyH_done (by kernel_rfl) ?_ _
            refine NoPanic.normal ?_
            go_wp2_with fail
            go_roundw
            case rel => exact ⟨k + 1, LL, _, _, _, rfl, by omega, by omega, by go_num, TT.out.q.below HB, TT.out.r.below HB, HBS.out, by omega, TT.out.b.trans (HB.mono TT.out.b.size)⟩
            case measure => simp [intOf]; omega
        · have n4 : (kd == 4) = false := by simpa using hk4
          by_cases hk5 : kd = 5
          · subst hk5
            go_wp2_with fail
            refine (job_any w1.heap.size w1.heap.size L v j0 W8 (show Hid _ from T8.out.q) HBS0.out (by omega)).mono ?_
            rintro e W9 ⟨rfl, v2, hq9, hs9⟩
            have T9 := Lib.hid (T8.out.qstep hq9 hs9)
            clear g0 g1 g2 g3 hq9 hs9 hx hxl
            have hx := T9.out.xr
            have g0 := T9.out.x0
            have g1 := T9.out.x1
            have g2 := T9.out.x2
            have g3 := T9.out.x3
            have hxl := T9.out.xlt
            go_wp2_with fail
            refine (rcut_job w2.heap.size w2.heap.size L vr ⟨j0, a0⟩ W9 (Nat.le_of_lt T9.out.r.lt) (show Hid _ from T9.out.r) (by omega)).mono ?_
            rintro e W10 ⟨rfl, vr2, hr10, hs10⟩
            have T10 := Lib.hid (T9.out.rstep hr10 hs10)
            clear g0 g1 g2 g3 hr10 hs10 hx hxl
            have hx := T10.out.xr
            have g0 := T10.out.x0
            have g1 := T10.out.x1
            have g2 := T10.out.x2
            have g3 := T10.out.x3
            have hxl := T10.out.xlt
            go_wp2_with fail
            have HBS := Lib.hid (show Bands (jobL L j0) from HBS0.out.filter _)
            have HLN := Lib.hid (show (jobL L j0).length ≤ k from Nat.le_trans (List.length_filter_le _ _) hLk)
            have TT := T10
            obtain ⟨LL, hLL⟩ : ∃ z, z = jobL L j0 := ⟨_, rfl⟩
            rw [← hLL] at TT HBS HLN
            obtain ⟨ans, hans⟩ : ∃ z, z = has LL ⟨j0, a0⟩ := ⟨_, rfl⟩
            obtain ⟨Av, cv, hvr⟩ := own_len TT.out.r.row
            have hc := cell_of_row _ w2.heap.size 0 _ _ _ TT.out.r.cells
            rw [hvr] at hc
            simp only [List.getElem?_toArray, List.getElem?_cons_zero] at hc
            have hx := TT.out.xr
            have hxlW := TT.out.xlt
            have hrlt := TT.out.r.lt
            have HLL := Lib.hid hLL
            have hLN := HLN.out
            clear hLL hvr g0 g1 g2 g3 T10
            refine wp_region_noPanic ?_
            refine wp_region_held_drew (S := (fun w' => w'.rangeAt wr.heap.size 1 [.int .i64 j0, .int .i64 a0] ∧ w'.cell? ⟨w2.heap.size, 0, none⟩ = some (.slice Av LL.length cv))) (by kernel_rfl) ⟨hx, hc⟩ (fun hHeld => ?_)
            have HB : Below W10.heap.size W10 W10.drew := ⟨rfl, rfl, rfl, Nat.le_refl _, fun _ _ => rfl⟩
            have hx : W10.drew.rangeAt wr.heap.size 1 [.int .i64 j0, .int .i64 a0] := hx
            have hc : W10.drew.cell? ⟨w2.heap.size, 0, none⟩ = some (.slice Av LL.length cv) := hc
            refine wpAnyH_take (i := 0) (v := ?_) rfl (by kernel_rfl) (by kernel_rfl) (by kernel_rfl) (fun _ _ _ h => h) (Or.inl ⟨by rfl, ?_⟩) hHeld ?_
            rotate_left
            focus
              intro w hSw
              clear hSw
              go_simp
              try with_reducible rfl
            try simp only [Act.put, List.getElem_toArray, List.getElem_cons_zero, List.getElem_cons_succ, List.setIfInBounds_toArray, List.set_cons_zero, List.set_cons_succ]
            refine wpAnyH_take (i := 1) (v := ?_) rfl (by kernel_rfl) (by kernel_rfl) (by kernel_rfl) (fun _ _ _ h => h) (Or.inl ⟨by rfl, ?_⟩) hHeld ?_
            rotate_left
            focus
              intro w hSw
              clear hSw
              go_simp
              try with_reducible rfl
            try simp only [Act.put, List.getElem_toArray, List.getElem_cons_zero, List.getElem_cons_succ, List.setIfInBounds_toArray, List.set_cons_zero, List.set_cons_succ]
            refine wpAnyH_take (i := 2) rfl (by kernel_rfl) (by kernel_rfl) (by kernel_rfl) (fun _ _ _ h => h) (yieldsIf_load_mid (by rfl) 45 _ rfl wr.heap.size (1) rfl [.int .i64 j0, .int .i64 a0] _ (fun w h => h.1) Tryd.underlying45 rfl size_task) hHeld ?_
            try simp only [Act.put, List.getElem_toArray, List.getElem_cons_zero, List.getElem_cons_succ, List.setIfInBounds_toArray, List.set_cons_zero, List.set_cons_succ]
            refine wpAnyH_take (i := 4) (v := ?_) rfl (by kernel_rfl) (by kernel_rfl) (by kernel_rfl) (fun _ _ _ h => h) (Or.inl ⟨by rfl, ?_⟩) hHeld ?_
            rotate_left
            focus
              intro w hSw
              clear hSw
              go_simp
              try with_reducible rfl
            try simp only [Act.put, List.getElem_toArray, List.getElem_cons_zero, List.getElem_cons_succ, List.setIfInBounds_toArray, List.set_cons_zero, List.set_cons_succ]
            refine wpAnyH_take (i := 5) (v := ?_) rfl (by kernel_rfl) (by kernel_rfl) (by kernel_rfl) (fun _ _ _ h => h) (Or.inl ⟨by rfl, ?_⟩) hHeld ?_
            rotate_left
            focus
              intro w hSw
              clear hSw
              go_simp
              try with_reducible rfl
            try simp only [Act.put, List.getElem_toArray, List.getElem_cons_zero, List.getElem_cons_succ, List.setIfInBounds_toArray, List.set_cons_zero, List.set_cons_succ]
            refine wpAnyH_take (i := 6) rfl (by kernel_rfl) (by kernel_rfl) (by kernel_rfl) (fun _ _ _ h => h) (yieldsIf_load_mid (by rfl) 45 _ rfl wr.heap.size (1) rfl [.int .i64 j0, .int .i64 a0] _ (fun w h => h.1) Tryd.underlying45 rfl size_task) hHeld ?_
            try simp only [Act.put, List.getElem_toArray, List.getElem_cons_zero, List.getElem_cons_succ, List.setIfInBounds_toArray, List.set_cons_zero, List.set_cons_succ]
            refine wpAnyH_ready (rs := [3]) (by kernel_rfl) (by simp) ?_
            refine AllReadyH.cons rfl (fun K hK => ?_) AllReadyH.nil
            go_simp
            refine (qis_c w1.heap.size w1.heap.size (rowsOf LL) ⟨j0, a0⟩ _ (show Hid _ from ⟨_, TT.out.q.below HB⟩) (by rw [len_rows HBS.out]; omega)).mono ?_
            rintro e y1 ⟨rfl, hb1⟩
            rw [mem_rows HBS.out, ← hans]
            have hx := rangeAt_below hx hb1 (Nat.lt_of_lt_of_le hxlW HB.size)
            have hc := (hb1.cell (p := ⟨w2.heap.size, 0, none⟩) (Nat.lt_of_lt_of_le hrlt HB.size)).trans hc
            have HB := HB.trans (hb1.mono HB.size)
            refine hK.out _ _ ⟨hx, hc⟩ (fun hHeld => ?_)
            clear hK K
            try simp only [Act.put, List.getElem_toArray, List.getElem_cons_zero, List.getElem_cons_succ, List.setIfInBounds_toArray, List.set_cons_zero, List.set_cons_succ]
            refine wpAnyH_ready (rs := [7]) (by kernel_rfl) (by simp) ?_
            refine AllReadyH.cons rfl (fun K hK => ?_) AllReadyH.nil
            go_simp
            refine (ris_c w2.heap.size w2.heap.size LL ⟨j0, a0⟩ y1 (show Hid _ from ⟨_, TT.out.r.below HB⟩) (by omega)).mono ?_
            rintro e y2 ⟨rfl, hb2⟩
            rw [show (LL.any fun x => Tsk.beq x.tsk ⟨j0, a0⟩) = ans from hans.symm]
            have hx := rangeAt_below hx hb2 (Nat.lt_of_lt_of_le hxlW HB.size)
            have hc := (hb2.cell (p := ⟨w2.heap.size, 0, none⟩) (Nat.lt_of_lt_of_le hrlt HB.size)).trans hc
            have HB := HB.trans (hb2.mono HB.size)
            refine hK.out _ _ ⟨hx, hc⟩ (fun hHeld => ?_)
            clear hK K
            try simp only [Act.put, List.getElem_toArray, List.getElem_cons_zero, List.getElem_cons_succ, List.setIfInBounds_toArray, List.set_cons_zero, List.set_cons_succ]
            refine wpAnyH_take (i := 8) (v := ?_) rfl (by kernel_rfl) (by kernel_rfl) (by kernel_rfl) (fun _ _ _ h => h) (Or.inl ⟨by rfl, ?_⟩) hHeld ?_
            rotate_left
            focus
              intro w hSw
              clear hSw
              go_simp
              try with_reducible rfl
            try simp only [Act.put, List.getElem_toArray, List.getElem_cons_zero, List.getElem_cons_succ, List.setIfInBounds_toArray, List.set_cons_zero, List.set_cons_succ]
            refine wpAnyH_take (i := 9) (v := ?_) rfl (by kernel_rfl) (by kernel_rfl) (by kernel_rfl) (fun _ _ _ h => h) (Or.inl ⟨by rfl, ?_⟩) hHeld ?_
            rotate_left
            focus
              intro w hSw
              clear hSw
              go_simp
              try with_reducible rfl
            try simp only [Act.put, List.getElem_toArray, List.getElem_cons_zero, List.getElem_cons_succ, List.setIfInBounds_toArray, List.set_cons_zero, List.set_cons_succ]
            refine wpAnyH_take (i := 10) (v := ?_) rfl (by kernel_rfl) (by kernel_rfl) (by kernel_rfl) (fun _ _ _ h => h) (Or.inl ⟨by rfl, ?_⟩) hHeld ?_
            rotate_left
            focus
              intro w hSw
              clear hSw
              go_simp
              try with_reducible rfl
            try simp only [Act.put, List.getElem_toArray, List.getElem_cons_zero, List.getElem_cons_succ, List.setIfInBounds_toArray, List.set_cons_zero, List.set_cons_succ]
            refine wpAnyH_take (i := 12) (v := ?_) rfl (by kernel_rfl) (by kernel_rfl) (by kernel_rfl) (fun _ _ _ h => h) (Or.inl ⟨by rfl, ?_⟩) hHeld ?_
            rotate_left
            focus
              intro w hSw
              clear hSw
              go_simp
              try with_reducible rfl
            try simp only [Act.put, List.getElem_toArray, List.getElem_cons_zero, List.getElem_cons_succ, List.setIfInBounds_toArray, List.set_cons_zero, List.set_cons_succ]
            refine wpAnyH_take (i := 13) (v := ?_) rfl (by kernel_rfl) (by kernel_rfl) (by kernel_rfl) (fun _ _ _ h => h) (Or.inl ⟨by rfl, ?_⟩) hHeld ?_
            rotate_left
            focus
              intro w hSw
              clear hSw
              go_simp
              try with_reducible rfl
            try simp only [Act.put, List.getElem_toArray, List.getElem_cons_zero, List.getElem_cons_succ, List.setIfInBounds_toArray, List.set_cons_zero, List.set_cons_succ]
            refine wpAnyH_take (i := 14) (v := ?_) rfl (by kernel_rfl) (by kernel_rfl) (by kernel_rfl) (fun _ _ _ h => h) (Or.inl ⟨by rfl, ?_⟩) hHeld ?_
            rotate_left
            focus
              intro w hSw
              clear hSw
              go_simp
              try with_reducible rfl
            try simp only [Act.put, List.getElem_toArray, List.getElem_cons_zero, List.getElem_cons_succ, List.setIfInBounds_toArray, List.set_cons_zero, List.set_cons_succ]
            refine wpAnyH_take (i := 15) (v := ?_) rfl (by kernel_rfl) (by kernel_rfl) (by kernel_rfl) (fun _ _ _ h => h) (Or.inl ⟨by rfl, ?_⟩) hHeld ?_
            rotate_left
            focus
              intro w hSw
              (try dsimp only at hSw)
              go_simp
              try with_reducible rfl
            try simp only [Act.put, List.getElem_toArray, List.getElem_cons_zero, List.getElem_cons_succ, List.setIfInBounds_toArray, List.set_cons_zero, List.set_cons_succ]
            refine wpAnyH_take (i := 16) (v := ?_) rfl (by kernel_rfl) (by kernel_rfl) (by kernel_rfl) (fun _ _ _ h => h) (Or.inl ⟨by rfl, ?_⟩) hHeld ?_
            rotate_left
            focus
              intro w hSw
              clear hSw
              go_simp
              try with_reducible rfl
            try simp only [Act.put, List.getElem_toArray, List.getElem_cons_zero, List.getElem_cons_succ, List.setIfInBounds_toArray, List.set_cons_zero, List.set_cons_succ]
            refine wpAnyH_ready (rs := [11]) (by kernel_rfl) (by simp) ?_
            refine AllReadyH.cons rfl (fun K hK => ?_) AllReadyH.nil
            go_simp
            refine (qlen_c w1.heap.size w1.heap.size (rowsOf LL) y2 (show Hid _ from ⟨_, TT.out.q.below HB⟩) (by rw [len_rows HBS.out]; omega)).mono ?_
            rintro e y3 ⟨rfl, hb3⟩
            rw [len_rows HBS.out]
            have hx := rangeAt_below hx hb3 (Nat.lt_of_lt_of_le hxlW HB.size)
            have hc := (hb3.cell (p := ⟨w2.heap.size, 0, none⟩) (Nat.lt_of_lt_of_le hrlt HB.size)).trans hc
            have HB := HB.trans (hb3.mono HB.size)
            refine hK.out _ _ ⟨hx, hc⟩ (fun hHeld => ?_)
            clear hK K
            try simp only [Act.put, List.getElem_toArray, List.getElem_cons_zero, List.getElem_cons_succ, List.setIfInBounds_toArray, List.set_cons_zero, List.set_cons_succ]
            refine wpAnyH_take (i := 17) (v := ?_) rfl (by kernel_rfl) (by kernel_rfl) (by kernel_rfl) (fun _ _ _ h => h) (Or.inl ⟨by rfl, ?_⟩) hHeld ?_
            rotate_left
            focus
              intro w hSw
              clear hSw
              go_simp
              try with_reducible rfl
            try simp only [Act.put, List.getElem_toArray, List.getElem_cons_zero, List.getElem_cons_succ, List.setIfInBounds_toArray, List.set_cons_zero, List.set_cons_succ]
            refine wpAnyH_take (i := 18) (v := ?_) rfl (by kernel_rfl) (by kernel_rfl) (by kernel_rfl) (fun _ _ _ h => h) (Or.inl ⟨by rfl, ?_⟩) hHeld ?_
            rotate_left
            focus
              intro w hSw
              clear hSw
              go_simp
              try with_reducible rfl
            try simp only [Act.put, List.getElem_toArray, List.getElem_cons_zero, List.getElem_cons_succ, List.setIfInBounds_toArray, List.set_cons_zero, List.set_cons_succ]
            refine wpAnyH_take (i := 19) (v := ?_) rfl (by kernel_rfl) (by kernel_rfl) (by kernel_rfl) (fun _ _ _ h => h) (Or.inl ⟨by rfl, ?_⟩) hHeld ?_
            rotate_left
            focus
              intro w hSw
              clear hSw
              go_simp
              try with_reducible rfl
            try simp only [Act.put, List.getElem_toArray, List.getElem_cons_zero, List.getElem_cons_succ, List.setIfInBounds_toArray, List.set_cons_zero, List.set_cons_succ]
            refine wpAnyH_take (i := 20) (v := ?_) rfl (by kernel_rfl) (by kernel_rfl) (by kernel_rfl) (fun _ _ _ h => h) (Or.inl ⟨by rfl, ?_⟩) hHeld ?_
            rotate_left
            focus
              intro w hSw
              clear hSw
              go_simp
              try with_reducible rfl
            try simp only [Act.put, List.getElem_toArray, List.getElem_cons_zero, List.getElem_cons_succ, List.setIfInBounds_toArray, List.set_cons_zero, List.set_cons_succ]
            refine wpAnyH_take (i := 22) (v := ?_) rfl (by kernel_rfl) (by kernel_rfl) (by kernel_rfl) (fun _ _ _ h => h) (Or.inl ⟨by rfl, ?_⟩) hHeld ?_
            rotate_left
            focus
              intro w hSw
              clear hSw
              go_simp
              try with_reducible rfl
            try simp only [Act.put, List.getElem_toArray, List.getElem_cons_zero, List.getElem_cons_succ, List.setIfInBounds_toArray, List.set_cons_zero, List.set_cons_succ]
            refine wpAnyH_ready (rs := [21]) (by kernel_rfl) (by simp) ?_
            refine AllReadyH.cons rfl (fun K hK => ?_) AllReadyH.nil
            go_simp
            refine (qlist_c w1.heap.size w1.heap.size (rowsOf LL) y3 (show Hid _ from ⟨_, TT.out.q.below HB⟩) (by rw [len_rows HBS.out]; omega)).mono ?_
            rintro e y4 ⟨v6, rfl, hown6, hb4⟩
            obtain ⟨A6, c6, hv6, _, hrd6⟩ := own_rows (l := catT (rowsOf LL) 3) Tsk.k2 hown6 rfl
            subst hv6
            have hx := rangeAt_below hx hb4 (Nat.lt_of_lt_of_le hxlW HB.size)
            have hc := (hb4.cell (p := ⟨w2.heap.size, 0, none⟩) (Nat.lt_of_lt_of_le hrlt HB.size)).trans hc
            have HB := HB.trans (hb4.mono HB.size)
            refine hK.out _ _ ⟨hx, hc⟩ (fun hHeld => ?_)
            clear hK K
            try simp only [Act.put, List.getElem_toArray, List.getElem_cons_zero, List.getElem_cons_succ, List.setIfInBounds_toArray, List.set_cons_zero, List.set_cons_succ]
            refine wpAnyH_ready (rs := [23]) (by kernel_rfl) (by simp) ?_
            refine AllReadyH.cons rfl (fun K hK => ?_) AllReadyH.nil
            go_simp
            refine (rlist_c w2.heap.size w2.heap.size LL y4 (show Hid _ from ⟨_, TT.out.r.below HB⟩) (by omega)).mono ?_
            rintro e y5 ⟨v7, rfl, hown7, hb5⟩
            obtain ⟨A7, c7, hv7, _, hrd7⟩ := own_rows (l := catT (rowsOf LL) 3) Tsk.k2 hown7 rfl
            subst hv7
            have hrd6 : Hid (RdRows y5 y5.heap.size Tsk.cells 2 A6 (catT (rowsOf LL) 3).length (catT (rowsOf LL) 3)) := (hrd6.below hb5 (Nat.le_refl _)).mono hb5.size
            have hx := rangeAt_below hx hb5 (Nat.lt_of_lt_of_le hxlW HB.size)
            have hc := (hb5.cell (p := ⟨w2.heap.size, 0, none⟩) (Nat.lt_of_lt_of_le hrlt HB.size)).trans hc
            have HB := HB.trans (hb5.mono HB.size)
            refine hK.out _ _ ⟨hx, hc⟩ (fun hHeld => ?_)
            clear hK K
            try simp only [Act.put, List.getElem_toArray, List.getElem_cons_zero, List.getElem_cons_succ, List.setIfInBounds_toArray, List.set_cons_zero, List.set_cons_succ]
            refine wpAnyH_ready (rs := [24]) (by kernel_rfl) (by simp) ?_
            refine AllReadyH.cons rfl (fun K hK => ?_) AllReadyH.nil
            go_simp
            refine (same_true A6 c6 A7 c7 (catT (rowsOf LL) 3) y5 hrd6 hrd7 (by rw [len_rows HBS.out]; omega)).mono ?_
            rintro e y6 ⟨rfl, hb6⟩
            have hx := rangeAt_below hx hb6 (Nat.lt_of_lt_of_le hxlW HB.size)
            have hc := (hb6.cell (p := ⟨w2.heap.size, 0, none⟩) (Nat.lt_of_lt_of_le hrlt HB.size)).trans hc
            have HB := HB.trans (hb6.mono HB.size)
            refine hK.out _ _ ⟨hx, hc⟩ (fun hHeld => ?_)
            clear hK K
            try simp only [Act.put, List.getElem_toArray, List.getElem_cons_zero, List.getElem_cons_succ, List.setIfInBounds_toArray, List.set_cons_zero, List.set_cons_succ]
            refine wpAnyH_take (i := 25) (v := ?_) rfl (by kernel_rfl) (by kernel_rfl) (by kernel_rfl) (fun _ _ _ h => h) (Or.inl ⟨by rfl, ?_⟩) hHeld ?_
            rotate_left
            focus
              intro w hSw
              clear hSw
              go_simp
              try with_reducible rfl
            try simp only [Act.put, List.getElem_toArray, List.getElem_cons_zero, List.getElem_cons_succ, List.setIfInBounds_toArray, List.set_cons_zero, List.set_cons_succ]
            refine wpAnyH_take (i := 26) (v := ?_) rfl (by kernel_rfl) (by kernel_rfl) (by kernel_rfl) (fun _ _ _ h => h) (Or.inl ⟨by rfl, ?_⟩) hHeld ?_
            rotate_left
            focus
              intro w hSw
              clear hSw
              go_simp
              try with_reducible rfl
            try simp only [Act.put, List.getElem_toArray, List.getElem_cons_zero, List.getElem_cons_succ, List.setIfInBounds_toArray, List.set_cons_zero, List.set_cons_succ]
            refine wpAnyH_done (by kernel_rfl) ?_ _
            refine NoPanic.normal ?_
            go_wp2_with fail
            go_roundw
            case rel => exact ⟨k + 1, LL, _, _, _, rfl, by omega, by omega, by go_num, TT.out.q.below HB, TT.out.r.below HB, HBS.out, by omega, TT.out.b.trans (HB.mono TT.out.b.size)⟩
            case measure => simp [intOf]; omega
          · have n5 : (kd == 5) = false := by simpa using hk5
            go_wp2_with fail
            refine wp_region_noPanic ?_
            refine wp_region_held_drew (S := (fun w' => w'.rangeAt wr.heap.size 1 [.int .i64 j0, .int .i64 a0] ∧ w'.cell? ⟨wr.heap.size, 3, none⟩ = some (.int .i64 bd))) (by kernel_rfl) ⟨hx, g3⟩ (fun hHeld => ?_)
            refine wpAnyH_take (i := 0) (v := ?_) rfl (by kernel_rfl) (by kernel_rfl) (by kernel_rfl) (fun _ _ _ h => h) (Or.inl ⟨by rfl, ?_⟩) hHeld ?_
            rotate_left
            focus
              intro w hSw
              clear hSw
              go_simp
              try with_reducible rfl
            try simp only [Act.put, List.getElem_toArray, List.getElem_cons_zero, List.getElem_cons_succ, List.setIfInBounds_toArray, List.set_cons_zero, List.set_cons_succ]
            refine wpAnyH_take (i := 1) (v := ?_) rfl (by kernel_rfl) (by kernel_rfl) (by kernel_rfl) (fun _ _ _ h => h) (Or.inl ⟨by rfl, ?_⟩) hHeld ?_
            rotate_left
            focus
              intro w hSw
              clear hSw
              go_simp
              try with_reducible rfl
            try simp only [Act.put, List.getElem_toArray, List.getElem_cons_zero, List.getElem_cons_succ, List.setIfInBounds_toArray, List.set_cons_zero, List.set_cons_succ]
            refine wpAnyH_take (i := 2) rfl (by kernel_rfl) (by kernel_rfl) (by kernel_rfl) (fun _ _ _ h => h) (yieldsIf_load_mid (by rfl) 45 _ rfl wr.heap.size (1) rfl [.int .i64 j0, .int .i64 a0] _ (fun w h => h.1) Tryd.underlying45 rfl size_task) hHeld ?_
            try simp only [Act.put, List.getElem_toArray, List.getElem_cons_zero, List.getElem_cons_succ, List.setIfInBounds_toArray, List.set_cons_zero, List.set_cons_succ]
            refine wpAnyH_take (i := 3) (v := ?_) rfl (by kernel_rfl) (by kernel_rfl) (by kernel_rfl) (fun _ _ _ h => h) (Or.inl ⟨by rfl, ?_⟩) hHeld ?_
            rotate_left
            focus
              intro w hSw
              clear hSw
              go_simp
              try with_reducible rfl
            try simp only [Act.put, List.getElem_toArray, List.getElem_cons_zero, List.getElem_cons_succ, List.setIfInBounds_toArray, List.set_cons_zero, List.set_cons_succ]
            refine wpAnyH_take (i := 4) (v := ?_) rfl (by kernel_rfl) (by kernel_rfl) (by kernel_rfl) (fun _ _ _ h => h) (Or.inl ⟨by rfl, ?_⟩) hHeld ?_
            rotate_left
            focus
              intro w hSw
              (try dsimp only at hSw)
              go_simp
              try with_reducible rfl
            try simp only [Act.put, List.getElem_toArray, List.getElem_cons_zero, List.getElem_cons_succ, List.setIfInBounds_toArray, List.set_cons_zero, List.set_cons_succ]
            refine wpAnyH_take (i := 7) (v := ?_) rfl (by kernel_rfl) (by kernel_rfl) (by kernel_rfl) (fun _ _ _ h => h) (Or.inl ⟨by rfl, ?_⟩) hHeld ?_
            rotate_left
            focus
              intro w hSw
              clear hSw
              go_simp
              try with_reducible rfl
            try simp only [Act.put, List.getElem_toArray, List.getElem_cons_zero, List.getElem_cons_succ, List.setIfInBounds_toArray, List.set_cons_zero, List.set_cons_succ]
            refine wpAnyH_take (i := 8) (v := ?_) rfl (by kernel_rfl) (by kernel_rfl) (by kernel_rfl) (fun _ _ _ h => h) (Or.inl ⟨by rfl, ?_⟩) hHeld ?_
            rotate_left
            focus
              intro w hSw
              clear hSw
              go_simp
              try with_reducible rfl
            try simp only [Act.put, List.getElem_toArray, List.getElem_cons_zero, List.getElem_cons_succ, List.setIfInBounds_toArray, List.set_cons_zero, List.set_cons_succ]
            refine wpAnyH_take (i := 9) rfl (by kernel_rfl) (by kernel_rfl) (by kernel_rfl) (fun _ _ _ h => h) (yieldsIf_load_mid (by rfl) 45 _ rfl wr.heap.size (1) rfl [.int .i64 j0, .int .i64 a0] _ (fun w h => h.1) Tryd.underlying45 rfl size_task) hHeld ?_
            try simp only [Act.put, List.getElem_toArray, List.getElem_cons_zero, List.getElem_cons_succ, List.setIfInBounds_toArray, List.set_cons_zero, List.set_cons_succ]
            refine wpAnyH_take (i := 10) (v := ?_) rfl (by kernel_rfl) (by kernel_rfl) (by kernel_rfl) (fun _ _ _ h => h) (Or.inl ⟨by rfl, ?_⟩) hHeld ?_
            rotate_left
            focus
              intro w hSw
              clear hSw
              go_simp
              try with_reducible rfl
            try simp only [Act.put, List.getElem_toArray, List.getElem_cons_zero, List.getElem_cons_succ, List.setIfInBounds_toArray, List.set_cons_zero, List.set_cons_succ]
            refine wpAnyH_take (i := 11) (v := ?_) rfl (by kernel_rfl) (by kernel_rfl) (by kernel_rfl) (fun _ _ _ h => h) (Or.inl ⟨by rfl, ?_⟩) hHeld ?_
            rotate_left
            focus
              intro w hSw
              (try dsimp only at hSw)
              go_simp
              try with_reducible rfl
            try simp only [Act.put, List.getElem_toArray, List.getElem_cons_zero, List.getElem_cons_succ, List.setIfInBounds_toArray, List.set_cons_zero, List.set_cons_succ]
            refine wpAnyH_ready (rs := [5]) (by kernel_rfl) (by simp) ?_
            refine AllReadyH.cons rfl (fun K hK => ?_) AllReadyH.nil
            go_simp
            refine (push_any Er w1.heap.size w1.heap.size L v ⟨j0, a0⟩ bd W8.drew (Nat.le_of_lt T8.out.q.lt) (HE2.out W8.drew (T8.out.below (drew_below W8)).b) (show Hid _ from (T8.out.below (drew_below W8)).q) HBS0.out (by omega)).mono ?_
            rintro e W9 ⟨rfl, v2, hq9, hs9⟩
            have T9 := Lib.hid ((T8.out.below (drew_below W8)).qstep hq9 hs9)
            have hx := T9.out.xr
            have g3 := T9.out.x3
            refine hK.out _ _ ⟨hx, g3⟩ (fun hHeld => ?_)
            clear hK K
            try simp only [Act.put, List.getElem_toArray, List.getElem_cons_zero, List.getElem_cons_succ, List.setIfInBounds_toArray, List.set_cons_zero, List.set_cons_succ]
            refine wpAnyH_ready (rs := [6]) (by kernel_rfl) (by simp) ?_
            refine AllReadyH.cons rfl (fun K hK => ?_) AllReadyH.nil
            go_simp
            refine (kind21_c W9 T9.out.b.size (HE.out W9 T9.out.b) (pushK L ⟨j0, a0⟩ bd) (pushK_le _ _ _)).mono ?_
            rintro e W10 ⟨rfl, hb10⟩
            have T10 := Lib.hid (T9.out.below hb10)
            have hx := T10.out.xr
            have g3 := T10.out.x3
            refine hK.out _ _ ⟨hx, g3⟩ (fun hHeld => ?_)
            clear hK K
            try simp only [Act.put, List.getElem_toArray, List.getElem_cons_zero, List.getElem_cons_succ, List.setIfInBounds_toArray, List.set_cons_zero, List.set_cons_succ]
            refine wpAnyH_ready (rs := [12]) (by kernel_rfl) (by simp) ?_
            refine AllReadyH.cons rfl (fun K hK => ?_) AllReadyH.nil
            go_simp
            refine (rpush_any w2.heap.size w2.heap.size L vr ⟨j0, a0⟩ bd W10 (Nat.le_of_lt T10.out.r.lt) (show Hid _ from T10.out.r) (by omega)).mono ?_
            rintro e W11 ⟨rfl, vr2, hr11, hs11⟩
            have T11 := Lib.hid (T10.out.rstep hr11 hs11)
            have hx := T11.out.xr
            have g3 := T11.out.x3
            have hKL := pushK_le L ⟨j0, a0⟩ bd
            generalize pushK L ⟨j0, a0⟩ bd = pk at *
            refine hK.out _ _ ⟨hx, g3⟩ (fun hHeld => ?_)
            clear hK K
            try simp only [Act.put, List.getElem_toArray, List.getElem_cons_zero, List.getElem_cons_succ, List.setIfInBounds_toArray, List.set_cons_zero, List.set_cons_succ]
            refine wpAnyH_take (i := 13) (v := ?_) rfl (by kernel_rfl) (by kernel_rfl) (by kernel_rfl) (fun _ _ _ h => h) (Or.inl ⟨by rfl, ?_⟩) hHeld ?_
            rotate_left
            focus
              intro w hSw
              clear hSw
              go_simp
              try with_reducible rfl
            try simp only [Act.put, List.getElem_toArray, List.getElem_cons_zero, List.getElem_cons_succ, List.setIfInBounds_toArray, List.set_cons_zero, List.set_cons_succ]
            refine wpAnyH_done (by kernel_rfl) ?_ _
            refine NoPanic.normal ?_
            go_wp2_with fail
            have HBS := Lib.hid (HBS0.out.push ⟨j0, a0⟩ bd)
            have HLN := Lib.hid (show (pushL L ⟨j0, a0⟩ bd).length ≤ k + 1 from Nat.le_trans (pushL_len _ _ _) (by omega))
            have TT := T11
            obtain ⟨LL, hLL⟩ : ∃ z, z = pushL L ⟨j0, a0⟩ bd := ⟨_, rfl⟩
            rw [← hLL] at TT HBS HLN
            obtain ⟨ans, hans⟩ : ∃ z, z = has LL ⟨j0, a0⟩ := ⟨_, rfl⟩
            obtain ⟨Av, cv, hvr⟩ := own_len TT.out.r.row
            have hc := cell_of_row _ w2.heap.size 0 _ _ _ TT.out.r.cells
            rw [hvr] at hc
            simp only [List.getElem?_toArray, List.getElem?_cons_zero] at hc
            have hx := TT.out.xr
            have hxlW := TT.out.xlt
            have hrlt := TT.out.r.lt
            have HLL := Lib.hid hLL
            have hLN := HLN.out
            clear hLL hvr g0 g1 g2 g3 T11
            refine wp_region_noPanic ?_
            refine wp_region_held_drew (S := (fun w' => w'.rangeAt wr.heap.size 1 [.int .i64 j0, .int .i64 a0] ∧ w'.cell? ⟨w2.heap.size, 0, none⟩ = some (.slice Av LL.length cv))) (by kernel_rfl) ⟨hx, hc⟩ (fun hHeld => ?_)
            have HB : Below W11.heap.size W11 W11.drew := ⟨rfl, rfl, rfl, Nat.le_refl _, fun _ _ => rfl⟩
            have hx : W11.drew.rangeAt wr.heap.size 1 [.int .i64 j0, .int .i64 a0] := hx
            have hc : W11.drew.cell? ⟨w2.heap.size, 0, none⟩ = some (.slice Av LL.length cv) := hc
            refine wpAnyH_take (i := 0) (v := ?_) rfl (by kernel_rfl) (by kernel_rfl) (by kernel_rfl) (fun _ _ _ h => h) (Or.inl ⟨by rfl, ?_⟩) hHeld ?_
            rotate_left
            focus
              intro w hSw
              clear hSw
              go_simp
              try with_reducible rfl
            try simp only [Act.put, List.getElem_toArray, List.getElem_cons_zero, List.getElem_cons_succ, List.setIfInBounds_toArray, List.set_cons_zero, List.set_cons_succ]
            refine wpAnyH_take (i := 1) (v := ?_) rfl (by kernel_rfl) (by kernel_rfl) (by kernel_rfl) (fun _ _ _ h => h) (Or.inl ⟨by rfl, ?_⟩) hHeld ?_
            rotate_left
            focus
              intro w hSw
              clear hSw
              go_simp
              try with_reducible rfl
            try simp only [Act.put, List.getElem_toArray, List.getElem_cons_zero, List.getElem_cons_succ, List.setIfInBounds_toArray, List.set_cons_zero, List.set_cons_succ]
            refine wpAnyH_take (i := 2) rfl (by kernel_rfl) (by kernel_rfl) (by kernel_rfl) (fun _ _ _ h => h) (yieldsIf_load_mid (by rfl) 45 _ rfl wr.heap.size (1) rfl [.int .i64 j0, .int .i64 a0] _ (fun w h => h.1) Tryd.underlying45 rfl size_task) hHeld ?_
            try simp only [Act.put, List.getElem_toArray, List.getElem_cons_zero, List.getElem_cons_succ, List.setIfInBounds_toArray, List.set_cons_zero, List.set_cons_succ]
            refine wpAnyH_take (i := 4) (v := ?_) rfl (by kernel_rfl) (by kernel_rfl) (by kernel_rfl) (fun _ _ _ h => h) (Or.inl ⟨by rfl, ?_⟩) hHeld ?_
            rotate_left
            focus
              intro w hSw
              clear hSw
              go_simp
              try with_reducible rfl
            try simp only [Act.put, List.getElem_toArray, List.getElem_cons_zero, List.getElem_cons_succ, List.setIfInBounds_toArray, List.set_cons_zero, List.set_cons_succ]
            refine wpAnyH_take (i := 5) (v := ?_) rfl (by kernel_rfl) (by kernel_rfl) (by kernel_rfl) (fun _ _ _ h => h) (Or.inl ⟨by rfl, ?_⟩) hHeld ?_
            rotate_left
            focus
              intro w hSw
              clear hSw
              go_simp
              try with_reducible rfl
            try simp only [Act.put, List.getElem_toArray, List.getElem_cons_zero, List.getElem_cons_succ, List.setIfInBounds_toArray, List.set_cons_zero, List.set_cons_succ]
            refine wpAnyH_take (i := 6) rfl (by kernel_rfl) (by kernel_rfl) (by kernel_rfl) (fun _ _ _ h => h) (yieldsIf_load_mid (by rfl) 45 _ rfl wr.heap.size (1) rfl [.int .i64 j0, .int .i64 a0] _ (fun w h => h.1) Tryd.underlying45 rfl size_task) hHeld ?_
            try simp only [Act.put, List.getElem_toArray, List.getElem_cons_zero, List.getElem_cons_succ, List.setIfInBounds_toArray, List.set_cons_zero, List.set_cons_succ]
            refine wpAnyH_ready (rs := [3]) (by kernel_rfl) (by simp) ?_
            refine AllReadyH.cons rfl (fun K hK => ?_) AllReadyH.nil
            go_simp
            refine (qis_c w1.heap.size w1.heap.size (rowsOf LL) ⟨j0, a0⟩ _ (show Hid _ from ⟨_, TT.out.q.below HB⟩) (by rw [len_rows HBS.out]; omega)).mono ?_
            rintro e y1 ⟨rfl, hb1⟩
            rw [mem_rows HBS.out, ← hans]
            have hx := rangeAt_below hx hb1 (Nat.lt_of_lt_of_le hxlW HB.size)
            have hc := (hb1.cell (p := ⟨w2.heap.size, 0, none⟩) (Nat.lt_of_lt_of_le hrlt HB.size)).trans hc
            have HB := HB.trans (hb1.mono HB.size)
            refine hK.out _ _ ⟨hx, hc⟩ (fun hHeld => ?_)
            clear hK K
            try simp only [Act.put, List.getElem_toArray, List.getElem_cons_zero, List.getElem_cons_succ, List.setIfInBounds_toArray, List.set_cons_zero, List.set_cons_succ]
            refine wpAnyH_ready (rs := [7]) (by kernel_rfl) (by simp) ?_
            refine AllReadyH.cons rfl (fun K hK => ?_) AllReadyH.nil
            go_simp
            refine (ris_c w2.heap.size w2.heap.size LL ⟨j0, a0⟩ y1 (show Hid _ from ⟨_, TT.out.r.below HB⟩) (by omega)).mono ?_
            rintro e y2 ⟨rfl, hb2⟩
            rw [show (LL.any fun x => Tsk.beq x.tsk ⟨j0, a0⟩) = ans from hans.symm]
            have hx := rangeAt_below hx hb2 (Nat.lt_of_lt_of_le hxlW HB.size)
            have hc := (hb2.cell (p := ⟨w2.heap.size, 0, none⟩) (Nat.lt_of_lt_of_le hrlt HB.size)).trans hc
            have HB := HB.trans (hb2.mono HB.size)
            refine hK.out _ _ ⟨hx, hc⟩ (fun hHeld => ?_)
            clear hK K
            try simp only [Act.put, List.getElem_toArray, List.getElem_cons_zero, List.getElem_cons_succ, List.setIfInBounds_toArray, List.set_cons_zero, List.set_cons_succ]
            refine wpAnyH_take (i := 8) (v := ?_) rfl (by kernel_rfl) (by kernel_rfl) (by kernel_rfl) (fun _ _ _ h => h) (Or.inl ⟨by rfl, ?_⟩) hHeld ?_
            rotate_left
            focus
              intro w hSw
              clear hSw
              go_simp
              try with_reducible rfl
            try simp only [Act.put, List.getElem_toArray, List.getElem_cons_zero, List.getElem_cons_succ, List.setIfInBounds_toArray, List.set_cons_zero, List.set_cons_succ]
            refine wpAnyH_take (i := 9) (v := ?_) rfl (by kernel_rfl) (by kernel_rfl) (by kernel_rfl) (fun _ _ _ h => h) (Or.inl ⟨by rfl, ?_⟩) hHeld ?_
            rotate_left
            focus
              intro w hSw
              clear hSw
              go_simp
              try with_reducible rfl
            try simp only [Act.put, List.getElem_toArray, List.getElem_cons_zero, List.getElem_cons_succ, List.setIfInBounds_toArray, List.set_cons_zero, List.set_cons_succ]
            refine wpAnyH_take (i := 10) (v := ?_) rfl (by kernel_rfl) (by kernel_rfl) (by kernel_rfl) (fun _ _ _ h => h) (Or.inl ⟨by rfl, ?_⟩) hHeld ?_
            rotate_left
            focus
              intro w hSw
              clear hSw
              go_simp
              try with_reducible rfl
            try simp only [Act.put, List.getElem_toArray, List.getElem_cons_zero, List.getElem_cons_succ, List.setIfInBounds_toArray, List.set_cons_zero, List.set_cons_succ]
            refine wpAnyH_take (i := 12) (v := ?_) rfl (by kernel_rfl) (by kernel_rfl) (by kernel_rfl) (fun _ _ _ h => h) (Or.inl ⟨by rfl, ?_⟩) hHeld ?_
            rotate_left
            focus
              intro w hSw
              clear hSw
              go_simp
              try with_reducible rfl
            try simp only [Act.put, List.getElem_toArray, List.getElem_cons_zero, List.getElem_cons_succ, List.setIfInBounds_toArray, List.set_cons_zero, List.set_cons_succ]
            refine wpAnyH_take (i := 13) (v := ?_) rfl (by kernel_rfl) (by kernel_rfl) (by kernel_rfl) (fun _ _ _ h => h) (Or.inl ⟨by rfl, ?_⟩) hHeld ?_
            rotate_left
            focus
              intro w hSw
              clear hSw
              go_simp
              try with_reducible rfl
            try simp only [Act.put, List.getElem_toArray, List.getElem_cons_zero, List.getElem_cons_succ, List.setIfInBounds_toArray, List.set_cons_zero, List.set_cons_succ]
            refine wpAnyH_take (i := 14) (v := ?_) rfl (by kernel_rfl) (by kernel_rfl) (by kernel_rfl) (fun _ _ _ h => h) (Or.inl ⟨by rfl, ?_⟩) hHeld ?_
            rotate_left
            focus
              intro w hSw
              clear hSw
              go_simp
              try with_reducible rfl
            try simp only [Act.put, List.getElem_toArray, List.getElem_cons_zero, List.getElem_cons_succ, List.setIfInBounds_toArray, List.set_cons_zero, List.set_cons_succ]
            refine wpAnyH_take (i := 15) (v := ?_) rfl (by kernel_rfl) (by kernel_rfl) (by kernel_rfl) (fun _ _ _ h => h) (Or.inl ⟨by rfl, ?_⟩) hHeld ?_
            rotate_left
            focus
              intro w hSw
              (try dsimp only at hSw)
              go_simp
              try with_reducible rfl
            try simp only [Act.put, List.getElem_toArray, List.getElem_cons_zero, List.getElem_cons_succ, List.setIfInBounds_toArray, List.set_cons_zero, List.set_cons_succ]
            refine wpAnyH_take (i := 16) (v := ?_) rfl (by kernel_rfl) (by kernel_rfl) (by kernel_rfl) (fun _ _ _ h => h) (Or.inl ⟨by rfl, ?_⟩) hHeld ?_
            rotate_left
            focus
              intro w hSw
              clear hSw
              go_simp
              try with_reducible rfl
            try simp only [Act.put, List.getElem_toArray, List.getElem_cons_zero, List.getElem_cons_succ, List.setIfInBounds_toArray, List.set_cons_zero, List.set_cons_succ]
            refine wpAnyH_ready (rs := [11]) (by kernel_rfl) (by simp) ?_
            refine AllReadyH.cons rfl (fun K hK => ?_) AllReadyH.nil
            go_simp
            refine (qlen_c w1.heap.size w1.heap.size (rowsOf LL) y2 (show Hid _ from ⟨_, TT.out.q.below HB⟩) (by rw [len_rows HBS.out]; omega)).mono ?_
            rintro e y3 ⟨rfl, hb3⟩
            rw [len_rows HBS.out]
            have hx := rangeAt_below hx hb3 (Nat.lt_of_lt_of_le hxlW HB.size)
            have hc := (hb3.cell (p := ⟨w2.heap.size, 0, none⟩) (Nat.lt_of_lt_of_le hrlt HB.size)).trans hc
            have HB := HB.trans (hb3.mono HB.size)
            refine hK.out _ _ ⟨hx, hc⟩ (fun hHeld => ?_)
            clear hK K
            try simp only [Act.put, List.getElem_toArray, List.getElem_cons_zero, List.getElem_cons_succ, List.setIfInBounds_toArray, List.set_cons_zero, List.set_cons_succ]
            refine wpAnyH_take (i := 17) (v := ?_) rfl (by kernel_rfl) (by kernel_rfl) (by kernel_rfl) (fun _ _ _ h => h) (Or.inl ⟨by rfl, ?_⟩) hHeld ?_
            rotate_left
            focus
              intro w hSw
              clear hSw
              go_simp
              try with_reducible rfl
            try simp only [Act.put, List.getElem_toArray, List.getElem_cons_zero, List.getElem_cons_succ, List.setIfInBounds_toArray, List.set_cons_zero, List.set_cons_succ]
            refine wpAnyH_take (i := 18) (v := ?_) rfl (by kernel_rfl) (by kernel_rfl) (by kernel_rfl) (fun _ _ _ h => h) (Or.inl ⟨by rfl, ?_⟩) hHeld ?_
            rotate_left
            focus
              intro w hSw
              clear hSw
              go_simp
              try with_reducible rfl
            try simp only [Act.put, List.getElem_toArray, List.getElem_cons_zero, List.getElem_cons_succ, List.setIfInBounds_toArray, List.set_cons_zero, List.set_cons_succ]
            refine wpAnyH_take (i := 19) (v := ?_) rfl (by kernel_rfl) (by kernel_rfl) (by kernel_rfl) (fun _ _ _ h => h) (Or.inl ⟨by rfl, ?_⟩) hHeld ?_
            rotate_left
            focus
              intro w hSw
              clear hSw
              go_simp
              try with_reducible rfl
            try simp only [Act.put, List.getElem_toArray, List.getElem_cons_zero, List.getElem_cons_succ, List.setIfInBounds_toArray, List.set_cons_zero, List.set_cons_succ]
            refine wpAnyH_take (i := 20) (v := ?_) rfl (by kernel_rfl) (by kernel_rfl) (by kernel_rfl) (fun _ _ _ h => h) (Or.inl ⟨by rfl, ?_⟩) hHeld ?_
            rotate_left
            focus
              intro w hSw
              clear hSw
              go_simp
              try with_reducible rfl
            try simp only [Act.put, List.getElem_toArray, List.getElem_cons_zero, List.getElem_cons_succ, List.setIfInBounds_toArray, List.set_cons_zero, List.set_cons_succ]
            refine wpAnyH_take (i := 22) (v := ?_) rfl (by kernel_rfl) (by kernel_rfl) (by kernel_rfl) (fun _ _ _ h => h) (Or.inl ⟨by rfl, ?_⟩) hHeld ?_
            rotate_left
            focus
              intro w hSw
              clear hSw
              go_simp
              try with_reducible rfl
            try simp only [Act.put, List.getElem_toArray, List.getElem_cons_zero, List.getElem_cons_succ, List.setIfInBounds_toArray, List.set_cons_zero, List.set_cons_succ]
            refine wpAnyH_ready (rs := [21]) (by kernel_rfl) (by simp) ?_
            refine AllReadyH.cons rfl (fun K hK => ?_) AllReadyH.nil
            go_simp
            refine (qlist_c w1.heap.size w1.heap.size (rowsOf LL) y3 (show Hid _ from ⟨_, TT.out.q.below HB⟩) (by rw [len_rows HBS.out]; omega)).mono ?_
            rintro e y4 ⟨v6, rfl, hown6, hb4⟩
            obtain ⟨A6, c6, hv6, _, hrd6⟩ := own_rows (l := catT (rowsOf LL) 3) Tsk.k2 hown6 rfl
            subst hv6
            have hx := rangeAt_below hx hb4 (Nat.lt_of_lt_of_le hxlW HB.size)
            have hc := (hb4.cell (p := ⟨w2.heap.size, 0, none⟩) (Nat.lt_of_lt_of_le hrlt HB.size)).trans hc
            have HB := HB.trans (hb4.mono HB.size)
            refine hK.out _ _ ⟨hx, hc⟩ (fun hHeld => ?_)
            clear hK K
            try simp only [Act.put, List.getElem_toArray, List.getElem_cons_zero, List.getElem_cons_succ, List.setIfInBounds_toArray, List.set_cons_zero, List.set_cons_succ]
            refine wpAnyH_ready (rs := [23]) (by kernel_rfl) (by simp) ?_
            refine AllReadyH.cons rfl (fun K hK => ?_) AllReadyH.nil
            go_simp
            refine (rlist_c w2.heap.size w2.heap.size LL y4 (show Hid _ from ⟨_, TT.out.r.below HB⟩) (by omega)).mono ?_
            rintro e y5 ⟨v7, rfl, hown7, hb5⟩
            obtain ⟨A7, c7, hv7, _, hrd7⟩ := own_rows (l := catT (rowsOf LL) 3) Tsk.k2 hown7 rfl
            subst hv7
            have hrd6 : Hid (RdRows y5 y5.heap.size Tsk.cells 2 A6 (catT (rowsOf LL) 3).length (catT (rowsOf LL) 3)) := (hrd6.below hb5 (Nat.le_refl _)).mono hb5.size
            have hx := rangeAt_below hx hb5 (Nat.lt_of_lt_of_le hxlW HB.size)
            have hc := (hb5.cell (p := ⟨w2.heap.size, 0, none⟩) (Nat.lt_of_lt_of_le hrlt HB.size)).trans hc
            have HB := HB.trans (hb5.mono HB.size)
            refine hK.out _ _ ⟨hx, hc⟩ (fun hHeld => ?_)
            clear hK K
            try simp only [Act.put, List.getElem_toArray, List.getElem_cons_zero, List.getElem_cons_succ, List.setIfInBounds_toArray, List.set_cons_zero, List.set_cons_succ]
            refine wpAnyH_ready (rs := [24]) (by kernel_rfl) (by simp) ?_
            refine AllReadyH.cons rfl (fun K hK => ?_) AllReadyH.nil
            go_simp
            refine (same_true A6 c6 A7 c7 (catT (rowsOf LL) 3) y5 hrd6 hrd7 (by rw [len_rows HBS.out]; omega)).mono ?_
            rintro e y6 ⟨rfl, hb6⟩
            have hx := rangeAt_below hx hb6 (Nat.lt_of_lt_of_le hxlW HB.size)
            have hc := (hb6.cell (p := ⟨w2.heap.size, 0, none⟩) (Nat.lt_of_lt_of_le hrlt HB.size)).trans hc
            have HB := HB.trans (hb6.mono HB.size)
            refine hK.out _ _ ⟨hx, hc⟩ (fun hHeld => ?_)
            clear hK K
            try simp only [Act.put, List.getElem_toArray, List.getElem_cons_zero, List.getElem_cons_succ, List.setIfInBounds_toArray, List.set_cons_zero, List.set_cons_succ]
            refine wpAnyH_take (i := 25) (v := ?_) rfl (by kernel_rfl) (by kernel_rfl) (by kernel_rfl) (fun _ _ _ h => h) (Or.inl ⟨by rfl, ?_⟩) hHeld ?_
            rotate_left
            focus
              intro w hSw
              clear hSw
              go_simp
              try with_reducible rfl
            try simp only [Act.put, List.getElem_toArray, List.getElem_cons_zero, List.getElem_cons_succ, List.setIfInBounds_toArray, List.set_cons_zero, List.set_cons_succ]
            refine wpAnyH_take (i := 26) (v := ?_) rfl (by kernel_rfl) (by kernel_rfl) (by kernel_rfl) (fun _ _ _ h => h) (Or.inl ⟨by rfl, ?_⟩) hHeld ?_
            rotate_left
            focus
              intro w hSw
              clear hSw
              go_simp
              try with_reducible rfl
            try simp only [Act.put, List.getElem_toArray, List.getElem_cons_zero, List.getElem_cons_succ, List.setIfInBounds_toArray, List.set_cons_zero, List.set_cons_succ]
            refine wpAnyH_done (by kernel_rfl) ?_ _
            refine NoPanic.normal ?_
            go_wp2_with fail
            go_roundw
            case rel => exact ⟨k + 1, LL, _, _, _, rfl, by omega, by omega, by go_num, TT.out.q.below HB, TT.out.r.below HB, HBS.out, by omega, TT.out.b.trans (HB.mono TT.out.b.size)⟩
            case measure => simp [intOf]; omega
      · have hk1 : (k : Int) < (len : Int) := by omega
        have hk2 : ¬ (k : Int) < 80 := by omega
        clear hqv hrv hbs
        have HZ := hbl
        go_wp2_with fail
        refine (nil_push Er ⟨0, 0⟩ 0 wr (HE.out wr hbl |>.var 2 (by decide)).2 (Nat.lt_of_lt_of_le (HE.out wr hbl |>.var 2 (by decide)).1 hbl.size)).mono ?_
        rintro e z1 ⟨rfl, hz⟩
        have HZ := HZ.trans (hz.mono HZ.size)
        clear hz
        go_wp2_with fail
        refine (kind21_c z1 HZ.size (HE.out z1 HZ) 2 (by omega)).mono ?_
        rintro e z2 ⟨rfl, hz⟩
        have HZ := HZ.trans (hz.mono HZ.size)
        clear hz
        go_wp2_with fail
        refine (nil_drop Er ⟨0, 0⟩ z2 (HE.out z2 HZ |>.var 2 (by decide)).2 (Nat.lt_of_lt_of_le (HE.out z2 HZ |>.var 2 (by decide)).1 HZ.size)).mono ?_
        rintro e z3 ⟨rfl, hz⟩
        have HZ := HZ.trans (hz.mono HZ.size)
        clear hz
        go_wp2_with fail
        refine (kind21_c z3 HZ.size (HE.out z3 HZ) 2 (by omega)).mono ?_
        rintro e z4 ⟨rfl, hz⟩
        have HZ := HZ.trans (hz.mono HZ.size)
        clear hz
        go_wp2_with fail
        refine (nil_dropJob 1 z4).mono ?_
        rintro e z5 ⟨rfl, hz⟩
        have HZ := HZ.trans (hz.mono HZ.size)
        clear hz
        go_wp2_with fail
        refine (nil_len z5).mono ?_
        rintro e z6 ⟨rfl, hz⟩
        have HZ := HZ.trans (hz.mono HZ.size)
        clear hz
        go_wp2_with fail
        refine (nil_list z6).mono ?_
        rintro e z7 ⟨rfl, hz⟩
        have HZ := HZ.trans (hz.mono HZ.size)
        clear hz
        go_wp2_with fail
        refine (nil_is ⟨0, 0⟩ z7).mono ?_
        rintro e z8 ⟨rfl, hz⟩
        have HZ := HZ.trans (hz.mono HZ.size)
        clear hz
        go_wp2_with fail
        go_ret
        exact ⟨rfl, HZ⟩
    · have hk1 : ¬ (k : Int) < (len : Int) := by omega
      clear hqv hrv hbs
      have HZ := hbl
      go_wp2_with fail
      refine (nil_push Er ⟨0, 0⟩ 0 wr (HE.out wr hbl |>.var 2 (by decide)).2 (Nat.lt_of_lt_of_le (HE.out wr hbl |>.var 2 (by decide)).1 hbl.size)).mono ?_
      rintro e z1 ⟨rfl, hz⟩
      have HZ := HZ.trans (hz.mono HZ.size)
      clear hz
      go_wp2_with fail
      refine (kind21_c z1 HZ.size (HE.out z1 HZ) 2 (by omega)).mono ?_
      rintro e z2 ⟨rfl, hz⟩
      have HZ := HZ.trans (hz.mono HZ.size)
      clear hz
      go_wp2_with fail
      refine (nil_drop Er ⟨0, 0⟩ z2 (HE.out z2 HZ |>.var 2 (by decide)).2 (Nat.lt_of_lt_of_le (HE.out z2 HZ |>.var 2 (by decide)).1 HZ.size)).mono ?_
      rintro e z3 ⟨rfl, hz⟩
      have HZ := HZ.trans (hz.mono HZ.size)
      clear hz
      go_wp2_with fail
      refine (kind21_c z3 HZ.size (HE.out z3 HZ) 2 (by omega)).mono ?_
      rintro e z4 ⟨rfl, hz⟩
      have HZ := HZ.trans (hz.mono HZ.size)
      clear hz
      go_wp2_with fail
      refine (nil_dropJob 1 z4).mono ?_
      rintro e z5 ⟨rfl, hz⟩
      have HZ := HZ.trans (hz.mono HZ.size)
      clear hz
      go_wp2_with fail
      refine (nil_len z5).mono ?_
      rintro e z6 ⟨rfl, hz⟩
      have HZ := HZ.trans (hz.mono HZ.size)
      clear hz
      go_wp2_with fail
      refine (nil_list z6).mono ?_
      rintro e z7 ⟨rfl, hz⟩
      have HZ := HZ.trans (hz.mono HZ.size)
      clear hz
      go_wp2_with fail
      refine (nil_is ⟨0, 0⟩ z7).mono ?_
      rintro e z8 ⟨rfl, hz⟩
      have HZ := HZ.trans (hz.mono HZ.size)
      clear hz
      go_wp2_with fail
      go_ret
      exact ⟨rfl, HZ⟩
end Go.Proofs.YtkinbidpbgkaoaaDoor
