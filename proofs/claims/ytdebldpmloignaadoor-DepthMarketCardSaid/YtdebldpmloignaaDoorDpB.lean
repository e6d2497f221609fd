/-
  depth: Steps by contract; the law's fixed answers.
-/
import Derived.Test.YtdebldpmloignaaDoorDpA
import Derived.Test.YtdebldpmloignaaDoorIs
import Derived.Laws.StructEq
namespace Go.Proofs.YtdebldpmloignaaDoor
open Go.RowKit
set_option linter.unusedVariables false
set_option linter.unusedSimpArgs false


structure Stp where
  (price lots orders sum : Int)
def Stp.cells (s : Stp) : List Value := [.int .i64 s.price, .int .i64 s.lots, .int .i64 s.orders, .int .i64 s.sum]
theorem Stp.k4 (s : Stp) : s.cells.length = 4 := rfl
theorem Stp.one (s : Stp) : ∀ u ∈ s.cells, u.oneCell' = true := by intro u hu; simp [Stp.cells] at hu; rcases hu with rfl | rfl | rfl | rfl <;> rfl
theorem info_step : (Tryd.prog.info? 116).map (fun i => (i.zero, i.size, i.bytes)) = some (some (.agg #[.int .i64 0, .int .i64 0, .int .i64 0, .int .i64 0]), 4, 32) := by kernel_rfl
theorem size_step : (Tryd.prog.info? 116).map (·.size) = some 4 := by kernel_rfl
def stepsStep (s : List Stp × Int) (x : Ord) : List Stp × Int :=
  (match s.1.getLast? with
    | some l => if l.price = x.price then s.1.dropLast ++ [⟨l.price, l.lots + x.lots, l.orders + 1, s.2 + x.lots⟩] else s.1 ++ [⟨x.price, x.lots, 1, s.2 + x.lots⟩]
    | none => [⟨x.price, x.lots, 1, s.2 + x.lots⟩], s.2 + x.lots)
def stepsO (xs : List Ord) : List Stp := (xs.foldl stepsStep ([], 0)).1
/-- What the loop keeps of the steps. -/
def StepsOk (k : Nat) (s : List Stp × Int) : Prop := s.1.length ≤ k ∧ 0 ≤ s.2 ∧ s.2 ≤ k * 1000 ∧ ∀ l ∈ s.1, 0 ≤ l.lots ∧ l.lots ≤ k * 1000 ∧ 0 ≤ l.orders ∧ l.orders ≤ k
theorem stepsOk_step {k : Nat} {s : List Stp × Int} {x : Ord} (h : StepsOk k s) (ho : OkO x) : StepsOk (k + 1) (stepsStep s x) := by
  obtain ⟨l, t⟩ := s
  obtain ⟨h1, h2, h3, h4⟩ := h
  unfold OkO at ho
  simp only at h1 h2 h3 h4
  unfold StepsOk stepsStep
  simp only
  rcases List.eq_nil_or_concat l with rfl | ⟨init, last, rfl⟩
  · simp
    omega
  · have hl := h4 last (by simp)
    have hi : ∀ q ∈ init, 0 ≤ q.lots ∧ q.lots ≤ ((k + 1 : Nat) : Int) * 1000 ∧ 0 ≤ q.orders ∧ q.orders ≤ ((k + 1 : Nat) : Int) := fun q hq => by
      have := h4 q (by simp [hq])
      omega
    simp only [List.concat_eq_append, List.length_append, List.length_cons, List.length_nil] at h1 ⊢
    simp only [List.getLast?_append, List.getLast?_singleton, Option.some_or, List.dropLast_concat]
    split
    · refine ⟨by simp; omega, by omega, by omega, fun q hq => ?_⟩
      rw [List.mem_append, List.mem_singleton] at hq
      rcases hq with hq | rfl
      · exact hi q hq
      · simp only; omega
    · refine ⟨by simp; omega, by omega, by omega, fun q hq => ?_⟩
      rw [List.mem_append, List.mem_append, List.mem_singleton, List.mem_singleton] at hq
      rcases hq with (hq | rfl) | rfl
      · exact hi q hq
      · omega
      · simp only; omega
theorem stepsOk_to (xs : List Ord) (h : ∀ o ∈ xs, OkO o) (k : Nat) (hk : k ≤ xs.length) : StepsOk k (foldTo stepsStep ([], 0) xs k) := by
  induction k with
  | zero => simp [foldTo, StepsOk]
  | succ k ih =>
    have hx := List.getElem?_eq_getElem (l := xs) (i := k) (by omega)
    rw [foldTo_succ stepsStep _ xs k _ hx]
    exact stepsOk_step (ih (by omega)) (h _ (List.getElem_mem (l := xs) (n := k) (by omega)))
/-- One cell of a range is written. -/
theorem rangeAt_set {w : World} {g o : Nat} {cs : List Value} (h : w.rangeAt g o cs) (j : Nat) (v : Value) (hj : j < cs.length) : (w.setCell ⟨g, o + j, none⟩ v).rangeAt g o (cs.set j v) := fun i u hu => by
  by_cases e : j = i
  · subst e
    rw [List.getElem?_set_self hj] at hu
    cases hu
    exact World.cell?_setCell_same _ _ _ (h j _ (List.getElem?_eq_getElem hj))
  · rw [List.getElem?_set_ne e] at hu
    exact (World.cell?_setCell_other _ _ _ _ (fun h' => e (Nat.add_left_cancel (congrArg Addr.off h')))).trans (h i u hu)
theorem grownBy_undrewN {w w' : World} {r : Option Nat} {q : Nat} (h : (w.drewN q).grownBy w' r) : w.grownBy w' r := ⟨h.os, h.tape, h.output, h.size, h.block⟩
theorem grownBy_redrewN {w w' : World} {r : Option Nat} {q : Nat} (h : w.grownBy w' r) : w.grownBy (w'.drewN q) r := ⟨h.os, h.tape, h.output, h.size, h.block⟩
theorem rows_setCell {α : Type} {enc : α → List Value} {k : Nat} (hk : ∀ x, (enc x).length = k) {w : World} {g m : Nat} {l : List α} (h : RowsAt w enc k g 0 l) (hm : l.length = m) (j : Nat) (v : Value) : RowsAt (w.setCell ⟨g, m * k + j, none⟩ v) enc k g 0 l := fun t y hy => by
  have ht : t < m := by have := (List.getElem?_eq_some_iff.1 hy).1; omega
  exact World.rangeAt_setCells_apart (h t y hy) g (m * k + j) [v] (.inr (.inl (by rw [hk, Nat.zero_add]; have := mul_step (k := k) ht; omega)))
theorem below_setCell {g : Nat} {a w : World} (h : Below a.heap.size a w) (hg : a.heap.size ≤ g) (o : Nat) (v : Value) : Below a.heap.size a (w.setCell ⟨g, o, none⟩ v) := h.grown (grownBy_setCell w g o v) h.size (fun k hk => by simp at hk; omega)
set_option maxRecDepth 100000 in
set_option maxHeartbeats 2000000 in
theorem steps_ok (A : Option Addr) (n c : Nat) (xs : List Ord) (w : World) (hr : Hid (RdRows w w.heap.size Ord.cells 6 A n xs)) (hn : n ≤ maxLen) (hs : side xs = true) :
    Calls Tryd.prog 68 #[.slice A n c] w fun e w' => ∃ v, e = .returned (.tuple #[v, .nilIface]) ∧ w'.ownsRow w.heap.size 116 4 v (stepsO xs).length (flatOf Stp.cells (stepsO xs)) ∧ Below w.heap.size w w' := by
  have hl := hr.out.1
  have hside := Lib.hid (isSide_c A n c xs w hr hn)
  obtain ⟨hlen, hok⟩ := okO_of_side hs
  rw [hs] at hside
  have hfin : Hid ((foldTo stepsStep ([], 0) xs n).1 = stepsO xs) := by show _ = _; rw [← hl, foldTo_all]; rfl
  generalize stepsO xs = so at hfin ⊢
  have HOK := Lib.hid hok
  obtain ⟨i0, hi, hz0, hz1, hz2⟩ := info_parts info_step
  clear hs hok
  go_enter Tryd.func68, Tryd.ntmps68
  go_wp2_with fail
  refine hside.out.mono ?_
  rintro e w1 ⟨rfl, hb1⟩
  have hrd : Hid (RdRows w1 w.heap.size Ord.cells 6 A n xs) := hr.out.below hb1 (Nat.le_refl _)
  have HB1 := Lib.hid hb1
  have hsz1 := hb1.size
  clear hb1 hside
  go_wp2_with fail
  go_loopw [4, 5, 7, 8, 9, 16] (fun s4 s5 _ _ _ s16 wr => ∃ kk : Nat, kk ≤ n ∧ s16 = .int .i64 kk ∧ s5 = .int .i64 (foldTo stepsStep ([], 0) xs kk).2 ∧ wr.ownsRow w.heap.size 116 4 s4 (foldTo stepsStep ([], 0) xs kk).1.length (flatOf Stp.cells (foldTo stepsStep ([], 0) xs kk).1) ∧ Below w.heap.size w wr) (fun _ _ _ _ _ s16 _ => n - (intOf s16).toNat)
  case atStart => exact ⟨0, Nat.zero_le _, rfl, by rw [foldTo_zero], by rw [foldTo_zero]; exact ⟨rfl, .inl ⟨rfl, rfl⟩⟩, HB1.out⟩
  case round =>
    obtain ⟨kk, hkk, rfl, rfl, hown, hbl⟩ := hrel
    have hso := stepsOk_to xs HOK.out kk (by omega)
    by_cases hlt : kk < n
    · obtain ⟨b, off, rfl, hb, hrows⟩ := hr.out.2 (by omega)
      obtain ⟨x, hx⟩ : ∃ x, xs[kk]? = some x := ⟨_, List.getElem?_eq_getElem (by omega)⟩
      have r1 := rangeAt_below (hrows kk x hx) hbl hb
      have hst := Lib.hid (foldTo_succ stepsStep ([], 0) xs kk x hx)
      have ho := HOK.out x (List.mem_of_getElem? hx)
      clear hrows hx hrd
      generalize foldTo stepsStep ([], 0) xs kk = st at hst hso hown ⊢
      obtain ⟨acc, sm⟩ := st
      obtain ⟨h1, h2, h3, h4⟩ := hso
      simp only at h1 h2 h3 h4 hown ⊢
      have H4 := Lib.hid h4
      obtain ⟨id, tenant, sell, price, lots, seq⟩ := x
      unfold OkO at ho
      simp only at ho
      have e0 : wrap64 (sm + lots) = sm + lots := by unfold wrap64; omega
      have hszr := hbl.size
      clear h4
      rcases List.eq_nil_or_concat acc with hacc | ⟨init, last, hacc⟩
      · subst hacc
        obtain ⟨A0, cap0, rfl, hc0, _⟩ := own_rows Stp.k4 hown rfl
        have hst' : Hid (foldTo stepsStep ([], 0) xs (kk + 1) = ([] ++ [(⟨price, lots, 1, sm + lots⟩ : Stp)], sm + lots)) := by show _ = _; rw [hst.out]; simp [stepsStep]
        clear hst H4
        go_upto_region 9 with (refine wpList_load_mid rfl 67 _ rfl b (off + kk * 6) rfl [.int .i64 id, .int .i64 tenant, .bool sell, .int .i64 price, .int .i64 lots, .int .i64 seq] _ r1 Tryd.underlying67 rfl size_ord ?_)
        obtain ⟨W, hW⟩ : ∃ W, W = wr.alloc (.cells #[.int .i64 id, .int .i64 tenant, .bool sell, .int .i64 price, .int .i64 lots, .int .i64 seq] 67) := ⟨_, rfl⟩
        rw [← hW]
        have ro : W.rangeAt wr.heap.size 0 [.int .i64 id, .int .i64 tenant, .bool sell, .int .i64 price, .int .i64 lots, .int .i64 seq] := by rw [hW]; intro jj v hv; rw [cell_of_row _ _ _ _ _ _ (alloc_new' rfl)]; simpa using hv
        have hbw : Below w.heap.size w W := by rw [hW]; exact hbl.alloc hszr _
        have hgW : wr.grownBy W none := by rw [hW]; exact World.grownBy_alloc _ _ _
        have hszW : wr.heap.size < W.heap.size := by rw [hW]; simp
        clear hW r1
        have p3 : W.cell? ⟨wr.heap.size, 3, none⟩ = some (.int .i64 price) := ro 3 _ rfl
        have hownW := hown.kept hgW (by cases A0 <;> simp [Value.ownBlock])
        clear hgW
        go_wp2_with fail
        go_quiet (fail)
        go_wp2_with (at_builtin; refine wpList_app1 rfl _ _ 112 rfl w.heap.size 116 i0 (.agg #[.int .i64 0, .int .i64 0, .int .i64 0, .int .i64 0]) 4 32 Tryd.underlying112 hi hz0 hz1 hz2 rfl (by decide) _ _ _ rfl hownW _ _ rfl ?ca0 ?ca1 ?ca2 ?ca3 ?ca4 ?ca5 ?_)
        case ca0 => rfl
        case ca1 => rfl
        case ca2 => simp [Value.oneCell']
        case ca3 => first | (unfold maxLen; omega) | (simp [maxLen])
        case ca4 => first | omega | (simp; done) | (simp; omega)
        case ca5 => exact hbw.size
        intro v' Wt hownT hgT _
        have hgT := grownBy_undrewN hgT
        have hbT := below_app hbw (by have := hbw.size; omega) (Nat.le_refl _) hownW hgT
        have ro : Wt.rangeAt wr.heap.size 0 [.int .i64 id, .int .i64 tenant, .bool sell, .int .i64 price, .int .i64 lots, .int .i64 seq] := rangeAt_grown ro hgT (fun h => by have := (hown.lt _ h.symm).2; omega)
        have hbw := hbT
        clear p3 hownW hgT hbT
        have him : ([] : List Stp).length = 0 := rfl
        obtain ⟨g, cap, cur, rfl, hnc, hcm, hbg, hblk0, hcs, hrows⟩ := own_rows' (l := ([] : List Stp) ++ [(⟨price, 0, 0, 0⟩ : Stp)]) Stp.k4 (by rw [flatOf_append, flatOf_one]; exact hownT) (by rw [List.length_append, him]; rfl) (by omega)
        have hrl : Wt.rangeAt g (0) [.int .i64 price, .int .i64 0, .int .i64 0, .int .i64 0] := by
          have := hrows 0 ⟨price, 0, 0, 0⟩ (by rw [List.getElem?_append_right (by rw [him]; omega), him]; simp)
          rwa [Nat.zero_add] at this
        have hri : RowsAt Wt Stp.cells 4 g 0 (([] : List Stp)) := fun t y hy => hrows t y (by rw [List.getElem?_append_left (List.getElem?_eq_some_iff.1 hy).1]; exact hy)
        have hblk : HBlk Wt g 116 (cap * 4) := ⟨cur, hblk0, hcs⟩
        clear hrows hblk0 hownT
        have p4 : Wt.cell? ⟨wr.heap.size, 4, none⟩ = some (.int .i64 lots) := ro 4 _ rfl
        clear ro
        have e1 : wrap64 (lots) = lots := by unfold wrap64; omega
        have e2 : wrap64 (1) = 1 := by unfold wrap64; omega
        go_wp2_with fail
        have c1 : Wt.cell? ⟨g, 1, none⟩ = some (.int .i64 0) := hrl 1 _ rfl
        have f1 : Wt.frozen? ⟨g, 1, none⟩ = false := (hblk.there 0 (by omega) 1 (by omega)).2
        go_region
        obtain ⟨W1, hW1⟩ : ∃ Z : World, Z = (Wt.setCell ⟨g, 1, none⟩ (.int .i64 (lots))).drew := ⟨_, rfl⟩
        rw [← hW1]
        have hrl : W1.rangeAt g (0) [.int .i64 price, .int .i64 (lots), .int .i64 0, .int .i64 0] := by rw [hW1]; exact rangeAt_set hrl 1 _ (by simp)
        have hri : RowsAt W1 Stp.cells 4 g 0 (([] : List Stp)) := by rw [hW1]; exact rows_setCell Stp.k4 hri him 1 _
        have hblk : HBlk W1 g 116 (cap * 4) := by rw [hW1]; exact hblk.set [.int .i64 (lots)] (1)
        have hbw : Below w.heap.size w W1 := by rw [hW1]; exact below_drew (below_setCell hbw hbg _ _)
        clear c1 f1 hW1 p4
        have c2 : W1.cell? ⟨g, 2, none⟩ = some (.int .i64 0) := hrl 2 _ rfl
        have f2 : W1.frozen? ⟨g, 2, none⟩ = false := (hblk.there 0 (by omega) 2 (by omega)).2
        go_upto_region 15 with fail
        obtain ⟨W2, hW1⟩ : ∃ Z : World, Z = (W1.setCell ⟨g, 2, none⟩ (.int .i64 (1))) := ⟨_, rfl⟩
        rw [← hW1]
        have hrl : W2.rangeAt g (0) [.int .i64 price, .int .i64 (lots), .int .i64 (1), .int .i64 0] := by rw [hW1]; exact rangeAt_set hrl 2 _ (by simp)
        have hri : RowsAt W2 Stp.cells 4 g 0 (([] : List Stp)) := by rw [hW1]; exact rows_setCell Stp.k4 hri him 2 _
        have hblk : HBlk W2 g 116 (cap * 4) := by rw [hW1]; exact hblk.set [.int .i64 (1)] (2)
        have hbw : Below w.heap.size w W2 := by rw [hW1]; exact (below_setCell hbw hbg _ _)
        clear c2 f2 hW1
        have c3 : W2.cell? ⟨g, 3, none⟩ = some (.int .i64 0) := hrl 3 _ rfl
        have f3 : W2.frozen? ⟨g, 3, none⟩ = false := (hblk.there 0 (by omega) 3 (by omega)).2
        go_wp2_with fail
        obtain ⟨W3, hW1⟩ : ∃ Z : World, Z = (W2.setCell ⟨g, 3, none⟩ (.int .i64 (sm + lots))) := ⟨_, rfl⟩
        rw [← hW1]
        have hrl : W3.rangeAt g (0) [.int .i64 price, .int .i64 (lots), .int .i64 (1), .int .i64 (sm + lots)] := by rw [hW1]; exact rangeAt_set hrl 3 _ (by simp)
        have hri : RowsAt W3 Stp.cells 4 g 0 (([] : List Stp)) := by rw [hW1]; exact rows_setCell Stp.k4 hri him 3 _
        have hblk : HBlk W3 g 116 (cap * 4) := by rw [hW1]; exact hblk.set [.int .i64 (sm + lots)] (3)
        have hbw : Below w.heap.size w W3 := by rw [hW1]; exact (below_setCell hbw hbg _ _)
        clear c3 f3 hW1 e1 e2
        go_roundw
        case rel =>
          obtain ⟨cur', hc1, hc2⟩ := hblk.out
          refine ⟨kk + 1, by omega, by go_num, by rw [hst'.out], ?_, hbw⟩
          rw [hst'.out]
          have hlen2 : (([] : List Stp) ++ [(⟨price, lots, 1, sm + lots⟩ : Stp)]).length = 0 + 1 := by rw [List.length_append, him]; rfl
          simp only
          rw [hlen2]
          refine own_of_rows Stp.k4 (by omega) hbg hc1 hc2 hnc hcm hlen2 ?_
          intro t y hy
          rw [Nat.zero_add]
          by_cases ht : t < 0
          · rw [List.getElem?_append_left (by rw [him]; omega)] at hy
            have := hri t y hy
            rwa [Nat.zero_add] at this
          · have hte : t = 0 := by have := (List.getElem?_eq_some_iff.1 hy).1; omega
            rw [hte] at hy ⊢
            rw [List.getElem?_append_right (by rw [him]; omega), him] at hy
            simp at hy
            subst hy
            exact hrl
        case measure => simp [intOf]; omega
      · rw [List.concat_eq_append] at hacc
        subst hacc
        obtain ⟨g, cap, cur, rfl, hnc, hcm, hbg, hblk0, hcs, hrows⟩ := own_rows' Stp.k4 hown rfl (by simp)
        obtain ⟨m, him⟩ : ∃ m, init.length = m := ⟨_, rfl⟩
        have hlm : (init ++ [last]).length = m + 1 := by simp [him]
        have hll := H4.out last (by simp)
        have hrl : wr.rangeAt g (m * 4) last.cells := by
          have := hrows m last (by rw [List.getElem?_append_right (by omega), him]; simp)
          rwa [Nat.zero_add] at this
        have hri : RowsAt wr Stp.cells 4 g 0 init := fun t y hy => hrows t y (by rw [List.getElem?_append_left (List.getElem?_eq_some_iff.1 hy).1]; exact hy)
        rw [hlm] at hown hnc h1 ⊢
        obtain ⟨a, lb, lc, ld⟩ := last
        simp only at hll
        by_cases he : a = price
        · subst he
          have hst' : Hid (foldTo stepsStep ([], 0) xs (kk + 1) = (init ++ [(⟨a, lb + lots, lc + 1, sm + lots⟩ : Stp)], sm + lots)) := by show _ = _; rw [hst.out]; simp [stepsStep]
          clear hst H4
          go_upto_region 9 with (refine wpList_load_mid rfl 67 _ rfl b (off + kk * 6) rfl [.int .i64 id, .int .i64 tenant, .bool sell, .int .i64 a, .int .i64 lots, .int .i64 seq] _ r1 Tryd.underlying67 rfl size_ord ?_)
          obtain ⟨W, hW⟩ : ∃ W, W = wr.alloc (.cells #[.int .i64 id, .int .i64 tenant, .bool sell, .int .i64 a, .int .i64 lots, .int .i64 seq] 67) := ⟨_, rfl⟩
          rw [← hW]
          have ro : W.rangeAt wr.heap.size 0 [.int .i64 id, .int .i64 tenant, .bool sell, .int .i64 a, .int .i64 lots, .int .i64 seq] := by rw [hW]; intro jj v hv; rw [cell_of_row _ _ _ _ _ _ (alloc_new' rfl)]; simpa using hv
          have hbw : Below w.heap.size w W := by rw [hW]; exact hbl.alloc hszr _
          have hgW : wr.grownBy W none := by rw [hW]; exact World.grownBy_alloc _ _ _
          have hszW : wr.heap.size < W.heap.size := by rw [hW]; simp
          clear hW r1
          have p3 : W.cell? ⟨wr.heap.size, 3, none⟩ = some (.int .i64 a) := ro 3 _ rfl
          have hm0 : decide ((m : Int) < 0) = false := by simp
          have hpl : W.cell? ⟨g, m * 4, none⟩ = some (.int .i64 a) := rangeAt_grown hrl hgW (by simp) 0 _ rfl
          have hglt : g < wr.heap.size := (Array.getElem?_eq_some_iff.1 hblk0).1
          have hne : (a != a) = false := by simp
          go_wp2_with fail
          go_quiet (fail)
          have Wt_eq : True := trivial
          obtain ⟨Wt, hWt⟩ : ∃ Wt, Wt = W.drewN nq := ⟨_, rfl⟩
          rw [← hWt]
          have hbw : Below w.heap.size w Wt := by rw [hWt]; exact below_drewN hbw _
          have hrl : Wt.rangeAt g (m * 4) [.int .i64 a, .int .i64 lb, .int .i64 lc, .int .i64 ld] := by rw [hWt]; exact rangeAt_grown hrl (grownBy_redrewN hgW) (by simp)
          have hri : RowsAt Wt Stp.cells 4 g 0 (init) := by rw [hWt]; exact RowsAt.grown hri (grownBy_redrewN hgW) (by simp)
          have hblk : HBlk Wt g 116 (cap * 4) := by rw [hWt]; exact (show HBlk wr g _ _ from ⟨cur, hblk0, hcs⟩).grown (grownBy_redrewN hgW) (by simp)
          have ro : Wt.rangeAt wr.heap.size 0 [.int .i64 id, .int .i64 tenant, .bool sell, .int .i64 a, .int .i64 lots, .int .i64 seq] := by rw [hWt]; exact ro
          clear hpl p3 hWt hown hblk0 hrows hgW
          have p4 : Wt.cell? ⟨wr.heap.size, 4, none⟩ = some (.int .i64 lots) := ro 4 _ rfl
          clear ro
          have e1 : wrap64 (lb + lots) = lb + lots := by unfold wrap64; omega
          have e2 : wrap64 (lc + 1) = lc + 1 := by unfold wrap64; omega
          go_wp2_with fail
          have c1 : Wt.cell? ⟨g, m * 4 + 1, none⟩ = some (.int .i64 lb) := hrl 1 _ rfl
          have f1 : Wt.frozen? ⟨g, m * 4 + 1, none⟩ = false := (hblk.there m (by omega) 1 (by omega)).2
          go_region
          obtain ⟨W1, hW1⟩ : ∃ Z : World, Z = (Wt.setCell ⟨g, m * 4 + 1, none⟩ (.int .i64 (lb + lots))).drew := ⟨_, rfl⟩
          rw [← hW1]
          have hrl : W1.rangeAt g (m * 4) [.int .i64 a, .int .i64 (lb + lots), .int .i64 lc, .int .i64 ld] := by rw [hW1]; exact rangeAt_set hrl 1 _ (by simp)
          have hri : RowsAt W1 Stp.cells 4 g 0 (init) := by rw [hW1]; exact rows_setCell Stp.k4 hri him 1 _
          have hblk : HBlk W1 g 116 (cap * 4) := by rw [hW1]; exact hblk.set [.int .i64 (lb + lots)] (m * 4 + 1)
          have hbw : Below w.heap.size w W1 := by rw [hW1]; exact below_drew (below_setCell hbw hbg _ _)
          clear c1 f1 hW1 p4
          have c2 : W1.cell? ⟨g, m * 4 + 2, none⟩ = some (.int .i64 lc) := hrl 2 _ rfl
          have f2 : W1.frozen? ⟨g, m * 4 + 2, none⟩ = false := (hblk.there m (by omega) 2 (by omega)).2
          go_upto_region 15 with fail
          obtain ⟨W2, hW1⟩ : ∃ Z : World, Z = (W1.setCell ⟨g, m * 4 + 2, none⟩ (.int .i64 (lc + 1))) := ⟨_, rfl⟩
          rw [← hW1]
          have hrl : W2.rangeAt g (m * 4) [.int .i64 a, .int .i64 (lb + lots), .int .i64 (lc + 1), .int .i64 ld] := by rw [hW1]; exact rangeAt_set hrl 2 _ (by simp)
          have hri : RowsAt W2 Stp.cells 4 g 0 (init) := by rw [hW1]; exact rows_setCell Stp.k4 hri him 2 _
          have hblk : HBlk W2 g 116 (cap * 4) := by rw [hW1]; exact hblk.set [.int .i64 (lc + 1)] (m * 4 + 2)
          have hbw : Below w.heap.size w W2 := by rw [hW1]; exact (below_setCell hbw hbg _ _)
          clear c2 f2 hW1
          have c3 : W2.cell? ⟨g, m * 4 + 3, none⟩ = some (.int .i64 ld) := hrl 3 _ rfl
          have f3 : W2.frozen? ⟨g, m * 4 + 3, none⟩ = false := (hblk.there m (by omega) 3 (by omega)).2
          go_wp2_with fail
          obtain ⟨W3, hW1⟩ : ∃ Z : World, Z = (W2.setCell ⟨g, m * 4 + 3, none⟩ (.int .i64 (sm + lots))) := ⟨_, rfl⟩
          rw [← hW1]
          have hrl : W3.rangeAt g (m * 4) [.int .i64 a, .int .i64 (lb + lots), .int .i64 (lc + 1), .int .i64 (sm + lots)] := by rw [hW1]; exact rangeAt_set hrl 3 _ (by simp)
          have hri : RowsAt W3 Stp.cells 4 g 0 (init) := by rw [hW1]; exact rows_setCell Stp.k4 hri him 3 _
          have hblk : HBlk W3 g 116 (cap * 4) := by rw [hW1]; exact hblk.set [.int .i64 (sm + lots)] (m * 4 + 3)
          have hbw : Below w.heap.size w W3 := by rw [hW1]; exact (below_setCell hbw hbg _ _)
          clear c3 f3 hW1 e1 e2
          go_roundw
          case rel =>
            obtain ⟨cur', hc1, hc2⟩ := hblk.out
            refine ⟨kk + 1, by omega, by go_num, by rw [hst'.out], ?_, hbw⟩
            rw [hst'.out]
            have hlen2 : (init ++ [(⟨a, lb + lots, lc + 1, sm + lots⟩ : Stp)]).length = m + 1 := by rw [List.length_append, him]; rfl
            simp only
            rw [hlen2]
            refine own_of_rows Stp.k4 (by omega) hbg hc1 hc2 hnc hcm hlen2 ?_
            intro t y hy
            rw [Nat.zero_add]
            by_cases ht : t < m
            · rw [List.getElem?_append_left (by rw [him]; omega)] at hy
              have := hri t y hy
              rwa [Nat.zero_add] at this
            · have hte : t = m := by have := (List.getElem?_eq_some_iff.1 hy).1; omega
              rw [hte] at hy ⊢
              rw [List.getElem?_append_right (by rw [him]; omega), him] at hy
              simp at hy
              subst hy
              exact hrl
          case measure => simp [intOf]; omega
        · have hst' : Hid (foldTo stepsStep ([], 0) xs (kk + 1) = ((init ++ [⟨a, lb, lc, ld⟩]) ++ [(⟨price, lots, 1, sm + lots⟩ : Stp)], sm + lots)) := by show _ = _; rw [hst.out]; simp [stepsStep, he]
          clear hst H4
          go_upto_region 9 with (refine wpList_load_mid rfl 67 _ rfl b (off + kk * 6) rfl [.int .i64 id, .int .i64 tenant, .bool sell, .int .i64 price, .int .i64 lots, .int .i64 seq] _ r1 Tryd.underlying67 rfl size_ord ?_)
          obtain ⟨W, hW⟩ : ∃ W, W = wr.alloc (.cells #[.int .i64 id, .int .i64 tenant, .bool sell, .int .i64 price, .int .i64 lots, .int .i64 seq] 67) := ⟨_, rfl⟩
          rw [← hW]
          have ro : W.rangeAt wr.heap.size 0 [.int .i64 id, .int .i64 tenant, .bool sell, .int .i64 price, .int .i64 lots, .int .i64 seq] := by rw [hW]; intro jj v hv; rw [cell_of_row _ _ _ _ _ _ (alloc_new' rfl)]; simpa using hv
          have hbw : Below w.heap.size w W := by rw [hW]; exact hbl.alloc hszr _
          have hgW : wr.grownBy W none := by rw [hW]; exact World.grownBy_alloc _ _ _
          have hszW : wr.heap.size < W.heap.size := by rw [hW]; simp
          clear hW r1
          have p3 : W.cell? ⟨wr.heap.size, 3, none⟩ = some (.int .i64 price) := ro 3 _ rfl
          have hm0 : decide ((m : Int) < 0) = false := by simp
          have hpl : W.cell? ⟨g, m * 4, none⟩ = some (.int .i64 a) := rangeAt_grown hrl hgW (by simp) 0 _ rfl
          have hglt : g < wr.heap.size := (Array.getElem?_eq_some_iff.1 hblk0).1
          have hne : (a != price) = true := by simpa using he
          have hownW := hown.kept hgW (by simp [Value.ownBlock])
          go_wp2_with fail
          go_quiet (fail)
          clear hpl
          go_wp2_with (at_builtin; refine wpList_app1 rfl _ _ 112 rfl w.heap.size 116 i0 (.agg #[.int .i64 0, .int .i64 0, .int .i64 0, .int .i64 0]) 4 32 Tryd.underlying112 hi hz0 hz1 hz2 rfl (by decide) _ _ _ rfl hownW _ _ rfl ?ca0 ?ca1 ?ca2 ?ca3 ?ca4 ?ca5 ?_)
          case ca0 => rfl
          case ca1 => rfl
          case ca2 => simp [Value.oneCell']
          case ca3 => first | (unfold maxLen; omega) | (simp [maxLen])
          case ca4 => first | omega | (simp; done) | (simp; omega)
          case ca5 => exact hbw.size
          intro v' Wt hownT hgT _
          have hgT := grownBy_undrewN hgT
          have hbT := below_app hbw (by have := hbw.size; omega) (Nat.le_refl _) hownW hgT
          have ro : Wt.rangeAt wr.heap.size 0 [.int .i64 id, .int .i64 tenant, .bool sell, .int .i64 price, .int .i64 lots, .int .i64 seq] := rangeAt_grown ro hgT (fun h => by simp [Value.ownBlock] at h; omega)
          have hbw := hbT
          clear p3 hownW hgT hbT
          have him2 : (init ++ [(⟨a, lb, lc, ld⟩ : Stp)]).length = m + 1 := hlm
          clear hrl hri hrows hblk0 hgW hown hnc hcm hbg hcs him
          obtain ⟨g, cap, cur, rfl, hnc, hcm, hbg, hblk0, hcs, hrows⟩ := own_rows' (l := (init ++ [(⟨a, lb, lc, ld⟩ : Stp)]) ++ [(⟨price, 0, 0, 0⟩ : Stp)]) Stp.k4 (by rw [flatOf_append, flatOf_one]; exact hownT) (by rw [List.length_append, him2]; rfl) (by omega)
          have hrl : Wt.rangeAt g ((m + 1) * 4) [.int .i64 price, .int .i64 0, .int .i64 0, .int .i64 0] := by
            have := hrows (m + 1) ⟨price, 0, 0, 0⟩ (by rw [List.getElem?_append_right (by rw [him2]; omega), him2]; simp)
            rwa [Nat.zero_add] at this
          have hri : RowsAt Wt Stp.cells 4 g 0 ((init ++ [(⟨a, lb, lc, ld⟩ : Stp)])) := fun t y hy => hrows t y (by rw [List.getElem?_append_left (List.getElem?_eq_some_iff.1 hy).1]; exact hy)
          have hblk : HBlk Wt g 116 (cap * 4) := ⟨cur, hblk0, hcs⟩
          clear hrows hblk0 hownT
          have p4 : Wt.cell? ⟨wr.heap.size, 4, none⟩ = some (.int .i64 lots) := ro 4 _ rfl
          clear ro
          have e1 : wrap64 (lots) = lots := by unfold wrap64; omega
          have e2 : wrap64 (1) = 1 := by unfold wrap64; omega
          go_wp2_with fail
          have c1 : Wt.cell? ⟨g, (m + 1) * 4 + 1, none⟩ = some (.int .i64 0) := hrl 1 _ rfl
          have f1 : Wt.frozen? ⟨g, (m + 1) * 4 + 1, none⟩ = false := (hblk.there (m + 1) (by omega) 1 (by omega)).2
          go_region
          obtain ⟨W1, hW1⟩ : ∃ Z : World, Z = (Wt.setCell ⟨g, (m + 1) * 4 + 1, none⟩ (.int .i64 (lots))).drew := ⟨_, rfl⟩
          rw [← hW1]
          have hrl : W1.rangeAt g ((m + 1) * 4) [.int .i64 price, .int .i64 (lots), .int .i64 0, .int .i64 0] := by rw [hW1]; exact rangeAt_set hrl 1 _ (by simp)
          have hri : RowsAt W1 Stp.cells 4 g 0 ((init ++ [(⟨a, lb, lc, ld⟩ : Stp)])) := by rw [hW1]; exact rows_setCell Stp.k4 hri him2 1 _
          have hblk : HBlk W1 g 116 (cap * 4) := by rw [hW1]; exact hblk.set [.int .i64 (lots)] ((m + 1) * 4 + 1)
          have hbw : Below w.heap.size w W1 := by rw [hW1]; exact below_drew (below_setCell hbw hbg _ _)
          clear c1 f1 hW1 p4
          have c2 : W1.cell? ⟨g, (m + 1) * 4 + 2, none⟩ = some (.int .i64 0) := hrl 2 _ rfl
          have f2 : W1.frozen? ⟨g, (m + 1) * 4 + 2, none⟩ = false := (hblk.there (m + 1) (by omega) 2 (by omega)).2
          go_upto_region 15 with fail
          obtain ⟨W2, hW1⟩ : ∃ Z : World, Z = (W1.setCell ⟨g, (m + 1) * 4 + 2, none⟩ (.int .i64 (1))) := ⟨_, rfl⟩
          rw [← hW1]
          have hrl : W2.rangeAt g ((m + 1) * 4) [.int .i64 price, .int .i64 (lots), .int .i64 (1), .int .i64 0] := by rw [hW1]; exact rangeAt_set hrl 2 _ (by simp)
          have hri : RowsAt W2 Stp.cells 4 g 0 ((init ++ [(⟨a, lb, lc, ld⟩ : Stp)])) := by rw [hW1]; exact rows_setCell Stp.k4 hri him2 2 _
          have hblk : HBlk W2 g 116 (cap * 4) := by rw [hW1]; exact hblk.set [.int .i64 (1)] ((m + 1) * 4 + 2)
          have hbw : Below w.heap.size w W2 := by rw [hW1]; exact (below_setCell hbw hbg _ _)
          clear c2 f2 hW1
          have c3 : W2.cell? ⟨g, (m + 1) * 4 + 3, none⟩ = some (.int .i64 0) := hrl 3 _ rfl
          have f3 : W2.frozen? ⟨g, (m + 1) * 4 + 3, none⟩ = false := (hblk.there (m + 1) (by omega) 3 (by omega)).2
          go_wp2_with fail
          obtain ⟨W3, hW1⟩ : ∃ Z : World, Z = (W2.setCell ⟨g, (m + 1) * 4 + 3, none⟩ (.int .i64 (sm + lots))) := ⟨_, rfl⟩
          rw [← hW1]
          have hrl : W3.rangeAt g ((m + 1) * 4) [.int .i64 price, .int .i64 (lots), .int .i64 (1), .int .i64 (sm + lots)] := by rw [hW1]; exact rangeAt_set hrl 3 _ (by simp)
          have hri : RowsAt W3 Stp.cells 4 g 0 ((init ++ [(⟨a, lb, lc, ld⟩ : Stp)])) := by rw [hW1]; exact rows_setCell Stp.k4 hri him2 3 _
          have hblk : HBlk W3 g 116 (cap * 4) := by rw [hW1]; exact hblk.set [.int .i64 (sm + lots)] ((m + 1) * 4 + 3)
          have hbw : Below w.heap.size w W3 := by rw [hW1]; exact (below_setCell hbw hbg _ _)
          clear c3 f3 hW1 e1 e2
          go_roundw
          case rel =>
            obtain ⟨cur', hc1, hc2⟩ := hblk.out
            refine ⟨kk + 1, by omega, by go_num, by rw [hst'.out], ?_, hbw⟩
            rw [hst'.out]
            have hlen2 : ((init ++ [(⟨a, lb, lc, ld⟩ : Stp)]) ++ [(⟨price, lots, 1, sm + lots⟩ : Stp)]).length = (m + 1) + 1 := by rw [List.length_append, him2]; rfl
            simp only
            rw [hlen2]
            refine own_of_rows Stp.k4 (by omega) hbg hc1 hc2 hnc hcm hlen2 ?_
            intro t y hy
            rw [Nat.zero_add]
            by_cases ht : t < (m + 1)
            · rw [List.getElem?_append_left (by rw [him2]; omega)] at hy
              have := hri t y hy
              rwa [Nat.zero_add] at this
            · have hte : t = (m + 1) := by have := (List.getElem?_eq_some_iff.1 hy).1; omega
              rw [hte] at hy ⊢
              rw [List.getElem?_append_right (by rw [him2]; omega), him2] at hy
              simp at hy
              subst hy
              exact hrl
          case measure => simp [intOf]; omega
    · obtain rfl : kk = n := by omega
      have hfin2 := hfin.out
      generalize foldTo stepsStep ([], 0) xs kk = st at hfin2 hown ⊢
      obtain ⟨acc, sm⟩ := st
      simp only at hfin2 hown ⊢
      subst hfin2
      go_wp2_with fail
      go_ret2
      exact ⟨_, rfl, hown, hbl⟩

theorem step_eql (a0 a1 a2 a3 b0 b1 b2 b3 : Int) (w : World) : (binOp .eql 116 (.agg #[.int .i64 a0, .int .i64 a1, .int .i64 a2, .int .i64 a3]) (.agg #[.int .i64 b0, .int .i64 b1, .int .i64 b2, .int .i64 b3])).run Tryd.prog w = .ok (.bool (a0 == b0 && a1 == b1 && a2 == b2 && a3 == b3)) w := by
  have hp : Tryd.prog.stoodInHeld 116 = false := by kernel_rfl
  rw [run_eql_struct, show (10000 : Nat) = 9999 + 1 from rfl, run_equalIn_agg w 9999 116 _ _ (by kernel_rfl) hp]
  have u3 := Tryd.underlying3
  simp only [Program.fieldsOf, Tryd.underlying116]
  go_simp
  by_cases h0 : a0 = b0 <;> by_cases h1 : a1 = b1 <;> by_cases h2 : a2 = b2 <;> by_cases h3 : a3 = b3 <;> simp [h0, h1, h2, h3]
theorem step_guard (op : BinOp) (x y : Operand) (xs ys : Array Value) (w : World) : (eqGuard op 116 x y (.agg xs) (.agg ys)).run Tryd.prog w = .ok () w := run_eqGuard_agg w op 116 x y _ _ (by kernel_rfl)
theorem mean_eql (a0 a1 a2 b0 b1 b2 : Int) (w : World) : (binOp .eql 120 (.agg #[.int .i64 a0, .int .i64 a1, .int .i64 a2]) (.agg #[.int .i64 b0, .int .i64 b1, .int .i64 b2])).run Tryd.prog w = .ok (.bool (a0 == b0 && a1 == b1 && a2 == b2)) w := by
  have hp : Tryd.prog.stoodInHeld 120 = false := by kernel_rfl
  rw [run_eql_struct, show (10000 : Nat) = 9999 + 1 from rfl, run_equalIn_agg w 9999 120 _ _ (by kernel_rfl) hp]
  have u3 := Tryd.underlying3
  simp only [Program.fieldsOf, Tryd.underlying120]
  go_simp
  by_cases h0 : a0 = b0 <;> by_cases h1 : a1 = b1 <;> by_cases h2 : a2 = b2 <;> simp [h0, h1, h2]
theorem mean_guard (op : BinOp) (x y : Operand) (xs ys : Array Value) (w : World) : (eqGuard op 120 x y (.agg xs) (.agg ys)).run Tryd.prog w = .ok () w := run_eqGuard_agg w op 120 x y _ _ (by kernel_rfl)

def awO : List Ord := [⟨1, 0, true, 5, 2, 0⟩, ⟨2, 0, true, 5, 1, 0⟩, ⟨3, 0, true, 7, 4, 0⟩]
def awF : List Fill := [⟨0, 0, 0, 0, 5, 2⟩, ⟨0, 0, 0, 0, 8, 1⟩]
theorem aw_side : side awO = true := by decide
theorem aw_steps : stepsO awO = [⟨5, 3, 2, 3⟩, ⟨7, 4, 1, 7⟩] := rfl
theorem aw_cost : costF' awO 4 = (22, 4) := by decide
theorem aw_mean : meanF awF = [.int .i64 6, .int .i64 0, .int .i64 3] := rfl
theorem aw_is : isF awF = true := rfl
/-- A row out of a block whose cells are the row's. -/
theorem rd_of_block {α : Type} {enc : α → List Value} {k : Nat} (hk : ∀ x, (enc x).length = k) {w : World} {g : Nat} {t : TypeId} {l : List α} (hg : w.heap[g]? = some (.cells (flatOf enc l).toArray t (0, 0))) : RdRows w w.heap.size enc k (some ⟨g, 0, none⟩) l.length l :=
  ⟨rfl, fun _ => ⟨g, 0, rfl, (Array.getElem?_eq_some_iff.1 hg).1, fun i x hi j u hu => by
    rw [cell_of_row w g _ _ _ _ hg, Nat.zero_add]
    have := flatOf_get hk l i x hi j u hu
    simpa using this⟩⟩
set_option maxRecDepth 100000 in
set_option maxHeartbeats 2000000 in
theorem awake34_c (w : World) :
    Calls Tryd.prog 67 #[] w fun e w' => e = .returned (.bool true) ∧ Below w.heap.size w w' := by
  go_enter Tryd.func67, Tryd.ntmps67
  go_wp2_with fail
  obtain ⟨W1, hW1⟩ : ∃ Z : World, Z = w.alloc (.cells (flatOf Ord.cells awO).toArray 67) := ⟨_, rfl⟩
  change Calls _ _ _ (w.alloc (.cells (flatOf Ord.cells awO).toArray 67)) _
  rw [← hW1]
  have hr1 : Hid (RdRows W1 W1.heap.size Ord.cells 6 (some ⟨w.heap.size, 0, none⟩) 3 awO) := by rw [hW1]; exact rd_of_block (l := awO) Ord.k6 (alloc_new' rfl)
  have hb1 : Below w.heap.size w W1 := by rw [hW1]; exact below_grow w _
  clear hW1
  refine (steps_ok _ 3 3 awO W1 hr1 (by unfold maxLen; omega) aw_side).mono ?_
  rintro e w2 ⟨v, rfl, hown, hb2⟩
  rw [aw_steps] at hown
  obtain ⟨g, cap, cur, rfl, hnc, hcm, hbg, hblk, hcs, hrows⟩ := own_rows' Stp.k4 hown rfl (by simp)
  have hglt : g < w2.heap.size := (Array.getElem?_eq_some_iff.1 hblk).1
  have R0 : Hid (w2.rangeAt g 0 [.int .i64 5, .int .i64 3, .int .i64 2, .int .i64 3]) := by
    have := hrows 0 _ rfl
    rwa [Nat.zero_mul, Nat.zero_add] at this
  have C7 : Hid (w2.cell? ⟨g, 7, none⟩ = some (.int .i64 7)) := hrows 1 _ rfl 3 _ rfl
  have hr2 : Hid (RdRows w2 w2.heap.size Ord.cells 6 (some ⟨w.heap.size, 0, none⟩) 3 awO) := (hr1.out.below hb2 (Nat.le_refl _)).mono hb2.size
  have hbw2 := hb1.trans (hb2.mono hb1.size)
  clear hrows hblk hown hb1 hb2 hr1 hnc hcm hbg hcs
  go_wp2_with fail
  refine (cost_c _ 3 3 awO 4 w2 (by omega) (by omega) hr2 (by unfold maxLen; omega)).mono ?_
  rintro e w3 ⟨rfl, hb3⟩
  rw [aw_cost]
  have R03 : Hid (w3.rangeAt g 0 [.int .i64 5, .int .i64 3, .int .i64 2, .int .i64 3]) := rangeAt_below R0.out hb3 hglt
  have C73 : Hid (w3.cell? ⟨g, 7, none⟩ = some (.int .i64 7)) := (hb3.cell (p := ⟨g, 7, none⟩) hglt).trans C7.out
  have hbw3 := hbw2.trans (hb3.mono hbw2.size)
  have hgl3 : g < w3.heap.size := Nat.lt_of_lt_of_le hglt hb3.size
  clear hb3 R0 C7 hbw2 hr2
  go_wp2_with fail
  obtain ⟨W4, hW4⟩ : ∃ Z : World, Z = w3.alloc (.cells (flatOf Fill.cells awF).toArray 82) := ⟨_, rfl⟩
  change Calls _ _ _ (w3.alloc (.cells (flatOf Fill.cells awF).toArray 82)) _
  rw [← hW4]
  have hr4 : Hid (RdRows W4 W4.heap.size Fill.cells 6 (some ⟨w3.heap.size, 0, none⟩) 2 awF) := by rw [hW4]; exact rd_of_block (l := awF) Fill.k6 (alloc_new' rfl)
  have hb4 : Below w3.heap.size w3 W4 := by rw [hW4]; exact below_grow w3 _
  clear hW4
  refine (average_c _ 2 2 awF W4 (by simp) hr4 (by unfold maxLen; omega)).mono ?_
  rintro e w5 ⟨rfl, hb5⟩
  rw [aw_mean, aw_is]
  have hb35 := hb4.trans (hb5.mono hb4.size)
  have r0 := rangeAt_below R03.out hb35 hgl3
  have c7 := (hb35.cell (p := ⟨g, 7, none⟩) hgl3).trans C73.out
  have hbw5 := hbw3.trans (hb35.mono hbw3.size)
  have HSE := fun w => step_eql 5 3 2 3 5 3 2 3 w
  have HSG := step_guard .eql
  have HME := fun w => mean_eql 6 0 3 6 0 3 w
  have HMG := mean_guard .eql
  simp at HSE HME
  have hb35s := hb35.size
  clear hb4 hb5 hb35 R03 C73 hbw3 hr4
  have hgl5 : g < w5.heap.size := Nat.lt_of_lt_of_le hgl3 (by have := hb35s; exact this)
  have hgne : ¬ g = w5.heap.size := by omega
  have c0 : w5.cell? ⟨g, 0, none⟩ = some (.int .i64 5) := r0 0 _ rfl
  have c1 : w5.cell? ⟨g, 1, none⟩ = some (.int .i64 3) := r0 1 _ rfl
  have c2 : w5.cell? ⟨g, 2, none⟩ = some (.int .i64 2) := r0 2 _ rfl
  have c3 : w5.cell? ⟨g, 3, none⟩ = some (.int .i64 3) := r0 3 _ rfl
  clear r0
  go_wp2_with fail
  go_ret
  exact ⟨rfl, hbw5.alloc hbw5.size _⟩
end Go.Proofs.YtdebldpmloignaaDoor
