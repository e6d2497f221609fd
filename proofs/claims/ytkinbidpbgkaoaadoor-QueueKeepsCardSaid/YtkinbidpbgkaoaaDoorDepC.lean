/-
  depth: orders: Good, isSide.
-/
import Derived.Test.YtkinbidpbgkaoaaDoorDepB
namespace Go.Proofs.YtkinbidpbgkaoaaDoor
open Go.RowKit
set_option linter.unusedVariables false

theorem below_undrew {B : Nat} {w w' : World} (h : Below B w.drew w') : Below B w w' := ⟨h.os, h.tape, h.output, h.size, h.block⟩
structure Ord where
  (id tenant : Int)
  sell : Bool
  (price lots seq : Int)
def Ord.cells (o : Ord) : List Value := [.int .i64 o.id, .int .i64 o.tenant, .bool o.sell, .int .i64 o.price, .int .i64 o.lots, .int .i64 o.seq]
theorem Ord.k6 (o : Ord) : o.cells.length = 6 := rfl
theorem Ord.one (o : Ord) : ∀ u ∈ o.cells, u.oneCell' = true := by intro u hu; simp [Ord.cells] at hu; rcases hu with rfl | rfl | rfl | rfl | rfl | rfl <;> rfl
def Ord.good (o : Ord) : Bool := decide (1 ≤ o.id) && decide (o.id ≤ 1073741824) && decide (1 ≤ o.price) && decide (o.price ≤ 1000000) && decide (1 ≤ o.lots) && decide (o.lots ≤ 1000)
theorem size_ord : (Tryd.prog.info? 86).map (·.size) = some 6 := by kernel_rfl
set_option maxRecDepth 100000 in
theorem good_c (o : Ord) (w : World) : Calls Tryd.prog 70 #[.agg o.cells.toArray] w fun e w' => e = .returned (.bool (Ord.good o)) ∧ Below w.heap.size w w' := by
  obtain ⟨id, tenant, sell, price, lots, seq⟩ := o
  simp only [Ord.cells]
  by_cases c0 : 1 ≤ id
  rotate_left
  · have e : Ord.good ⟨id, tenant, sell, price, lots, seq⟩ = false := by simp [Ord.good]; omega
    rw [e]
    have d0 : decide (1 ≤ id) = false := by simpa using c0
    clear c0
    go_enter Tryd.func70, Tryd.ntmps70
    go_wp2_with fail
    go_ret
    exact ⟨rfl, (Below.refl _ w).alloc (Nat.le_refl _) _⟩
  by_cases c1 : id ≤ 1073741824
  rotate_left
  · have e : Ord.good ⟨id, tenant, sell, price, lots, seq⟩ = false := by simp [Ord.good]; omega
    rw [e]
    have d0 : decide (1 ≤ id) = true := by simpa using c0
    have d1 : decide (id ≤ 1073741824) = false := by simpa using c1
    clear c0 c1
    go_enter Tryd.func70, Tryd.ntmps70
    go_wp2_with fail
    go_ret
    exact ⟨rfl, (Below.refl _ w).alloc (Nat.le_refl _) _⟩
  by_cases c2 : 1 ≤ price
  rotate_left
  · have e : Ord.good ⟨id, tenant, sell, price, lots, seq⟩ = false := by simp [Ord.good]; omega
    rw [e]
    have d0 : decide (1 ≤ id) = true := by simpa using c0
    have d1 : decide (id ≤ 1073741824) = true := by simpa using c1
    have d2 : decide (1 ≤ price) = false := by simpa using c2
    clear c0 c1 c2
    go_enter Tryd.func70, Tryd.ntmps70
    go_wp2_with fail
    go_ret
    exact ⟨rfl, (Below.refl _ w).alloc (Nat.le_refl _) _⟩
  by_cases c3 : price ≤ 1000000
  rotate_left
  · have e : Ord.good ⟨id, tenant, sell, price, lots, seq⟩ = false := by simp [Ord.good]; omega
    rw [e]
    have d0 : decide (1 ≤ id) = true := by simpa using c0
    have d1 : decide (id ≤ 1073741824) = true := by simpa using c1
    have d2 : decide (1 ≤ price) = true := by simpa using c2
    have d3 : decide (price ≤ 1000000) = false := by simpa using c3
    clear c0 c1 c2 c3
    go_enter Tryd.func70, Tryd.ntmps70
    go_wp2_with fail
    go_ret
    exact ⟨rfl, (Below.refl _ w).alloc (Nat.le_refl _) _⟩
  by_cases c4 : 1 ≤ lots
  rotate_left
  · have e : Ord.good ⟨id, tenant, sell, price, lots, seq⟩ = false := by simp [Ord.good]; omega
    rw [e]
    have d0 : decide (1 ≤ id) = true := by simpa using c0
    have d1 : decide (id ≤ 1073741824) = true := by simpa using c1
    have d2 : decide (1 ≤ price) = true := by simpa using c2
    have d3 : decide (price ≤ 1000000) = true := by simpa using c3
    have d4 : decide (1 ≤ lots) = false := by simpa using c4
    clear c0 c1 c2 c3 c4
    go_enter Tryd.func70, Tryd.ntmps70
    go_wp2_with fail
    go_ret
    exact ⟨rfl, (Below.refl _ w).alloc (Nat.le_refl _) _⟩
  by_cases c5 : lots ≤ 1000
  rotate_left
  · have e : Ord.good ⟨id, tenant, sell, price, lots, seq⟩ = false := by simp [Ord.good]; omega
    rw [e]
    have d0 : decide (1 ≤ id) = true := by simpa using c0
    have d1 : decide (id ≤ 1073741824) = true := by simpa using c1
    have d2 : decide (1 ≤ price) = true := by simpa using c2
    have d3 : decide (price ≤ 1000000) = true := by simpa using c3
    have d4 : decide (1 ≤ lots) = true := by simpa using c4
    have d5 : decide (lots ≤ 1000) = false := by simpa using c5
    clear c0 c1 c2 c3 c4 c5
    go_enter Tryd.func70, Tryd.ntmps70
    go_wp2_with fail
    go_ret
    exact ⟨rfl, (Below.refl _ w).alloc (Nat.le_refl _) _⟩
  have e : Ord.good ⟨id, tenant, sell, price, lots, seq⟩ = true := by simp [Ord.good]; omega
  rw [e]
  have d0 : decide (1 ≤ id) = true := by simpa using c0
  have d1 : decide (id ≤ 1073741824) = true := by simpa using c1
  have d2 : decide (1 ≤ price) = true := by simpa using c2
  have d3 : decide (price ≤ 1000000) = true := by simpa using c3
  have d4 : decide (1 ≤ lots) = true := by simpa using c4
  have d5 : decide (lots ≤ 1000) = true := by simpa using c5
  clear c0 c1 c2 c3 c4 c5
  go_enter Tryd.func70, Tryd.ntmps70
  go_wp2_with fail
  go_ret
  exact ⟨rfl, (Below.refl _ w).alloc (Nat.le_refl _) _⟩
/-- Whether the k-th order fits behind those before it. -/
def okAt (xs : List Ord) (k : Nat) (x : Ord) : Bool := x.good && (x.sell == (xs.headD x).sell) && (decide (k = 0) || !(if x.sell then decide (x.price < (xs.getD (k - 1) x).price) else decide ((xs.getD (k - 1) x).price < x.price)))
def side (xs : List Ord) : Bool := decide (xs.length ≤ 1000) && (List.range xs.length).all fun k => match xs[k]? with | some x => okAt xs k x | none => true
theorem side_false {xs : List Ord} {k : Nat} {x : Ord} (hx : xs[k]? = some x) (h : okAt xs k x = false) : side xs = false := by
  have hk := (List.getElem?_eq_some_iff.1 hx).1
  unfold side
  rw [Bool.and_eq_false_iff]
  refine .inr (List.all_eq_false.2 ⟨k, by simpa using hk, by simp [hx, h]⟩)
theorem side_all {xs : List Ord} (h : ∀ (k : Nat) (x : Ord), xs[k]? = some x → okAt xs k x = true) : side xs = decide (xs.length ≤ 1000) := by
  unfold side
  have : ((List.range xs.length).all fun k => match xs[k]? with | some x => okAt xs k x | none => true) = true := by
    rw [List.all_eq_true]
    intro k hk
    have hk' : k < xs.length := by simpa using hk
    rw [List.getElem?_eq_getElem hk']
    exact h k _ (List.getElem?_eq_getElem hk')
  rw [this, Bool.and_true]
set_option maxRecDepth 100000 in
set_option maxHeartbeats 2000000 in
theorem isSide_c (A : Option Addr) (n c : Nat) (xs : List Ord) (w : World) (hr : Hid (RdRows w w.heap.size Ord.cells 6 A n xs)) (hn : n ≤ maxLen) :
    Calls Tryd.prog 57 #[.slice A n c] w fun e w' => e = .returned (.bool (side xs)) ∧ Below w.heap.size w w' := by
  have hl := hr.out.1
  go_enter Tryd.func57, Tryd.ntmps57
  go_wp2_with fail
  go_loopw [3, 4, 7] (fun _ _ s7 wr => ∃ kk : Nat, kk ≤ n ∧ s7 = .int .i64 kk ∧ Below w.heap.size w wr ∧ Hid (∀ (j : Nat) (y : Ord), j < kk → xs[j]? = some y → okAt xs j y = true)) (fun _ _ s7 _ => n - (intOf s7).toNat)
  case atStart => exact ⟨0, Nat.zero_le _, rfl, Below.refl _ w, fun j y hj => absurd hj (Nat.not_lt_zero _)⟩
  case round =>
    obtain ⟨kk, hkk, rfl, hbl, hno⟩ := hrel
    have hn63 : n ≤ 9223372036854775807 := hn
    by_cases hlt : kk < n
    · obtain ⟨b, off, rfl, hb, hrows⟩ := hr.out.2 (by omega)
      obtain ⟨x, hx⟩ : ∃ x, xs[kk]? = some x := ⟨_, List.getElem?_eq_getElem (by omega)⟩
      have HX := Lib.hid hx
      have r1 := rangeAt_below (hrows kk x hx) hbl hb
      have hf0 : xs[0]? = some (xs.headD x) := by cases xs with | nil => simp at hl; omega | cons a r => rfl
      have c2 : wr.cell? ⟨b, off + 2, none⟩ = some (.bool (xs.headD x).sell) := by
        have := rangeAt_below (hrows 0 _ hf0) hbl hb 2 (.bool (xs.headD x).sell) rfl
        simpa using this
      have cp : 0 < kk → wr.cell? ⟨b, off + (kk - 1) * 6 + 3, none⟩ = some (.int .i64 (xs.getD (kk - 1) x).price) := fun h => by
        have hp : xs[kk - 1]? = some (xs.getD (kk - 1) x) := by rw [List.getD_eq_getElem?_getD, List.getElem?_eq_getElem (by omega)]; rfl
        exact rangeAt_below (hrows (kk - 1) _ hp) hbl hb 3 _ rfl
      have hok : okAt xs kk x = (x.good && (x.sell == (xs.headD x).sell) && (decide (kk = 0) || !(if x.sell then decide (x.price < (xs.getD (kk - 1) x).price) else decide ((xs.getD (kk - 1) x).price < x.price)))) := rfl
      generalize (xs.headD x).sell = fs at c2 hok
      generalize (xs.getD (kk - 1) x).price = pp at cp hok
      have HOK := Lib.hid hok
      clear hrows hx hok hf0
      obtain ⟨id, tenant, sell, price, lots, seq⟩ := x
      simp only at HOK
      cases hgd : Ord.good ⟨id, tenant, sell, price, lots, seq⟩ with
      | false =>
        rw [hgd] at HOK
        go_wp2_with (refine wpList_load_mid rfl 86 _ rfl b (off + kk * 6) rfl [.int .i64 id, .int .i64 tenant, .bool sell, .int .i64 price, .int .i64 lots, .int .i64 seq] _ r1 Tryd.underlying86 rfl size_ord ?_)
        obtain ⟨W, hW⟩ : ∃ W, W = wr.alloc (.cells #[.int .i64 id, .int .i64 tenant, .bool sell, .int .i64 price, .int .i64 lots, .int .i64 seq] 86) := ⟨_, rfl⟩
        rw [← hW]
        have hblk : W.heap[wr.heap.size]? = some (.cells #[.int .i64 id, .int .i64 tenant, .bool sell, .int .i64 price, .int .i64 lots, .int .i64 seq] 86 (0, 0)) := by rw [hW]; exact alloc_new' rfl
        have g0 := cell_of_row W wr.heap.size 0 _ _ _ hblk
        have g1 := cell_of_row W wr.heap.size 1 _ _ _ hblk
        have g2 := cell_of_row W wr.heap.size 2 _ _ _ hblk
        have g3 := cell_of_row W wr.heap.size 3 _ _ _ hblk
        have g4 := cell_of_row W wr.heap.size 4 _ _ _ hblk
        have g5 := cell_of_row W wr.heap.size 5 _ _ _ hblk
        simp only [List.getElem?_toArray, List.getElem?_cons_zero, List.getElem?_cons_succ] at g0 g1 g2 g3 g4 g5
        have c2 : W.cell? ⟨b, off + 2, none⟩ = some (.bool fs) := by rw [hW]; exact Lib.cell?_alloc_some _ c2
        have cp : 0 < kk → W.cell? ⟨b, off + (kk - 1) * 6 + 3, none⟩ = some (.int .i64 pp) := fun h => by rw [hW]; exact Lib.cell?_alloc_some _ (cp h)
        have hblW : Below w.heap.size w W := by rw [hW]; exact hbl.alloc hbl.size _
        have hszW : wr.heap.size < W.heap.size := by rw [hW]; simp
        have hbW : b < W.heap.size := by have := hblW.size; omega
        clear hblk hW r1 hbl
        have hgc : ∀ W0, Calls Tryd.prog 70 #[.agg #[.int .i64 id, .int .i64 tenant, .bool sell, .int .i64 price, .int .i64 lots, .int .i64 seq]] W0 fun e w' => e = .returned (.bool false) ∧ Below W0.heap.size W0 w' := fun W0 => by rw [← hgd]; exact good_c ⟨id, tenant, sell, price, lots, seq⟩ W0
        have HGC := Lib.hid hgc
        have hn0 : (0 : Int) < n := by omega
        have hn0n : 0 < n := by omega
        have HCP := Lib.hid cp
        clear hgc cp hgd
        refine wp_region_noPanic ?_
        refine wp_region_held_drew (S := (fun w' => w'.cell? ⟨wr.heap.size, 0, none⟩ = some (.int .i64 id) ∧ w'.cell? ⟨wr.heap.size, 1, none⟩ = some (.int .i64 tenant) ∧ w'.cell? ⟨wr.heap.size, 2, none⟩ = some (.bool sell) ∧ w'.cell? ⟨wr.heap.size, 3, none⟩ = some (.int .i64 price) ∧ w'.cell? ⟨wr.heap.size, 4, none⟩ = some (.int .i64 lots) ∧ w'.cell? ⟨wr.heap.size, 5, none⟩ = some (.int .i64 seq) ∧ w'.cell? ⟨b, off + 2, none⟩ = some (.bool fs))) (by kernel_rfl) ⟨g0, g1, g2, g3, g4, g5, c2⟩ (fun hHeld => ?_)
        refine wpAnyH_take (i := 0) (v := ?_) rfl (by kernel_rfl) (by kernel_rfl) (by kernel_rfl) (fun _ _ _ h => h) (Or.inl ⟨by rfl, ?_⟩) hHeld ?_
        rotate_left
        focus
          intro w hSw
          (try dsimp only at hSw)
          go_simp
          try with_reducible rfl
        try simp only [Act.put, List.getElem_toArray, List.getElem_cons_zero, List.getElem_cons_succ, List.setIfInBounds_toArray, List.set_cons_zero, List.set_cons_succ]
        refine wpAnyH_ready (rs := [1]) (by kernel_rfl) (by simp) ?_
        refine AllReadyH.cons rfl (fun K hK => ?_) AllReadyH.nil
        go_simp
        refine (HGC.out _).mono ?_
        rintro e W2 ⟨rfl, hb2⟩
        have hb2 := below_undrew hb2
        have g0 := (hb2.cell (p := ⟨wr.heap.size, 0, none⟩) hszW).trans g0
        have g1 := (hb2.cell (p := ⟨wr.heap.size, 1, none⟩) hszW).trans g1
        have g2 := (hb2.cell (p := ⟨wr.heap.size, 2, none⟩) hszW).trans g2
        have g3 := (hb2.cell (p := ⟨wr.heap.size, 3, none⟩) hszW).trans g3
        have g4 := (hb2.cell (p := ⟨wr.heap.size, 4, none⟩) hszW).trans g4
        have g5 := (hb2.cell (p := ⟨wr.heap.size, 5, none⟩) hszW).trans g5
        have c2 := (hb2.cell (p := ⟨b, off + 2, none⟩) hbW).trans c2
        refine hK.out _ _ ⟨g0, g1, g2, g3, g4, g5, c2⟩ (fun hHeld => ?_)
        clear hK K
        try simp only [Act.put, List.getElem_toArray, List.getElem_cons_zero, List.getElem_cons_succ, List.setIfInBounds_toArray, List.set_cons_zero, List.set_cons_succ]
        refine wpAnyH_take (i := 2) (v := ?_) rfl (by kernel_rfl) (by kernel_rfl) (by kernel_rfl) (fun _ _ _ h => h) (Or.inl ⟨by rfl, ?_⟩) hHeld ?_
        rotate_left
        focus
          intro w hSw
          clear hSw
          go_simp
          try with_reducible rfl
        try simp only [Act.put, List.getElem_toArray, List.getElem_cons_zero, List.getElem_cons_succ, List.setIfInBounds_toArray, List.set_cons_zero, List.set_cons_succ]
        refine wpAnyH_take (i := 3) (v := ?_) rfl (by kernel_rfl) (by kernel_rfl) (by kernel_rfl) (fun _ _ _ h => h) (Or.inl ⟨by rfl, ?_⟩) hHeld ?_
        rotate_left
        focus
          intro w hSw
          clear hSw
          go_simp
          try with_reducible rfl
        try simp only [Act.put, List.getElem_toArray, List.getElem_cons_zero, List.getElem_cons_succ, List.setIfInBounds_toArray, List.set_cons_zero, List.set_cons_succ]
        refine wpAnyH_take (i := 4) (v := undef) rfl (by kernel_rfl) (by kernel_rfl) (by kernel_rfl) (fun _ _ _ h => h) (Or.inr ⟨by rfl, rfl⟩) hHeld ?_
        try simp only [Act.put, List.getElem_toArray, List.getElem_cons_zero, List.getElem_cons_succ, List.setIfInBounds_toArray, List.set_cons_zero, List.set_cons_succ]
        refine wpAnyH_take (i := 5) (v := undef) rfl (by kernel_rfl) (by kernel_rfl) (by kernel_rfl) (fun _ _ _ h => h) (Or.inr ⟨by rfl, rfl⟩) hHeld ?_
        try simp only [Act.put, List.getElem_toArray, List.getElem_cons_zero, List.getElem_cons_succ, List.setIfInBounds_toArray, List.set_cons_zero, List.set_cons_succ]
        refine wpAnyH_take (i := 6) (v := undef) rfl (by kernel_rfl) (by kernel_rfl) (by kernel_rfl) (fun _ _ _ h => h) (Or.inr ⟨by rfl, rfl⟩) hHeld ?_
        try simp only [Act.put, List.getElem_toArray, List.getElem_cons_zero, List.getElem_cons_succ, List.setIfInBounds_toArray, List.set_cons_zero, List.set_cons_succ]
        refine wpAnyH_take (i := 7) (v := undef) rfl (by kernel_rfl) (by kernel_rfl) (by kernel_rfl) (fun _ _ _ h => h) (Or.inr ⟨by rfl, rfl⟩) hHeld ?_
        try simp only [Act.put, List.getElem_toArray, List.getElem_cons_zero, List.getElem_cons_succ, List.setIfInBounds_toArray, List.set_cons_zero, List.set_cons_succ]
        refine wpAnyH_take (i := 8) (v := undef) rfl (by kernel_rfl) (by kernel_rfl) (by kernel_rfl) (fun _ _ _ h => h) (Or.inr ⟨by rfl, rfl⟩) hHeld ?_
        try simp only [Act.put, List.getElem_toArray, List.getElem_cons_zero, List.getElem_cons_succ, List.setIfInBounds_toArray, List.set_cons_zero, List.set_cons_succ]
        refine wpAnyH_take (i := 9) (v := undef) rfl (by kernel_rfl) (by kernel_rfl) (by kernel_rfl) (fun _ _ _ h => h) (Or.inr ⟨by rfl, rfl⟩) hHeld ?_
        try simp only [Act.put, List.getElem_toArray, List.getElem_cons_zero, List.getElem_cons_succ, List.setIfInBounds_toArray, List.set_cons_zero, List.set_cons_succ]
        refine wpAnyH_take (i := 10) (v := undef) rfl (by kernel_rfl) (by kernel_rfl) (by kernel_rfl) (fun _ _ _ h => h) (Or.inr ⟨by rfl, rfl⟩) hHeld ?_
        try simp only [Act.put, List.getElem_toArray, List.getElem_cons_zero, List.getElem_cons_succ, List.setIfInBounds_toArray, List.set_cons_zero, List.set_cons_succ]
        refine wpAnyH_take (i := 11) (v := ?_) rfl (by kernel_rfl) (by kernel_rfl) (by kernel_rfl) (fun _ _ _ h => h) (Or.inl ⟨by rfl, ?_⟩) hHeld ?_
        rotate_left
        focus
          intro w hSw
          clear hSw
          go_simp
          try with_reducible rfl
        try simp only [Act.put, List.getElem_toArray, List.getElem_cons_zero, List.getElem_cons_succ, List.setIfInBounds_toArray, List.set_cons_zero, List.set_cons_succ]
        refine wpAnyH_done (by kernel_rfl) ?_ _
        refine NoPanic.normal ?_
        have hbl2 : Below w.heap.size w W2 := hblW.trans (hb2.mono hblW.size)
        go_wp2_with fail
        go_ret
        exact ⟨by rw [side_false HX.out (by rw [HOK.out]; simp)]; rfl, hbl2⟩
      | true =>
        rw [hgd] at HOK
        by_cases hs : sell = fs
        · subst hs
          go_wp2_with (refine wpList_load_mid rfl 86 _ rfl b (off + kk * 6) rfl [.int .i64 id, .int .i64 tenant, .bool sell, .int .i64 price, .int .i64 lots, .int .i64 seq] _ r1 Tryd.underlying86 rfl size_ord ?_)
          obtain ⟨W, hW⟩ : ∃ W, W = wr.alloc (.cells #[.int .i64 id, .int .i64 tenant, .bool sell, .int .i64 price, .int .i64 lots, .int .i64 seq] 86) := ⟨_, rfl⟩
          rw [← hW]
          have hblk : W.heap[wr.heap.size]? = some (.cells #[.int .i64 id, .int .i64 tenant, .bool sell, .int .i64 price, .int .i64 lots, .int .i64 seq] 86 (0, 0)) := by rw [hW]; exact alloc_new' rfl
          have g0 := cell_of_row W wr.heap.size 0 _ _ _ hblk
          have g1 := cell_of_row W wr.heap.size 1 _ _ _ hblk
          have g2 := cell_of_row W wr.heap.size 2 _ _ _ hblk
          have g3 := cell_of_row W wr.heap.size 3 _ _ _ hblk
          have g4 := cell_of_row W wr.heap.size 4 _ _ _ hblk
          have g5 := cell_of_row W wr.heap.size 5 _ _ _ hblk
          simp only [List.getElem?_toArray, List.getElem?_cons_zero, List.getElem?_cons_succ] at g0 g1 g2 g3 g4 g5
          have c2 : W.cell? ⟨b, off + 2, none⟩ = some (.bool sell) := by rw [hW]; exact Lib.cell?_alloc_some _ c2
          have cp : 0 < kk → W.cell? ⟨b, off + (kk - 1) * 6 + 3, none⟩ = some (.int .i64 pp) := fun h => by rw [hW]; exact Lib.cell?_alloc_some _ (cp h)
          have hblW : Below w.heap.size w W := by rw [hW]; exact hbl.alloc hbl.size _
          have hszW : wr.heap.size < W.heap.size := by rw [hW]; simp
          have hbW : b < W.heap.size := by have := hblW.size; omega
          clear hblk hW r1 hbl
          have hgc : ∀ W0, Calls Tryd.prog 70 #[.agg #[.int .i64 id, .int .i64 tenant, .bool sell, .int .i64 price, .int .i64 lots, .int .i64 seq]] W0 fun e w' => e = .returned (.bool true) ∧ Below W0.heap.size W0 w' := fun W0 => by rw [← hgd]; exact good_c ⟨id, tenant, sell, price, lots, seq⟩ W0
          have HGC := Lib.hid hgc
          have hn0 : (0 : Int) < n := by omega
          have hn0n : 0 < n := by omega
          have HCP := Lib.hid cp
          clear hgc cp hgd
          go_region_held3 (fun w' => w'.cell? ⟨wr.heap.size, 0, none⟩ = some (.int .i64 id) ∧ w'.cell? ⟨wr.heap.size, 1, none⟩ = some (.int .i64 tenant) ∧ w'.cell? ⟨wr.heap.size, 2, none⟩ = some (.bool sell) ∧ w'.cell? ⟨wr.heap.size, 3, none⟩ = some (.int .i64 price) ∧ w'.cell? ⟨wr.heap.size, 4, none⟩ = some (.int .i64 lots) ∧ w'.cell? ⟨wr.heap.size, 5, none⟩ = some (.int .i64 seq) ∧ w'.cell? ⟨b, off + 2, none⟩ = some (.bool sell)) (exact ⟨g0, g1, g2, g3, g4, g5, c2⟩) (first | (go_at_call 70; refine (HGC.out _).mono ?_; rintro e W2 ⟨rfl, hb2⟩; have hb2 := below_undrew hb2; have g0 := (hb2.cell (p := ⟨wr.heap.size, 0, none⟩) hszW).trans g0; have g1 := (hb2.cell (p := ⟨wr.heap.size, 1, none⟩) hszW).trans g1; have g2 := (hb2.cell (p := ⟨wr.heap.size, 2, none⟩) hszW).trans g2; have g3 := (hb2.cell (p := ⟨wr.heap.size, 3, none⟩) hszW).trans g3; have g4 := (hb2.cell (p := ⟨wr.heap.size, 4, none⟩) hszW).trans g4; have g5 := (hb2.cell (p := ⟨wr.heap.size, 5, none⟩) hszW).trans g5; have c2 := (hb2.cell (p := ⟨b, off + 2, none⟩) hbW).trans c2))
          have hbl2 : Below w.heap.size w W2 := hblW.trans (hb2.mono hblW.size)
          clear g0 g1 g4 g5 c2 hn0 hn0n
          rcases Nat.eq_zero_or_pos kk with hk0 | hk0
          · have hd0 : decide ((0 : Int) < (kk : Int)) = false := by simp; omega
            go_wp2_with fail
            go_quiet (fail)
            go_wp2_with fail
            go_roundw
            case rel => exact ⟨kk + 1, by omega, by go_num, below_drewN hbl2 _, fun j y hj hy => by
              by_cases e : j = kk
              · subst e; rw [HX.out] at hy; cases hy; rw [HOK.out]; simp [hk0]
              · exact hno.out j y (by omega) hy⟩
            case measure => simp [intOf]; omega
          · have cp := (hb2.cell (p := ⟨b, off + (kk - 1) * 6 + 3, none⟩) hbW).trans (HCP.out hk0)
            obtain ⟨m, rfl⟩ : ∃ m, kk = m + 1 := ⟨kk - 1, by omega⟩
            rw [Nat.add_sub_cancel] at cp
            have hd0 : decide ((0 : Int) < ((m + 1 : Nat) : Int)) = true := by first | (simp; done) | (simp; omega)
            by_cases he : price = pp
            · have hpe : (price != pp) = false := by simpa using he
              clear g2
              go_wp2_with fail
              go_quiet (fail)
              go_wp2_with fail
              go_roundw
              case rel => exact ⟨(m + 1) + 1, by omega, by go_num, below_drewN hbl2 _, fun j y hj hy => by
                by_cases e : j = (m + 1)
                · subst e; rw [HX.out] at hy; cases hy; rw [HOK.out]; simp [he]
                · exact hno.out j y (by omega) hy⟩
              case measure => simp [intOf]; omega
            · have hpe : (price != pp) = true := by simpa using he
              by_cases hg : pp < price
              · have hgd2 : decide (pp < price) = true := by simpa using hg
                have hng : ¬ price < pp := by omega
                cases sell
                · go_wp2_with fail
                  go_quiet (fail)
                  go_wp2_with fail
                  go_ret
                  exact ⟨by rw [side_false HX.out (by rw [HOK.out]; simp [hg])]; rfl, below_drewN hbl2 _⟩
                · go_wp2_with fail
                  go_quiet (fail)
                  go_wp2_with fail
                  go_roundw
                  case rel => exact ⟨(m + 1) + 1, by omega, by go_num, below_drewN hbl2 _, fun j y hj hy => by
                    by_cases e : j = (m + 1)
                    · subst e; rw [HX.out] at hy; cases hy; rw [HOK.out]; simp [hng]
                    · exact hno.out j y (by omega) hy⟩
                  case measure => simp [intOf]; omega
              · have hgd2 : decide (pp < price) = false := by simpa using hg
                have hng : price < pp := by omega
                cases sell
                · go_wp2_with fail
                  go_quiet (fail)
                  go_wp2_with fail
                  go_roundw
                  case rel => exact ⟨(m + 1) + 1, by omega, by go_num, below_drewN hbl2 _, fun j y hj hy => by
                    by_cases e : j = (m + 1)
                    · subst e; rw [HX.out] at hy; cases hy; rw [HOK.out]; simp [hg]
                    · exact hno.out j y (by omega) hy⟩
                  case measure => simp [intOf]; omega
                · go_wp2_with fail
                  go_quiet (fail)
                  go_wp2_with fail
                  go_ret
                  exact ⟨by rw [side_false HX.out (by rw [HOK.out]; simp [hng])]; rfl, below_drewN hbl2 _⟩
        · obtain rfl : fs = !sell := by revert hs; cases sell <;> cases fs <;> simp
          go_wp2_with (refine wpList_load_mid rfl 86 _ rfl b (off + kk * 6) rfl [.int .i64 id, .int .i64 tenant, .bool sell, .int .i64 price, .int .i64 lots, .int .i64 seq] _ r1 Tryd.underlying86 rfl size_ord ?_)
          obtain ⟨W, hW⟩ : ∃ W, W = wr.alloc (.cells #[.int .i64 id, .int .i64 tenant, .bool sell, .int .i64 price, .int .i64 lots, .int .i64 seq] 86) := ⟨_, rfl⟩
          rw [← hW]
          have hblk : W.heap[wr.heap.size]? = some (.cells #[.int .i64 id, .int .i64 tenant, .bool sell, .int .i64 price, .int .i64 lots, .int .i64 seq] 86 (0, 0)) := by rw [hW]; exact alloc_new' rfl
          have g0 := cell_of_row W wr.heap.size 0 _ _ _ hblk
          have g1 := cell_of_row W wr.heap.size 1 _ _ _ hblk
          have g2 := cell_of_row W wr.heap.size 2 _ _ _ hblk
          have g3 := cell_of_row W wr.heap.size 3 _ _ _ hblk
          have g4 := cell_of_row W wr.heap.size 4 _ _ _ hblk
          have g5 := cell_of_row W wr.heap.size 5 _ _ _ hblk
          simp only [List.getElem?_toArray, List.getElem?_cons_zero, List.getElem?_cons_succ] at g0 g1 g2 g3 g4 g5
          have c2 : W.cell? ⟨b, off + 2, none⟩ = some (.bool !sell) := by rw [hW]; exact Lib.cell?_alloc_some _ c2
          have cp : 0 < kk → W.cell? ⟨b, off + (kk - 1) * 6 + 3, none⟩ = some (.int .i64 pp) := fun h => by rw [hW]; exact Lib.cell?_alloc_some _ (cp h)
          have hblW : Below w.heap.size w W := by rw [hW]; exact hbl.alloc hbl.size _
          have hszW : wr.heap.size < W.heap.size := by rw [hW]; simp
          have hbW : b < W.heap.size := by have := hblW.size; omega
          clear hblk hW r1 hbl
          have hgc : ∀ W0, Calls Tryd.prog 70 #[.agg #[.int .i64 id, .int .i64 tenant, .bool sell, .int .i64 price, .int .i64 lots, .int .i64 seq]] W0 fun e w' => e = .returned (.bool true) ∧ Below W0.heap.size W0 w' := fun W0 => by rw [← hgd]; exact good_c ⟨id, tenant, sell, price, lots, seq⟩ W0
          have HGC := Lib.hid hgc
          have hn0 : (0 : Int) < n := by omega
          have hn0n : 0 < n := by omega
          have HCP := Lib.hid cp
          clear hgc cp hgd
          go_region_held3 (fun w' => w'.cell? ⟨wr.heap.size, 0, none⟩ = some (.int .i64 id) ∧ w'.cell? ⟨wr.heap.size, 1, none⟩ = some (.int .i64 tenant) ∧ w'.cell? ⟨wr.heap.size, 2, none⟩ = some (.bool sell) ∧ w'.cell? ⟨wr.heap.size, 3, none⟩ = some (.int .i64 price) ∧ w'.cell? ⟨wr.heap.size, 4, none⟩ = some (.int .i64 lots) ∧ w'.cell? ⟨wr.heap.size, 5, none⟩ = some (.int .i64 seq) ∧ w'.cell? ⟨b, off + 2, none⟩ = some (.bool !sell)) (exact ⟨g0, g1, g2, g3, g4, g5, c2⟩) (first | (go_at_call 70; refine (HGC.out _).mono ?_; rintro e W2 ⟨rfl, hb2⟩; have hb2 := below_undrew hb2; have g0 := (hb2.cell (p := ⟨wr.heap.size, 0, none⟩) hszW).trans g0; have g1 := (hb2.cell (p := ⟨wr.heap.size, 1, none⟩) hszW).trans g1; have g2 := (hb2.cell (p := ⟨wr.heap.size, 2, none⟩) hszW).trans g2; have g3 := (hb2.cell (p := ⟨wr.heap.size, 3, none⟩) hszW).trans g3; have g4 := (hb2.cell (p := ⟨wr.heap.size, 4, none⟩) hszW).trans g4; have g5 := (hb2.cell (p := ⟨wr.heap.size, 5, none⟩) hszW).trans g5; have c2 := (hb2.cell (p := ⟨b, off + 2, none⟩) hbW).trans c2))
          have hbl2 : Below w.heap.size w W2 := hblW.trans (hb2.mono hblW.size)
          go_wp2_with fail
          go_ret
          exact ⟨by rw [side_false HX.out (by rw [HOK.out]; simp)]; rfl, hbl2⟩
    · obtain rfl : kk = n := by omega
      have hall := Lib.hid (side_all (xs := xs) (fun j y hy => hno.out j y (by have := (List.getElem?_eq_some_iff.1 hy).1; omega) hy))
      go_wp2_with fail
      go_ret
      exact ⟨by rw [hall.out, hl]; simp; omega, hbl⟩
end Go.Proofs.YtkinbidpbgkaoaaDoor
