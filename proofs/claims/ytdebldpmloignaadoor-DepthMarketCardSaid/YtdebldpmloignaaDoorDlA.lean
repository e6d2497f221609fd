/-
  deal: Meets, made, check, next.
-/
import Derived.Test.YtdebldpmloignaaDoorDlL
import Derived.Deep.CutRange
import Derived.Deep.CutBlock
namespace Go.Proofs.YtdebldpmloignaaDoor
open Go.RowKit
set_option linter.unusedVariables false
set_option linter.unusedSimpArgs false

theorem alloc2b (w : World) (a b : Array Value) (s t : TypeId) : Below w.heap.size w ((w.alloc (.cells a s)).alloc (.cells b t)) := ((Below.refl _ w).alloc (Nat.le_refl _) _).alloc (by simp) _
set_option maxRecDepth 100000 in
theorem meets_c (a b : Ord) (w : World) : Calls Tryd.prog 52 #[.agg a.cells.toArray, .agg b.cells.toArray] w fun e w' => e = .returned (.bool (a.sell && (!b.sell && decide (a.price ≤ b.price)))) ∧ Below w.heap.size w w' := by
  obtain ⟨ai, at_, as_, ap, al, aq⟩ := a
  obtain ⟨bi, bt, bs, bp, bl, bq⟩ := b
  have HB : Hid (∀ a b : Array Value, Below w.heap.size w ((w.alloc (.cells a 67)).alloc (.cells b 67))) := fun a b => alloc2b w a b _ _
  simp only [Ord.cells]
  cases as_ <;> cases bs
  all_goals
    go_enter Tryd.func52, Tryd.ntmps52
    go_wp2_with fail
    go_ret
    exact ⟨by simp, HB.out _ _⟩
set_option maxRecDepth 100000 in
theorem made_l (a b : Ord) (p n : Int) (w : World) : Calls Tryd.prog 104 #[.agg a.cells.toArray, .agg b.cells.toArray, .int .i64 p, .int .i64 n] w fun e w' => e = .returned (.agg #[.int .i64 a.id, .int .i64 b.id, .int .i64 a.tenant, .int .i64 b.tenant, .int .i64 p, .int .i64 n]) ∧ Below w.heap.size w w' := by
  obtain ⟨ai, at_, as_, ap, al, aq⟩ := a
  obtain ⟨bi, bt, bs, bp, bl, bq⟩ := b
  have HB : Hid (∀ a b c : Array Value, Below w.heap.size w (((w.alloc (.cells a 67)).alloc (.cells b 67)).alloc (.cells c 82))) := fun a b c => (alloc2b w a b _ _).alloc (by simp; omega) _
  simp only [Ord.cells]
  go_enter Tryd.func104, Tryd.ntmps104
  go_wp2_with fail
  exact bodyPost_last Tryd.results104 rfl (w.heap.size + 1 + 1) rfl (by simp) _ Tryd.underlying82 rfl 6 size_fill rfl ⟨rfl, HB.out _ _ _⟩
theorem rangeAt_blk {w : World} {g : Nat} {cs : List Value} {T : TypeId} (h : Blk w g cs.toArray T) : w.rangeAt g 0 cs := fun j x hj => by
  rw [Nat.zero_add]
  exact h.cell j x (by simpa using hj)
theorem Blk.setRow_far {w : World} {q g : Nat} {cs ds : Array Value} {T : TypeId} (h : Blk w q cs T) (hn : q ≠ g) : Blk (w.setRow g ds) q cs T := h.of (setRow_other w g q ds hn)
theorem Blk.setRow_same {w : World} {g : Nat} {cs ds : Array Value} {T : TypeId} (h : Blk w g cs T) : Blk (w.setRow g ds) g ds T := setRow_heap w g _ _ _ _ h
/-- The variables of next. -/
structure NX (w W : World) (X3 X4 X6 X8 X9 : Nat) (x o c8 c9 : Ord) (cf : Array Value) : Prop where
  b3 : Blk W X3 o.cells.toArray 67
  b4 : Blk W X4 cf 82
  b6 : Blk W X6 x.cells.toArray 67
  b8 : Blk W X8 c8.cells.toArray 67
  b9 : Blk W X9 c9.cells.toArray 67
  n89 : X8 ≠ X9
  n38 : X3 ≠ X8
  n39 : X3 ≠ X9
  n68 : X6 ≠ X8
  n69 : X6 ≠ X9
  lo4 : w.heap.size ≤ X4
  lo8 : w.heap.size ≤ X8
  lo9 : w.heap.size ≤ X9
  below : Below w.heap.size w W
section
variable {w W W' : World} {X3 X4 X6 X8 X9 : Nat} {x o c8 c9 : Ord} {cf : Array Value}
theorem NX.r3 (h : NX w W X3 X4 X6 X8 X9 x o c8 c9 cf) : W.rangeAt X3 0 o.cells := rangeAt_blk h.b3
theorem NX.r6 (h : NX w W X3 X4 X6 X8 X9 x o c8 c9 cf) : W.rangeAt X6 0 x.cells := rangeAt_blk h.b6
theorem NX.r8 (h : NX w W X3 X4 X6 X8 X9 x o c8 c9 cf) : W.rangeAt X8 0 c8.cells := rangeAt_blk h.b8
theorem NX.r9 (h : NX w W X3 X4 X6 X8 X9 x o c8 c9 cf) : W.rangeAt X9 0 c9.cells := rangeAt_blk h.b9
theorem NX.k3 (h : NX w W X3 X4 X6 X8 X9 x o c8 c9 cf) : W.cell? ⟨X6, 3, none⟩ = some (.int .i64 x.price) := h.b6.cell 3 _ rfl
theorem NX.k4 (h : NX w W X3 X4 X6 X8 X9 x o c8 c9 cf) : W.cell? ⟨X6, 4, none⟩ = some (.int .i64 x.lots) := h.b6.cell 4 _ rfl
theorem NX.k5 (h : NX w W X3 X4 X6 X8 X9 x o c8 c9 cf) : W.cell? ⟨X3, 4, none⟩ = some (.int .i64 o.lots) := h.b3.cell 4 _ rfl
theorem NX.drew (h : NX w W X3 X4 X6 X8 X9 x o c8 c9 cf) : NX w W.drew X3 X4 X6 X8 X9 x o c8 c9 cf := ⟨h.b3, h.b4, h.b6, h.b8, h.b9, h.n89, h.n38, h.n39, h.n68, h.n69, h.lo4, h.lo8, h.lo9, h.below.drew⟩
theorem NX.swap (h : NX w W X3 X4 X6 X8 X9 x o c8 c9 cf) : NX w W X3 X4 X6 X9 X8 x o c9 c8 cf := ⟨h.b3, h.b4, h.b6, h.b9, h.b8, h.n89.symm, h.n39, h.n38, h.n69, h.n68, h.lo4, h.lo9, h.lo8, h.below⟩
theorem NX.turn {F : Nat → Prop} (h : NX w W X3 X4 X6 X8 X9 x o c8 c9 cf) (ht : Turns F W W') (hF : ∀ k, F k → k = X8 ∨ k = X9 ∨ k = X4) : Below w.heap.size w W' :=
  h.below.trans (ht.below h.below.size (fun k hk => by rcases hF k hk with rfl | rfl | rfl; exact h.lo8; exact h.lo9; exact h.lo4))
theorem NX.set8 {c : Ord} (h : NX w W X3 X4 X6 X8 X9 x o c8 c9 cf) : NX w (W.setRow X8 c.cells.toArray) X3 X4 X6 X8 X9 x o c c9 cf :=
  have n48 : X4 ≠ X8 := fun e => by subst e; exact absurd (h.b4.type_eq h.b8) (by decide)
  ⟨h.b3.setRow_far h.n38, h.b4.setRow_far n48, h.b6.setRow_far h.n68, h.b8.setRow_same, h.b9.setRow_far h.n89.symm, h.n89, h.n38, h.n39, h.n68, h.n69, h.lo4, h.lo8, h.lo9, h.turn (rturns_setRow W X8 _) (fun k hk => .inl hk)⟩
theorem NX.set9 {c : Ord} (h : NX w W X3 X4 X6 X8 X9 x o c8 c9 cf) : NX w (W.setRow X9 c.cells.toArray) X3 X4 X6 X8 X9 x o c8 c cf := h.swap.set8.swap
theorem NX.set4 {cs : Array Value} (h : NX w W X3 X4 X6 X8 X9 x o c8 c9 cf) : NX w (W.setRow X4 cs) X3 X4 X6 X8 X9 x o c8 c9 cs :=
  have f : ∀ {q : Nat} {c : Ord}, Blk W q c.cells.toArray 67 → q ≠ X4 := fun hb e => by subst e; exact absurd (hb.type_eq h.b4) (by decide)
  ⟨h.b3.setRow_far (f h.b3), h.b4.setRow_same, h.b6.setRow_far (f h.b6), h.b8.setRow_far (f h.b8), h.b9.setRow_far (f h.b9), h.n89, h.n38, h.n39, h.n68, h.n69, h.lo4, h.lo8, h.lo9, h.turn (rturns_setRow W X4 _) (fun k hk => .inr (.inr hk))⟩
theorem NX.below' (h : NX w W X3 X4 X6 X8 X9 x o c8 c9 cf) (hb : Below W.heap.size W W') : NX w W' X3 X4 X6 X8 X9 x o c8 c9 cf :=
  ⟨h.b3.below hb, h.b4.below hb, h.b6.below hb, h.b8.below hb, h.b9.below hb, h.n89, h.n38, h.n39, h.n68, h.n69, h.lo4, h.lo8, h.lo9, h.below.trans (hb.mono h.below.size)⟩
end
/-- The variables of next, ahead of the last two. -/
structure NX0 (w W : World) (X3 X4 X6 : Nat) (x o : Ord) : Prop where
  b3 : Blk W X3 o.cells.toArray 67
  b4 : Blk W X4 #[.int .i64 0, .int .i64 0, .int .i64 0, .int .i64 0, .int .i64 0, .int .i64 0] 82
  b6 : Blk W X6 x.cells.toArray 67
  lo4 : w.heap.size ≤ X4
  below : Below w.heap.size w W
theorem NX0.both {w W : World} {X3 X4 X6 : Nat} {x o : Ord} (h : NX0 w W X3 X4 X6 x o) (z : Ord) : NX w ((W.drew.alloc (.cells z.cells.toArray 67)).alloc (.cells z.cells.toArray 67)) X3 X4 X6 W.heap.size (W.heap.size + 1) x o z z #[.int .i64 0, .int .i64 0, .int .i64 0, .int .i64 0, .int .i64 0, .int .i64 0] := by
  have h1 : Below W.heap.size W (W.drew.alloc (.cells z.cells.toArray 67)) := (Below.refl _ W).drew.alloc (Nat.le_refl _) _
  have h2 : Below W.heap.size W ((W.drew.alloc (.cells z.cells.toArray 67)).alloc (.cells z.cells.toArray 67)) := h1.alloc h1.size _
  have hb := h.below.size
  have n3 := h.b3.lt
  have n6 := h.b6.lt
  refine ⟨h.b3.below h2, h.b4.below h2, h.b6.below h2, ?_, ?_, by omega, by omega, by omega, by omega, by omega, h.lo4, hb, by omega, h.below.trans (h2.mono hb)⟩
  · have a := Blk.new W.drew z.cells.toArray 67
    exact a.below ((Below.refl _ _).alloc (Nat.le_refl _) _)
  · have a := Blk.new (W.drew.alloc (.cells z.cells.toArray 67)) z.cells.toArray 67
    have e : (W.drew.alloc (.cells z.cells.toArray 67)).heap.size = W.heap.size + 1 := by simp
    rw [e] at a
    exact a
theorem NX0.both0 {w W : World} {X3 X4 X6 : Nat} {x o : Ord} (h : NX0 w W X3 X4 X6 x o) : NX w ((W.drew.alloc (.cells #[.int .i64 0, .int .i64 0, .bool false, .int .i64 0, .int .i64 0, .int .i64 0] 67)).alloc (.cells #[.int .i64 0, .int .i64 0, .bool false, .int .i64 0, .int .i64 0, .int .i64 0] 67)) X3 X4 X6 W.heap.size (W.heap.size + 1) x o zeroO zeroO #[.int .i64 0, .int .i64 0, .int .i64 0, .int .i64 0, .int .i64 0, .int .i64 0] := h.both zeroO
set_option maxRecDepth 100000 in
set_option maxHeartbeats 1000000 in
theorem next_no (B q : Nat) (l : Bool → List Ord) (v : Bool → Value) (came : Nat) (o : Ord) (w : World) (h : Hid (BV w B q l v came)) (hN : ∀ s, (l s).length ≤ 1000000) (hno : l (!o.sell) = [] ∨ o.lots = 0) :
    Calls Tryd.prog 89 #[.pointer (some ⟨q, 0, none⟩), .agg o.cells.toArray] w fun e w' => e = .returned (.tuple #[.agg #[.int .i64 0, .int .i64 0, .int .i64 0, .int .i64 0, .int .i64 0, .int .i64 0], .bool false]) ∧ Below w.heap.size w w' := by
  obtain ⟨w2, hw2⟩ : ∃ z, z = (w.alloc (.cells o.cells.toArray 67)).alloc (.cells #[.int .i64 0, .int .i64 0, .int .i64 0, .int .i64 0, .int .i64 0, .int .i64 0] 82) := ⟨_, rfl⟩
  have hb2 : Below w.heap.size w w2 := by rw [hw2]; exact alloc2b w _ _ _ _
  have h3 : Blk w2 w.heap.size o.cells.toArray 67 := by rw [hw2]; exact (Blk.new w _ _).below ((Below.refl _ _).alloc (Nat.le_refl _) _)
  have h4 : Blk w2 (w.heap.size + 1) #[.int .i64 0, .int .i64 0, .int .i64 0, .int .i64 0, .int .i64 0, .int .i64 0] 82 := by
    rw [hw2]
    have := Blk.new (w.alloc (.cells o.cells.toArray 67)) #[.int .i64 0, .int .i64 0, .int .i64 0, .int .i64 0, .int .i64 0, .int .i64 0] 82
    simpa using this
  have HBEST := Lib.hid (best_c B q l v came (!o.sell) w2 (Lib.hid (h.out.below hb2)) hN)
  obtain ⟨y, hy⟩ : ∃ y, y = (l (!o.sell)).head?.getD zeroO := ⟨_, rfl⟩
  obtain ⟨yb, hyb⟩ : ∃ y, y = (l (!o.sell)).head?.isSome := ⟨_, rfl⟩
  have hcase : yb = false ∨ (yb = true ∧ o.lots = 0) := by
    rcases hno with e | e
    · rw [hyb, e]; exact .inl rfl
    · cases yb
      · exact .inl rfl
      · exact .inr ⟨rfl, e⟩
  have HB2 : Hid (Calls Tryd.prog 51 #[.pointer (some ⟨q, 0, none⟩), .bool (!o.sell)] w2 fun e w' => e = .returned (.tuple #[.agg y.cells.toArray, .bool yb]) ∧ Below w2.heap.size w2 w') := by
    refine HBEST.out.mono fun e w' hq => ?_
    rw [hy, hyb, ← ordV_of]
    exact hq
  have HW2 := Lib.hid hw2
  have H3 := Lib.hid h3
  have H4 := Lib.hid h4
  have HBW := Lib.hid hb2
  have hsz : w2.heap.size = w.heap.size + 1 + 1 := by rw [hw2]; simp
  clear HBEST hy hyb hno h hN hw2 h3 h4 hb2
  obtain ⟨oi, ot, os, op, ol, oq⟩ := o
  obtain ⟨yi, yt, ys, yp, yl, yq⟩ := y
  simp only [Ord.cells] at *
  have hs0 : w2.cell? ⟨w.heap.size, 2, none⟩ = some (.bool os) := H3.out.cell 2 _ rfl
  have HS0 := Lib.hid hs0
  rcases hcase with rfl | ⟨rfl, rfl⟩
  all_goals
    go_enter Tryd.func89, Tryd.ntmps89
    rw [HW2.out] at hs0
    go_wp2_with fail
    rw [← HW2.out]
    refine HB2.out.mono ?_
    rintro e w3 ⟨rfl, hb3⟩
    obtain ⟨w4, hw4⟩ : ∃ z, z = w3.alloc (.cells #[.int .i64 yi, .int .i64 yt, .bool ys, .int .i64 yp, .int .i64 yl, .int .i64 yq] 67) := ⟨_, rfl⟩
    have hb4 : Below w3.heap.size w3 w4 := by rw [hw4]; exact (Below.refl _ _).alloc (Nat.le_refl _) _
    have hR4 : w4.heap[w.heap.size + 1]? = some (.cells #[.int .i64 0, .int .i64 0, .int .i64 0, .int .i64 0, .int .i64 0, .int .i64 0] 82 (0, 0)) := (H4.out.below hb3).below hb4
    have hl4 := (H3.out.below hb3).below hb4 |>.cell 4 _ rfl
    have HB4 := Lib.hid (HBW.out.trans ((hb3.trans (hb4.mono hb3.size)).mono HBW.out.size))
    have hR4' := hR4
    rw [hw4] at hR4 hl4
    have HW4 := Lib.hid hw4
    clear hb3 hb4 hw4 hs0
    go_wp2_with (refine wpList_store_row rfl 82 _ _ rfl (w.heap.size + 1) #[.int .i64 0, .int .i64 0, .int .i64 0, .int .i64 0, .int .i64 0, .int .i64 0] rfl rfl 82 #[.int .i64 0, .int .i64 0, .int .i64 0, .int .i64 0, .int .i64 0, .int .i64 0] hR4 size_fill rfl (by kernel_rfl) ?_)
    rw [← HW4.out]
    exact bodyPost_pair Tryd.results89 rfl (w.heap.size + 1) rfl #[.int .i64 0, .int .i64 0, .int .i64 0, .int .i64 0, .int .i64 0, .int .i64 0] _ (0, 0) (setRow_heap _ _ _ _ _ _ hR4') _ Tryd.underlying82 rfl 6 size_fill rfl (.bool false) rfl ⟨rfl, below_setRow' HB4.out (by omega) _⟩
set_option maxRecDepth 100000 in
set_option maxHeartbeats 2000000 in
theorem next_ok (B q : Nat) (l : Bool → List Ord) (v : Bool → Value) (came : Nat) (o x : Ord) (w : World) (h : Hid (BV w B q l v came)) (hN : ∀ s, (l s).length ≤ 1000000) (hx : (l (!o.sell)).head? = some x) (hs : x.sell = !o.sell) (hz : o.lots ≠ 0) :
    Calls Tryd.prog 89 #[.pointer (some ⟨q, 0, none⟩), .agg o.cells.toArray] w fun e w' => e = .returned (.tuple #[.agg (fillO o x (minL o.lots x)).cells.toArray, .bool (meetsO o x)]) ∧ Below w.heap.size w w' := by
  obtain ⟨w2, hw2⟩ : ∃ z, z = (w.alloc (.cells o.cells.toArray 67)).alloc (.cells #[.int .i64 0, .int .i64 0, .int .i64 0, .int .i64 0, .int .i64 0, .int .i64 0] 82) := ⟨_, rfl⟩
  have hb2 : Below w.heap.size w w2 := by rw [hw2]; exact alloc2b w _ _ _ _
  have h3 : Blk w2 w.heap.size o.cells.toArray 67 := by rw [hw2]; exact (Blk.new w _ _).below ((Below.refl _ _).alloc (Nat.le_refl _) _)
  have h4 : Blk w2 (w.heap.size + 1) #[.int .i64 0, .int .i64 0, .int .i64 0, .int .i64 0, .int .i64 0, .int .i64 0] 82 := by
    rw [hw2]
    have := Blk.new (w.alloc (.cells o.cells.toArray 67)) #[.int .i64 0, .int .i64 0, .int .i64 0, .int .i64 0, .int .i64 0, .int .i64 0] 82
    simpa using this
  have HB2 : Hid (Calls Tryd.prog 51 #[.pointer (some ⟨q, 0, none⟩), .bool (!o.sell)] w2 fun e w' => e = .returned (.tuple #[.agg x.cells.toArray, .bool true]) ∧ Below w2.heap.size w2 w') := by
    have := best_c B q l v came (!o.sell) w2 (Lib.hid (h.out.below hb2)) hN
    rw [hx] at this
    exact this
  have HW2 := Lib.hid hw2
  have H3 := Lib.hid h3
  have H4 := Lib.hid h4
  have HBW := Lib.hid hb2
  have HL4 : Hid (w.heap.size ≤ (w.heap.size + 1)) := by show _ ≤ _; omega
  obtain ⟨mn, hmn⟩ : ∃ mn, mn = minL o.lots x := ⟨_, rfl⟩
  have hm1 : min o.lots x.lots = mn := by rw [hmn]; unfold minL; split <;> omega
  rw [← hmn]
  clear hb2 h h3 h4 hw2 hx hmn
  obtain ⟨oi, ot, os, op, ol, oq⟩ := o
  obtain ⟨xi, xt, xs, xp, xl, xq⟩ := x
  simp only at hs hz hm1
  subst hs
  simp only [Ord.cells] at *
  have hs0 : w2.cell? ⟨w.heap.size, 2, none⟩ = some (.bool os) := H3.out.cell 2 _ rfl
  have hz0 : (ol == 0) = false := by simpa using hz
  clear hz
  cases os with
  | true =>
    simp only [Bool.not_true, meetsO, fillO, if_true] at *
    go_enter Tryd.func89, Tryd.ntmps89
    rw [HW2.out] at hs0
    go_wp2_with fail
    rw [← HW2.out]
    refine HB2.out.mono ?_
    rintro e w3 ⟨rfl, hb3⟩
    obtain ⟨X6, hX6⟩ : ∃ z, z = w3.heap.size := ⟨_, rfl⟩
    obtain ⟨W0, hW0⟩ : ∃ z, z = w3.alloc (.cells #[.int .i64 xi, .int .i64 xt, .bool false, .int .i64 xp, .int .i64 xl, .int .i64 xq] 67) := ⟨_, rfl⟩
    have hb4 : Below w3.heap.size w3 W0 := by rw [hW0]; exact (Below.refl _ _).alloc (Nat.le_refl _) _
    have h6 : Blk W0 X6 #[.int .i64 xi, .int .i64 xt, .bool false, .int .i64 xp, .int .i64 xl, .int .i64 xq] 67 := by rw [hW0, hX6]; exact Blk.new w3 _ _
    have T0 : Hid (NX0 w W0 w.heap.size (w.heap.size + 1) X6 ⟨xi, xt, false, xp, xl, xq⟩ ⟨oi, ot, true, op, ol, oq⟩) := ⟨(H3.out.below hb3).below hb4, (H4.out.below hb3).below hb4, h6, HL4.out, HBW.out.trans ((hb3.trans (hb4.mono hb3.size)).mono HBW.out.size)⟩
    have HW0 := Lib.hid hW0
    have HX6 := Lib.hid hX6
    have hl4 : W0.cell? ⟨w.heap.size, 4, none⟩ = some (.int .i64 ol) := T0.out.b3.cell 4 _ rfl
    rw [hW0] at hl4
    clear hb3 hb4 h6 hW0 hX6 hs0
    go_upto_region 4 with fail
    rw [← HW0.out, ← HX6.out]
    clear hl4
    have r6 : W0.rangeAt X6 0 [.int .i64 xi, .int .i64 xt, .bool false, .int .i64 xp, .int .i64 xl, .int .i64 xq] := rangeAt_blk T0.out.b6
    have r3 : W0.rangeAt w.heap.size 0 [.int .i64 oi, .int .i64 ot, .bool true, .int .i64 op, .int .i64 ol, .int .i64 oq] := rangeAt_blk T0.out.b3
    go_cut [8, 9] from 26 to 27 (fun s8 s9 wx => ∃ (X8 X9 : Nat) (WR : World), WR = wx ∧ s8 = .pointer (some ⟨X8, 0, none⟩) ∧ s9 = .pointer (some ⟨X9, 0, none⟩) ∧ Hid (NX w WR w.heap.size (w.heap.size + 1) X6 X8 X9 ⟨xi, xt, false, xp, xl, xq⟩ ⟨oi, ot, true, op, ol, oq⟩ ⟨xi, xt, false, xp, xl, xq⟩ ⟨oi, ot, true, op, ol, oq⟩ #[.int .i64 0, .int .i64 0, .int .i64 0, .int .i64 0, .int .i64 0, .int .i64 0]))
    case first =>
      refine wp_region_noPanic ?_
      refine wp_region_held_drew (S := (fun w' => w'.rangeAt X6 0 [.int .i64 xi, .int .i64 xt, .bool false, .int .i64 xp, .int .i64 xl, .int .i64 xq] ∧ w'.rangeAt w.heap.size 0 [.int .i64 oi, .int .i64 ot, .bool true, .int .i64 op, .int .i64 ol, .int .i64 oq])) (by kernel_rfl) ⟨r6, r3⟩ (fun hHeld => ?_)
      refine wpAnyH_take (i := 0) rfl (by kernel_rfl) (by kernel_rfl) (by kernel_rfl) (fun _ _ _ h => h) (yieldsIf_load_mid (by rfl) 67 _ rfl X6 (0) rfl [.int .i64 xi, .int .i64 xt, .bool false, .int .i64 xp, .int .i64 xl, .int .i64 xq] _ (fun w h => h.1) Tryd.underlying67 rfl size_ord) hHeld ?_
      try simp only [Act.put, List.getElem_toArray, List.getElem_cons_zero, List.getElem_cons_succ, List.setIfInBounds_toArray, List.set_cons_zero, List.set_cons_succ]
      refine wpAnyH_take (i := 1) rfl (by kernel_rfl) (by kernel_rfl) (by kernel_rfl) (fun _ _ _ h => h) (yieldsIf_load_mid (by rfl) 67 _ rfl w.heap.size (0) rfl [.int .i64 oi, .int .i64 ot, .bool true, .int .i64 op, .int .i64 ol, .int .i64 oq] _ (fun w h => h.2) Tryd.underlying67 rfl size_ord) hHeld ?_
      try simp only [Act.put, List.getElem_toArray, List.getElem_cons_zero, List.getElem_cons_succ, List.setIfInBounds_toArray, List.set_cons_zero, List.set_cons_succ]
      refine wpAnyH_ready (rs := [2, 3]) (by kernel_rfl) (by simp) ?_
      refine AllReadyH.cons rfl (fun K hK => ?_) (AllReadyH.cons rfl (fun K hK => ?_) AllReadyH.nil)
      · go_simp
        have r6 : (W0.drew.alloc (.cells #[.int .i64 0, .int .i64 0, .bool false, .int .i64 0, .int .i64 0, .int .i64 0] 67)).rangeAt X6 0 [.int .i64 xi, .int .i64 xt, .bool false, .int .i64 xp, .int .i64 xl, .int .i64 xq] := World.rangeAt_alloc (w := W0.drew) r6 (.cells #[.int .i64 0, .int .i64 0, .bool false, .int .i64 0, .int .i64 0, .int .i64 0] 67)
        have r3 : (W0.drew.alloc (.cells #[.int .i64 0, .int .i64 0, .bool false, .int .i64 0, .int .i64 0, .int .i64 0] 67)).rangeAt w.heap.size 0 [.int .i64 oi, .int .i64 ot, .bool true, .int .i64 op, .int .i64 ol, .int .i64 oq] := World.rangeAt_alloc (w := W0.drew) r3 (.cells #[.int .i64 0, .int .i64 0, .bool false, .int .i64 0, .int .i64 0, .int .i64 0] 67)
        refine hK.out _ _ ⟨r6, r3⟩ (fun hHeld => ?_)
        clear hK K
        try simp only [Act.put, List.getElem_toArray, List.getElem_cons_zero, List.getElem_cons_succ, List.setIfInBounds_toArray, List.set_cons_zero, List.set_cons_succ]
        refine wpAnyH_ready (rs := [3]) (by kernel_rfl) (by simp) ?_
        refine AllReadyH.cons rfl (fun K hK => ?_) AllReadyH.nil
        go_simp
        have A2 := Lib.hid T0.out.both0
        have r6 := A2.out.r6
        have r3 := A2.out.r3
        refine hK.out _ _ ⟨r6, r3⟩ (fun hHeld => ?_)
        clear hK K
        try simp only [Act.put, List.getElem_toArray, List.getElem_cons_zero, List.getElem_cons_succ, List.setIfInBounds_toArray, List.set_cons_zero, List.set_cons_succ]
        refine wpAnyH_ready (rs := [4]) (by kernel_rfl) (by simp) ?_
        refine AllReadyH.cons rfl (fun K hK => ?_) AllReadyH.nil
        refine wp_store_row 67 _ _ (by rfl) W0.heap.size #[.int .i64 xi, .int .i64 xt, .bool false, .int .i64 xp, .int .i64 xl, .int .i64 xq] (by rfl) (by rfl) 67 #[.int .i64 0, .int .i64 0, .bool false, .int .i64 0, .int .i64 0, .int .i64 0] A2.out.b8 size_ord rfl (by simp [Value.oneCell']) ?_
        have A3 := Lib.hid (A2.out.set8 (c := ⟨xi, xt, false, xp, xl, xq⟩))
        have r6 := A3.out.r6
        have r3 := A3.out.r3
        refine hK.out _ _ ⟨r6, r3⟩ (fun hHeld => ?_)
        clear hK K
        try simp only [Act.put, List.getElem_toArray, List.getElem_cons_zero, List.getElem_cons_succ, List.setIfInBounds_toArray, List.set_cons_zero, List.set_cons_succ]
        refine wpAnyH_ready (rs := [5]) (by kernel_rfl) (by simp) ?_
        refine AllReadyH.cons rfl (fun K hK => ?_) AllReadyH.nil
        refine wp_store_row 67 _ _ (by rfl) (W0.heap.size + 1) #[.int .i64 oi, .int .i64 ot, .bool true, .int .i64 op, .int .i64 ol, .int .i64 oq] (by rfl) (by rfl) 67 #[.int .i64 0, .int .i64 0, .bool false, .int .i64 0, .int .i64 0, .int .i64 0] A3.out.b9 size_ord rfl (by simp [Value.oneCell']) ?_
        have A4 := Lib.hid (A3.out.set9 (c := ⟨oi, ot, true, op, ol, oq⟩))
        have r6 := A4.out.r6
        have r3 := A4.out.r3
        refine hK.out _ _ ⟨r6, r3⟩ (fun hHeld => ?_)
        clear hK K
        try simp only [Act.put, List.getElem_toArray, List.getElem_cons_zero, List.getElem_cons_succ, List.setIfInBounds_toArray, List.set_cons_zero, List.set_cons_succ]
        refine wpAnyH_done (by kernel_rfl) ?_ _
        refine NoPanic.normal ?_
        go_wp2_with fail
        go_meet
        exact ⟨_, _, _, rfl, rfl, rfl, A4.out⟩
      · go_simp
        have r6 : (W0.drew.alloc (.cells #[.int .i64 0, .int .i64 0, .bool false, .int .i64 0, .int .i64 0, .int .i64 0] 67)).rangeAt X6 0 [.int .i64 xi, .int .i64 xt, .bool false, .int .i64 xp, .int .i64 xl, .int .i64 xq] := World.rangeAt_alloc (w := W0.drew) r6 (.cells #[.int .i64 0, .int .i64 0, .bool false, .int .i64 0, .int .i64 0, .int .i64 0] 67)
        have r3 : (W0.drew.alloc (.cells #[.int .i64 0, .int .i64 0, .bool false, .int .i64 0, .int .i64 0, .int .i64 0] 67)).rangeAt w.heap.size 0 [.int .i64 oi, .int .i64 ot, .bool true, .int .i64 op, .int .i64 ol, .int .i64 oq] := World.rangeAt_alloc (w := W0.drew) r3 (.cells #[.int .i64 0, .int .i64 0, .bool false, .int .i64 0, .int .i64 0, .int .i64 0] 67)
        refine hK.out _ _ ⟨r6, r3⟩ (fun hHeld => ?_)
        clear hK K
        try simp only [Act.put, List.getElem_toArray, List.getElem_cons_zero, List.getElem_cons_succ, List.setIfInBounds_toArray, List.set_cons_zero, List.set_cons_succ]
        refine wpAnyH_ready (rs := [2]) (by kernel_rfl) (by simp) ?_
        refine AllReadyH.cons rfl (fun K hK => ?_) AllReadyH.nil
        go_simp
        have A2 := Lib.hid T0.out.both0
        have r6 := A2.out.r6
        have r3 := A2.out.r3
        refine hK.out _ _ ⟨r6, r3⟩ (fun hHeld => ?_)
        clear hK K
        try simp only [Act.put, List.getElem_toArray, List.getElem_cons_zero, List.getElem_cons_succ, List.setIfInBounds_toArray, List.set_cons_zero, List.set_cons_succ]
        refine wpAnyH_ready (rs := [4]) (by kernel_rfl) (by simp) ?_
        refine AllReadyH.cons rfl (fun K hK => ?_) AllReadyH.nil
        refine wp_store_row 67 _ _ (by rfl) (W0.heap.size + 1) #[.int .i64 xi, .int .i64 xt, .bool false, .int .i64 xp, .int .i64 xl, .int .i64 xq] (by rfl) (by rfl) 67 #[.int .i64 0, .int .i64 0, .bool false, .int .i64 0, .int .i64 0, .int .i64 0] A2.out.b9 size_ord rfl (by simp [Value.oneCell']) ?_
        have A3 := Lib.hid (A2.out.set9 (c := ⟨xi, xt, false, xp, xl, xq⟩))
        have r6 := A3.out.r6
        have r3 := A3.out.r3
        refine hK.out _ _ ⟨r6, r3⟩ (fun hHeld => ?_)
        clear hK K
        try simp only [Act.put, List.getElem_toArray, List.getElem_cons_zero, List.getElem_cons_succ, List.setIfInBounds_toArray, List.set_cons_zero, List.set_cons_succ]
        refine wpAnyH_ready (rs := [5]) (by kernel_rfl) (by simp) ?_
        refine AllReadyH.cons rfl (fun K hK => ?_) AllReadyH.nil
        refine wp_store_row 67 _ _ (by rfl) W0.heap.size #[.int .i64 oi, .int .i64 ot, .bool true, .int .i64 op, .int .i64 ol, .int .i64 oq] (by rfl) (by rfl) 67 #[.int .i64 0, .int .i64 0, .bool false, .int .i64 0, .int .i64 0, .int .i64 0] A3.out.b8 size_ord rfl (by simp [Value.oneCell']) ?_
        have A4 := Lib.hid (A3.out.set8 (c := ⟨oi, ot, true, op, ol, oq⟩))
        have r6 := A4.out.r6
        have r3 := A4.out.r3
        refine hK.out _ _ ⟨r6, r3⟩ (fun hHeld => ?_)
        clear hK K
        try simp only [Act.put, List.getElem_toArray, List.getElem_cons_zero, List.getElem_cons_succ, List.setIfInBounds_toArray, List.set_cons_zero, List.set_cons_succ]
        refine wpAnyH_done (by kernel_rfl) ?_ _
        refine NoPanic.normal ?_
        go_wp2_with fail
        go_meet
        exact ⟨_, _, _, rfl, rfl, rfl, A4.out.swap⟩
    case rest =>
      obtain ⟨X8, X9, WR, rfl, rfl, rfl, T4⟩ := hcut
      clear r6 r3
      have hs2 : WR.cell? ⟨w.heap.size, 2, none⟩ = some (.bool true) := T4.out.b3.cell 2 _ rfl
      go_upto_region 6 with fail
      clear hs2
      have T4 := Lib.hid T4.out.drew
      have r6 : WR.rangeAt X6 0 [.int .i64 xi, .int .i64 xt, .bool false, .int .i64 xp, .int .i64 xl, .int .i64 xq] := T4.out.r6
      have r3 : WR.rangeAt w.heap.size 0 [.int .i64 oi, .int .i64 ot, .bool true, .int .i64 op, .int .i64 ol, .int .i64 oq] := T4.out.r3
      refine wp_region_noPanic ?_
      refine wp_region_held_drew (S := (fun w' => w'.rangeAt X6 0 [.int .i64 xi, .int .i64 xt, .bool false, .int .i64 xp, .int .i64 xl, .int .i64 xq] ∧ w'.rangeAt w.heap.size 0 [.int .i64 oi, .int .i64 ot, .bool true, .int .i64 op, .int .i64 ol, .int .i64 oq])) (by kernel_rfl) ⟨r6, r3⟩ (fun hHeld => ?_)
      refine wpAnyH_take (i := 0) rfl (by kernel_rfl) (by kernel_rfl) (by kernel_rfl) (fun _ _ _ h => h) (yieldsIf_load_mid (by rfl) 67 _ rfl w.heap.size (0) rfl [.int .i64 oi, .int .i64 ot, .bool true, .int .i64 op, .int .i64 ol, .int .i64 oq] _ (fun w h => h.2) Tryd.underlying67 rfl size_ord) hHeld ?_
      try simp only [Act.put, List.getElem_toArray, List.getElem_cons_zero, List.getElem_cons_succ, List.setIfInBounds_toArray, List.set_cons_zero, List.set_cons_succ]
      refine wpAnyH_take (i := 1) rfl (by kernel_rfl) (by kernel_rfl) (by kernel_rfl) (fun _ _ _ h => h) (yieldsIf_load_mid (by rfl) 67 _ rfl X6 (0) rfl [.int .i64 xi, .int .i64 xt, .bool false, .int .i64 xp, .int .i64 xl, .int .i64 xq] _ (fun w h => h.1) Tryd.underlying67 rfl size_ord) hHeld ?_
      try simp only [Act.put, List.getElem_toArray, List.getElem_cons_zero, List.getElem_cons_succ, List.setIfInBounds_toArray, List.set_cons_zero, List.set_cons_succ]
      refine wpAnyH_ready (rs := [2]) (by kernel_rfl) (by simp) ?_
      refine AllReadyH.cons rfl (fun K hK => ?_) AllReadyH.nil
      refine wp_store_row 67 _ _ (by rfl) X8 #[.int .i64 oi, .int .i64 ot, .bool true, .int .i64 op, .int .i64 ol, .int .i64 oq] (by rfl) (by rfl) 67 #[.int .i64 xi, .int .i64 xt, .bool false, .int .i64 xp, .int .i64 xl, .int .i64 xq] T4.out.b8 size_ord rfl (by simp [Value.oneCell']) ?_
      have T5 := Lib.hid (T4.out.set8 (c := ⟨oi, ot, true, op, ol, oq⟩))
      have r6 := T5.out.r6
      have r3 := T5.out.r3
      refine hK.out _ _ ⟨r6, r3⟩ (fun hHeld => ?_)
      clear hK K
      try simp only [Act.put, List.getElem_toArray, List.getElem_cons_zero, List.getElem_cons_succ, List.setIfInBounds_toArray, List.set_cons_zero, List.set_cons_succ]
      refine wpAnyH_ready (rs := [3]) (by kernel_rfl) (by simp) ?_
      refine AllReadyH.cons rfl (fun K hK => ?_) AllReadyH.nil
      refine wp_store_row 67 _ _ (by rfl) X9 #[.int .i64 xi, .int .i64 xt, .bool false, .int .i64 xp, .int .i64 xl, .int .i64 xq] (by rfl) (by rfl) 67 #[.int .i64 oi, .int .i64 ot, .bool true, .int .i64 op, .int .i64 ol, .int .i64 oq] T5.out.b9 size_ord rfl (by simp [Value.oneCell']) ?_
      have T6 := Lib.hid (T5.out.set9 (c := ⟨xi, xt, false, xp, xl, xq⟩))
      have r6 := T6.out.r6
      have r3 := T6.out.r3
      refine hK.out _ _ ⟨r6, r3⟩ (fun hHeld => ?_)
      clear hK K
      try simp only [Act.put, List.getElem_toArray, List.getElem_cons_zero, List.getElem_cons_succ, List.setIfInBounds_toArray, List.set_cons_zero, List.set_cons_succ]
      refine wpAnyH_done (by kernel_rfl) ?_ _
      refine NoPanic.normal ?_
      go_wp2_with fail
      clear r6 r3
      have TT := T6
      have r8 := TT.out.r8
      have r9 := TT.out.r9
      have k3 := TT.out.k3
      have k4 := TT.out.k4
      have k5 := TT.out.k5
      refine wp_region_noPanic ?_
      refine wp_region_held_drew (S := (fun w' => w'.rangeAt X8 0 [.int .i64 oi, .int .i64 ot, .bool true, .int .i64 op, .int .i64 ol, .int .i64 oq] ∧ w'.rangeAt X9 0 [.int .i64 xi, .int .i64 xt, .bool false, .int .i64 xp, .int .i64 xl, .int .i64 xq] ∧ w'.cell? ⟨X6, 3, none⟩ = some (.int .i64 xp) ∧ w'.cell? ⟨X6, 4, none⟩ = some (.int .i64 xl) ∧ w'.cell? ⟨w.heap.size, 4, none⟩ = some (.int .i64 ol))) (by kernel_rfl) ⟨r8, r9, k3, k4, k5⟩ (fun hHeld => ?_)
      have TD := Lib.hid TT.out.drew
      refine wpAnyH_take (i := 0) rfl (by kernel_rfl) (by kernel_rfl) (by kernel_rfl) (fun _ _ _ h => h) (yieldsIf_load_mid (by rfl) 67 _ rfl X8 (0) rfl [.int .i64 oi, .int .i64 ot, .bool true, .int .i64 op, .int .i64 ol, .int .i64 oq] _ (fun w h => h.1) Tryd.underlying67 rfl size_ord) hHeld ?_
      try simp only [Act.put, List.getElem_toArray, List.getElem_cons_zero, List.getElem_cons_succ, List.setIfInBounds_toArray, List.set_cons_zero, List.set_cons_succ]
      refine wpAnyH_take (i := 1) rfl (by kernel_rfl) (by kernel_rfl) (by kernel_rfl) (fun _ _ _ h => h) (yieldsIf_load_mid (by rfl) 67 _ rfl X9 (0) rfl [.int .i64 xi, .int .i64 xt, .bool false, .int .i64 xp, .int .i64 xl, .int .i64 xq] _ (fun w h => h.2.1) Tryd.underlying67 rfl size_ord) hHeld ?_
      try simp only [Act.put, List.getElem_toArray, List.getElem_cons_zero, List.getElem_cons_succ, List.setIfInBounds_toArray, List.set_cons_zero, List.set_cons_succ]
      refine wpAnyH_take (i := 2) (v := ?_) rfl (by kernel_rfl) (by kernel_rfl) (by kernel_rfl) (fun _ _ _ h => h) (Or.inl ⟨by rfl, ?_⟩) hHeld ?_
      rotate_left
      focus
        intro w hSw
        clear hSw
        go_simp
        try with_reducible rfl
      try simp only [Act.put, List.getElem_toArray, List.getElem_cons_zero, List.getElem_cons_succ, List.setIfInBounds_toArray, List.set_cons_zero, List.set_cons_succ]
      refine wpAnyH_take (i := 3) (v := ?_) rfl (by kernel_rfl) (by kernel_rfl) (by kernel_rfl) (fun _ _ _ h => h) (Or.inl ⟨by rfl, ?_⟩) hHeld ?_
      rotate_left
      focus
        intro w hSw
        (try dsimp only at hSw)
        go_simp
        try with_reducible rfl
      try simp only [Act.put, List.getElem_toArray, List.getElem_cons_zero, List.getElem_cons_succ, List.setIfInBounds_toArray, List.set_cons_zero, List.set_cons_succ]
      refine wpAnyH_take (i := 4) (v := ?_) rfl (by kernel_rfl) (by kernel_rfl) (by kernel_rfl) (fun _ _ _ h => h) (Or.inl ⟨by rfl, ?_⟩) hHeld ?_
      rotate_left
      focus
        intro w hSw
        clear hSw
        go_simp
        try with_reducible rfl
      try simp only [Act.put, List.getElem_toArray, List.getElem_cons_zero, List.getElem_cons_succ, List.setIfInBounds_toArray, List.set_cons_zero, List.set_cons_succ]
      refine wpAnyH_take (i := 5) (v := ?_) rfl (by kernel_rfl) (by kernel_rfl) (by kernel_rfl) (fun _ _ _ h => h) (Or.inl ⟨by rfl, ?_⟩) hHeld ?_
      rotate_left
      focus
        intro w hSw
        (try dsimp only at hSw)
        go_simp
        try with_reducible rfl
      try simp only [Act.put, List.getElem_toArray, List.getElem_cons_zero, List.getElem_cons_succ, List.setIfInBounds_toArray, List.set_cons_zero, List.set_cons_succ]
      refine wpAnyH_take (i := 6) (v := ?_) rfl (by kernel_rfl) (by kernel_rfl) (by kernel_rfl) (fun _ _ _ h => h) (Or.inl ⟨by rfl, ?_⟩) hHeld ?_
      rotate_left
      focus
        intro w hSw
        clear hSw
        go_simp
        try with_reducible rfl
      try simp only [Act.put, List.getElem_toArray, List.getElem_cons_zero, List.getElem_cons_succ, List.setIfInBounds_toArray, List.set_cons_zero, List.set_cons_succ]
      refine wpAnyH_take (i := 7) (v := ?_) rfl (by kernel_rfl) (by kernel_rfl) (by kernel_rfl) (fun _ _ _ h => h) (Or.inl ⟨by rfl, ?_⟩) hHeld ?_
      rotate_left
      focus
        intro w hSw
        (try dsimp only at hSw)
        go_simp
        try with_reducible rfl
      try simp only [Act.put, List.getElem_toArray, List.getElem_cons_zero, List.getElem_cons_succ, List.setIfInBounds_toArray, List.set_cons_zero, List.set_cons_succ]
      refine wpAnyH_take (i := 10) rfl (by kernel_rfl) (by kernel_rfl) (by kernel_rfl) (fun _ _ _ h => h) (yieldsIf_load_mid (by rfl) 67 _ rfl X8 (0) rfl [.int .i64 oi, .int .i64 ot, .bool true, .int .i64 op, .int .i64 ol, .int .i64 oq] _ (fun w h => h.1) Tryd.underlying67 rfl size_ord) hHeld ?_
      try simp only [Act.put, List.getElem_toArray, List.getElem_cons_zero, List.getElem_cons_succ, List.setIfInBounds_toArray, List.set_cons_zero, List.set_cons_succ]
      refine wpAnyH_take (i := 11) rfl (by kernel_rfl) (by kernel_rfl) (by kernel_rfl) (fun _ _ _ h => h) (yieldsIf_load_mid (by rfl) 67 _ rfl X9 (0) rfl [.int .i64 xi, .int .i64 xt, .bool false, .int .i64 xp, .int .i64 xl, .int .i64 xq] _ (fun w h => h.2.1) Tryd.underlying67 rfl size_ord) hHeld ?_
      try simp only [Act.put, List.getElem_toArray, List.getElem_cons_zero, List.getElem_cons_succ, List.setIfInBounds_toArray, List.set_cons_zero, List.set_cons_succ]
      refine wpAnyH_ready (rs := [8]) (by kernel_rfl) (by simp) ?_
      refine AllReadyH.cons rfl (fun K hK => ?_) AllReadyH.nil
      go_simp
      refine hK.out _ _ ⟨r8, r9, k3, k4, k5⟩ (fun hHeld => ?_)
      clear hK K
      try simp only [Act.put, List.getElem_toArray, List.getElem_cons_zero, List.getElem_cons_succ, List.setIfInBounds_toArray, List.set_cons_zero, List.set_cons_succ]
      refine wpAnyH_ready (rs := [9]) (by kernel_rfl) (by simp) ?_
      refine AllReadyH.cons rfl (fun K hK => ?_) AllReadyH.nil
      go_simp
      refine (made_l ⟨oi, ot, true, op, ol, oq⟩ ⟨xi, xt, false, xp, xl, xq⟩ xp mn _).mono ?_
      rintro e W8 ⟨rfl, hb8⟩
      have T8 := Lib.hid (TD.out.below' hb8)
      clear r8 r9 k3 k4 k5 hb8
      have r8 := T8.out.r8
      have r9 := T8.out.r9
      have k3 := T8.out.k3
      have k4 := T8.out.k4
      have k5 := T8.out.k5
      refine hK.out _ _ ⟨r8, r9, k3, k4, k5⟩ (fun hHeld => ?_)
      clear hK K
      try simp only [Act.put, List.getElem_toArray, List.getElem_cons_zero, List.getElem_cons_succ, List.setIfInBounds_toArray, List.set_cons_zero, List.set_cons_succ]
      refine wpAnyH_ready (rs := [12]) (by kernel_rfl) (by simp) ?_
      refine AllReadyH.cons rfl (fun K hK => ?_) AllReadyH.nil
      go_simp
      refine (meets_c ⟨oi, ot, true, op, ol, oq⟩ ⟨xi, xt, false, xp, xl, xq⟩ W8).mono ?_
      rintro e W9 ⟨rfl, hb9⟩
      have T9 := Lib.hid (T8.out.below' hb9)
      clear r8 r9 k3 k4 k5 hb9
      have r8 := T9.out.r8
      have r9 := T9.out.r9
      have k3 := T9.out.k3
      have k4 := T9.out.k4
      have k5 := T9.out.k5
      refine hK.out _ _ ⟨r8, r9, k3, k4, k5⟩ (fun hHeld => ?_)
      clear hK K
      try simp only [Act.put, List.getElem_toArray, List.getElem_cons_zero, List.getElem_cons_succ, List.setIfInBounds_toArray, List.set_cons_zero, List.set_cons_succ]
      refine wpAnyH_ready (rs := [13]) (by kernel_rfl) (by simp) ?_
      refine AllReadyH.cons rfl (fun K hK => ?_) AllReadyH.nil
      refine wp_store_row 82 _ _ (by rfl) (w.heap.size + 1) #[.int .i64 oi, .int .i64 xi, .int .i64 ot, .int .i64 xt, .int .i64 xp, .int .i64 mn] (by rfl) (by rfl) 82 #[.int .i64 0, .int .i64 0, .int .i64 0, .int .i64 0, .int .i64 0, .int .i64 0] T9.out.b4 size_fill rfl (by simp [Value.oneCell']) ?_
      have T10 := Lib.hid (T9.out.set4 (cs := #[.int .i64 oi, .int .i64 xi, .int .i64 ot, .int .i64 xt, .int .i64 xp, .int .i64 mn]))
      clear r8 r9 k3 k4 k5
      have r8 := T10.out.r8
      have r9 := T10.out.r9
      have k3 := T10.out.k3
      have k4 := T10.out.k4
      have k5 := T10.out.k5
      refine hK.out _ _ ⟨r8, r9, k3, k4, k5⟩ (fun hHeld => ?_)
      clear hK K
      try simp only [Act.put, List.getElem_toArray, List.getElem_cons_zero, List.getElem_cons_succ, List.setIfInBounds_toArray, List.set_cons_zero, List.set_cons_succ]
      refine wpAnyH_take (i := 14) (v := ?_) rfl (by kernel_rfl) (by kernel_rfl) (by kernel_rfl) (fun _ _ _ h => h) (Or.inl ⟨by rfl, ?_⟩) hHeld ?_
      rotate_left
      focus
        intro w hSw
        clear hSw
        go_simp
        try with_reducible rfl
      try simp only [Act.put, List.getElem_toArray, List.getElem_cons_zero, List.getElem_cons_succ, List.setIfInBounds_toArray, List.set_cons_zero, List.set_cons_succ]
      refine wpAnyH_done (by kernel_rfl) ?_ _
      refine NoPanic.normal ?_
      go_wp2_with fail
      exact bodyPost_pair Tryd.results89 rfl (w.heap.size + 1) rfl #[.int .i64 oi, .int .i64 xi, .int .i64 ot, .int .i64 xt, .int .i64 xp, .int .i64 mn] _ (0, 0) T10.out.b4 _ Tryd.underlying82 rfl 6 size_fill rfl (.bool (true && (!false && decide (op ≤ xp)))) rfl ⟨by simp [Fill.cells], T10.out.below⟩
  | false =>
    simp only [Bool.not_false, meetsO, fillO, if_false, Bool.false_eq_true] at *
    go_enter Tryd.func89, Tryd.ntmps89
    rw [HW2.out] at hs0
    go_wp2_with fail
    rw [← HW2.out]
    refine HB2.out.mono ?_
    rintro e w3 ⟨rfl, hb3⟩
    obtain ⟨X6, hX6⟩ : ∃ z, z = w3.heap.size := ⟨_, rfl⟩
    obtain ⟨W0, hW0⟩ : ∃ z, z = w3.alloc (.cells #[.int .i64 xi, .int .i64 xt, .bool true, .int .i64 xp, .int .i64 xl, .int .i64 xq] 67) := ⟨_, rfl⟩
    have hb4 : Below w3.heap.size w3 W0 := by rw [hW0]; exact (Below.refl _ _).alloc (Nat.le_refl _) _
    have h6 : Blk W0 X6 #[.int .i64 xi, .int .i64 xt, .bool true, .int .i64 xp, .int .i64 xl, .int .i64 xq] 67 := by rw [hW0, hX6]; exact Blk.new w3 _ _
    have T0 : Hid (NX0 w W0 w.heap.size (w.heap.size + 1) X6 ⟨xi, xt, true, xp, xl, xq⟩ ⟨oi, ot, false, op, ol, oq⟩) := ⟨(H3.out.below hb3).below hb4, (H4.out.below hb3).below hb4, h6, HL4.out, HBW.out.trans ((hb3.trans (hb4.mono hb3.size)).mono HBW.out.size)⟩
    have HW0 := Lib.hid hW0
    have HX6 := Lib.hid hX6
    have hl4 : W0.cell? ⟨w.heap.size, 4, none⟩ = some (.int .i64 ol) := T0.out.b3.cell 4 _ rfl
    rw [hW0] at hl4
    clear hb3 hb4 h6 hW0 hX6 hs0
    go_upto_region 4 with fail
    rw [← HW0.out, ← HX6.out]
    clear hl4
    have r6 : W0.rangeAt X6 0 [.int .i64 xi, .int .i64 xt, .bool true, .int .i64 xp, .int .i64 xl, .int .i64 xq] := rangeAt_blk T0.out.b6
    have r3 : W0.rangeAt w.heap.size 0 [.int .i64 oi, .int .i64 ot, .bool false, .int .i64 op, .int .i64 ol, .int .i64 oq] := rangeAt_blk T0.out.b3
    go_cut [8, 9] from 26 to 27 (fun s8 s9 wx => ∃ (X8 X9 : Nat) (WR : World), WR = wx ∧ s8 = .pointer (some ⟨X8, 0, none⟩) ∧ s9 = .pointer (some ⟨X9, 0, none⟩) ∧ Hid (NX w WR w.heap.size (w.heap.size + 1) X6 X8 X9 ⟨xi, xt, true, xp, xl, xq⟩ ⟨oi, ot, false, op, ol, oq⟩ ⟨xi, xt, true, xp, xl, xq⟩ ⟨oi, ot, false, op, ol, oq⟩ #[.int .i64 0, .int .i64 0, .int .i64 0, .int .i64 0, .int .i64 0, .int .i64 0]))
    case first =>
      refine wp_region_noPanic ?_
      refine wp_region_held_drew (S := (fun w' => w'.rangeAt X6 0 [.int .i64 xi, .int .i64 xt, .bool true, .int .i64 xp, .int .i64 xl, .int .i64 xq] ∧ w'.rangeAt w.heap.size 0 [.int .i64 oi, .int .i64 ot, .bool false, .int .i64 op, .int .i64 ol, .int .i64 oq])) (by kernel_rfl) ⟨r6, r3⟩ (fun hHeld => ?_)
      refine wpAnyH_take (i := 0) rfl (by kernel_rfl) (by kernel_rfl) (by kernel_rfl) (fun _ _ _ h => h) (yieldsIf_load_mid (by rfl) 67 _ rfl X6 (0) rfl [.int .i64 xi, .int .i64 xt, .bool true, .int .i64 xp, .int .i64 xl, .int .i64 xq] _ (fun w h => h.1) Tryd.underlying67 rfl size_ord) hHeld ?_
      try simp only [Act.put, List.getElem_toArray, List.getElem_cons_zero, List.getElem_cons_succ, List.setIfInBounds_toArray, List.set_cons_zero, List.set_cons_succ]
      refine wpAnyH_take (i := 1) rfl (by kernel_rfl) (by kernel_rfl) (by kernel_rfl) (fun _ _ _ h => h) (yieldsIf_load_mid (by rfl) 67 _ rfl w.heap.size (0) rfl [.int .i64 oi, .int .i64 ot, .bool false, .int .i64 op, .int .i64 ol, .int .i64 oq] _ (fun w h => h.2) Tryd.underlying67 rfl size_ord) hHeld ?_
      try simp only [Act.put, List.getElem_toArray, List.getElem_cons_zero, List.getElem_cons_succ, List.setIfInBounds_toArray, List.set_cons_zero, List.set_cons_succ]
      refine wpAnyH_ready (rs := [2, 3]) (by kernel_rfl) (by simp) ?_
      refine AllReadyH.cons rfl (fun K hK => ?_) (AllReadyH.cons rfl (fun K hK => ?_) AllReadyH.nil)
      · go_simp
        have r6 : (W0.drew.alloc (.cells #[.int .i64 0, .int .i64 0, .bool false, .int .i64 0, .int .i64 0, .int .i64 0] 67)).rangeAt X6 0 [.int .i64 xi, .int .i64 xt, .bool true, .int .i64 xp, .int .i64 xl, .int .i64 xq] := World.rangeAt_alloc (w := W0.drew) r6 (.cells #[.int .i64 0, .int .i64 0, .bool false, .int .i64 0, .int .i64 0, .int .i64 0] 67)
        have r3 : (W0.drew.alloc (.cells #[.int .i64 0, .int .i64 0, .bool false, .int .i64 0, .int .i64 0, .int .i64 0] 67)).rangeAt w.heap.size 0 [.int .i64 oi, .int .i64 ot, .bool false, .int .i64 op, .int .i64 ol, .int .i64 oq] := World.rangeAt_alloc (w := W0.drew) r3 (.cells #[.int .i64 0, .int .i64 0, .bool false, .int .i64 0, .int .i64 0, .int .i64 0] 67)
        refine hK.out _ _ ⟨r6, r3⟩ (fun hHeld => ?_)
        clear hK K
        try simp only [Act.put, List.getElem_toArray, List.getElem_cons_zero, List.getElem_cons_succ, List.setIfInBounds_toArray, List.set_cons_zero, List.set_cons_succ]
        refine wpAnyH_ready (rs := [3]) (by kernel_rfl) (by simp) ?_
        refine AllReadyH.cons rfl (fun K hK => ?_) AllReadyH.nil
        go_simp
        have A2 := Lib.hid T0.out.both0
        have r6 := A2.out.r6
        have r3 := A2.out.r3
        refine hK.out _ _ ⟨r6, r3⟩ (fun hHeld => ?_)
        clear hK K
        try simp only [Act.put, List.getElem_toArray, List.getElem_cons_zero, List.getElem_cons_succ, List.setIfInBounds_toArray, List.set_cons_zero, List.set_cons_succ]
        refine wpAnyH_ready (rs := [4]) (by kernel_rfl) (by simp) ?_
        refine AllReadyH.cons rfl (fun K hK => ?_) AllReadyH.nil
        refine wp_store_row 67 _ _ (by rfl) W0.heap.size #[.int .i64 xi, .int .i64 xt, .bool true, .int .i64 xp, .int .i64 xl, .int .i64 xq] (by rfl) (by rfl) 67 #[.int .i64 0, .int .i64 0, .bool false, .int .i64 0, .int .i64 0, .int .i64 0] A2.out.b8 size_ord rfl (by simp [Value.oneCell']) ?_
        have A3 := Lib.hid (A2.out.set8 (c := ⟨xi, xt, true, xp, xl, xq⟩))
        have r6 := A3.out.r6
        have r3 := A3.out.r3
        refine hK.out _ _ ⟨r6, r3⟩ (fun hHeld => ?_)
        clear hK K
        try simp only [Act.put, List.getElem_toArray, List.getElem_cons_zero, List.getElem_cons_succ, List.setIfInBounds_toArray, List.set_cons_zero, List.set_cons_succ]
        refine wpAnyH_ready (rs := [5]) (by kernel_rfl) (by simp) ?_
        refine AllReadyH.cons rfl (fun K hK => ?_) AllReadyH.nil
        refine wp_store_row 67 _ _ (by rfl) (W0.heap.size + 1) #[.int .i64 oi, .int .i64 ot, .bool false, .int .i64 op, .int .i64 ol, .int .i64 oq] (by rfl) (by rfl) 67 #[.int .i64 0, .int .i64 0, .bool false, .int .i64 0, .int .i64 0, .int .i64 0] A3.out.b9 size_ord rfl (by simp [Value.oneCell']) ?_
        have A4 := Lib.hid (A3.out.set9 (c := ⟨oi, ot, false, op, ol, oq⟩))
        have r6 := A4.out.r6
        have r3 := A4.out.r3
        refine hK.out _ _ ⟨r6, r3⟩ (fun hHeld => ?_)
        clear hK K
        try simp only [Act.put, List.getElem_toArray, List.getElem_cons_zero, List.getElem_cons_succ, List.setIfInBounds_toArray, List.set_cons_zero, List.set_cons_succ]
        refine wpAnyH_done (by kernel_rfl) ?_ _
        refine NoPanic.normal ?_
        go_wp2_with fail
        go_meet
        exact ⟨_, _, _, rfl, rfl, rfl, A4.out⟩
      · go_simp
        have r6 : (W0.drew.alloc (.cells #[.int .i64 0, .int .i64 0, .bool false, .int .i64 0, .int .i64 0, .int .i64 0] 67)).rangeAt X6 0 [.int .i64 xi, .int .i64 xt, .bool true, .int .i64 xp, .int .i64 xl, .int .i64 xq] := World.rangeAt_alloc (w := W0.drew) r6 (.cells #[.int .i64 0, .int .i64 0, .bool false, .int .i64 0, .int .i64 0, .int .i64 0] 67)
        have r3 : (W0.drew.alloc (.cells #[.int .i64 0, .int .i64 0, .bool false, .int .i64 0, .int .i64 0, .int .i64 0] 67)).rangeAt w.heap.size 0 [.int .i64 oi, .int .i64 ot, .bool false, .int .i64 op, .int .i64 ol, .int .i64 oq] := World.rangeAt_alloc (w := W0.drew) r3 (.cells #[.int .i64 0, .int .i64 0, .bool false, .int .i64 0, .int .i64 0, .int .i64 0] 67)
        refine hK.out _ _ ⟨r6, r3⟩ (fun hHeld => ?_)
        clear hK K
        try simp only [Act.put, List.getElem_toArray, List.getElem_cons_zero, List.getElem_cons_succ, List.setIfInBounds_toArray, List.set_cons_zero, List.set_cons_succ]
        refine wpAnyH_ready (rs := [2]) (by kernel_rfl) (by simp) ?_
        refine AllReadyH.cons rfl (fun K hK => ?_) AllReadyH.nil
        go_simp
        have A2 := Lib.hid T0.out.both0
        have r6 := A2.out.r6
        have r3 := A2.out.r3
        refine hK.out _ _ ⟨r6, r3⟩ (fun hHeld => ?_)
        clear hK K
        try simp only [Act.put, List.getElem_toArray, List.getElem_cons_zero, List.getElem_cons_succ, List.setIfInBounds_toArray, List.set_cons_zero, List.set_cons_succ]
        refine wpAnyH_ready (rs := [4]) (by kernel_rfl) (by simp) ?_
        refine AllReadyH.cons rfl (fun K hK => ?_) AllReadyH.nil
        refine wp_store_row 67 _ _ (by rfl) (W0.heap.size + 1) #[.int .i64 xi, .int .i64 xt, .bool true, .int .i64 xp, .int .i64 xl, .int .i64 xq] (by rfl) (by rfl) 67 #[.int .i64 0, .int .i64 0, .bool false, .int .i64 0, .int .i64 0, .int .i64 0] A2.out.b9 size_ord rfl (by simp [Value.oneCell']) ?_
        have A3 := Lib.hid (A2.out.set9 (c := ⟨xi, xt, true, xp, xl, xq⟩))
        have r6 := A3.out.r6
        have r3 := A3.out.r3
        refine hK.out _ _ ⟨r6, r3⟩ (fun hHeld => ?_)
        clear hK K
        try simp only [Act.put, List.getElem_toArray, List.getElem_cons_zero, List.getElem_cons_succ, List.setIfInBounds_toArray, List.set_cons_zero, List.set_cons_succ]
        refine wpAnyH_ready (rs := [5]) (by kernel_rfl) (by simp) ?_
        refine AllReadyH.cons rfl (fun K hK => ?_) AllReadyH.nil
        refine wp_store_row 67 _ _ (by rfl) W0.heap.size #[.int .i64 oi, .int .i64 ot, .bool false, .int .i64 op, .int .i64 ol, .int .i64 oq] (by rfl) (by rfl) 67 #[.int .i64 0, .int .i64 0, .bool false, .int .i64 0, .int .i64 0, .int .i64 0] A3.out.b8 size_ord rfl (by simp [Value.oneCell']) ?_
        have A4 := Lib.hid (A3.out.set8 (c := ⟨oi, ot, false, op, ol, oq⟩))
        have r6 := A4.out.r6
        have r3 := A4.out.r3
        refine hK.out _ _ ⟨r6, r3⟩ (fun hHeld => ?_)
        clear hK K
        try simp only [Act.put, List.getElem_toArray, List.getElem_cons_zero, List.getElem_cons_succ, List.setIfInBounds_toArray, List.set_cons_zero, List.set_cons_succ]
        refine wpAnyH_done (by kernel_rfl) ?_ _
        refine NoPanic.normal ?_
        go_wp2_with fail
        go_meet
        exact ⟨_, _, _, rfl, rfl, rfl, A4.out.swap⟩
    case rest =>
      obtain ⟨X8, X9, WR, rfl, rfl, rfl, T4⟩ := hcut
      clear r6 r3
      have hs2 : WR.cell? ⟨w.heap.size, 2, none⟩ = some (.bool false) := T4.out.b3.cell 2 _ rfl
      go_upto_region 7 with fail
      clear hs2
      have TT := T4
      have r8 := TT.out.r8
      have r9 := TT.out.r9
      have k3 := TT.out.k3
      have k4 := TT.out.k4
      have k5 := TT.out.k5
      refine wp_region_noPanic ?_
      refine wp_region_held_drew (S := (fun w' => w'.rangeAt X8 0 [.int .i64 xi, .int .i64 xt, .bool true, .int .i64 xp, .int .i64 xl, .int .i64 xq] ∧ w'.rangeAt X9 0 [.int .i64 oi, .int .i64 ot, .bool false, .int .i64 op, .int .i64 ol, .int .i64 oq] ∧ w'.cell? ⟨X6, 3, none⟩ = some (.int .i64 xp) ∧ w'.cell? ⟨X6, 4, none⟩ = some (.int .i64 xl) ∧ w'.cell? ⟨w.heap.size, 4, none⟩ = some (.int .i64 ol))) (by kernel_rfl) ⟨r8, r9, k3, k4, k5⟩ (fun hHeld => ?_)
      have TD := Lib.hid TT.out.drew
      refine wpAnyH_take (i := 0) rfl (by kernel_rfl) (by kernel_rfl) (by kernel_rfl) (fun _ _ _ h => h) (yieldsIf_load_mid (by rfl) 67 _ rfl X8 (0) rfl [.int .i64 xi, .int .i64 xt, .bool true, .int .i64 xp, .int .i64 xl, .int .i64 xq] _ (fun w h => h.1) Tryd.underlying67 rfl size_ord) hHeld ?_
      try simp only [Act.put, List.getElem_toArray, List.getElem_cons_zero, List.getElem_cons_succ, List.setIfInBounds_toArray, List.set_cons_zero, List.set_cons_succ]
      refine wpAnyH_take (i := 1) rfl (by kernel_rfl) (by kernel_rfl) (by kernel_rfl) (fun _ _ _ h => h) (yieldsIf_load_mid (by rfl) 67 _ rfl X9 (0) rfl [.int .i64 oi, .int .i64 ot, .bool false, .int .i64 op, .int .i64 ol, .int .i64 oq] _ (fun w h => h.2.1) Tryd.underlying67 rfl size_ord) hHeld ?_
      try simp only [Act.put, List.getElem_toArray, List.getElem_cons_zero, List.getElem_cons_succ, List.setIfInBounds_toArray, List.set_cons_zero, List.set_cons_succ]
      refine wpAnyH_take (i := 2) (v := ?_) rfl (by kernel_rfl) (by kernel_rfl) (by kernel_rfl) (fun _ _ _ h => h) (Or.inl ⟨by rfl, ?_⟩) hHeld ?_
      rotate_left
      focus
        intro w hSw
        clear hSw
        go_simp
        try with_reducible rfl
      try simp only [Act.put, List.getElem_toArray, List.getElem_cons_zero, List.getElem_cons_succ, List.setIfInBounds_toArray, List.set_cons_zero, List.set_cons_succ]
      refine wpAnyH_take (i := 3) (v := ?_) rfl (by kernel_rfl) (by kernel_rfl) (by kernel_rfl) (fun _ _ _ h => h) (Or.inl ⟨by rfl, ?_⟩) hHeld ?_
      rotate_left
      focus
        intro w hSw
        (try dsimp only at hSw)
        go_simp
        try with_reducible rfl
      try simp only [Act.put, List.getElem_toArray, List.getElem_cons_zero, List.getElem_cons_succ, List.setIfInBounds_toArray, List.set_cons_zero, List.set_cons_succ]
      refine wpAnyH_take (i := 4) (v := ?_) rfl (by kernel_rfl) (by kernel_rfl) (by kernel_rfl) (fun _ _ _ h => h) (Or.inl ⟨by rfl, ?_⟩) hHeld ?_
      rotate_left
      focus
        intro w hSw
        clear hSw
        go_simp
        try with_reducible rfl
      try simp only [Act.put, List.getElem_toArray, List.getElem_cons_zero, List.getElem_cons_succ, List.setIfInBounds_toArray, List.set_cons_zero, List.set_cons_succ]
      refine wpAnyH_take (i := 5) (v := ?_) rfl (by kernel_rfl) (by kernel_rfl) (by kernel_rfl) (fun _ _ _ h => h) (Or.inl ⟨by rfl, ?_⟩) hHeld ?_
      rotate_left
      focus
        intro w hSw
        (try dsimp only at hSw)
        go_simp
        try with_reducible rfl
      try simp only [Act.put, List.getElem_toArray, List.getElem_cons_zero, List.getElem_cons_succ, List.setIfInBounds_toArray, List.set_cons_zero, List.set_cons_succ]
      refine wpAnyH_take (i := 6) (v := ?_) rfl (by kernel_rfl) (by kernel_rfl) (by kernel_rfl) (fun _ _ _ h => h) (Or.inl ⟨by rfl, ?_⟩) hHeld ?_
      rotate_left
      focus
        intro w hSw
        clear hSw
        go_simp
        try with_reducible rfl
      try simp only [Act.put, List.getElem_toArray, List.getElem_cons_zero, List.getElem_cons_succ, List.setIfInBounds_toArray, List.set_cons_zero, List.set_cons_succ]
      refine wpAnyH_take (i := 7) (v := ?_) rfl (by kernel_rfl) (by kernel_rfl) (by kernel_rfl) (fun _ _ _ h => h) (Or.inl ⟨by rfl, ?_⟩) hHeld ?_
      rotate_left
      focus
        intro w hSw
        (try dsimp only at hSw)
        go_simp
        try with_reducible rfl
      try simp only [Act.put, List.getElem_toArray, List.getElem_cons_zero, List.getElem_cons_succ, List.setIfInBounds_toArray, List.set_cons_zero, List.set_cons_succ]
      refine wpAnyH_take (i := 10) rfl (by kernel_rfl) (by kernel_rfl) (by kernel_rfl) (fun _ _ _ h => h) (yieldsIf_load_mid (by rfl) 67 _ rfl X8 (0) rfl [.int .i64 xi, .int .i64 xt, .bool true, .int .i64 xp, .int .i64 xl, .int .i64 xq] _ (fun w h => h.1) Tryd.underlying67 rfl size_ord) hHeld ?_
      try simp only [Act.put, List.getElem_toArray, List.getElem_cons_zero, List.getElem_cons_succ, List.setIfInBounds_toArray, List.set_cons_zero, List.set_cons_succ]
      refine wpAnyH_take (i := 11) rfl (by kernel_rfl) (by kernel_rfl) (by kernel_rfl) (fun _ _ _ h => h) (yieldsIf_load_mid (by rfl) 67 _ rfl X9 (0) rfl [.int .i64 oi, .int .i64 ot, .bool false, .int .i64 op, .int .i64 ol, .int .i64 oq] _ (fun w h => h.2.1) Tryd.underlying67 rfl size_ord) hHeld ?_
      try simp only [Act.put, List.getElem_toArray, List.getElem_cons_zero, List.getElem_cons_succ, List.setIfInBounds_toArray, List.set_cons_zero, List.set_cons_succ]
      refine wpAnyH_ready (rs := [8]) (by kernel_rfl) (by simp) ?_
      refine AllReadyH.cons rfl (fun K hK => ?_) AllReadyH.nil
      go_simp
      refine hK.out _ _ ⟨r8, r9, k3, k4, k5⟩ (fun hHeld => ?_)
      clear hK K
      try simp only [Act.put, List.getElem_toArray, List.getElem_cons_zero, List.getElem_cons_succ, List.setIfInBounds_toArray, List.set_cons_zero, List.set_cons_succ]
      refine wpAnyH_ready (rs := [9]) (by kernel_rfl) (by simp) ?_
      refine AllReadyH.cons rfl (fun K hK => ?_) AllReadyH.nil
      go_simp
      refine (made_l ⟨xi, xt, true, xp, xl, xq⟩ ⟨oi, ot, false, op, ol, oq⟩ xp mn _).mono ?_
      rintro e W8 ⟨rfl, hb8⟩
      have T8 := Lib.hid (TD.out.below' hb8)
      clear r8 r9 k3 k4 k5 hb8
      have r8 := T8.out.r8
      have r9 := T8.out.r9
      have k3 := T8.out.k3
      have k4 := T8.out.k4
      have k5 := T8.out.k5
      refine hK.out _ _ ⟨r8, r9, k3, k4, k5⟩ (fun hHeld => ?_)
      clear hK K
      try simp only [Act.put, List.getElem_toArray, List.getElem_cons_zero, List.getElem_cons_succ, List.setIfInBounds_toArray, List.set_cons_zero, List.set_cons_succ]
      refine wpAnyH_ready (rs := [12]) (by kernel_rfl) (by simp) ?_
      refine AllReadyH.cons rfl (fun K hK => ?_) AllReadyH.nil
      go_simp
      refine (meets_c ⟨xi, xt, true, xp, xl, xq⟩ ⟨oi, ot, false, op, ol, oq⟩ W8).mono ?_
      rintro e W9 ⟨rfl, hb9⟩
      have T9 := Lib.hid (T8.out.below' hb9)
      clear r8 r9 k3 k4 k5 hb9
      have r8 := T9.out.r8
      have r9 := T9.out.r9
      have k3 := T9.out.k3
      have k4 := T9.out.k4
      have k5 := T9.out.k5
      refine hK.out _ _ ⟨r8, r9, k3, k4, k5⟩ (fun hHeld => ?_)
      clear hK K
      try simp only [Act.put, List.getElem_toArray, List.getElem_cons_zero, List.getElem_cons_succ, List.setIfInBounds_toArray, List.set_cons_zero, List.set_cons_succ]
      refine wpAnyH_ready (rs := [13]) (by kernel_rfl) (by simp) ?_
      refine AllReadyH.cons rfl (fun K hK => ?_) AllReadyH.nil
      refine wp_store_row 82 _ _ (by rfl) (w.heap.size + 1) #[.int .i64 xi, .int .i64 oi, .int .i64 xt, .int .i64 ot, .int .i64 xp, .int .i64 mn] (by rfl) (by rfl) 82 #[.int .i64 0, .int .i64 0, .int .i64 0, .int .i64 0, .int .i64 0, .int .i64 0] T9.out.b4 size_fill rfl (by simp [Value.oneCell']) ?_
      have T10 := Lib.hid (T9.out.set4 (cs := #[.int .i64 xi, .int .i64 oi, .int .i64 xt, .int .i64 ot, .int .i64 xp, .int .i64 mn]))
      clear r8 r9 k3 k4 k5
      have r8 := T10.out.r8
      have r9 := T10.out.r9
      have k3 := T10.out.k3
      have k4 := T10.out.k4
      have k5 := T10.out.k5
      refine hK.out _ _ ⟨r8, r9, k3, k4, k5⟩ (fun hHeld => ?_)
      clear hK K
      try simp only [Act.put, List.getElem_toArray, List.getElem_cons_zero, List.getElem_cons_succ, List.setIfInBounds_toArray, List.set_cons_zero, List.set_cons_succ]
      refine wpAnyH_take (i := 14) (v := ?_) rfl (by kernel_rfl) (by kernel_rfl) (by kernel_rfl) (fun _ _ _ h => h) (Or.inl ⟨by rfl, ?_⟩) hHeld ?_
      rotate_left
      focus
        intro w hSw
        clear hSw
        go_simp
        try with_reducible rfl
      try simp only [Act.put, List.getElem_toArray, List.getElem_cons_zero, List.getElem_cons_succ, List.setIfInBounds_toArray, List.set_cons_zero, List.set_cons_succ]
      refine wpAnyH_done (by kernel_rfl) ?_ _
      refine NoPanic.normal ?_
      go_wp2_with fail
      exact bodyPost_pair Tryd.results89 rfl (w.heap.size + 1) rfl #[.int .i64 xi, .int .i64 oi, .int .i64 xt, .int .i64 ot, .int .i64 xp, .int .i64 mn] _ (0, 0) T10.out.b4 _ Tryd.underlying82 rfl 6 size_fill rfl (.bool (true && (!false && decide (xp ≤ op)))) rfl ⟨by simp [Fill.cells], T10.out.below⟩
end Go.Proofs.YtdebldpmloignaaDoor
