/-
  mint: Under and throw by contract.
-/
import Derived.Test.YtkinbidpbgkaoaaMint
import Derived.Deep.Cut
namespace Go.Proofs.Ytkinbidpbgkaoaa
open Go.RowKit

namespace Mi
/-- The number under a bound, of a state. -/
def und (x n : Int) : Int := out (nx x) % n
theorem und_range (x n : Int) (h : 0 < n) : 0 ≤ und x n ∧ und x n < n := ⟨Int.emod_nonneg _ (by omega), Int.emod_lt_of_pos _ h⟩
theorem out_range (x : Int) : 0 ≤ out x ∧ out x < 18446744073709551616 := wrap_range _
end Mi

set_option maxRecDepth 100000 in
theorem under_small (b : Nat) (n : Int) (w : World) (h : n ≤ 1) :
    Calls Try.prog 7 #[.pointer (some ⟨b, 0, none⟩), .int .i64 n] w fun e w' => e = .returned (.int .i64 0) ∧ w = w' := by
  go_enter Try.func7, Try.ntmps7
  go_wp2_with fail
  go_ret
  exact ⟨rfl, rfl⟩
set_option maxRecDepth 100000 in
theorem under_big (b : Nat) (x n : Int) (w : World) (hm : MintAt w b x) (h : 1 < n) (h2 : n ≤ 9223372036854775807) :
    Calls Try.prog 7 #[.pointer (some ⟨b, 0, none⟩), .int .i64 n] w fun e w' => e = .returned (.int .i64 (Mi.und x n)) ∧ MintAt w' b (Mi.nx x) ∧ w.grownBy w' (some b) := by
  have hw : IntKind.u64.wrap n = n := by simp [IntKind.wrap, IntKind.signed, IntKind.bits]; omega
  have hfin : wrap64 ((Mi.out (Mi.nx x)).tmod (IntKind.u64.wrap n)) = Mi.und x n := by
    obtain ⟨r0, r1⟩ := Mi.und_range x n (by omega)
    obtain ⟨o0, _⟩ := Mi.out_range (Mi.nx x)
    rw [hw, Int.tmod_eq_emod_of_nonneg o0]
    unfold Mi.und at *
    unfold wrap64
    omega
  have hz : ¬ IntKind.u64.wrap n = 0 := by rw [hw]; omega
  have HF := Lib.hid hfin
  have HM := Lib.hid hm
  clear hm h2 hw hfin
  go_enter Try.func7, Try.ntmps7
  go_wp2_with fail
  refine (next_c b x w HM.out).mono ?_
  rintro e w' ⟨rfl, hm', hg⟩
  have HM' := Lib.hid hm'
  clear hm'
  go_wp2_with fail
  go_ret
  exact ⟨ret_int HF.out, HM'.out, hg⟩

/-- The world in the middle of throw: the state, and the two blocks of the call's own. -/
structure TW (w0 : World) (b : Nat) (x : Int) (l : List Value) (w : World) : Prop where
  mint : MintAt w b x
  res : w.heap[w0.heap.size]? = some (.cells #[.int .i64 0, .int .i64 0, .int .i64 0, .int .i64 0, .int .i64 0, .int .i64 0] 52 (0, 0))
  loc : w.heap[w0.heap.size + 1]? = some (.cells l.toArray 52 (0, 0))
  grown : w0.grownBy w (some b)
theorem TW.under {w0 w w' : World} {b : Nat} {x x' : Int} {l : List Value} (h : TW w0 b x l w) (hb : b < w0.heap.size) (hm : MintAt w' b x') (hg : w.grownBy w' (some b)) : TW w0 b x' l w' :=
  ⟨hm, by rw [hg.block _ (lt_of_block h.res) (by simp; omega)]; exact h.res, by rw [hg.block _ (lt_of_block h.loc) (by simp; omega)]; exact h.loc, grownBy_trans h.grown hg⟩
theorem heap_setCell_same {w : World} {g j : Nat} {c : Array Value} {t : TypeId} {fr : Nat × Nat} (v : Value) (h : w.heap[g]? = some (.cells c t fr)) : (w.setCell ⟨g, j, none⟩ v).heap[g]? = some (.cells (c.setIfInBounds j v) t fr) := by
  have hlt := lt_of_block h
  have h' : w.heap[g] = .cells c t fr := by simpa [Array.getElem?_eq_getElem hlt] using h
  show (w.heap.modify g _)[g]? = _
  rw [Array.getElem?_eq_getElem (by simpa using hlt), Array.getElem_modify_self, h']
  rfl
theorem TW.store {w0 w : World} {b : Nat} {x : Int} {l : List Value} (h : TW w0 b x l w) (hb : b < w0.heap.size) (j : Nat) (v : Value) : TW w0 b x (l.set j v) (w.setCell ⟨w0.heap.size + 1, j, none⟩ v) := by
  refine ⟨⟨?_, h.mint.2⟩, ?_, ?_, ?_⟩
  · have := h.mint.1
    unfold One at this ⊢
    rw [Below.heap_setCell _ _ _ _ (by simp; omega)]
    exact this
  · rw [Below.heap_setCell _ _ _ _ (by simp)]
    exact h.res
  · have := heap_setCell_same (j := j) v h.loc
    rw [this]
    simp
  · exact ⟨h.grown.os, h.grown.tape, h.grown.output, by simpa [World.setCell] using h.grown.size, fun k hk hne => by
      rw [Below.heap_setCell _ _ _ _ (by simp; omega)]
      exact h.grown.block k hk hne⟩
theorem TW.cell {w0 w : World} {b : Nat} {x : Int} {l : List Value} (h : TW w0 b x l w) (j : Nat) (v : Value) (hj : l[j]? = some v) : w.cell? ⟨w0.heap.size + 1, j, none⟩ = some v := by
  rw [cell_of_row w _ j _ _ (0, 0) h.loc]
  simpa using hj
theorem TW.free {w0 w : World} {b : Nat} {x : Int} {l : List Value} (h : TW w0 b x l w) (j : Nat) : w.frozen? ⟨w0.heap.size + 1, j, none⟩ = false := by
  simp [World.frozen?, h.loc]
theorem TW.rcell {w0 w : World} {b : Nat} {x : Int} {l : List Value} (h : TW w0 b x l w) (j : Nat) (hj : j < 6) : w.cell? ⟨w0.heap.size, j, none⟩ = some (.int .i64 0) := by
  rw [cell_of_row w _ j _ _ (0, 0) h.res]
  have : j = 0 ∨ j = 1 ∨ j = 2 ∨ j = 3 ∨ j = 4 ∨ j = 5 := by omega
  rcases this with rfl | rfl | rfl | rfl | rfl | rfl <;> rfl
theorem TW.rfree {w0 w : World} {b : Nat} {x : Int} {l : List Value} (h : TW w0 b x l w) (j : Nat) : w.frozen? ⟨w0.heap.size, j, none⟩ = false := by
  simp [World.frozen?, h.res]

namespace Mi
def x1 (x : Int) := nx x
def x2 (x : Int) := nx (x1 x)
def x3 (x : Int) := nx (x2 x)
def x4 (x : Int) := nx (x3 x)
def x5 (x : Int) := nx (x4 x)
def x6 (x : Int) := nx (x5 x)
def tk (x : Int) : Int := und x 10
def ta (x : Int) : Int := 1 + und (x1 x) 4
def tb (x : Int) : Int := 1 + und (x2 x) 3
def tc (x : Int) : Int := und (x3 x) 3
def td (x : Int) : Int := 1 + und (x4 x) 5
def te (x : Int) : Int := 1 + und (x5 x) 12
def thr (x : Int) : Value := .agg #[.int .i64 (tk x), .int .i64 (ta x), .int .i64 (tb x), .int .i64 (tc x), .int .i64 (td x), .int .i64 (te x)]
end Mi

theorem throwSize : (Try.prog.info? 52).map (·.size) = some 6 := by kernel_rfl
/-- Stores into blocks from B on. -/
inductive Sets (B : Nat) (w : World) : World → Prop where
  | refl : Sets B w w
  | step {w' : World} {g j : Nat} {v : Value} (h : Sets B w w') (hg : B ≤ g) : Sets B w (w'.setCell ⟨g, j, none⟩ v)
structure M2 (w0 : World) (b : Nat) (x : Int) (w : World) : Prop where mk :: (mint : MintAt w b x) (grown : w0.grownBy w (some b))
theorem M2.sets {w0 : World} {b : Nat} {x : Int} {w w' : World} (h : M2 w0 b x w) (hb : b < w0.heap.size) (hs : Sets w0.heap.size w w') : M2 w0 b x w' := by
  induction hs with
  | refl => exact h
  | step _ hg ih =>
    refine ⟨⟨?_, ih.mint.2⟩, ⟨ih.grown.os, ih.grown.tape, ih.grown.output, by simpa [World.setCell] using ih.grown.size, fun k hk hne => ?_⟩⟩
    · have := ih.mint.1
      unfold One at this ⊢
      rw [Below.heap_setCell _ _ _ _ (by simp; omega)]
      exact this
    · rw [Below.heap_setCell _ _ _ _ (by simp; omega)]
      exact ih.grown.block k hk hne

set_option maxRecDepth 100000 in
set_option maxHeartbeats 1000000 in
theorem throw_c (b : Nat) (x : Int) (w : World) (hb : b < w.heap.size) (hm : MintAt w b x) :
    Calls Try.prog 16 #[.pointer (some ⟨b, 0, none⟩)] w fun e w' => e = .returned (Mi.thr x) ∧ MintAt w' b (Mi.x6 x) ∧ w.grownBy w' (some b) := by
  obtain ⟨p0, q0⟩ := Mi.und_range (x) 10 (by omega)
  obtain ⟨p1, q1⟩ := Mi.und_range (Mi.x1 x) 4 (by omega)
  obtain ⟨p2, q2⟩ := Mi.und_range (Mi.x2 x) 3 (by omega)
  obtain ⟨p3, q3⟩ := Mi.und_range (Mi.x3 x) 3 (by omega)
  obtain ⟨p4, q4⟩ := Mi.und_range (Mi.x4 x) 5 (by omega)
  obtain ⟨p5, q5⟩ := Mi.und_range (Mi.x5 x) 12 (by omega)
  have H0 : Hid (TW w b x [.int .i64 0, .int .i64 0, .int .i64 0, .int .i64 0, .int .i64 0, .int .i64 0] ((w.alloc (.cells #[.int .i64 0, .int .i64 0, .int .i64 0, .int .i64 0, .int .i64 0, .int .i64 0] 52)).alloc (.cells #[.int .i64 0, .int .i64 0, .int .i64 0, .int .i64 0, .int .i64 0, .int .i64 0] 52))) := by
    refine ⟨⟨?_, hm.2⟩, ?_, ?_, ?_⟩
    · have := hm.1
      unfold One at this ⊢
      rw [heap_alloc_old _ _ (by simp; omega), heap_alloc_old _ _ hb]
      exact this
    · rw [heap_alloc_old _ _ (by simp)]
      exact heap_alloc_new w _
    · have := heap_alloc_new (w.alloc (.cells #[.int .i64 0, .int .i64 0, .int .i64 0, .int .i64 0, .int .i64 0, .int .i64 0] 52)) (.cells #[.int .i64 0, .int .i64 0, .int .i64 0, .int .i64 0, .int .i64 0, .int .i64 0] 52)
      simpa using this
    · exact grownBy_trans (World.grownBy_alloc w _ _) (World.grownBy_alloc _ _ _)
  clear hm
  go_enter Try.func16, Try.ntmps16
  go_wp2_with fail
  generalize hW : ((w.alloc (.cells #[.int .i64 0, .int .i64 0, .int .i64 0, .int .i64 0, .int .i64 0, .int .i64 0] 52)).alloc (.cells #[.int .i64 0, .int .i64 0, .int .i64 0, .int .i64 0, .int .i64 0, .int .i64 0] 52)) = W0 at H0
  clear hW
  refine (under_big b (x) 10 _ H0.out.mint (by omega) (by omega)).mono ?_
  rintro e v0 ⟨rfl, m0, g0⟩
  have T0 : Hid (TW w b (Mi.x1 x) [.int .i64 0, .int .i64 0, .int .i64 0, .int .i64 0, .int .i64 0, .int .i64 0] v0) := H0.out.under hb m0 g0
  clear m0 g0 H0
  have c0 : v0.cell? ⟨w.heap.size + 1, 0, none⟩ = some (.int .i64 0) := T0.out.cell 0 _ rfl
  have f0 : v0.frozen? ⟨w.heap.size + 1, 0, none⟩ = false := T0.out.free 0
  go_wp2_with fail
  obtain ⟨W1, hW1⟩ : ∃ W1, W1 = v0.setCell ⟨w.heap.size + 1, 0, none⟩ (.int .i64 (Mi.und (x) 10)) := ⟨_, rfl⟩
  rw [← hW1]
  have H1 : Hid (TW w b (Mi.x1 x) [.int .i64 (Mi.tk x), .int .i64 0, .int .i64 0, .int .i64 0, .int .i64 0, .int .i64 0] W1) := by rw [hW1]; exact T0.out.store hb 0 _
  clear hW1 c0 f0 T0
  refine (under_big b (Mi.x1 x) 4 _ H1.out.mint (by omega) (by omega)).mono ?_
  rintro e v1 ⟨rfl, m1, g1⟩
  have T1 : Hid (TW w b (Mi.x2 x) [.int .i64 (Mi.tk x), .int .i64 0, .int .i64 0, .int .i64 0, .int .i64 0, .int .i64 0] v1) := H1.out.under hb m1 g1
  clear m1 g1 H1
  have c1 : v1.cell? ⟨w.heap.size + 1, 1, none⟩ = some (.int .i64 0) := T1.out.cell 1 _ rfl
  have f1 : v1.frozen? ⟨w.heap.size + 1, 1, none⟩ = false := T1.out.free 1
  go_wp2_with fail
  obtain ⟨W2, hW2⟩ : ∃ W2, W2 = v1.setCell ⟨w.heap.size + 1, 1, none⟩ (.int .i64 (1 + Mi.und (Mi.x1 x) 4)) := ⟨_, rfl⟩
  rw [← hW2]
  have H2 : Hid (TW w b (Mi.x2 x) [.int .i64 (Mi.tk x), .int .i64 (Mi.ta x), .int .i64 0, .int .i64 0, .int .i64 0, .int .i64 0] W2) := by rw [hW2]; exact T1.out.store hb 1 _
  clear hW2 c1 f1 T1
  refine (under_big b (Mi.x2 x) 3 _ H2.out.mint (by omega) (by omega)).mono ?_
  rintro e v2 ⟨rfl, m2, g2⟩
  have T2 : Hid (TW w b (Mi.x3 x) [.int .i64 (Mi.tk x), .int .i64 (Mi.ta x), .int .i64 0, .int .i64 0, .int .i64 0, .int .i64 0] v2) := H2.out.under hb m2 g2
  clear m2 g2 H2
  have c2 : v2.cell? ⟨w.heap.size + 1, 2, none⟩ = some (.int .i64 0) := T2.out.cell 2 _ rfl
  have f2 : v2.frozen? ⟨w.heap.size + 1, 2, none⟩ = false := T2.out.free 2
  go_wp2_with fail
  obtain ⟨W3, hW3⟩ : ∃ W3, W3 = v2.setCell ⟨w.heap.size + 1, 2, none⟩ (.int .i64 (1 + Mi.und (Mi.x2 x) 3)) := ⟨_, rfl⟩
  rw [← hW3]
  have H3 : Hid (TW w b (Mi.x3 x) [.int .i64 (Mi.tk x), .int .i64 (Mi.ta x), .int .i64 (Mi.tb x), .int .i64 0, .int .i64 0, .int .i64 0] W3) := by rw [hW3]; exact T2.out.store hb 2 _
  clear hW3 c2 f2 T2
  refine (under_big b (Mi.x3 x) 3 _ H3.out.mint (by omega) (by omega)).mono ?_
  rintro e v3 ⟨rfl, m3, g3⟩
  have T3 : Hid (TW w b (Mi.x4 x) [.int .i64 (Mi.tk x), .int .i64 (Mi.ta x), .int .i64 (Mi.tb x), .int .i64 0, .int .i64 0, .int .i64 0] v3) := H3.out.under hb m3 g3
  clear m3 g3 H3
  have c3 : v3.cell? ⟨w.heap.size + 1, 3, none⟩ = some (.int .i64 0) := T3.out.cell 3 _ rfl
  have f3 : v3.frozen? ⟨w.heap.size + 1, 3, none⟩ = false := T3.out.free 3
  go_wp2_with fail
  obtain ⟨W4, hW4⟩ : ∃ W4, W4 = v3.setCell ⟨w.heap.size + 1, 3, none⟩ (.int .i64 (Mi.und (Mi.x3 x) 3)) := ⟨_, rfl⟩
  rw [← hW4]
  have H4 : Hid (TW w b (Mi.x4 x) [.int .i64 (Mi.tk x), .int .i64 (Mi.ta x), .int .i64 (Mi.tb x), .int .i64 (Mi.tc x), .int .i64 0, .int .i64 0] W4) := by rw [hW4]; exact T3.out.store hb 3 _
  clear hW4 c3 f3 T3
  refine (under_big b (Mi.x4 x) 5 _ H4.out.mint (by omega) (by omega)).mono ?_
  rintro e v4 ⟨rfl, m4, g4⟩
  have T4 : Hid (TW w b (Mi.x5 x) [.int .i64 (Mi.tk x), .int .i64 (Mi.ta x), .int .i64 (Mi.tb x), .int .i64 (Mi.tc x), .int .i64 0, .int .i64 0] v4) := H4.out.under hb m4 g4
  clear m4 g4 H4
  have c4 : v4.cell? ⟨w.heap.size + 1, 4, none⟩ = some (.int .i64 0) := T4.out.cell 4 _ rfl
  have f4 : v4.frozen? ⟨w.heap.size + 1, 4, none⟩ = false := T4.out.free 4
  go_wp2_with fail
  obtain ⟨W5, hW5⟩ : ∃ W5, W5 = v4.setCell ⟨w.heap.size + 1, 4, none⟩ (.int .i64 (1 + Mi.und (Mi.x4 x) 5)) := ⟨_, rfl⟩
  rw [← hW5]
  have H5 : Hid (TW w b (Mi.x5 x) [.int .i64 (Mi.tk x), .int .i64 (Mi.ta x), .int .i64 (Mi.tb x), .int .i64 (Mi.tc x), .int .i64 (Mi.td x), .int .i64 0] W5) := by rw [hW5]; exact T4.out.store hb 4 _
  clear hW5 c4 f4 T4
  refine (under_big b (Mi.x5 x) 12 _ H5.out.mint (by omega) (by omega)).mono ?_
  rintro e v5 ⟨rfl, m5, g5⟩
  have T5 : Hid (TW w b (Mi.x6 x) [.int .i64 (Mi.tk x), .int .i64 (Mi.ta x), .int .i64 (Mi.tb x), .int .i64 (Mi.tc x), .int .i64 (Mi.td x), .int .i64 0] v5) := H5.out.under hb m5 g5
  clear m5 g5 H5
  have c5 : v5.cell? ⟨w.heap.size + 1, 5, none⟩ = some (.int .i64 0) := T5.out.cell 5 _ rfl
  have f5 : v5.frozen? ⟨w.heap.size + 1, 5, none⟩ = false := T5.out.free 5
  go_upto_region 8 with fail
  obtain ⟨W6, hW6⟩ : ∃ W6, W6 = v5.setCell ⟨w.heap.size + 1, 5, none⟩ (.int .i64 (1 + Mi.und (Mi.x5 x) 12)) := ⟨_, rfl⟩
  rw [← hW6]
  have H6 : Hid (TW w b (Mi.x6 x) [.int .i64 (Mi.tk x), .int .i64 (Mi.ta x), .int .i64 (Mi.tb x), .int .i64 (Mi.tc x), .int .i64 (Mi.td x), .int .i64 (Mi.te x)] W6) := by rw [hW6]; exact T5.out.store hb 5 _
  clear hW6 c5 f5 T5
  have hr := H6.out.res
  have hl := H6.out.loc
  have HR := Lib.hid hr
  have HL := Lib.hid hl
  clear hr hl
  go_wp2_with (first
    | refine wpList_load_row rfl 52 _ rfl _ rfl _ _ _ _ HL.out Try.underlying52 rfl throwSize ?_
    | (refine wpList_store_row rfl 52 _ _ rfl _ #[.int .i64 (Mi.tk x), .int .i64 (Mi.ta x), .int .i64 (Mi.tb x), .int .i64 (Mi.tc x), .int .i64 (Mi.td x), .int .i64 (Mi.te x)] rfl rfl _ _ HR.out ?i1 ?i2 ?i3 ?_))
  case i1 => exact throwSize
  case i2 => simp
  case i3 => simp [Value.oneCell']
  go_wp2_with fail
  refine bodyPost_cell Try.results16 rfl w.heap.size rfl _ _ _ _ (setRow_heap _ _ _ _ _ _ HR.out) rfl Try.underlying52 throwSize ⟨rfl, ?_⟩
  have h6 := H6.out
  refine ⟨⟨?_, h6.mint.2⟩, ⟨h6.grown.os, h6.grown.tape, h6.grown.output, by simpa using h6.grown.size, fun k hk hne => ?_⟩⟩
  · have := h6.mint.1
    unfold One at this ⊢
    rw [setRow_other _ _ _ _ (by omega)]
    exact this
  · rw [setRow_other _ _ _ _ (by omega)]
    exact h6.grown.block k hk hne
end Go.Proofs.Ytkinbidpbgkaoaa
