/-
  depth: awake.
-/
import Derived.Test.YtkinbidpbgkaoaaDoorDepE
import Derived.Laws.StructEq
namespace Go.Proofs.YtkinbidpbgkaoaaDoor
open Go.RowKit
set_option linter.unusedVariables false

theorem step_eql (a0 a1 a2 a3 b0 b1 b2 b3 : Int) (w : World) : (binOp .eql 92 (.agg #[.int .i64 a0, .int .i64 a1, .int .i64 a2, .int .i64 a3]) (.agg #[.int .i64 b0, .int .i64 b1, .int .i64 b2, .int .i64 b3])).run Tryd.prog w = .ok (.bool (a0 == b0 && a1 == b1 && a2 == b2 && a3 == b3)) w := by
  have hp : Tryd.prog.stoodInHeld 92 = false := by kernel_rfl
  rw [run_eql_struct, show (10000 : Nat) = 9999 + 1 from rfl, run_equalIn_agg w 9999 92 _ _ (by kernel_rfl) hp]
  have u3 := Tryd.underlying3
  simp only [Program.fieldsOf, Tryd.underlying92]
  go_simp
  by_cases h0 : a0 = b0 <;> by_cases h1 : a1 = b1 <;> by_cases h2 : a2 = b2 <;> by_cases h3 : a3 = b3 <;> simp [h0, h1, h2, h3]
theorem step_guard (op : BinOp) (x y : Operand) (xs ys : Array Value) (w : World) : (eqGuard op 92 x y (.agg xs) (.agg ys)).run Tryd.prog w = .ok () w := run_eqGuard_agg w op 92 x y _ _ (by kernel_rfl)
theorem mean_eql (a0 a1 a2 b0 b1 b2 : Int) (w : World) : (binOp .eql 29 (.agg #[.int .i64 a0, .int .i64 a1, .int .i64 a2]) (.agg #[.int .i64 b0, .int .i64 b1, .int .i64 b2])).run Tryd.prog w = .ok (.bool (a0 == b0 && a1 == b1 && a2 == b2)) w := by
  have hp : Tryd.prog.stoodInHeld 29 = false := by kernel_rfl
  rw [run_eql_struct, show (10000 : Nat) = 9999 + 1 from rfl, run_equalIn_agg w 9999 29 _ _ (by kernel_rfl) hp]
  have u3 := Tryd.underlying3
  simp only [Program.fieldsOf, Tryd.underlying29]
  go_simp
  by_cases h0 : a0 = b0 <;> by_cases h1 : a1 = b1 <;> by_cases h2 : a2 = b2 <;> simp [h0, h1, h2]
theorem mean_guard (op : BinOp) (x y : Operand) (xs ys : Array Value) (w : World) : (eqGuard op 29 x y (.agg xs) (.agg ys)).run Tryd.prog w = .ok () w := run_eqGuard_agg w op 29 x y _ _ (by kernel_rfl)

def awO : List Ord := [⟨1, 0, true, 5, 2, 0⟩, ⟨2, 0, true, 5, 1, 0⟩, ⟨3, 0, true, 7, 4, 0⟩]
def awF : List Fill := [⟨0, 0, 0, 0, 5, 2⟩, ⟨0, 0, 0, 0, 8, 1⟩]
theorem aw_side : side awO = true := by decide
theorem aw_steps : stepsO awO = [⟨5, 3, 2, 3⟩, ⟨7, 4, 1, 7⟩] := rfl
theorem aw_cost : costF' awO 4 = (22, 4) := by decide
theorem aw_mean : meanF awF = [.int .i64 6, .int .i64 0, .int .i64 3] := rfl
theorem aw_is : isF awF = true := rfl
/-- A row out of a block whose cells are the row's. -/
theorem rd_of_block {α : Type} {enc : α → List Value} {k : Nat} (hk : ∀ x, (enc x).length = k) {w : World} {g : Nat} {t : TypeId} {l : List α} (hg : w.heap[g]? = some (.cells (flatOf enc l).toArray t (0, 0))) : RdRows w w.heap.size enc k (some ⟨g, 0, none⟩) l.length l :=
  ⟨rfl, fun _ => ⟨g, 0, rfl, (Array.getElem?_eq_some_iff.1 hg).1, fun i x hi j u hu => by
    rw [cell_of_row w g _ _ _ _ hg, Nat.zero_add]
    have := flatOf_get hk l i x hi j u hu
    simpa using this⟩⟩
set_option maxRecDepth 100000 in
set_option maxHeartbeats 2000000 in
theorem awake34_c (w : World) :
    Calls Tryd.prog 10 #[] w fun e w' => e = .returned (.bool true) ∧ Below w.heap.size w w' := by
  go_enter Tryd.func10, Tryd.ntmps10
  go_wp2_with fail
  obtain ⟨W1, hW1⟩ : ∃ Z : World, Z = w.alloc (.cells (flatOf Ord.cells awO).toArray 86) := ⟨_, rfl⟩
  change Calls _ _ _ (w.alloc (.cells (flatOf Ord.cells awO).toArray 86)) _
  rw [← hW1]
  have hr1 : Hid (RdRows W1 W1.heap.size Ord.cells 6 (some ⟨w.heap.size, 0, none⟩) 3 awO) := by rw [hW1]; exact rd_of_block (l := awO) Ord.k6 (alloc_new' rfl)
  have hb1 : Below w.heap.size w W1 := by rw [hW1]; exact below_grow w _
  clear hW1
  refine (steps_ok _ 3 3 awO W1 hr1 (by unfold maxLen; omega) aw_side).mono ?_
  rintro e w2 ⟨v, rfl, hown, hb2⟩
  rw [aw_steps] at hown
  obtain ⟨g, cap, cur, rfl, hnc, hcm, hbg, hblk, hcs, hrows⟩ := own_rows' Stp.k4 hown rfl (by simp)
  have hglt : g < w2.heap.size := (Array.getElem?_eq_some_iff.1 hblk).1
  have R0 : Hid (w2.rangeAt g 0 [.int .i64 5, .int .i64 3, .int .i64 2, .int .i64 3]) := by
    have := hrows 0 _ rfl
    rwa [Nat.zero_mul, Nat.zero_add] at this
  have C7 : Hid (w2.cell? ⟨g, 7, none⟩ = some (.int .i64 7)) := hrows 1 _ rfl 3 _ rfl
  have hr2 : Hid (RdRows w2 w2.heap.size Ord.cells 6 (some ⟨w.heap.size, 0, none⟩) 3 awO) := (hr1.out.below hb2 (Nat.le_refl _)).mono hb2.size
  have hbw2 := hb1.trans (hb2.mono hb1.size)
  clear hrows hblk hown hb1 hb2 hr1 hnc hcm hbg hcs
  go_wp2_with fail
  refine (cost_c _ 3 3 awO 4 w2 (by omega) (by omega) hr2 (by unfold maxLen; omega)).mono ?_
  rintro e w3 ⟨rfl, hb3⟩
  rw [aw_cost]
  have R03 : Hid (w3.rangeAt g 0 [.int .i64 5, .int .i64 3, .int .i64 2, .int .i64 3]) := rangeAt_below R0.out hb3 hglt
  have C73 : Hid (w3.cell? ⟨g, 7, none⟩ = some (.int .i64 7)) := (hb3.cell (p := ⟨g, 7, none⟩) hglt).trans C7.out
  have hbw3 := hbw2.trans (hb3.mono hbw2.size)
  have hgl3 : g < w3.heap.size := Nat.lt_of_lt_of_le hglt hb3.size
  clear hb3 R0 C7 hbw2 hr2
  go_wp2_with fail
  obtain ⟨W4, hW4⟩ : ∃ Z : World, Z = w3.alloc (.cells (flatOf Fill.cells awF).toArray 26) := ⟨_, rfl⟩
  change Calls _ _ _ (w3.alloc (.cells (flatOf Fill.cells awF).toArray 26)) _
  rw [← hW4]
  have hr4 : Hid (RdRows W4 W4.heap.size Fill.cells 6 (some ⟨w3.heap.size, 0, none⟩) 2 awF) := by rw [hW4]; exact rd_of_block (l := awF) Fill.k6 (alloc_new' rfl)
  have hb4 : Below w3.heap.size w3 W4 := by rw [hW4]; exact below_grow w3 _
  clear hW4
  refine (average_c _ 2 2 awF W4 (by simp) hr4 (by unfold maxLen; omega)).mono ?_
  rintro e w5 ⟨rfl, hb5⟩
  rw [aw_mean, aw_is]
  have hb35 := hb4.trans (hb5.mono hb4.size)
  have r0 := rangeAt_below R03.out hb35 hgl3
  have c7 := (hb35.cell (p := ⟨g, 7, none⟩) hgl3).trans C73.out
  have hbw5 := hbw3.trans (hb35.mono hbw3.size)
  have HSE := fun w => step_eql 5 3 2 3 5 3 2 3 w
  have HSG := step_guard .eql
  have HME := fun w => mean_eql 6 0 3 6 0 3 w
  have HMG := mean_guard .eql
  simp at HSE HME
  have hb35s := hb35.size
  clear hb4 hb5 hb35 R03 C73 hbw3 hr4
  have hgl5 : g < w5.heap.size := Nat.lt_of_lt_of_le hgl3 (by have := hb35s; exact this)
  have hgne : ¬ g = w5.heap.size := by omega
  have c0 : w5.cell? ⟨g, 0, none⟩ = some (.int .i64 5) := r0 0 _ rfl
  have c1 : w5.cell? ⟨g, 1, none⟩ = some (.int .i64 3) := r0 1 _ rfl
  have c2 : w5.cell? ⟨g, 2, none⟩ = some (.int .i64 2) := r0 2 _ rfl
  have c3 : w5.cell? ⟨g, 3, none⟩ = some (.int .i64 3) := r0 3 _ rfl
  clear r0
  go_wp2_with fail
  go_ret
  exact ⟨rfl, hbw5.alloc hbw5.size _⟩
end Go.Proofs.YtkinbidpbgkaoaaDoor
