/-
  A slice of whole numbers that came in, laid open for a walk, with its elements' bounds.
-/
import Derived.Test.YtbningfdpibdkaaDoorLaid
import Derived.Test.YtbningfdpibdkaaDoorSeq
namespace Go.Proofs.YtbningfdpibdkaaDoor
open Go.RowKit Go.ChangeShapes Go.WideShapes Go.ChangeAt
set_option linter.unusedVariables false
set_option linter.unusedSimpArgs false

theorem rd_of_intsJ {H : Type} {enc : TypeId × Value → H} {W : World} {A : Option Addr} {n m : Nat} {d : DataW H} {p : List MemPlace} (h : DataW.Trod enc Tryd.prog W 0 (fun _ => true) true 23 (.slice A n m) d p) :
    ∃ zs, RdInts W W.heap.size A n zs ∧ n ≤ m ∧ m ≤ maxLen ∧ True ∧ ∀ z ∈ zs, (-9223372036854775808 ≤ z ∧ z ≤ 9223372036854775807) := by
  obtain ⟨fuel, hf⟩ := h
  rcases open_ints Tryd.underlying23 Tryd.underlying3 (by kernel_rfl) hf with ⟨hcs, _⟩ | ⟨a, len, cap, zs, hcs, _, hl, hm, hz, hx, hcell, hwf⟩
  · simp [Value.cells] at hcs
    obtain ⟨rfl, rfl, rfl⟩ := hcs
    exact ⟨[], ⟨rfl, fun h => absurd h (by omega)⟩, Nat.le_refl _, Nat.zero_le _, trivial, by simp⟩
  · simp [Value.cells] at hcs
    obtain ⟨rfl, rfl, rfl⟩ := hcs
    simp only [Prod.mk.injEq] at hx
    simp only [if_true] at hz
    refine ⟨zs.take n, ⟨by rw [List.length_take]; omega, fun hn => ?_⟩, hl, hm, trivial, fun z hz' => bounds_i64 (hwf z (List.mem_of_mem_take hz'))⟩
    obtain ⟨b, off, rfl, hc⟩ := ints_at hcell (by omega)
    refine ⟨b, off, rfl, World.block_lt_of_cell? W ⟨b, off + 0, none⟩ (hc 0 (by omega)), fun i hi => ?_⟩
    rw [hc i (by omega)]
    congr 2
    simp only [List.getD_eq_getElem?_getD, List.getElem?_take, if_pos hi]
end Go.Proofs.YtbningfdpibdkaaDoor
