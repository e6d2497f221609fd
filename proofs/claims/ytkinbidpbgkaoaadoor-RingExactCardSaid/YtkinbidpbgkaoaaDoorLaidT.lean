/-
  A slice of strings that came in, laid open for a walk.
-/
import Derived.Test.YtkinbidpbgkaoaaDoorLaid
import Derived.Test.YtkinbidpbgkaoaaDoorMem
import Derived.SliceStrings
namespace Go.Proofs.YtkinbidpbgkaoaaDoor
open Go.RowKit Go.ChangeShapes Go.WideShapes Go.ChangeAt
set_option linter.unusedVariables false

theorem rd_of_strs {H : Type} {enc : TypeId × Value → H} {W : World} {A : Option Addr} {n m : Nat} {d : DataW H} {p : List MemPlace} (h : DataW.Trod enc Tryd.prog W 0 (fun _ => true) true 68 (.slice A n m) d p) :
    ∃ xs : List ByteArray, RdRows W W.heap.size strC 1 A n xs ∧ n ≤ m ∧ m ≤ maxLen ∧ (A = none → n = 0) ∧ ∀ x ∈ xs, x.size ≤ maxLen := by
  obtain ⟨fuel, hf⟩ := h
  rcases open_strings Tryd.underlying68 Tryd.underlying9 (by kernel_rfl) hf with ⟨hcs, _⟩ | ⟨a, len, cap, ss, hcs, _, hl, hm, hz, hx, hcell, hsz⟩
  · simp [Value.cells] at hcs
    obtain ⟨rfl, rfl, rfl⟩ := hcs
    exact ⟨[], ⟨rfl, fun h => absurd h (by omega)⟩, Nat.le_refl _, Nat.zero_le _, fun _ => rfl, by simp⟩
  · simp [Value.cells] at hcs
    obtain ⟨rfl, rfl, rfl⟩ := hcs
    simp only [if_true] at hz
    refine ⟨ss.take n, ⟨by rw [List.length_take]; omega, fun hn => ?_⟩, hl, hm, by simp, fun x hx => hsz x (List.mem_of_mem_take hx)⟩
    have h0 := hcell 0 (by omega)
    obtain ⟨b, off, spot⟩ := a
    have hs := World.cell?_spot h0
    have hsp : spot = none := by
      unfold Addr.add at hs
      split at hs <;> simp_all
    subst hsp
    refine ⟨b, off, rfl, ?_, fun i x hi j u hu => ?_⟩
    · have := World.block_lt_of_cell? W _ h0
      simpa [Addr.add] using this
    · rw [List.getElem?_take] at hi
      split at hi
      · cases j with
        | zero =>
          simp [strC] at hu
          subst hu
          have hi2 := (List.getElem?_eq_some_iff.1 hi).1
          have := hcell i hi2
          rw [Addr.add_mid] at this
          rw [Nat.mul_one, Nat.add_zero, this, List.getD_eq_getElem?_getD, hi]
          rfl
        | succ j => simp [strC] at hu
      · cases hi
end Go.Proofs.YtkinbidpbgkaoaaDoor
