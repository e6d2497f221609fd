/-
  Orders that came in, laid open for a walk.
-/
import Derived.Test.YtdebldpmloignaaDoorLaidS
import Derived.Test.YtdebldpmloignaaDoorSlOrd
namespace Go.Proofs.YtdebldpmloignaaDoor
open Go.RowKit Go.ChangeShapes Go.WideShapes Go.ChangeAt
set_option linter.unusedVariables false
set_option linter.unusedSimpArgs false

set_option maxRecDepth 100000 in
theorem rd_of_orders {H : Type} {enc : TypeId × Value → H} {W : World} {A : Option Addr} {n m : Nat} {d : DataW H} {p : List MemPlace} (h : DataW.Trod enc Tryd.prog W 0 (fun _ => true) true 62 (.slice A n m) d p) :
    ∃ xs : List Ord, RdRows W W.heap.size Ord.cells 6 A n xs ∧ n ≤ m ∧ m ≤ maxLen ∧ (A = none → n = 0) ∧ ∀ x ∈ xs, (fun _ => True) x := by
  have hci : Tryd.prog.cellsOf 3 = 1 := by kernel_rfl
  have hcb : Tryd.prog.cellsOf 4 = 1 := by kernel_rfl
  refine rd_of_structs Tryd.underlying62 Tryd.underlying67 (by kernel_rfl) (by omega) Ord.k6 (fun _ => True) ?_ h
  intro cs fu hl hf
  match cs, hl with
  | [c0, c1, c2, c3, c4, c5], _ =>
    obtain ⟨_, h0⟩ := hf 0 _ rfl
    simp [hci, hcb] at h0
    obtain ⟨n0, e0, _, w0⟩ := DataW.trod_int Tryd.underlying3 h0
    simp at e0
    subst e0
    obtain ⟨_, h1⟩ := hf 1 _ rfl
    simp [hci, hcb] at h1
    obtain ⟨n1, e1, _, w1⟩ := DataW.trod_int Tryd.underlying3 h1
    simp at e1
    subst e1
    obtain ⟨_, h2⟩ := hf 2 _ rfl
    simp [hci, hcb] at h2
    obtain ⟨n2, e2, _⟩ := DataW.trod_bool Tryd.underlying4 h2
    simp at e2
    subst e2
    obtain ⟨_, h3⟩ := hf 3 _ rfl
    simp [hci, hcb] at h3
    obtain ⟨n3, e3, _, w3⟩ := DataW.trod_int Tryd.underlying3 h3
    simp at e3
    subst e3
    obtain ⟨_, h4⟩ := hf 4 _ rfl
    simp [hci, hcb] at h4
    obtain ⟨n4, e4, _, w4⟩ := DataW.trod_int Tryd.underlying3 h4
    simp at e4
    subst e4
    obtain ⟨_, h5⟩ := hf 5 _ rfl
    simp [hci, hcb] at h5
    obtain ⟨n5, e5, _, w5⟩ := DataW.trod_int Tryd.underlying3 h5
    simp at e5
    subst e5
    exact ⟨⟨n0, n1, n2, n3, n4, n5⟩, rfl, trivial⟩
end Go.Proofs.YtdebldpmloignaaDoor
