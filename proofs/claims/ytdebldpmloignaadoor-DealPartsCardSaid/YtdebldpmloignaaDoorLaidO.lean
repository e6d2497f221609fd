/-
  One order that came in as a value, laid open for a walk.
-/
import Derived.Test.YtdebldpmloignaaDoorLaidS
import Derived.Test.YtdebldpmloignaaDoorSlOrd
namespace Go.Proofs.YtdebldpmloignaaDoor
open Go.RowKit Go.ChangeShapes Go.WideShapes Go.ChangeAt Go.Deep
set_option linter.unusedVariables false
set_option linter.unusedSimpArgs false

set_option maxRecDepth 100000 in
theorem ord_of_row {H : Type} {enc : TypeId × Value → H} {W : World} {r : Reach} {base : Nat} {v : Value} {d : DataW H} {p : List MemPlace} (hv : Value.okWide Tryd.prog W r base 67 v) (h : DataW.Trod enc Tryd.prog W 0 (fun _ => true) true 67 v d p) :
    ∃ o : Ord, v = .agg o.cells.toArray := by
  have hci : Tryd.prog.cellsOf 3 = 1 := by kernel_rfl
  have hcb : Tryd.prog.cellsOf 4 = 1 := by kernel_rfl
  have hcv : Tryd.prog.cellsOf 67 = 6 := by kernel_rfl
  simp only [Value.okWide, Tryd.underlying67] at hv
  obtain ⟨cs, rfl, hs, _⟩ := hv
  rw [hcv] at hs
  obtain ⟨fuel, hf⟩ := h
  obtain ⟨l⟩ := cs
  match l, hs with
  | [c0, c1, c2, c3, c4, c5], _ =>
    obtain ⟨xs, nn, _, _, _, hxl, hfl⟩ := DataW.trod_struct Tryd.underlying67 hf
    have hf2 := fun (i : Nat) (f : Field) hif => (hfl i f hif).trans (List.getElem?_eq_getElem (by rw [hxl]; exact (Array.getElem?_eq_some_iff.1 hif).1))
    simp only [Value.cells] at hf2
    have h0 := hf2 0 _ rfl
    simp [hci, hcb] at h0
    obtain ⟨n0, e0, _, w0⟩ := DataW.trod_int Tryd.underlying3 h0
    simp at e0
    subst e0
    have h1 := hf2 1 _ rfl
    simp [hci, hcb] at h1
    obtain ⟨n1, e1, _, w1⟩ := DataW.trod_int Tryd.underlying3 h1
    simp at e1
    subst e1
    have h2 := hf2 2 _ rfl
    simp [hci, hcb] at h2
    obtain ⟨n2, e2, _⟩ := DataW.trod_bool Tryd.underlying4 h2
    simp at e2
    subst e2
    have h3 := hf2 3 _ rfl
    simp [hci, hcb] at h3
    obtain ⟨n3, e3, _, w3⟩ := DataW.trod_int Tryd.underlying3 h3
    simp at e3
    subst e3
    have h4 := hf2 4 _ rfl
    simp [hci, hcb] at h4
    obtain ⟨n4, e4, _, w4⟩ := DataW.trod_int Tryd.underlying3 h4
    simp at e4
    subst e4
    have h5 := hf2 5 _ rfl
    simp [hci, hcb] at h5
    obtain ⟨n5, e5, _, w5⟩ := DataW.trod_int Tryd.underlying3 h5
    simp at e5
    subst e5
    exact ⟨⟨n0, n1, n2, n3, n4, n5⟩, rfl⟩
end Go.Proofs.YtdebldpmloignaaDoor
