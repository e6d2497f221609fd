/-
  A vector that came in, laid open for a walk.
-/
import Derived.Test.YtdebldpmloignaaDoorLaid
import Derived.Test.YtdebldpmloignaaDoorWirK
import Derived.Laws.IdiomArrays
namespace Go.Proofs.YtdebldpmloignaaDoor
open Go.RowKit Go.ChangeShapes Go.WideShapes Go.ChangeAt
set_option linter.unusedVariables false

set_option maxRecDepth 100000 in
theorem vec_of_row {H : Type} {enc : TypeId × Value → H} {W : World} {r : Reach} {base : Nat} {v : Value} {d : DataW H} {p : List MemPlace} (hv : Value.okWide Tryd.prog W r base 43 v) (h : DataW.Trod enc Tryd.prog W 0 (fun _ => true) true 43 v d p) :
    ∃ a b c e, v = vecV a b c e ∧ I64 a ∧ I64 b ∧ I64 c ∧ I64 e := by
  have hci : Tryd.prog.cellsOf 3 = 1 := by kernel_rfl
  have hcv : Tryd.prog.cellsOf 43 = 4 := by kernel_rfl
  simp only [Value.okWide, Tryd.underlying43] at hv
  obtain ⟨cs, rfl, hs, _⟩ := hv
  rw [hcv] at hs
  obtain ⟨fuel, hf⟩ := h
  obtain ⟨l⟩ := cs
  match l, hs with
  | [c0, c1, c2, c3], _ =>
    obtain ⟨y0, y1, y2, y3, nn, _, g0, g1, g2, g3⟩ := trod_array4 Tryd.underlying43 hci hf
    obtain ⟨n3, e3, _, w3⟩ := DataW.trod_int Tryd.underlying3 g0
    obtain ⟨n4, e4, _, w4⟩ := DataW.trod_int Tryd.underlying3 g1
    obtain ⟨n5, e5, _, w5⟩ := DataW.trod_int Tryd.underlying3 g2
    obtain ⟨n6, e6, _, w6⟩ := DataW.trod_int Tryd.underlying3 g3
    simp at e3 e4 e5 e6
    subst e3
    subst e4
    subst e5
    subst e6
    exact ⟨n3, n4, n5, n6, rfl, bounds_i64 w3, bounds_i64 w4, bounds_i64 w5, bounds_i64 w6⟩
end Go.Proofs.YtdebldpmloignaaDoor
