/-
  What the row's list says of the type error's handle.
-/
import Derived.Test.YtbningfdpibdkaaDoorRpL
import Derived.Test.YtbningfdpibdkaaDoorLaid
import Derived.Test.YtbningfdpibdkaaDoorCards
import Derived.LaidHandle
namespace Go.Proofs.YtbningfdpibdkaaDoor
open Go.RowKit
theorem etNamed : Tryd.prog.globalNamed "errors.errorType" = some 14 := by kernel_rfl
theorem etRow : (Tryd.prog.cutTypes.find? (·.1 == "internal/reflectlite.rtype")).map (·.2) = some 177 := by kernel_rfl
theorem etOne : ((List.range Tryd.prog.types.size).filter fun t => Tryd.prog.rowNamed t [101, 114, 114, 111, 114]) = [30] := by kernel_rfl
theorem handle_of_met {W : World} (h : handlesMet Tryd.prog [("errors.errorType", Rows.laid_errors_errorType)] W) : W.cell? ⟨14, 0, none⟩ = some etV := by
  obtain ⟨name, u, ty, e1, e2, e3, e4, e5⟩ := h _ (List.mem_singleton.2 rfl)
  have en : name = [101, 114, 114, 111, 114] := (Option.some.inj e1).symm
  subst en
  obtain rfl := Option.some.inj (etRow.symm.trans e2)
  have hm : ty ∈ (List.range Tryd.prog.types.size).filter fun t => Tryd.prog.rowNamed t [101, 114, 114, 111, 114] := List.mem_filter.2 ⟨List.mem_range.2 e3, e4⟩
  rw [etOne] at hm
  obtain rfl := List.mem_singleton.1 hm
  have hh : typeHandle Tryd.prog 30 = .pointer (some ⟨18, 30, none⟩) := by kernel_rfl
  rw [hh] at e5
  simpa [etV] using World.var?_cell etNamed e5 0
end Go.Proofs.YtbningfdpibdkaaDoor
