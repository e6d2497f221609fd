/-
  wire: the reader: Text, Bool, End.
-/
import Derived.Test.YtbningfdpibdkaaDoorWirD
namespace Go.Proofs.YtbningfdpibdkaaDoor
open Go.RowKit
set_option linter.unusedVariables false
set_option linter.unusedSimpArgs false

theorem ErrForm.below {w w' : World} {E : Nat → Addr} (h : ErrForm w E) (hb : Below w.heap.size w w') : ErrForm w' E :=
  (hb.cell (World.block_lt_of_cell? w ⟨1, 0, none⟩ h)).trans h
theorem ErrForm.turns {w w' : World} {E : Nat → Addr} {q : Nat} {s : ByteArray} {pos : Nat} {er : Value} {bad : Option Nat} (h : ErrForm w E) (hi : InV w E q s pos er bad) (ht : Turns (fun k => k = q) w w') : ErrForm w' E := by
  have hlt := World.block_lt_of_cell? w ⟨1, 0, none⟩ h
  have hne : ¬ 1 = q := fun e => by
    have h0 := hi.blk.cell 0 _ rfl
    subst e
    have h2 := h0.symm.trans h
    rw [erV_some E 3 (by decide)] at h2
    cases h2
  exact (World.cell?_of_block (w := w) (ht.block _ hlt hne)).trans h
theorem InV.drew {w : World} {E : Nat → Addr} {q : Nat} {s : ByteArray} {pos : Nat} {er : Value} {bad : Option Nat} (h : InV w E q s pos er bad) : InV w.drew E q s pos er bad :=
  ⟨h.blk, h.err.of (fun _ _ hb => hb), h.le⟩
theorem InW.drew {w : World} {E : Nat → Addr} {q : Nat} {s : ByteArray} {p : St} (h : InW w E q s p) : InW w.drew E q s p := by
  obtain ⟨er, h⟩ := h
  exact ⟨er, h.drew⟩
/-- Text, in plain words. -/
def rdT (s : ByteArray) (most : Int) (p : St) : ByteArray × St := let r := rdI s p
  match r.2.2 with
  | some _ => (ByteArray.empty, r.2)
  | none => if r.1 < 0 ∨ most < r.1 ∨ ((s.size - r.2.1 : Nat) : Int) < r.1 then (ByteArray.empty, (s.size, some p.1)) else (s.extract r.2.1 (r.2.1 + r.1.toNat), (r.2.1 + r.1.toNat, none))
def TextQ (w : World) (E : Nat → Addr) (q : Nat) (s : ByteArray) (r : ByteArray × St) (e : Ending) (w' : World) : Prop := e = .returned (.string r.1) ∧ InW w' E q s r.2 ∧ Turns (fun k => k = q) w w'
/-- Bool, in plain words. -/
def rdB (s : ByteArray) (p : St) : Bool × St := let r := rdI s p
  if r.1 = 0 then (false, r.2) else if r.1 = 1 then (true, r.2) else (false, (s.size, some p.1))
def BoolQ (w : World) (E : Nat → Addr) (q : Nat) (s : ByteArray) (r : Bool × St) (e : Ending) (w' : World) : Prop := e = .returned (.bool r.1) ∧ InW w' E q s r.2 ∧ Turns (fun k => k = q) w w'
end Go.Proofs.YtbningfdpibdkaaDoor
