/-
  reply: Code of an error of others; ReplyCodes: the walk.
-/
import Derived.Test.YtbningfdpibdkaaDoorRpK
import Derived.Test.YtbningfdpibdkaaDoorKic24
namespace Go.Proofs.YtbningfdpibdkaaDoor
open Go.RowKit
set_option linter.unusedVariables false
set_option linter.unusedSimpArgs false

set_option maxRecDepth 100000 in
theorem code_other {B : Nat} {E : Nat → Addr} (w : World) (hE : Errs B w allKinds E) (g : Nat) (cs : Array Value) (T : TypeId) (hg : Blk w g cs T) (hB : B ≤ g) :
    Calls Tryd.prog 38 #[.iface 104 (.pointer (some ⟨g, 0, none⟩))] w fun e w' => e = .returned (.int .i64 15) ∧ Below w.heap.size w w' := by
  have HIS : Hid (∀ (W : World) (k : Nat), k < 14 → Below w.heap.size w W → Calls Tryd.prog 18 #[.iface 104 (.pointer (some ⟨g, 0, none⟩)), erV E (k + 1)] W fun e w' => e = .returned (.bool false) ∧ W = w') := fun W k hk hb => by
    have hm := mem_allKinds (k := k + 1) (by omega) (by omega)
    obtain ⟨h1, cb, tb, h2⟩ := hE.row (k + 1) hm
    rw [erV_some E (k + 1) (by omega)]
    refine is_other ⟨g, 0, none⟩ (E (k + 1)) cs cb T tb W (fun e => ?_) (hg.below hb) ?_
    · rw [← e] at h1
      simp at h1
      omega
    · rw [hb.block _ (Nat.lt_of_lt_of_le h1 (Nat.le_trans hB (Nat.le_of_lt hg.lt)))]
      exact h2
  have hnil := fun W : World => run_eql_held_nil (P := Tryd.prog) W 30 104 (.pointer (some ⟨g, 0, none⟩)) errIface
  have HKN := Lib.hid (known_c w hE)
  clear hE hg hB
  go_enter Tryd.func38, Tryd.ntmps38
  go_wp2_with fail
  refine HKN.out.mono ?_
  rintro e w1 ⟨rfl, hcell, hb1⟩
  have HCL := Lib.hid hcell
  have HB1 := Lib.hid hb1
  clear hcell hb1 HKN
  go_wp2_with fail
  go_loop [9] (fun i => ∃ k : Nat, k ≤ 14 ∧ i = .int .i64 k) (fun i => 14 - (intOf i).toNat)
  case atStart => exact ⟨0, by omega, rfl⟩
  case round =>
    obtain ⟨k, hk14, rfl⟩ := hrel
    by_cases h14 : k < 14
    · have hk14' : (k : Int) < 14 := by omega
      have hcl := HCL.out k h14
      have HI2 := Lib.hid (HIS.out w1 k h14 HB1.out)
      go_wp2_with fail
      refine HI2.out.mono ?_
      rintro e w' ⟨rfl, rfl⟩
      go_wp2_with fail
      go_round
      case rel => exact ⟨k + 1, by omega, by go_num⟩
      case measure => simp [intOf]; omega
    · have hk14' : ¬ (k : Int) < 14 := by omega
      go_wp2_with fail
      go_ret
      exact ⟨rfl, HB1.out⟩
theorem new_c (s : ByteArray) (w : World) : Calls Tryd.prog 19 #[.string s] w fun e w' => e = .returned (.iface 104 (.pointer (some ⟨w.heap.size, 0, none⟩))) ∧ Blk w' w.heap.size #[.string s] 106 ∧ Below w.heap.size w w' := by
  go_enter Tryd.func19, Tryd.ntmps19
  go_wp2_with fail
  go_ret
  exact ⟨rfl, Blk.new w _ _, (Below.refl _ _).alloc (Nat.le_refl _) _⟩
/-- What the law reads of the package's variables. -/
structure Env (w : World) (E : Nat → Addr) (B : Nat) : Prop where
  errs : Errs B w allKinds E
  low : B ≤ w.heap.size
  et : w.cell? ⟨14, 0, none⟩ = some etV
  etB : 14 < B
theorem Env.below {w w' : World} {E : Nat → Addr} {B : Nat} (h : Env w E B) (hb : Below B w w') : Env w' E B :=
  ⟨h.errs.below hb, Nat.le_trans h.low hb.size, (hb.cell (p := ⟨14, 0, none⟩) h.etB).trans h.et, h.etB⟩
end Go.Proofs.YtbningfdpibdkaaDoor
