/-
  reply: At: of which place the outermost Fault tells.
-/
import Derived.Test.YtbningfdpibdkaaDoorRpI
namespace Go.Proofs.YtbningfdpibdkaaDoor
open Go.RowKit
set_option linter.unusedVariables false
set_option linter.unusedSimpArgs false

def atN (l : List (ByteArray × Int)) : Int := match l with
  | [] => 0
  | (_, z) :: _ => z
set_option maxRecDepth 100000 in
theorem at_c (E : Nat → Addr) (l : List (ByteArray × Int)) (c : Nat) (v : Value) (w : World) (hg : w.cell? ⟨14, 0, none⟩ = some etV) (hC : Hid (Chain w E l c v)) :
    Calls Tryd.prog 39 #[v] w fun e w' => e = .returned (.int .i64 (atN l)) ∧ Below w.heap.size w w' := by
  obtain ⟨X, hX⟩ : ∃ z, z = w.heap.size := ⟨_, rfl⟩
  obtain ⟨W, hW⟩ : ∃ z, z = w.alloc (.cells #[.pointer none] 32) := ⟨_, rfl⟩
  have hb : Below w.heap.size w W := by rw [hW]; exact (Below.refl _ _).alloc (Nat.le_refl _) _
  have hB : Blk W X #[.pointer none] 32 := by rw [hW, hX]; exact Blk.new w _ _
  have hg2 : W.cell? ⟨14, 0, none⟩ = some etV := (hb.cell (p := ⟨14, 0, none⟩) (World.block_lt_of_cell? w ⟨14, 0, none⟩ hg)).trans hg
  have hx0 : W.cell? ⟨X, 0, none⟩ = some (.pointer none) := hB.cell 0 _ rfl
  have hf0 : W.frozen? ⟨X, 0, none⟩ = false := hB.free 0
  have HB := Lib.hid hb
  have HW := Lib.hid hW
  have HX := Lib.hid hX
  have HC2 := Lib.hid (hC.out.below hb)
  cases l with
  | nil =>
    have hv : v = erV E c := hC.out
    subst hv
    by_cases h0 : c = 0
    · subst h0
      rw [erV_nil]
      have HA := Lib.hid (as_nil (.iface 90 (.pointer (some ⟨X, 0, none⟩))) W)
      clear hC hb hB hg hg2 hx0 hf0 hX hW HC2
      go_enter Tryd.func39, Tryd.ntmps39
      go_wp2_with fail
      rw [← HW.out, ← HX.out]
      refine HA.out.mono ?_
      rintro e w1 ⟨rfl, rfl⟩
      go_wp2_with fail
      go_ret
      exact ⟨rfl, HB.out⟩
    · rw [erV_some E c h0]
      have HA := Lib.hid (as_miss (E c) ⟨X, 0, none⟩ (.pointer none) W hg2 hx0)
      clear hC hb hB hg hg2 hx0 hf0 hX hW HC2
      go_enter Tryd.func39, Tryd.ntmps39
      go_wp2_with fail
      rw [← HW.out, ← HX.out]
      refine HA.out.mono ?_
      rintro e w1 ⟨rfl, hb1⟩
      have HB1 := Lib.hid (HB.out.trans (hb1.mono HB.out.size))
      clear hb1
      go_wp2_with fail
      go_ret
      exact ⟨rfl, HB1.out⟩
  | cons x r =>
    obtain ⟨op, z⟩ := x
    obtain ⟨g, v', hv, hblk, _⟩ := HC2.out
    subst hv
    have HA := Lib.hid (as_fault g X (.pointer none) W hg2 hx0 hf0)
    have HK := Lib.hid hblk
    have HXT := Lib.hid hB
    unfold faultV at HA
    clear hC hb hB hg hg2 hx0 hf0 hX hW HC2 hblk
    unfold faultV
    go_enter Tryd.func39, Tryd.ntmps39
    go_wp2_with fail
    rw [← HW.out, ← HX.out]
    refine HA.out.mono ?_
    rintro e w1 ⟨rfl, hx1, ht1⟩
    have hk1 : Blk w1 g #[.string op, .int .i64 z, v'] 34 := ht1.blk HK.out (fun e => by
      have h2 := HXT.out
      have e' : g = X := e
      rw [← e'] at h2
      have h3 := h2.symm.trans HK.out
      simp at h3)
    have c1 : w1.cell? ⟨g, 1, none⟩ = some (.int .i64 z) := hk1.cell 1 _ rfl
    have HB1 : Hid (Below w.heap.size w w1) := HB.out.trans (ht1.below HB.out.size (fun k hk => by have h1 : k = X := hk; have h2 := HX.out; omega))
    clear hk1 ht1
    go_wp2_with fail
    go_ret
    exact ⟨rfl, HB1.out⟩
end Go.Proofs.YtbningfdpibdkaaDoor
