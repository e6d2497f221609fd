/-
  MintUnder: awake, the plain law, the walk.
-/
import Derived.Test.YtkinbidpbgkaoaaMintF
namespace Go.Proofs.Ytkinbidpbgkaoaa
open Go.RowKit
set_option linter.unusedVariables false

theorem MintAt.kept {w w' : World} {b : Nat} {x : Int} {r : Option Nat} (h : MintAt w b x) (hg : w.grownBy w' r) (hne : some b ≠ r) : MintAt w' b x := by
  refine ⟨?_, h.2⟩
  have := h.1
  unfold One at this ⊢
  rw [hg.block _ (lt_of_block this) hne]
  exact this
theorem grown_of_below' {w w' : World} (h : Below w.heap.size w w') (r : Option Nat) : w.grownBy w' r := ⟨h.os, h.tape, h.output, h.size, fun k hk _ => h.block k hk⟩
theorem out_one : Mi.out (Mi.nx 1) = 5180492295206395165 := by decide +kernel
theorem script_0 (n c : Int) : (flat (Mi.script n c))[0]? = some (.int .i64 3) := by
  unfold Mi.script
  rw [flat_append, List.getElem?_append_left (by rw [flat_length]; decide)]
  rfl
theorem script_66 (n c : Int) : (flat (Mi.script n c))[66]? = some (.int .i64 1000) := by
  unfold Mi.script
  rw [flat_append, List.getElem?_append_left (by rw [flat_length]; decide)]
  rfl
theorem many_2 : Mi.many 2 = 2 := by decide

set_option maxRecDepth 100000 in
theorem awake41_c (w : World) :
    Calls Try.prog 4 #[] w fun e w' => e = .returned (.bool true) ∧ Below w.heap.size w w' := by
  go_enter Try.func4, Try.ntmps4
  go_wp2_with fail
  refine (new_c 1 w (by omega) (by omega)).mono ?_
  rintro e w1 ⟨rfl, hw1⟩
  have hm1 : Hid (MintAt w1 w.heap.size 1) := by rw [hw1]; exact ⟨alloc_new' rfl, by omega, by omega⟩
  have hb1 : Below w.heap.size w w1 := by rw [hw1]; exact below_grow w _
  have hbig : w.heap.size < w1.heap.size := by rw [hw1]; simp
  clear hw1
  go_wp2_with fail
  refine (script_c 7 2 w1 (by omega) (show (7 : Int) < 18446744073709551616 by omega)).mono ?_
  rintro e w2 ⟨v, rfl, hown, hb2⟩
  rw [many_2] at hown
  have hm2 : Hid (MintAt w2 w.heap.size 1) := hm1.out.kept (grown_of_below' hb2 none) (by simp)
  have hne := own_ne_one hown hm2.out.1 (by decide)
  have hb2' := hb1.trans (hb2.mono hb1.size)
  have HO := Lib.hid hown
  clear hown hb2 hb1 hm1
  go_wp2_with fail
  refine (next_c w.heap.size 1 w2 hm2.out).mono ?_
  rintro e w3 ⟨rfl, hm3, hg3⟩
  have hown3 := HO.out.kept hg3 (.inr hne)
  obtain ⟨g, cap, rfl, hcap, hbg, hgl, hcell⟩ := own_open hown3 (by omega)
  have hc1 : w3.cell? ⟨g, 0, none⟩ = some (.int .i64 3) := hcell 0 _ (script_0 7 2)
  have hc2 : w3.cell? ⟨g, 66, none⟩ = some (.int .i64 1000) := hcell 66 _ (script_66 7 2)
  have hb3 : Below w.heap.size w w3 := hb2'.grown hg3 hb2'.size (by intro j hj; simp at hj; omega)
  have ho := out_one
  clear hown3 hcell HO hm3 hg3 hne
  go_wp2_with (go_at_call 7; refine (under_small _ _ _ (by omega)).mono ?_; rintro e w' ⟨rfl, rfl⟩)
  go_ret
  exact ⟨rfl, hb3⟩
end Go.Proofs.Ytkinbidpbgkaoaa
