/-
  queue: Drop; the nil queue.
-/
import Derived.Test.YtkinbidpbgkaoaaDoorQueF
namespace Go.Proofs.YtkinbidpbgkaoaaDoor
open Go.RowKit
set_option linter.unusedVariables false

set_option maxRecDepth 100000 in
theorem isTask_c (t : Tsk) (cb : Nat) (x : Tsk) (w : World) (hc : w.heap[cb]? = some (.cells t.cells.toArray 45 (0, 0))) :
    Calls Tryd.prog 52 (#[.agg x.cells.toArray] ++ #[.pointer (some ⟨cb, 0, none⟩)]) w fun e w' => e = .returned (.bool (Tsk.beq x t)) ∧ Below w.heap.size w w' := by
  obtain ⟨j0, a0⟩ := x
  obtain ⟨j1, a1⟩ := t
  have hcl : cb < w.heap.size := (Array.getElem?_eq_some_iff.1 hc).1
  have hcne : ¬ cb = w.heap.size := by omega
  have c0 : w.cell? ⟨cb, 0, none⟩ = some (.int .i64 j1) := cell_of_row w cb 0 _ _ _ hc
  have c1 : w.cell? ⟨cb, 1, none⟩ = some (.int .i64 a1) := cell_of_row w cb 1 _ _ _ hc
  clear hc
  have heq := fun w => task_eql j0 a0 j1 a1 w
  have hgd := task_guard .eql
  have HQ : Hid (Tsk.beq ⟨j0, a0⟩ ⟨j1, a1⟩ = (j0 == j1 && a0 == a1)) := rfl
  generalize (j0 == j1 && a0 == a1) = b at heq HQ
  show Calls Tryd.prog 52 #[.agg #[.int .i64 j0, .int .i64 a0], .pointer (some ⟨cb, 0, none⟩)] w _
  go_enter Tryd.func52, Tryd.ntmps52
  go_wp2_with fail
  go_ret
  exact ⟨by rw [HQ.out]; rfl, (Below.refl _ w).alloc (Nat.le_refl _) _⟩
theorem egDrop : ∀ args w, (callFunc 52 args).run Tryd.prog w = .ok (.enter 52 args) w := enters_of Tryd.func52 (by kernel_rfl) rfl
set_option maxRecDepth 100000 in
theorem drop_c (Er : Nat → Addr) (B q : Nat) (l : Nat → List Tsk) (v : Nat → Value) (t : Tsk) (w : World) (hB : B ≤ w.heap.size) (hE : w.cell? ⟨5, 0, none⟩ = some (erV Er 5)) (hEl : 5 < B) (h : Hid (QV w B q l v)) (hN : (catT l 3).length ≤ 100000) (k : Nat) (hk : k = if (catT l 3).length = (catT (cutAll (fun x => Tsk.beq x t) l) 3).length then 5 else 0) :
    Calls Tryd.prog 23 #[.pointer (some ⟨q, 0, none⟩), .agg t.cells.toArray] w fun e w' => e = .returned (erV Er k) ∧ ∃ v', QV w' B q (cutAll (fun x => Tsk.beq x t) l) v' ∧ QStep w w' q v v' := by
  obtain ⟨W, hW⟩ : ∃ W : World, W = w.alloc (.cells t.cells.toArray 45) := ⟨_, rfl⟩
  have hbW : Below w.heap.size w W := by rw [hW]; exact (Below.refl _ w).alloc (Nat.le_refl _) _
  have hq := h.out.lt
  have hqW := h.out.below hbW
  have HC := Lib.hid (cut_c B q w.heap.size t.cells.toArray 45 l v (fun x => Tsk.beq x t) 52 #[.pointer (some ⟨w.heap.size, 0, none⟩)] egDrop W (show Hid _ from hqW) hN
    (show Hid _ from (by rw [hW]; exact alloc_new' rfl)) (by omega) (show Hid _ from fun i hi e => by have := ((h.out.row i hi).lt _ e).2; omega) (show Hid _ from fun W1 x h1 => isTask_c t w.heap.size x W1 h1))
  have HW := Lib.hid hW
  have HB := Lib.hid hbW
  have HQW := Lib.hid hqW
  have hlen := cut_len (fun x => Tsk.beq x t) l 3 3
  change (catT (cutAll (fun x => Tsk.beq x t) l) 3).length ≤ _ at hlen
  clear hW hbW hqW
  generalize cutAll (fun x => Tsk.beq x t) l = l2 at HC hk hlen ⊢
  generalize (catT l2 3).length = n2 at HC hk hlen
  generalize (catT l 3).length = n1 at HC hk hN hlen
  obtain ⟨j0, a0⟩ := t
  simp only [Tsk.cells] at *
  by_cases hnn : n1 = n2
  · rw [if_pos hnn] at hk
    subst hk
    have hd : (((n1 : Int) - (n2 : Int)) == 0) = true := by simp; omega
    go_enter Tryd.func23, Tryd.ntmps23
    go_wp2_with fail
    rw [← HW.out]
    refine HC.out.mono ?_
    rintro e w1 ⟨rfl, v', hq', hs'⟩
    have hE1 : w1.cell? ⟨5, 0, none⟩ = some (erV Er 5) := (((HB.out.mono hB).trans (hs'.below HQW.out)).cell (p := ⟨5, 0, none⟩) hEl).trans hE
    clear hE hnn
    go_wp2_with fail
    go_ret
    exact ⟨rfl, v', hq', (QStep.ofBelow HB.out).trans (h.out.below HB.out) hq hs'⟩
  · rw [if_neg hnn] at hk
    subst hk
    have hd : (((n1 : Int) - (n2 : Int)) == 0) = false := by simp; omega
    clear hnn
    go_enter Tryd.func23, Tryd.ntmps23
    go_wp2_with fail
    rw [← HW.out]
    refine HC.out.mono ?_
    rintro e w1 ⟨rfl, v', hq', hs'⟩
    go_wp2_with fail
    go_ret
    exact ⟨rfl, v', hq', (QStep.ofBelow HB.out).trans (h.out.below HB.out) hq hs'⟩
set_option maxRecDepth 100000 in
theorem nil_list  (w : World) : Calls Tryd.prog 18 #[.pointer none] w fun e w' => e = .returned (.slice none 0 0) ∧ Below w.heap.size w w' := by
  go_enter Tryd.func18, Tryd.ntmps18
  go_wp2_with fail
  go_ret
  exact ⟨rfl, Below.refl _ _⟩
set_option maxRecDepth 100000 in
theorem nil_len  (w : World) : Calls Tryd.prog 19 #[.pointer none] w fun e w' => e = .returned (.int .i64 0) ∧ Below w.heap.size w w' := by
  go_enter Tryd.func19, Tryd.ntmps19
  go_wp2_with (go_at_call 18; refine (nil_list _).mono ?_; rintro e w' ⟨rfl, hb⟩)
  go_ret
  exact ⟨rfl, hb⟩
end Go.Proofs.YtkinbidpbgkaoaaDoor
