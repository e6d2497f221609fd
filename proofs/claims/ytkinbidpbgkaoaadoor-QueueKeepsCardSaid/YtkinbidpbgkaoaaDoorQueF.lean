/-
  queue: Push's errors, DropJob; same.
-/
import Derived.Test.YtkinbidpbgkaoaaDoorQueE
namespace Go.Proofs.YtkinbidpbgkaoaaDoor
open Go.RowKit
set_option linter.unusedVariables false

set_option maxRecDepth 100000 in
theorem push_range (Er : Nat → Addr) (q : Nat) (t : Tsk) (band : Int) (w : World) (hE : w.cell? ⟨0, 0, none⟩ = some (erV Er 1)) (hEl : 0 < w.heap.size) (hb : band < 0 ∨ 3 ≤ band) :
    Calls Tryd.prog 17 #[.pointer (some ⟨q, 0, none⟩), .agg t.cells.toArray, .int .i64 band] w fun e w' => e = .returned (erV Er 1) ∧ Below w.heap.size w w' := by
  obtain ⟨j0, a0⟩ := t
  simp only [Tsk.cells]
  have hEne : ¬ 0 = w.heap.size := by omega
  by_cases h1 : band < 0
  · have d1 : decide (band < 0) = true := by simpa using h1
    clear hb h1
    go_enter Tryd.func17, Tryd.ntmps17
    go_wp2_with fail
    go_ret
    exact ⟨rfl, (Below.refl _ w).alloc (Nat.le_refl _) _⟩
  · have d1 : decide (band < 0) = false := by simpa using h1
    have d2 : decide (3 ≤ band) = true := by simp; omega
    clear hb h1
    go_enter Tryd.func17, Tryd.ntmps17
    go_wp2_with fail
    go_ret
    exact ⟨rfl, (Below.refl _ w).alloc (Nat.le_refl _) _⟩
set_option maxRecDepth 100000 in
theorem push_dup (Er : Nat → Addr) (B q : Nat) (l : Nat → List Tsk) (t : Tsk) (b : Nat) (hb : b < 3) (w : World) (hE : w.cell? ⟨2, 0, none⟩ = some (erV Er 6)) (hEl : 2 < w.heap.size) (h : Hid (QAt w B q l)) (hN : (catT l 3).length ≤ 100000) (hin : (catT l 3).any (Tsk.beq t) = true) :
    Calls Tryd.prog 17 #[.pointer (some ⟨q, 0, none⟩), .agg t.cells.toArray, .int .i64 b] w fun e w' => e = .returned (erV Er 6) ∧ Below w.heap.size w w' := by
  obtain ⟨W, hW⟩ : ∃ W : World, W = w.alloc (.cells t.cells.toArray 45) := ⟨_, rfl⟩
  have hbW : Below w.heap.size w W := by rw [hW]; exact (Below.refl _ w).alloc (Nat.le_refl _) _
  have HIS := Lib.hid (qis_c B q l t W (show Hid _ from h.out.below hbW) (by omega))
  rw [hin] at HIS
  have HW := Lib.hid hW
  clear hW hin
  obtain ⟨j0, a0⟩ := t
  simp only [Tsk.cells] at *
  have d1 : decide ((b : Int) < 0) = false := by simp
  have d2 : decide ((3 : Int) ≤ b) = false := by simp; omega
  go_enter Tryd.func17, Tryd.ntmps17
  go_wp2_with fail
  rw [← HW.out]
  refine HIS.out.mono ?_
  rintro e w1 ⟨rfl, hb1⟩
  have hbw1 := hbW.trans (hb1.mono hbW.size)
  have hE1 := (hbw1.cell (p := ⟨2, 0, none⟩) hEl).trans hE
  clear hE
  go_wp2_with fail
  go_ret
  exact ⟨rfl, hbw1⟩
set_option maxRecDepth 100000 in
theorem isJob_c (job : Int) (cb : Nat) (x : Tsk) (w : World) (hc : w.heap[cb]? = some (.cells #[.int .i64 job] 3 (0, 0))) :
    Calls Tryd.prog 53 (#[.agg x.cells.toArray] ++ #[.pointer (some ⟨cb, 0, none⟩)]) w fun e w' => e = .returned (.bool (x.job == job)) ∧ Below w.heap.size w w' := by
  obtain ⟨j0, a0⟩ := x
  have hcl : cb < w.heap.size := (Array.getElem?_eq_some_iff.1 hc).1
  have hcne : ¬ cb = w.heap.size := by omega
  have c0 : w.cell? ⟨cb, 0, none⟩ = some (.int .i64 job) := cell_of_row w cb 0 _ _ _ hc
  clear hc
  show Calls Tryd.prog 53 #[.agg #[.int .i64 j0, .int .i64 a0], .pointer (some ⟨cb, 0, none⟩)] w _
  go_enter Tryd.func53, Tryd.ntmps53
  go_wp2_with fail
  go_ret
  exact ⟨rfl, (Below.refl _ w).alloc (Nat.le_refl _) _⟩
theorem egJob : ∀ args w, (callFunc 53 args).run Tryd.prog w = .ok (.enter 53 args) w := enters_of Tryd.func53 (by kernel_rfl) rfl
set_option maxRecDepth 100000 in
theorem dropJob_c (B q : Nat) (l : Nat → List Tsk) (v : Nat → Value) (job : Int) (w : World) (h : Hid (QV w B q l v)) (hN : (catT l 3).length ≤ 100000) :
    Calls Tryd.prog 24 #[.pointer (some ⟨q, 0, none⟩), .int .i64 job] w fun e w' => e = .returned (.int .i64 (((catT l 3).length : Int) - ((catT (cutAll (fun x => x.job == job) l) 3).length : Int))) ∧ ∃ v', QV w' B q (cutAll (fun x => x.job == job) l) v' ∧ QStep w w' q v v' := by
  obtain ⟨W, hW⟩ : ∃ W : World, W = w.alloc (.cells #[.int .i64 job] 3) := ⟨_, rfl⟩
  have hbW : Below w.heap.size w W := by rw [hW]; exact (Below.refl _ w).alloc (Nat.le_refl _) _
  have hq := h.out.lt
  have HC := Lib.hid (cut_c B q w.heap.size #[.int .i64 job] 3 l v (fun x => x.job == job) 53 #[.pointer (some ⟨w.heap.size, 0, none⟩)] egJob W (show Hid _ from h.out.below hbW) hN
    (show Hid _ from (by rw [hW]; exact alloc_new' rfl)) (by omega) (show Hid _ from fun i hi e => by have := ((h.out.row i hi).lt _ e).2; omega) (show Hid _ from fun W1 x h1 => isJob_c job w.heap.size x W1 h1))
  have HW := Lib.hid hW
  have HB := Lib.hid hbW
  clear hW hbW
  generalize cutAll (fun x => x.job == job) l = l2 at HC ⊢
  generalize (catT l2 3).length = n2 at HC ⊢
  generalize (catT l 3).length = n1 at HC ⊢
  go_enter Tryd.func24, Tryd.ntmps24
  go_wp2_with fail
  rw [← HW.out]
  refine HC.out.mono ?_
  rintro e w1 ⟨rfl, v', hq', hs'⟩
  go_wp2_with fail
  go_ret
  exact ⟨rfl, v', hq', (QStep.ofBelow HB.out).trans (h.out.below HB.out) hq hs'⟩
set_option maxRecDepth 100000 in
theorem same_true (A : Option Addr) (c : Nat) (D : Option Addr) (d : Nat) (xs : List Tsk) (w : World) (ha : Hid (RdRows w w.heap.size Tsk.cells 2 A xs.length xs)) (hd : Hid (RdRows w w.heap.size Tsk.cells 2 D xs.length xs)) (hn : xs.length ≤ 1000000) :
    Calls Tryd.prog 27 #[.slice A xs.length c, .slice D xs.length d] w fun e w' => e = .returned (.bool true) ∧ Below w.heap.size w w' := by
  go_enter Tryd.func27, Tryd.ntmps27
  go_wp2_with fail
  go_loopw [5] (fun s5 wx => ∃ (kk : Nat) (wr : World), wr = wx ∧ kk ≤ xs.length ∧ s5 = .int .i64 kk ∧ Below w.heap.size w wr) (fun s5 _ => xs.length - (intOf s5).toNat)
  case atStart => exact ⟨0, _, rfl, by omega, rfl, Below.refl _ _⟩
  case round =>
    obtain ⟨kk, wr, rfl, hkk, rfl, hbl⟩ := hrel
    by_cases hlt : kk < xs.length
    · obtain ⟨b1, o1, hA1, hb1, hr1⟩ := ha.out.2 (by omega)
      obtain ⟨b2, o2, hA2, hb2, hr2⟩ := hd.out.2 (by omega)
      subst hA1
      subst hA2
      obtain ⟨x, hx⟩ : ∃ x, xs[kk]? = some x := ⟨_, List.getElem?_eq_getElem hlt⟩
      have r1 := rangeAt_below (hr1 kk x hx) hbl hb1
      have r2 := rangeAt_below (hr2 kk x hx) hbl hb2
      obtain ⟨j0, a0⟩ := x
      have c0 : wr.cell? ⟨b1, o1 + kk * 2, none⟩ = some (.int .i64 j0) := r1 0 _ rfl
      have c1 : wr.cell? ⟨b1, o1 + kk * 2 + 1, none⟩ = some (.int .i64 a0) := r1 1 _ rfl
      have e0 : wr.cell? ⟨b2, o2 + kk * 2, none⟩ = some (.int .i64 j0) := r2 0 _ rfl
      have e1 : wr.cell? ⟨b2, o2 + kk * 2 + 1, none⟩ = some (.int .i64 a0) := r2 1 _ rfl
      have hne : ∀ w, (binOp .neq 45 (.agg #[.int .i64 j0, .int .i64 a0]) (.agg #[.int .i64 j0, .int .i64 a0])).run Tryd.prog w = .ok (.bool false) w := fun w => by rw [task_neq]; simp
      have hgd := task_guard .neq
      clear hr1 hr2 hx r1 r2
      go_wp2_with fail
      go_quiet (fail)
      go_wp2_with fail
      go_roundw
      case rel => exact ⟨kk + 1, _, rfl, by omega, by go_num, below_drewN hbl _⟩
      case measure => simp [intOf]; omega
    · have hk : kk = xs.length := by omega
      subst hk
      go_wp2_with fail
      go_ret
      exact ⟨rfl, hbl⟩
end Go.Proofs.YtkinbidpbgkaoaaDoor
