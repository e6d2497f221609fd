/-
  book: each deed's answer, of the book and of the document's.
-/
import Derived.Test.YtdebldpmloignaaDoorBka
import Derived.Test.YtdebldpmloignaaDoorBokZ
namespace Go.Proofs.YtdebldpmloignaaDoor
open Go.RowKit
set_option linter.unusedVariables false
set_option linter.unusedSimpArgs false

theorem ror_eqIn_same (a b : Int) (s : Bool) (c d e : Int) (w : World) : (Op.equalIn 10000 97 (.agg #[.int .i64 a, .int .i64 b, .bool s, .int .i64 c, .int .i64 d, .int .i64 e]) (.agg #[.int .i64 a, .int .i64 b, .bool s, .int .i64 c, .int .i64 d, .int .i64 e])).run Tryd.prog w = .ok true w := by
  have hp : Tryd.prog.stoodInHeld 97 = false := by kernel_rfl
  rw [show (10000 : Nat) = 9999 + 1 from rfl, run_equalIn_agg w 9999 97 _ _ (by kernel_rfl) hp]
  have u3 := Tryd.underlying3
  have u4 := Tryd.underlying4
  simp only [Program.fieldsOf, Tryd.underlying97]
  go_simp
theorem ror_neq_same (a b : Int) (s : Bool) (c d e : Int) (w : World) : (binOp .neq 97 (.agg #[.int .i64 a, .int .i64 b, .bool s, .int .i64 c, .int .i64 d, .int .i64 e]) (.agg #[.int .i64 a, .int .i64 b, .bool s, .int .i64 c, .int .i64 d, .int .i64 e])).run Tryd.prog w = .ok (.bool false) w := by
  have hp : Tryd.prog.stoodInHeld 97 = false := by kernel_rfl
  rw [run_neq_struct, show (10000 : Nat) = 9999 + 1 from rfl, run_equalIn_agg w 9999 97 _ _ (by kernel_rfl) hp]
  have u3 := Tryd.underlying3
  have u4 := Tryd.underlying4
  simp only [Program.fieldsOf, Tryd.underlying97]
  go_simp
theorem ror_eqGuardType : Tryd.prog.eqGuardType Tryd.prog.depth 97 = false := by kernel_rfl
theorem ror_guard (op : BinOp) (x y : Operand) (xs ys : Array Value) (w : World) : (eqGuard op 97 x y (.agg xs) (.agg ys)).run Tryd.prog w = .ok () w := run_eqGuard_agg w op 97 x y _ _ (by kernel_rfl)
set_option maxRecDepth 100000 in
set_option maxHeartbeats 1000000 in
theorem form_l (xi xt : Int) (xs : Bool) (xp xl xq : Int) (w : World) : Calls Tryd.prog 56 #[.agg #[.int .i64 xi, .int .i64 xt, .bool xs, .int .i64 xp, .int .i64 xl, .int .i64 xq]] w fun e w' => e = .returned (.agg #[.int .i64 xi, .int .i64 xt, .bool xs, .int .i64 xp, .int .i64 xl, .int .i64 xq]) ∧ Below w.heap.size w w' := by
  have HB : Hid (Below w.heap.size w ((w.alloc (.cells #[.int .i64 xi, .int .i64 xt, .bool xs, .int .i64 xp, .int .i64 xl, .int .i64 xq] 67)).alloc (.cells #[.int .i64 xi, .int .i64 xt, .bool xs, .int .i64 xp, .int .i64 xl, .int .i64 xq] 97))) := by
    show Below _ _ _
    exact ((Below.refl _ w).alloc (Nat.le_refl _) _).alloc (by simp) _
  go_enter Tryd.func56, Tryd.ntmps56
  go_wp2_with fail
  exact bodyPost_last Tryd.results56 rfl (w.heap.size + 1) rfl (by simp) _ Tryd.underlying97 rfl 6 size_ror rfl ⟨rfl, HB.out⟩
theorem form_c (x : Ord) (w : World) : Calls Tryd.prog 56 #[.agg x.cells.toArray] w fun e w' => e = .returned (.agg x.cells.toArray) ∧ Below w.heap.size w w' := form_l x.id x.tenant x.sell x.price x.lots x.seq w
set_option maxRecDepth 100000 in
set_option maxHeartbeats 4000000 in
/-- Rows of orders, in the program's form and in the document's. -/
theorem same13_c (A1 : Option Addr) (c1 : Nat) (A2 : Option Addr) (c2 : Nat) (xs : List Ord) (w : World) (h1 : Hid (RdRows w w.heap.size Ord.cells 6 A1 xs.length xs)) (h2 : Hid (RdRows w w.heap.size Ord.cells 6 A2 xs.length xs)) (hN : xs.length ≤ 1000000) :
    Calls Tryd.prog 61 #[.slice A1 xs.length c1, .slice A2 xs.length c2] w fun e w' => e = .returned (.bool true) ∧ Below w.heap.size w w' := by
  go_enter Tryd.func61, Tryd.ntmps61
  go_wp2_with fail
  go_loopw [5] (fun s5 wx => ∃ (kk : Nat) (wr : World), wr = wx ∧ kk ≤ xs.length ∧ s5 = .int .i64 kk ∧ Below w.heap.size w wr) (fun s5 _ => xs.length - (intOf s5).toNat)
  case atStart => exact ⟨0, _, rfl, Nat.zero_le _, rfl, Below.refl _ _⟩
  case round =>
    obtain ⟨kk, wr, rfl, hkk, rfl, hbl⟩ := hrel
    by_cases hlt : kk < xs.length
    · obtain ⟨b1, o1, hA1, hb1, hr1⟩ := h1.out.2 (by omega)
      obtain ⟨b2, o2, hA2, hb2, hr2⟩ := h2.out.2 (by omega)
      subst hA1
      subst hA2
      obtain ⟨x, hx⟩ : ∃ x, xs[kk]? = some x := ⟨_, List.getElem?_eq_getElem hlt⟩
      have r1 := rangeAt_below (hr1 kk x hx) hbl hb1
      have r2 := rangeAt_below (hr2 kk x hx) hbl hb2
      have HL1 : Hid (b1 < wr.heap.size) := Nat.lt_of_lt_of_le hb1 hbl.size
      have HL2 : Hid (b2 < wr.heap.size) := Nat.lt_of_lt_of_le hb2 hbl.size
      clear hr1 hr2 hx
      obtain ⟨xi, xt, xs', xp, xl, xq⟩ := x
      have r1 : wr.rangeAt b1 (o1 + kk * 6) [.int .i64 xi, .int .i64 xt, .bool xs', .int .i64 xp, .int .i64 xl, .int .i64 xq] := r1
      have r2 : wr.rangeAt b2 (o2 + kk * 6) [.int .i64 xi, .int .i64 xt, .bool xs', .int .i64 xp, .int .i64 xl, .int .i64 xq] := r2
      have hne := ror_neq_same xi xt xs' xp xl xq
      have hgd := ror_guard
      have k0 : (0 : Int) ≤ (kk : Int) := by omega
      have k1 : (kk : Int) < (xs.length : Int) := by omega
      go_wp2_with fail
      refine wp_region_noPanic ?_
      refine wp_region_held_drew (S := (fun w' => w'.rangeAt b1 (o1 + kk * 6) [.int .i64 xi, .int .i64 xt, .bool xs', .int .i64 xp, .int .i64 xl, .int .i64 xq] ∧ w'.rangeAt b2 (o2 + kk * 6) [.int .i64 xi, .int .i64 xt, .bool xs', .int .i64 xp, .int .i64 xl, .int .i64 xq])) (by kernel_rfl) ⟨r1, r2⟩ (fun hHeld => ?_)
      refine wpAnyH_take (i := 0) (v := ?_) rfl (by kernel_rfl) (by kernel_rfl) (by kernel_rfl) (fun _ _ _ h => h) (Or.inl ⟨by rfl, ?_⟩) hHeld ?_
      rotate_left
      focus
        intro w hSw
        clear hSw
        go_simp
        try with_reducible rfl
      try simp only [Act.put, List.getElem_toArray, List.getElem_cons_zero, List.getElem_cons_succ, List.setIfInBounds_toArray, List.set_cons_zero, List.set_cons_succ]
      refine wpAnyH_take (i := 1) (v := ?_) rfl (by kernel_rfl) (by kernel_rfl) (by kernel_rfl) (fun _ _ _ h => h) (Or.inl ⟨by rfl, ?_⟩) hHeld ?_
      rotate_left
      focus
        intro w hSw
        clear hSw
        go_simp
        try with_reducible rfl
      try simp only [Act.put, List.getElem_toArray, List.getElem_cons_zero, List.getElem_cons_succ, List.setIfInBounds_toArray, List.set_cons_zero, List.set_cons_succ]
      refine wpAnyH_take (i := 2) (v := ?_) rfl (by kernel_rfl) (by kernel_rfl) (by kernel_rfl) (fun _ _ _ h => h) (Or.inl ⟨by rfl, ?_⟩) hHeld ?_
      rotate_left
      focus
        intro w hSw
        clear hSw
        go_simp
        try with_reducible rfl
      try simp only [Act.put, List.getElem_toArray, List.getElem_cons_zero, List.getElem_cons_succ, List.setIfInBounds_toArray, List.set_cons_zero, List.set_cons_succ]
      refine wpAnyH_take (i := 3) rfl (by kernel_rfl) (by kernel_rfl) (by kernel_rfl) (fun _ _ _ h => h) (yieldsIf_load_mid (by rfl) 67 _ rfl b1 (o1 + kk * 6) rfl [.int .i64 xi, .int .i64 xt, .bool xs', .int .i64 xp, .int .i64 xl, .int .i64 xq] _ (fun w h => h.1) Tryd.underlying67 rfl size_ord) hHeld ?_
      try simp only [Act.put, List.getElem_toArray, List.getElem_cons_zero, List.getElem_cons_succ, List.setIfInBounds_toArray, List.set_cons_zero, List.set_cons_succ]
      refine wpAnyH_take (i := 5) (v := ?_) rfl (by kernel_rfl) (by kernel_rfl) (by kernel_rfl) (fun _ _ _ h => h) (Or.inl ⟨by rfl, ?_⟩) hHeld ?_
      rotate_left
      focus
        intro w hSw
        clear hSw
        go_simp
        try with_reducible rfl
      try simp only [Act.put, List.getElem_toArray, List.getElem_cons_zero, List.getElem_cons_succ, List.setIfInBounds_toArray, List.set_cons_zero, List.set_cons_succ]
      refine wpAnyH_take (i := 6) (v := ?_) rfl (by kernel_rfl) (by kernel_rfl) (by kernel_rfl) (fun _ _ _ h => h) (Or.inl ⟨by rfl, ?_⟩) hHeld ?_
      rotate_left
      focus
        intro w hSw
        clear hSw
        go_simp
        try with_reducible rfl
      try simp only [Act.put, List.getElem_toArray, List.getElem_cons_zero, List.getElem_cons_succ, List.setIfInBounds_toArray, List.set_cons_zero, List.set_cons_succ]
      refine wpAnyH_take (i := 7) (v := ?_) rfl (by kernel_rfl) (by kernel_rfl) (by kernel_rfl) (fun _ _ _ h => h) (Or.inl ⟨by rfl, ?_⟩) hHeld ?_
      rotate_left
      focus
        intro w hSw
        clear hSw
        go_simp
        try with_reducible rfl
      try simp only [Act.put, List.getElem_toArray, List.getElem_cons_zero, List.getElem_cons_succ, List.setIfInBounds_toArray, List.set_cons_zero, List.set_cons_succ]
      refine wpAnyH_take (i := 8) rfl (by kernel_rfl) (by kernel_rfl) (by kernel_rfl) (fun _ _ _ h => h) (yieldsIf_load_mid (by rfl) 97 _ rfl b2 (o2 + kk * 6) rfl [.int .i64 xi, .int .i64 xt, .bool xs', .int .i64 xp, .int .i64 xl, .int .i64 xq] _ (fun w h => h.2) Tryd.underlying97 rfl size_ror) hHeld ?_
      try simp only [Act.put, List.getElem_toArray, List.getElem_cons_zero, List.getElem_cons_succ, List.setIfInBounds_toArray, List.set_cons_zero, List.set_cons_succ]
      refine wpAnyH_ready (rs := [4]) (by kernel_rfl) (by simp) ?_
      refine AllReadyH.cons rfl (fun K hK => ?_) AllReadyH.nil
      go_simp
      refine (form_l xi xt xs' xp xl xq _).mono ?_
      rintro e W2 ⟨rfl, hb2⟩
      have hb2 : Below wr.heap.size wr W2 := ⟨hb2.os, hb2.tape, hb2.output, hb2.size, hb2.block⟩
      have r1 := rangeAt_below r1 hb2 HL1.out
      have r2 := rangeAt_below r2 hb2 HL2.out
      have HB2 := Lib.hid (hbl.trans (hb2.mono hbl.size))
      clear hb2
      refine hK.out _ _ ⟨r1, r2⟩ (fun hHeld => ?_)
      clear hK K
      try simp only [Act.put, List.getElem_toArray, List.getElem_cons_zero, List.getElem_cons_succ, List.setIfInBounds_toArray, List.set_cons_zero, List.set_cons_succ]
      refine wpAnyH_take (i := 9) (v := ?_) rfl (by kernel_rfl) (by kernel_rfl) (by kernel_rfl) (fun _ _ _ h => h) (Or.inl ⟨by rfl, ?_⟩) hHeld ?_
      rotate_left
      focus
        intro w hSw
        clear hSw
        go_simp
        try with_reducible rfl
      try simp only [Act.put, List.getElem_toArray, List.getElem_cons_zero, List.getElem_cons_succ, List.setIfInBounds_toArray, List.set_cons_zero, List.set_cons_succ]
      refine wpAnyH_done (by kernel_rfl) ?_ _
      refine NoPanic.normal ?_
      go_wp2_with fail
      go_roundw
      case rel => exact ⟨kk + 1, _, rfl, by omega, by go_num, HB2.out⟩
      case measure => simp [intOf]; omega
    · obtain rfl : kk = xs.length := by omega
      go_wp2_with fail
      go_ret
      exact ⟨rfl, hbl⟩
end Go.Proofs.YtdebldpmloignaaDoor
