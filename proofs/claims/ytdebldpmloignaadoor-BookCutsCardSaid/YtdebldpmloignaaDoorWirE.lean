/-
  wire: the reader: Text, Bool, End.
-/
import Derived.Test.YtdebldpmloignaaDoorWirD
namespace Go.Proofs.YtdebldpmloignaaDoor
open Go.RowKit
set_option linter.unusedVariables false

theorem ErrForm.below {w w' : World} {E : Nat → Addr} (h : ErrForm w E) (hb : Below w.heap.size w w') : ErrForm w' E :=
  (hb.cell (World.block_lt_of_cell? w ⟨1, 0, none⟩ h)).trans h
theorem ErrForm.turns {w w' : World} {E : Nat → Addr} {q : Nat} {s : ByteArray} {pos : Nat} {er : Value} {bad : Option Nat} (h : ErrForm w E) (hi : InV w E q s pos er bad) (ht : Turns (fun k => k = q) w w') : ErrForm w' E := by
  have hlt := World.block_lt_of_cell? w ⟨1, 0, none⟩ h
  have hne : ¬ 1 = q := fun e => by
    have h0 := hi.blk.cell 0 _ rfl
    subst e
    have h2 := h0.symm.trans h
    rw [erV_some E 3 (by decide)] at h2
    cases h2
  exact (World.cell?_of_block (w := w) (ht.block _ hlt hne)).trans h
theorem InV.drew {w : World} {E : Nat → Addr} {q : Nat} {s : ByteArray} {pos : Nat} {er : Value} {bad : Option Nat} (h : InV w E q s pos er bad) : InV w.drew E q s pos er bad :=
  ⟨h.blk, h.err.of (fun _ _ hb => hb), h.le⟩
theorem InW.drew {w : World} {E : Nat → Addr} {q : Nat} {s : ByteArray} {p : St} (h : InW w E q s p) : InW w.drew E q s p := by
  obtain ⟨er, h⟩ := h
  exact ⟨er, h.drew⟩
/-- Text, in plain words. -/
def rdT (s : ByteArray) (most : Int) (p : St) : ByteArray × St := let r := rdI s p
  match r.2.2 with
  | some _ => (ByteArray.empty, r.2)
  | none => if r.1 < 0 ∨ most < r.1 ∨ ((s.size - r.2.1 : Nat) : Int) < r.1 then (ByteArray.empty, (s.size, some p.1)) else (s.extract r.2.1 (r.2.1 + r.1.toNat), (r.2.1 + r.1.toNat, none))
def TextQ (w : World) (E : Nat → Addr) (q : Nat) (s : ByteArray) (r : ByteArray × St) (e : Ending) (w' : World) : Prop := e = .returned (.string r.1) ∧ InW w' E q s r.2 ∧ Turns (fun k => k = q) w w'
/-- Bool, in plain words. -/
def rdB (s : ByteArray) (p : St) : Bool × St := let r := rdI s p
  if r.1 = 0 then (false, r.2) else if r.1 = 1 then (true, r.2) else (false, (s.size, some p.1))
def BoolQ (w : World) (E : Nat → Addr) (q : Nat) (s : ByteArray) (r : Bool × St) (e : Ending) (w' : World) : Prop := e = .returned (.bool r.1) ∧ InW w' E q s r.2 ∧ Turns (fun k => k = q) w w'
set_option maxRecDepth 100000 in
set_option maxHeartbeats 2000000 in
theorem itext_c (E : Nat → Addr) (q : Nat) (s : ByteArray) (pos : Nat) (er : Value) (bad : Option Nat) (most : Int) (w : World) (h : Hid (InV w E q s pos er bad)) (hs : s.size ≤ 1000000) (hE : Hid (ErrForm w E)) :
    Calls Tryd.prog 24 #[.pointer (some ⟨q, 0, none⟩), .int .i64 most] w (TextQ w E q s (rdT s most (pos, bad))) := by
  have c1 := h.out.blk.cell 1 _ rfl
  obtain ⟨r, hr⟩ : ∃ r, rdI s (pos, bad) = r := ⟨_, rfl⟩
  have HINT := Lib.hid (iint_c E q s pos er bad w h hs hE)
  rw [hr] at HINT
  obtain ⟨z, pos1, bad1⟩ := r
  have HR0 := Lib.hid hr
  clear hr
  go_enter Tryd.func24, Tryd.ntmps24
  go_wp2_with fail
  refine (HINT.out).mono ?_
  rintro e w1 ⟨rfl, ⟨er1, hi1⟩, ht1⟩
  have HE1 := Lib.hid (hE.out.turns h.out ht1)
  have HT1 := Lib.hid ht1
  have HI1 := Lib.hid hi1
  clear ht1 hi1 c1 hE h HINT
  cases bad1 with
  | some y =>
    obtain ⟨g, rfl, hg⟩ := HI1.out.er_some
    have c2 := HI1.out.blk.cell 2 _ rfl
    unfold faultV at c2
    have hrd : rdT s most (pos, bad) = (ByteArray.empty, (pos1, some y)) := by unfold rdT; simp only [HR0.out]
    have HR : Hid (TextQ w E q s (rdT s most (pos, bad)) (.returned (.string ByteArray.empty)) w1) := by
      rw [hrd]
      exact ⟨rfl, ⟨_, HI1.out⟩, HT1.out⟩
    clear hg HI1 HE1 HT1 hrd
    go_wp2_with fail
    go_ret
    exact HR.out
  | none =>
    have her := HI1.out.er_nil
    subst her
    have c0 := HI1.out.blk.cell 0 _ rfl
    have c1 := HI1.out.blk.cell 1 _ rfl
    have c2 := HI1.out.blk.cell 2 _ rfl
    have f1 := HI1.out.blk.free 1
    have hle : pos1 ≤ s.size := HI1.out.le
    have HLEFT := Lib.hid (left_c E q s pos1 .nilIface none w1 HI1 hs)
    by_cases hz0 : z < 0
    · have hrd : rdT s most (pos, bad) = (ByteArray.empty, (s.size, some pos)) := by unfold rdT; simp only [HR0.out]; rw [if_pos (Or.inl hz0)]

      have HFF := Lib.hid (fun (w' : World) (hb : Below w1.heap.size w1 w') => fail_c E q s pos1 pos .nilIface none w' (Lib.hid (HI1.out.below hb)) (HE1.out.below hb))
      have HRR : Hid (∀ w2 w3, Below w1.heap.size w1 w2 → FailQ w2 E q s pos (.returned (.tuple #[])) w3 → TextQ w E q s (rdT s most (pos, bad)) (.returned (.string ByteArray.empty)) w3) := fun w2 w3 hb hf => by rw [hrd]; exact ⟨rfl, hf.2.1, (HT1.out.trans (Turns.of_below hb) (fun _ _ h => h)).trans hf.2.2 (fun _ _ h => h)⟩
      clear HI1 HE1 HT1 hrd
      go_wp2_with fail
      refine (HFF.out w1 (Below.refl _ _)).mono ?_
      rintro e w3 hf3
      obtain rfl : e = .returned (.tuple #[]) := hf3.1
      have HF3 := Lib.hid (HRR.out w1 w3 (Below.refl _ _) hf3)
      have c2z : ∃ g, w3.cell? ⟨q, 2, none⟩ = some (.iface 131 (.pointer (some ⟨g, 0, none⟩))) := by
        obtain ⟨_, ⟨er3, hi3⟩, _⟩ := hf3
        obtain ⟨g, rfl, _⟩ := hi3.er_some
        exact ⟨g, hi3.blk.cell 2 _ rfl⟩
      clear hf3
      obtain ⟨g, c2z⟩ := c2z
      go_wp2_with fail
      go_ret
      exact HF3.out
    · by_cases hz1 : most < z
      · have hrd : rdT s most (pos, bad) = (ByteArray.empty, (s.size, some pos)) := by unfold rdT; simp only [HR0.out]; rw [if_pos (Or.inr (Or.inl hz1))]

        have HFF := Lib.hid (fun (w' : World) (hb : Below w1.heap.size w1 w') => fail_c E q s pos1 pos .nilIface none w' (Lib.hid (HI1.out.below hb)) (HE1.out.below hb))
        have HRR : Hid (∀ w2 w3, Below w1.heap.size w1 w2 → FailQ w2 E q s pos (.returned (.tuple #[])) w3 → TextQ w E q s (rdT s most (pos, bad)) (.returned (.string ByteArray.empty)) w3) := fun w2 w3 hb hf => by rw [hrd]; exact ⟨rfl, hf.2.1, (HT1.out.trans (Turns.of_below hb) (fun _ _ h => h)).trans hf.2.2 (fun _ _ h => h)⟩
        clear HI1 HE1 HT1 hrd
        go_wp2_with fail
        refine (HFF.out w1 (Below.refl _ _)).mono ?_
        rintro e w3 hf3
        obtain rfl : e = .returned (.tuple #[]) := hf3.1
        have HF3 := Lib.hid (HRR.out w1 w3 (Below.refl _ _) hf3)
        have c2z : ∃ g, w3.cell? ⟨q, 2, none⟩ = some (.iface 131 (.pointer (some ⟨g, 0, none⟩))) := by
          obtain ⟨_, ⟨er3, hi3⟩, _⟩ := hf3
          obtain ⟨g, rfl, _⟩ := hi3.er_some
          exact ⟨g, hi3.blk.cell 2 _ rfl⟩
        clear hf3
        obtain ⟨g, c2z⟩ := c2z
        go_wp2_with fail
        go_ret
        exact HF3.out
      · by_cases hz2 : ((s.size - pos1 : Nat) : Int) < z
        · have hrd : rdT s most (pos, bad) = (ByteArray.empty, (s.size, some pos)) := by unfold rdT; simp only [HR0.out]; rw [if_pos (Or.inr (Or.inr hz2))]

          have HFF := Lib.hid (fun (w' : World) (hb : Below w1.heap.size w1 w') => fail_c E q s pos1 pos .nilIface none w' (Lib.hid (HI1.out.below hb)) (HE1.out.below hb))
          have HRR : Hid (∀ w2 w3, Below w1.heap.size w1 w2 → FailQ w2 E q s pos (.returned (.tuple #[])) w3 → TextQ w E q s (rdT s most (pos, bad)) (.returned (.string ByteArray.empty)) w3) := fun w2 w3 hb hf => by rw [hrd]; exact ⟨rfl, hf.2.1, (HT1.out.trans (Turns.of_below hb) (fun _ _ h => h)).trans hf.2.2 (fun _ _ h => h)⟩
          clear HI1 HE1 HT1 hrd
          go_wp2_with fail
          refine (HLEFT.out).mono ?_
          rintro e w2 ⟨rfl, hb2⟩
          have HB2 := Lib.hid hb2
          clear hb2
          go_wp2_with fail
          refine (HFF.out w2 HB2.out).mono ?_
          rintro e w3 hf3
          obtain rfl : e = .returned (.tuple #[]) := hf3.1
          have HF3 := Lib.hid (HRR.out w2 w3 HB2.out hf3)
          have c2z : ∃ g, w3.cell? ⟨q, 2, none⟩ = some (.iface 131 (.pointer (some ⟨g, 0, none⟩))) := by
            obtain ⟨_, ⟨er3, hi3⟩, _⟩ := hf3
            obtain ⟨g, rfl, _⟩ := hi3.er_some
            exact ⟨g, hi3.blk.cell 2 _ rfl⟩
          clear hf3
          obtain ⟨g, c2z⟩ := c2z
          go_wp2_with fail
          go_ret
          exact HF3.out
        · have hrd : rdT s most (pos, bad) = (s.extract pos1 (pos1 + z.toNat), (pos1 + z.toNat, none)) := by unfold rdT; simp only [HR0.out]; rw [if_neg (by omega)]
          have HRD := Lib.hid hrd
          clear hrd
          obtain ⟨m, rfl⟩ : ∃ m : Nat, z = m := ⟨z.toNat, by omega⟩
          have hm : pos1 + m ≤ s.size := by omega
          have HM := Lib.hid hm
          have hi : ((pos1 : Int) + (m : Int)) = ((pos1 + m : Nat) : Int) := by omega
          have HHI := Lib.hid hi
          have hsm : ((pos1 : Int) + (m : Int)) ≤ 1000000 := by omega
          have hnn : ¬ (m : Int) < 0 := by omega
          have hz2' : ¬ ((s.size - pos1 : Nat) : Int) < (m : Int) := by omega
          clear hm hi
          go_wp2_with fail
          refine (HLEFT.out).mono ?_
          rintro e w2 ⟨rfl, hb2⟩
          have HI2 := Lib.hid (HI1.out.below hb2)
          have c0' := HI2.out.blk.cell 0 _ rfl
          have c1' := HI2.out.blk.cell 1 _ rfl
          have c2' := HI2.out.blk.cell 2 _ rfl
          have f1' := HI2.out.blk.free 1
          have HB2 := Lib.hid hb2
          clear hb2 c0 c1 c2 f1
          go_wp2_with fail
          obtain ⟨P2, hP2⟩ : ∃ P2, P2 = pos1 + m := ⟨_, rfl⟩
          rw [HHI.out, ← hP2]
          have HF : Hid (TextQ w E q s (rdT s most (pos, bad)) (.returned (.string (s.extract pos1 P2))) (w2.setCell ⟨q, 1, none⟩ (.int .i64 P2))) := by
            show TextQ _ _ _ _ _ _ _
            rw [HRD.out, Int.toNat_natCast, ← hP2]
            refine ⟨rfl, ⟨.nilIface, HI2.out.blk.set 1 _, rfl, ?_⟩, (HT1.out.trans (Turns.of_below HB2.out) (fun _ _ h => h)).trans (Turns.set (F := fun k => k = q) rfl) (fun _ _ h => h)⟩
            have := HM.out
            show P2 ≤ s.size
            omega
          have d0 : (w2.setCell ⟨q, 1, none⟩ (.int .i64 P2)).cell? ⟨q, 0, none⟩ = some (.string s) := (HI2.out.blk.set 1 (.int .i64 P2)).cell 0 _ rfl
          have d1 : (w2.setCell ⟨q, 1, none⟩ (.int .i64 P2)).cell? ⟨q, 1, none⟩ = some (.int .i64 P2) := (HI2.out.blk.set 1 (.int .i64 P2)).cell 1 _ rfl
          have hP3 : (P2 : Int) ≤ (s.size : Int) := by have := HM.out; omega
          have hP4 : (P2 : Int) - (m : Int) = (pos1 : Int) := by omega
          have hP6 : IntKind.i64.wrap (pos1 : Int) = (pos1 : Int) := by have := HM.out; simp [IntKind.wrap, IntKind.signed, IntKind.bits]; omega
          have hP5 : (pos1 : Int) ≤ (P2 : Int) := by omega
          clear c0' c1' c2' f1' hz2' hnn hsm hle hz0 hz1 hz2 hP2
          generalize w2.setCell ⟨q, 1, none⟩ (.int .i64 P2) = w3 at HF d0 d1 ⊢
          refine wp_region_noPanic ?_
          refine wp_region_held_drew (S := (fun w' => w'.cell? ⟨q, 0, none⟩ = some (.string s) ∧ w'.cell? ⟨q, 1, none⟩ = some (.int .i64 P2))) (by kernel_rfl) ⟨d0, d1⟩ (fun hHeld => ?_)
          refine wpAnyH_take (i := 0) (v := ?_) rfl (by kernel_rfl) (by kernel_rfl) (by kernel_rfl) (fun _ _ _ h => h) (Or.inl ⟨by rfl, ?_⟩) hHeld ?_
          rotate_left
          focus
            intro w hSw
            clear hSw
            go_simp
            try with_reducible rfl
          try simp only [Act.put, List.getElem_toArray, List.getElem_cons_zero, List.getElem_cons_succ, List.setIfInBounds_toArray, List.set_cons_zero, List.set_cons_succ]
          refine wpAnyH_take (i := 1) (v := ?_) rfl (by kernel_rfl) (by kernel_rfl) (by kernel_rfl) (fun _ _ _ h => h) (Or.inl ⟨by rfl, ?_⟩) hHeld ?_
          rotate_left
          focus
            intro w hSw
            clear hSw
            go_simp
            try with_reducible rfl
          try simp only [Act.put, List.getElem_toArray, List.getElem_cons_zero, List.getElem_cons_succ, List.setIfInBounds_toArray, List.set_cons_zero, List.set_cons_succ]
          refine wpAnyH_take (i := 2) (v := ?_) rfl (by kernel_rfl) (by kernel_rfl) (by kernel_rfl) (fun _ _ _ h => h) (Or.inl ⟨by rfl, ?_⟩) hHeld ?_
          rotate_left
          focus
            intro w hSw
            clear hSw
            go_simp
            try with_reducible rfl
          try simp only [Act.put, List.getElem_toArray, List.getElem_cons_zero, List.getElem_cons_succ, List.setIfInBounds_toArray, List.set_cons_zero, List.set_cons_succ]
          refine wpAnyH_take (i := 3) (v := ?_) rfl (by kernel_rfl) (by kernel_rfl) (by kernel_rfl) (fun _ _ _ h => h) (Or.inl ⟨by rfl, ?_⟩) hHeld ?_
          rotate_left
          focus
            intro w hSw
            (try dsimp only at hSw)
            go_simp
            try with_reducible rfl
          try simp only [Act.put, List.getElem_toArray, List.getElem_cons_zero, List.getElem_cons_succ, List.setIfInBounds_toArray, List.set_cons_zero, List.set_cons_succ]
          refine wpAnyH_take (i := 4) (v := ?_) rfl (by kernel_rfl) (by kernel_rfl) (by kernel_rfl) (fun _ _ _ h => h) (Or.inl ⟨by rfl, ?_⟩) hHeld ?_
          rotate_left
          focus
            intro w hSw
            clear hSw
            go_simp
            try with_reducible rfl
          try simp only [Act.put, List.getElem_toArray, List.getElem_cons_zero, List.getElem_cons_succ, List.setIfInBounds_toArray, List.set_cons_zero, List.set_cons_succ]
          refine wpAnyH_take (i := 5) (v := ?_) rfl (by kernel_rfl) (by kernel_rfl) (by kernel_rfl) (fun _ _ _ h => h) (Or.inl ⟨by rfl, ?_⟩) hHeld ?_
          rotate_left
          focus
            intro w hSw
            clear hSw
            go_simp
            try with_reducible rfl
          try simp only [Act.put, List.getElem_toArray, List.getElem_cons_zero, List.getElem_cons_succ, List.setIfInBounds_toArray, List.set_cons_zero, List.set_cons_succ]
          refine wpAnyH_take (i := 6) (v := ?_) rfl (by kernel_rfl) (by kernel_rfl) (by kernel_rfl) (fun _ _ _ h => h) (Or.inl ⟨by rfl, ?_⟩) hHeld ?_
          rotate_left
          focus
            intro w hSw
            clear hSw
            go_simp
            try with_reducible rfl
          try simp only [Act.put, List.getElem_toArray, List.getElem_cons_zero, List.getElem_cons_succ, List.setIfInBounds_toArray, List.set_cons_zero, List.set_cons_succ]
          refine wpAnyH_take (i := 7) (v := ?_) rfl (by kernel_rfl) (by kernel_rfl) (by kernel_rfl) (fun _ _ _ h => h) (Or.inl ⟨by rfl, ?_⟩) hHeld ?_
          rotate_left
          focus
            intro w hSw
            (try dsimp only at hSw)
            go_simp
            try with_reducible rfl
          try simp only [Act.put, List.getElem_toArray, List.getElem_cons_zero, List.getElem_cons_succ, List.setIfInBounds_toArray, List.set_cons_zero, List.set_cons_succ]
          refine wpAnyH_take (i := 8) (v := ?_) rfl (by kernel_rfl) (by kernel_rfl) (by kernel_rfl) (fun _ _ _ h => h) (Or.inl ⟨by rfl, ?_⟩) hHeld ?_
          rotate_left
          focus
            intro w hSw
            clear hSw
            go_simp
            try with_reducible rfl
          try simp only [Act.put, List.getElem_toArray, List.getElem_cons_zero, List.getElem_cons_succ, List.setIfInBounds_toArray, List.set_cons_zero, List.set_cons_succ]
          refine wpAnyH_take (i := 9) (v := ?_) rfl (by kernel_rfl) (by kernel_rfl) (by kernel_rfl) (fun _ _ _ h => h) (Or.inl ⟨by rfl, ?_⟩) hHeld ?_
          rotate_left
          focus
            intro w hSw
            clear hSw
            go_simp
            try with_reducible rfl
          try simp only [Act.put, List.getElem_toArray, List.getElem_cons_zero, List.getElem_cons_succ, List.setIfInBounds_toArray, List.set_cons_zero, List.set_cons_succ]
          refine wpAnyH_take (i := 10) (v := ?_) rfl (by kernel_rfl) (by kernel_rfl) (by kernel_rfl) (fun _ _ _ h => h) (Or.inl ⟨by rfl, ?_⟩) hHeld ?_
          rotate_left
          focus
            intro w hSw
            clear hSw
            go_simp
            try with_reducible rfl
          try simp only [Act.put, List.getElem_toArray, List.getElem_cons_zero, List.getElem_cons_succ, List.setIfInBounds_toArray, List.set_cons_zero, List.set_cons_succ]
          refine wpAnyH_take (i := 11) (v := ?_) rfl (by kernel_rfl) (by kernel_rfl) (by kernel_rfl) (fun _ _ _ h => h) (Or.inl ⟨by rfl, ?_⟩) hHeld ?_
          rotate_left
          focus
            intro w hSw
            clear hSw
            go_simp
            try with_reducible rfl
          try simp only [Act.put, List.getElem_toArray, List.getElem_cons_zero, List.getElem_cons_succ, List.setIfInBounds_toArray, List.set_cons_zero, List.set_cons_succ]
          refine wpAnyH_take (i := 12) (v := ?_) rfl (by kernel_rfl) (by kernel_rfl) (by kernel_rfl) (fun _ _ _ h => h) (Or.inl ⟨by rfl, ?_⟩) hHeld ?_
          rotate_left
          focus
            intro w hSw
            clear hSw
            go_simp
            try with_reducible rfl
          try simp only [Act.put, List.getElem_toArray, List.getElem_cons_zero, List.getElem_cons_succ, List.setIfInBounds_toArray, List.set_cons_zero, List.set_cons_succ]
          refine wpAnyH_take (i := 13) (v := ?_) rfl (by kernel_rfl) (by kernel_rfl) (by kernel_rfl) (fun _ _ _ h => h) (Or.inl ⟨by rfl, ?_⟩) hHeld ?_
          rotate_left
          focus
            intro w hSw
            (try dsimp only at hSw)
            go_simp
            try with_reducible rfl
          try simp only [Act.put, List.getElem_toArray, List.getElem_cons_zero, List.getElem_cons_succ, List.setIfInBounds_toArray, List.set_cons_zero, List.set_cons_succ]
          refine wpAnyH_take (i := 14) (v := ?_) rfl (by kernel_rfl) (by kernel_rfl) (by kernel_rfl) (fun _ _ _ h => h) (Or.inl ⟨by rfl, ?_⟩) hHeld ?_
          rotate_left
          focus
            intro w hSw
            clear hSw
            go_simp
            try with_reducible rfl
          try simp only [Act.put, List.getElem_toArray, List.getElem_cons_zero, List.getElem_cons_succ, List.setIfInBounds_toArray, List.set_cons_zero, List.set_cons_succ]
          refine wpAnyH_take (i := 15) (v := ?_) rfl (by kernel_rfl) (by kernel_rfl) (by kernel_rfl) (fun _ _ _ h => h) (Or.inl ⟨by rfl, ?_⟩) hHeld ?_
          rotate_left
          focus
            intro w hSw
            clear hSw
            go_simp
            try with_reducible rfl
          try simp only [Act.put, List.getElem_toArray, List.getElem_cons_zero, List.getElem_cons_succ, List.setIfInBounds_toArray, List.set_cons_zero, List.set_cons_succ]
          refine wpAnyH_done (by kernel_rfl) ?_ _
          refine NoPanic.normal ?_
          go_wp2_with fail
          go_ret
          exact ⟨HF.out.1, HF.out.2.1.drew, HF.out.2.2.drew⟩
end Go.Proofs.YtdebldpmloignaaDoor
