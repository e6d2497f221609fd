/-
  wire: the document's reader: Text, Bool, Vec; the nil reader's Vec.
-/
import Derived.Test.YtdebldpmloignaaDoorWirR
namespace Go.Proofs.YtdebldpmloignaaDoor
open Go.RowKit
set_option linter.unusedVariables false

def RefTQ (w : World) (q : Nat) (s : ByteArray) (r : ByteArray × St) (e : Ending) (w' : World) : Prop := e = .returned (.string r.1) ∧ RefV w' q s r.2 ∧ Turns (fun k => k = q) w w'
set_option maxRecDepth 100000 in
set_option maxHeartbeats 4000000 in
theorem rrtext_c (q : Nat) (s : ByteArray) (pos : Nat) (bad : Option Nat) (most : Int) (w : World) (h : Hid (RefV w q s (pos, bad))) (hs : s.size ≤ 1000000) :
    Calls Tryd.prog 25 #[.pointer (some ⟨q, 0, none⟩), .int .i64 most] w (RefTQ w q s (rdT s most (pos, bad))) := by
  have c1 : w.cell? ⟨q, 1, none⟩ = some (.int .i64 pos) := h.out.blk.cell 1 _ rfl
  obtain ⟨r, hr⟩ : ∃ r, rdI s (pos, bad) = r := ⟨_, rfl⟩
  have HINT := Lib.hid (rrint_c q s pos bad w h hs)
  rw [hr] at HINT
  obtain ⟨z, pos1, bad1⟩ := r
  have HR0 := Lib.hid hr
  clear hr
  go_enter Tryd.func25, Tryd.ntmps25
  go_wp2_with fail
  refine (HINT.out).mono ?_
  rintro e W1 ⟨rfl, hr1, ht1⟩
  have HR1 := Lib.hid hr1
  have HT1 := Lib.hid ht1
  have c0 : W1.cell? ⟨q, 0, none⟩ = some (.string s) := hr1.blk.cell 0 _ rfl
  have c1 : W1.cell? ⟨q, 1, none⟩ = some (.int .i64 pos1) := hr1.blk.cell 1 _ rfl
  have hle : pos1 ≤ s.size := hr1.le
  cases bad1 with
  | some y =>
    have c2 : W1.cell? ⟨q, 2, none⟩ = some (.int .i64 (y : Int)) := hr1.blk.cell 2 _ rfl
    have HF : Hid (RefTQ w q s (rdT s most (pos, bad)) (.returned (.string ByteArray.empty)) W1) := by
      unfold rdT
      simp only [HR0.out]
      exact ⟨rfl, HR1.out, HT1.out⟩
    clear hr1 ht1
    go_wp2_with fail
    go_ret
    exact HF.out
  | none =>
    have c2 : W1.cell? ⟨q, 2, none⟩ = some (.int .i64 (-1)) := hr1.blk.cell 2 _ rfl
    clear hr1 ht1
    by_cases h1 : z < 0
    · have HRD : Hid (rdT s most (pos, bad) = (ByteArray.empty, (s.size, some pos))) := by
        show _ = _
        unfold rdT
        simp only [HR0.out]
        rw [if_pos (.inl h1)]
      have d1 : decide (z < 0) = true := decide_eq_true h1
      clear h1
      go_wp2_with fail
      refine wp_region_noPanic ?_
      refine wp_region_held_drew (S := (fun w' => w'.cell? ⟨q, 0, none⟩ = some (.string s) ∧ w'.cell? ⟨q, 1, none⟩ = some (.int .i64 pos1))) (by kernel_rfl) ⟨c0, c1⟩ (fun hHeld => ?_)
      refine wpAnyH_take (i := 0) (v := ?_) rfl (by kernel_rfl) (by kernel_rfl) (by kernel_rfl) (fun _ _ _ h => h) (Or.inl ⟨by rfl, ?_⟩) hHeld ?_
      rotate_left
      focus
        intro w hSw
        clear hSw
        go_simp
        try with_reducible rfl
      try simp only [Act.put, List.getElem_toArray, List.getElem_cons_zero, List.getElem_cons_succ, List.setIfInBounds_toArray, List.set_cons_zero, List.set_cons_succ]
      refine wpAnyH_take (i := 1) (v := ?_) rfl (by kernel_rfl) (by kernel_rfl) (by kernel_rfl) (fun _ _ _ h => h) (Or.inl ⟨by rfl, ?_⟩) hHeld ?_
      rotate_left
      focus
        intro w hSw
        clear hSw
        go_simp
        try with_reducible rfl
      try simp only [Act.put, List.getElem_toArray, List.getElem_cons_zero, List.getElem_cons_succ, List.setIfInBounds_toArray, List.set_cons_zero, List.set_cons_succ]
      refine wpAnyH_take (i := 2) (v := ?_) rfl (by kernel_rfl) (by kernel_rfl) (by kernel_rfl) (fun _ _ _ h => h) (Or.inl ⟨by rfl, ?_⟩) hHeld ?_
      rotate_left
      focus
        intro w hSw
        clear hSw
        go_simp
        try with_reducible rfl
      try simp only [Act.put, List.getElem_toArray, List.getElem_cons_zero, List.getElem_cons_succ, List.setIfInBounds_toArray, List.set_cons_zero, List.set_cons_succ]
      refine wpAnyH_take (i := 3) (v := undef) rfl (by kernel_rfl) (by kernel_rfl) (by kernel_rfl) (fun _ _ _ h => h) (Or.inr ⟨by rfl, rfl⟩) hHeld ?_
      try simp only [Act.put, List.getElem_toArray, List.getElem_cons_zero, List.getElem_cons_succ, List.setIfInBounds_toArray, List.set_cons_zero, List.set_cons_succ]
      refine wpAnyH_take (i := 4) (v := undef) rfl (by kernel_rfl) (by kernel_rfl) (by kernel_rfl) (fun _ _ _ h => h) (Or.inr ⟨by rfl, rfl⟩) hHeld ?_
      try simp only [Act.put, List.getElem_toArray, List.getElem_cons_zero, List.getElem_cons_succ, List.setIfInBounds_toArray, List.set_cons_zero, List.set_cons_succ]
      refine wpAnyH_take (i := 5) (v := undef) rfl (by kernel_rfl) (by kernel_rfl) (by kernel_rfl) (fun _ _ _ h => h) (Or.inr ⟨by rfl, rfl⟩) hHeld ?_
      try simp only [Act.put, List.getElem_toArray, List.getElem_cons_zero, List.getElem_cons_succ, List.setIfInBounds_toArray, List.set_cons_zero, List.set_cons_succ]
      refine wpAnyH_take (i := 6) (v := ?_) rfl (by kernel_rfl) (by kernel_rfl) (by kernel_rfl) (fun _ _ _ h => h) (Or.inl ⟨by rfl, ?_⟩) hHeld ?_
      rotate_left
      focus
        intro w hSw
        clear hSw
        go_simp
        try with_reducible rfl
      try simp only [Act.put, List.getElem_toArray, List.getElem_cons_zero, List.getElem_cons_succ, List.setIfInBounds_toArray, List.set_cons_zero, List.set_cons_succ]
      refine wpAnyH_take (i := 7) (v := ?_) rfl (by kernel_rfl) (by kernel_rfl) (by kernel_rfl) (fun _ _ _ h => h) (Or.inl ⟨by rfl, ?_⟩) hHeld ?_
      rotate_left
      focus
        intro w hSw
        clear hSw
        go_simp
        try with_reducible rfl
      try simp only [Act.put, List.getElem_toArray, List.getElem_cons_zero, List.getElem_cons_succ, List.setIfInBounds_toArray, List.set_cons_zero, List.set_cons_succ]
      refine wpAnyH_take (i := 8) (v := undef) rfl (by kernel_rfl) (by kernel_rfl) (by kernel_rfl) (fun _ _ _ h => h) (Or.inr ⟨by rfl, rfl⟩) hHeld ?_
      try simp only [Act.put, List.getElem_toArray, List.getElem_cons_zero, List.getElem_cons_succ, List.setIfInBounds_toArray, List.set_cons_zero, List.set_cons_succ]
      refine wpAnyH_take (i := 9) (v := undef) rfl (by kernel_rfl) (by kernel_rfl) (by kernel_rfl) (fun _ _ _ h => h) (Or.inr ⟨by rfl, rfl⟩) hHeld ?_
      try simp only [Act.put, List.getElem_toArray, List.getElem_cons_zero, List.getElem_cons_succ, List.setIfInBounds_toArray, List.set_cons_zero, List.set_cons_succ]
      refine wpAnyH_take (i := 10) (v := undef) rfl (by kernel_rfl) (by kernel_rfl) (by kernel_rfl) (fun _ _ _ h => h) (Or.inr ⟨by rfl, rfl⟩) hHeld ?_
      try simp only [Act.put, List.getElem_toArray, List.getElem_cons_zero, List.getElem_cons_succ, List.setIfInBounds_toArray, List.set_cons_zero, List.set_cons_succ]
      refine wpAnyH_take (i := 11) (v := undef) rfl (by kernel_rfl) (by kernel_rfl) (by kernel_rfl) (fun _ _ _ h => h) (Or.inr ⟨by rfl, rfl⟩) hHeld ?_
      try simp only [Act.put, List.getElem_toArray, List.getElem_cons_zero, List.getElem_cons_succ, List.setIfInBounds_toArray, List.set_cons_zero, List.set_cons_succ]
      refine wpAnyH_take (i := 12) (v := undef) rfl (by kernel_rfl) (by kernel_rfl) (by kernel_rfl) (fun _ _ _ h => h) (Or.inr ⟨by rfl, rfl⟩) hHeld ?_
      try simp only [Act.put, List.getElem_toArray, List.getElem_cons_zero, List.getElem_cons_succ, List.setIfInBounds_toArray, List.set_cons_zero, List.set_cons_succ]
      refine wpAnyH_take (i := 13) (v := undef) rfl (by kernel_rfl) (by kernel_rfl) (by kernel_rfl) (fun _ _ _ h => h) (Or.inr ⟨by rfl, rfl⟩) hHeld ?_
      try simp only [Act.put, List.getElem_toArray, List.getElem_cons_zero, List.getElem_cons_succ, List.setIfInBounds_toArray, List.set_cons_zero, List.set_cons_succ]
      refine wpAnyH_take (i := 14) (v := undef) rfl (by kernel_rfl) (by kernel_rfl) (by kernel_rfl) (fun _ _ _ h => h) (Or.inr ⟨by rfl, rfl⟩) hHeld ?_
      try simp only [Act.put, List.getElem_toArray, List.getElem_cons_zero, List.getElem_cons_succ, List.setIfInBounds_toArray, List.set_cons_zero, List.set_cons_succ]
      refine wpAnyH_take (i := 15) (v := undef) rfl (by kernel_rfl) (by kernel_rfl) (by kernel_rfl) (fun _ _ _ h => h) (Or.inr ⟨by rfl, rfl⟩) hHeld ?_
      try simp only [Act.put, List.getElem_toArray, List.getElem_cons_zero, List.getElem_cons_succ, List.setIfInBounds_toArray, List.set_cons_zero, List.set_cons_succ]
      refine wpAnyH_take (i := 16) (v := undef) rfl (by kernel_rfl) (by kernel_rfl) (by kernel_rfl) (fun _ _ _ h => h) (Or.inr ⟨by rfl, rfl⟩) hHeld ?_
      try simp only [Act.put, List.getElem_toArray, List.getElem_cons_zero, List.getElem_cons_succ, List.setIfInBounds_toArray, List.set_cons_zero, List.set_cons_succ]
      refine wpAnyH_take (i := 17) (v := undef) rfl (by kernel_rfl) (by kernel_rfl) (by kernel_rfl) (fun _ _ _ h => h) (Or.inr ⟨by rfl, rfl⟩) hHeld ?_
      try simp only [Act.put, List.getElem_toArray, List.getElem_cons_zero, List.getElem_cons_succ, List.setIfInBounds_toArray, List.set_cons_zero, List.set_cons_succ]
      refine wpAnyH_take (i := 18) (v := undef) rfl (by kernel_rfl) (by kernel_rfl) (by kernel_rfl) (fun _ _ _ h => h) (Or.inr ⟨by rfl, rfl⟩) hHeld ?_
      try simp only [Act.put, List.getElem_toArray, List.getElem_cons_zero, List.getElem_cons_succ, List.setIfInBounds_toArray, List.set_cons_zero, List.set_cons_succ]
      refine wpAnyH_take (i := 19) (v := undef) rfl (by kernel_rfl) (by kernel_rfl) (by kernel_rfl) (fun _ _ _ h => h) (Or.inr ⟨by rfl, rfl⟩) hHeld ?_
      try simp only [Act.put, List.getElem_toArray, List.getElem_cons_zero, List.getElem_cons_succ, List.setIfInBounds_toArray, List.set_cons_zero, List.set_cons_succ]
      refine wpAnyH_take (i := 20) (v := ?_) rfl (by kernel_rfl) (by kernel_rfl) (by kernel_rfl) (fun _ _ _ h => h) (Or.inl ⟨by rfl, ?_⟩) hHeld ?_
      rotate_left
      focus
        intro w hSw
        clear hSw
        go_simp
        try with_reducible rfl
      try simp only [Act.put, List.getElem_toArray, List.getElem_cons_zero, List.getElem_cons_succ, List.setIfInBounds_toArray, List.set_cons_zero, List.set_cons_succ]
      refine wpAnyH_done (by kernel_rfl) ?_ _
      refine NoPanic.normal ?_
      go_wp2_with fail
      refine (rfail_c q s (pos1, none) pos W1.drew (Lib.hid HR1.out.drew)).mono ?_
      rintro e W9 ⟨rfl, hr9, ht9⟩
      have HF : Hid (RefTQ w q s (rdT s most (pos, bad)) (.returned (.string ByteArray.empty)) W9) := by
        rw [HRD.out]
        exact ⟨rfl, hr9, HT1.out.drew.trans ht9 (fun _ _ h => h)⟩
      clear hr9 ht9
      go_wp2_with fail
      go_ret
      exact HF.out
    · obtain ⟨m, rfl⟩ : ∃ m : Nat, z = m := ⟨z.toNat, by omega⟩
      have d1 : decide ((m : Int) < 0) = false := decide_eq_false h1
      by_cases h2 : most < (m : Int)
      · have HRD : Hid (rdT s most (pos, bad) = (ByteArray.empty, (s.size, some pos))) := by
          show _ = _
          unfold rdT
          simp only [HR0.out]
          rw [if_pos (.inr (.inl h2))]
        have d2 : decide (most < (m : Int)) = true := decide_eq_true h2
        clear h1 h2
        go_wp2_with fail
        refine wp_region_noPanic ?_
        refine wp_region_held_drew (S := (fun w' => w'.cell? ⟨q, 0, none⟩ = some (.string s) ∧ w'.cell? ⟨q, 1, none⟩ = some (.int .i64 pos1))) (by kernel_rfl) ⟨c0, c1⟩ (fun hHeld => ?_)
        refine wpAnyH_take (i := 0) (v := ?_) rfl (by kernel_rfl) (by kernel_rfl) (by kernel_rfl) (fun _ _ _ h => h) (Or.inl ⟨by rfl, ?_⟩) hHeld ?_
        rotate_left
        focus
          intro w hSw
          clear hSw
          go_simp
          try with_reducible rfl
        try simp only [Act.put, List.getElem_toArray, List.getElem_cons_zero, List.getElem_cons_succ, List.setIfInBounds_toArray, List.set_cons_zero, List.set_cons_succ]
        refine wpAnyH_take (i := 1) (v := ?_) rfl (by kernel_rfl) (by kernel_rfl) (by kernel_rfl) (fun _ _ _ h => h) (Or.inl ⟨by rfl, ?_⟩) hHeld ?_
        rotate_left
        focus
          intro w hSw
          clear hSw
          go_simp
          try with_reducible rfl
        try simp only [Act.put, List.getElem_toArray, List.getElem_cons_zero, List.getElem_cons_succ, List.setIfInBounds_toArray, List.set_cons_zero, List.set_cons_succ]
        refine wpAnyH_take (i := 2) (v := ?_) rfl (by kernel_rfl) (by kernel_rfl) (by kernel_rfl) (fun _ _ _ h => h) (Or.inl ⟨by rfl, ?_⟩) hHeld ?_
        rotate_left
        focus
          intro w hSw
          clear hSw
          go_simp
          try with_reducible rfl
        try simp only [Act.put, List.getElem_toArray, List.getElem_cons_zero, List.getElem_cons_succ, List.setIfInBounds_toArray, List.set_cons_zero, List.set_cons_succ]
        refine wpAnyH_take (i := 3) (v := ?_) rfl (by kernel_rfl) (by kernel_rfl) (by kernel_rfl) (fun _ _ _ h => h) (Or.inl ⟨by rfl, ?_⟩) hHeld ?_
        rotate_left
        focus
          intro w hSw
          clear hSw
          go_simp
          try with_reducible rfl
        try simp only [Act.put, List.getElem_toArray, List.getElem_cons_zero, List.getElem_cons_succ, List.setIfInBounds_toArray, List.set_cons_zero, List.set_cons_succ]
        refine wpAnyH_take (i := 4) (v := ?_) rfl (by kernel_rfl) (by kernel_rfl) (by kernel_rfl) (fun _ _ _ h => h) (Or.inl ⟨by rfl, ?_⟩) hHeld ?_
        rotate_left
        focus
          intro w hSw
          clear hSw
          go_simp
          try with_reducible rfl
        try simp only [Act.put, List.getElem_toArray, List.getElem_cons_zero, List.getElem_cons_succ, List.setIfInBounds_toArray, List.set_cons_zero, List.set_cons_succ]
        refine wpAnyH_take (i := 5) (v := ?_) rfl (by kernel_rfl) (by kernel_rfl) (by kernel_rfl) (fun _ _ _ h => h) (Or.inl ⟨by rfl, ?_⟩) hHeld ?_
        rotate_left
        focus
          intro w hSw
          clear hSw
          go_simp
          try with_reducible rfl
        try simp only [Act.put, List.getElem_toArray, List.getElem_cons_zero, List.getElem_cons_succ, List.setIfInBounds_toArray, List.set_cons_zero, List.set_cons_succ]
        refine wpAnyH_take (i := 6) (v := ?_) rfl (by kernel_rfl) (by kernel_rfl) (by kernel_rfl) (fun _ _ _ h => h) (Or.inl ⟨by rfl, ?_⟩) hHeld ?_
        rotate_left
        focus
          intro w hSw
          clear hSw
          go_simp
          try with_reducible rfl
        try simp only [Act.put, List.getElem_toArray, List.getElem_cons_zero, List.getElem_cons_succ, List.setIfInBounds_toArray, List.set_cons_zero, List.set_cons_succ]
        refine wpAnyH_take (i := 7) (v := ?_) rfl (by kernel_rfl) (by kernel_rfl) (by kernel_rfl) (fun _ _ _ h => h) (Or.inl ⟨by rfl, ?_⟩) hHeld ?_
        rotate_left
        focus
          intro w hSw
          clear hSw
          go_simp
          try with_reducible rfl
        try simp only [Act.put, List.getElem_toArray, List.getElem_cons_zero, List.getElem_cons_succ, List.setIfInBounds_toArray, List.set_cons_zero, List.set_cons_succ]
        refine wpAnyH_take (i := 8) (v := undef) rfl (by kernel_rfl) (by kernel_rfl) (by kernel_rfl) (fun _ _ _ h => h) (Or.inr ⟨by rfl, rfl⟩) hHeld ?_
        try simp only [Act.put, List.getElem_toArray, List.getElem_cons_zero, List.getElem_cons_succ, List.setIfInBounds_toArray, List.set_cons_zero, List.set_cons_succ]
        refine wpAnyH_take (i := 9) (v := undef) rfl (by kernel_rfl) (by kernel_rfl) (by kernel_rfl) (fun _ _ _ h => h) (Or.inr ⟨by rfl, rfl⟩) hHeld ?_
        try simp only [Act.put, List.getElem_toArray, List.getElem_cons_zero, List.getElem_cons_succ, List.setIfInBounds_toArray, List.set_cons_zero, List.set_cons_succ]
        refine wpAnyH_take (i := 10) (v := undef) rfl (by kernel_rfl) (by kernel_rfl) (by kernel_rfl) (fun _ _ _ h => h) (Or.inr ⟨by rfl, rfl⟩) hHeld ?_
        try simp only [Act.put, List.getElem_toArray, List.getElem_cons_zero, List.getElem_cons_succ, List.setIfInBounds_toArray, List.set_cons_zero, List.set_cons_succ]
        refine wpAnyH_take (i := 11) (v := undef) rfl (by kernel_rfl) (by kernel_rfl) (by kernel_rfl) (fun _ _ _ h => h) (Or.inr ⟨by rfl, rfl⟩) hHeld ?_
        try simp only [Act.put, List.getElem_toArray, List.getElem_cons_zero, List.getElem_cons_succ, List.setIfInBounds_toArray, List.set_cons_zero, List.set_cons_succ]
        refine wpAnyH_take (i := 12) (v := undef) rfl (by kernel_rfl) (by kernel_rfl) (by kernel_rfl) (fun _ _ _ h => h) (Or.inr ⟨by rfl, rfl⟩) hHeld ?_
        try simp only [Act.put, List.getElem_toArray, List.getElem_cons_zero, List.getElem_cons_succ, List.setIfInBounds_toArray, List.set_cons_zero, List.set_cons_succ]
        refine wpAnyH_take (i := 13) (v := undef) rfl (by kernel_rfl) (by kernel_rfl) (by kernel_rfl) (fun _ _ _ h => h) (Or.inr ⟨by rfl, rfl⟩) hHeld ?_
        try simp only [Act.put, List.getElem_toArray, List.getElem_cons_zero, List.getElem_cons_succ, List.setIfInBounds_toArray, List.set_cons_zero, List.set_cons_succ]
        refine wpAnyH_take (i := 14) (v := undef) rfl (by kernel_rfl) (by kernel_rfl) (by kernel_rfl) (fun _ _ _ h => h) (Or.inr ⟨by rfl, rfl⟩) hHeld ?_
        try simp only [Act.put, List.getElem_toArray, List.getElem_cons_zero, List.getElem_cons_succ, List.setIfInBounds_toArray, List.set_cons_zero, List.set_cons_succ]
        refine wpAnyH_take (i := 15) (v := undef) rfl (by kernel_rfl) (by kernel_rfl) (by kernel_rfl) (fun _ _ _ h => h) (Or.inr ⟨by rfl, rfl⟩) hHeld ?_
        try simp only [Act.put, List.getElem_toArray, List.getElem_cons_zero, List.getElem_cons_succ, List.setIfInBounds_toArray, List.set_cons_zero, List.set_cons_succ]
        refine wpAnyH_take (i := 16) (v := undef) rfl (by kernel_rfl) (by kernel_rfl) (by kernel_rfl) (fun _ _ _ h => h) (Or.inr ⟨by rfl, rfl⟩) hHeld ?_
        try simp only [Act.put, List.getElem_toArray, List.getElem_cons_zero, List.getElem_cons_succ, List.setIfInBounds_toArray, List.set_cons_zero, List.set_cons_succ]
        refine wpAnyH_take (i := 17) (v := undef) rfl (by kernel_rfl) (by kernel_rfl) (by kernel_rfl) (fun _ _ _ h => h) (Or.inr ⟨by rfl, rfl⟩) hHeld ?_
        try simp only [Act.put, List.getElem_toArray, List.getElem_cons_zero, List.getElem_cons_succ, List.setIfInBounds_toArray, List.set_cons_zero, List.set_cons_succ]
        refine wpAnyH_take (i := 18) (v := undef) rfl (by kernel_rfl) (by kernel_rfl) (by kernel_rfl) (fun _ _ _ h => h) (Or.inr ⟨by rfl, rfl⟩) hHeld ?_
        try simp only [Act.put, List.getElem_toArray, List.getElem_cons_zero, List.getElem_cons_succ, List.setIfInBounds_toArray, List.set_cons_zero, List.set_cons_succ]
        refine wpAnyH_take (i := 19) (v := undef) rfl (by kernel_rfl) (by kernel_rfl) (by kernel_rfl) (fun _ _ _ h => h) (Or.inr ⟨by rfl, rfl⟩) hHeld ?_
        try simp only [Act.put, List.getElem_toArray, List.getElem_cons_zero, List.getElem_cons_succ, List.setIfInBounds_toArray, List.set_cons_zero, List.set_cons_succ]
        refine wpAnyH_take (i := 20) (v := ?_) rfl (by kernel_rfl) (by kernel_rfl) (by kernel_rfl) (fun _ _ _ h => h) (Or.inl ⟨by rfl, ?_⟩) hHeld ?_
        rotate_left
        focus
          intro w hSw
          clear hSw
          go_simp
          try with_reducible rfl
        try simp only [Act.put, List.getElem_toArray, List.getElem_cons_zero, List.getElem_cons_succ, List.setIfInBounds_toArray, List.set_cons_zero, List.set_cons_succ]
        refine wpAnyH_done (by kernel_rfl) ?_ _
        refine NoPanic.normal ?_
        go_wp2_with fail
        refine (rfail_c q s (pos1, none) pos W1.drew (Lib.hid HR1.out.drew)).mono ?_
        rintro e W9 ⟨rfl, hr9, ht9⟩
        have HF : Hid (RefTQ w q s (rdT s most (pos, bad)) (.returned (.string ByteArray.empty)) W9) := by
          rw [HRD.out]
          exact ⟨rfl, hr9, HT1.out.drew.trans ht9 (fun _ _ h => h)⟩
        clear hr9 ht9
        go_wp2_with fail
        go_ret
        exact HF.out
      · have d2 : decide (most < (m : Int)) = false := decide_eq_false h2
        have e0 : IntKind.i64.wrap ((s.size : Int) - (pos1 : Int)) = (s.size : Int) - (pos1 : Int) := by rw [IntKind.wrap_i64]; omega
        by_cases h3 : (s.size : Int) - (pos1 : Int) < (m : Int)
        · have HRD : Hid (rdT s most (pos, bad) = (ByteArray.empty, (s.size, some pos))) := by
            show _ = _
            unfold rdT
            simp only [HR0.out]
            rw [if_pos (.inr (.inr (by omega)))]
          have d3 : decide ((s.size : Int) - (pos1 : Int) < (m : Int)) = true := decide_eq_true h3
          clear h1 h2
          go_wp2_with fail
          refine wp_region_noPanic ?_
          refine wp_region_held_drew (S := (fun w' => w'.cell? ⟨q, 0, none⟩ = some (.string s) ∧ w'.cell? ⟨q, 1, none⟩ = some (.int .i64 pos1))) (by kernel_rfl) ⟨c0, c1⟩ (fun hHeld => ?_)
          refine wpAnyH_take (i := 0) (v := ?_) rfl (by kernel_rfl) (by kernel_rfl) (by kernel_rfl) (fun _ _ _ h => h) (Or.inl ⟨by rfl, ?_⟩) hHeld ?_
          rotate_left
          focus
            intro w hSw
            clear hSw
            go_simp
            try with_reducible rfl
          try simp only [Act.put, List.getElem_toArray, List.getElem_cons_zero, List.getElem_cons_succ, List.setIfInBounds_toArray, List.set_cons_zero, List.set_cons_succ]
          refine wpAnyH_take (i := 1) (v := ?_) rfl (by kernel_rfl) (by kernel_rfl) (by kernel_rfl) (fun _ _ _ h => h) (Or.inl ⟨by rfl, ?_⟩) hHeld ?_
          rotate_left
          focus
            intro w hSw
            clear hSw
            go_simp
            try with_reducible rfl
          try simp only [Act.put, List.getElem_toArray, List.getElem_cons_zero, List.getElem_cons_succ, List.setIfInBounds_toArray, List.set_cons_zero, List.set_cons_succ]
          refine wpAnyH_take (i := 2) (v := ?_) rfl (by kernel_rfl) (by kernel_rfl) (by kernel_rfl) (fun _ _ _ h => h) (Or.inl ⟨by rfl, ?_⟩) hHeld ?_
          rotate_left
          focus
            intro w hSw
            clear hSw
            go_simp
            try with_reducible rfl
          try simp only [Act.put, List.getElem_toArray, List.getElem_cons_zero, List.getElem_cons_succ, List.setIfInBounds_toArray, List.set_cons_zero, List.set_cons_succ]
          refine wpAnyH_take (i := 3) (v := ?_) rfl (by kernel_rfl) (by kernel_rfl) (by kernel_rfl) (fun _ _ _ h => h) (Or.inl ⟨by rfl, ?_⟩) hHeld ?_
          rotate_left
          focus
            intro w hSw
            clear hSw
            go_simp
            try with_reducible rfl
          try simp only [Act.put, List.getElem_toArray, List.getElem_cons_zero, List.getElem_cons_succ, List.setIfInBounds_toArray, List.set_cons_zero, List.set_cons_succ]
          refine wpAnyH_take (i := 4) (v := ?_) rfl (by kernel_rfl) (by kernel_rfl) (by kernel_rfl) (fun _ _ _ h => h) (Or.inl ⟨by rfl, ?_⟩) hHeld ?_
          rotate_left
          focus
            intro w hSw
            clear hSw
            go_simp
            try with_reducible rfl
          try simp only [Act.put, List.getElem_toArray, List.getElem_cons_zero, List.getElem_cons_succ, List.setIfInBounds_toArray, List.set_cons_zero, List.set_cons_succ]
          refine wpAnyH_take (i := 5) (v := ?_) rfl (by kernel_rfl) (by kernel_rfl) (by kernel_rfl) (fun _ _ _ h => h) (Or.inl ⟨by rfl, ?_⟩) hHeld ?_
          rotate_left
          focus
            intro w hSw
            clear hSw
            go_simp
            try with_reducible rfl
          try simp only [Act.put, List.getElem_toArray, List.getElem_cons_zero, List.getElem_cons_succ, List.setIfInBounds_toArray, List.set_cons_zero, List.set_cons_succ]
          refine wpAnyH_take (i := 6) (v := ?_) rfl (by kernel_rfl) (by kernel_rfl) (by kernel_rfl) (fun _ _ _ h => h) (Or.inl ⟨by rfl, ?_⟩) hHeld ?_
          rotate_left
          focus
            intro w hSw
            clear hSw
            go_simp
            try with_reducible rfl
          try simp only [Act.put, List.getElem_toArray, List.getElem_cons_zero, List.getElem_cons_succ, List.setIfInBounds_toArray, List.set_cons_zero, List.set_cons_succ]
          refine wpAnyH_take (i := 7) (v := ?_) rfl (by kernel_rfl) (by kernel_rfl) (by kernel_rfl) (fun _ _ _ h => h) (Or.inl ⟨by rfl, ?_⟩) hHeld ?_
          rotate_left
          focus
            intro w hSw
            clear hSw
            go_simp
            try with_reducible rfl
          try simp only [Act.put, List.getElem_toArray, List.getElem_cons_zero, List.getElem_cons_succ, List.setIfInBounds_toArray, List.set_cons_zero, List.set_cons_succ]
          refine wpAnyH_take (i := 8) (v := ?_) rfl (by kernel_rfl) (by kernel_rfl) (by kernel_rfl) (fun _ _ _ h => h) (Or.inl ⟨by rfl, ?_⟩) hHeld ?_
          rotate_left
          focus
            intro w hSw
            clear hSw
            go_simp
            try with_reducible rfl
          try simp only [Act.put, List.getElem_toArray, List.getElem_cons_zero, List.getElem_cons_succ, List.setIfInBounds_toArray, List.set_cons_zero, List.set_cons_succ]
          refine wpAnyH_take (i := 9) (v := ?_) rfl (by kernel_rfl) (by kernel_rfl) (by kernel_rfl) (fun _ _ _ h => h) (Or.inl ⟨by rfl, ?_⟩) hHeld ?_
          rotate_left
          focus
            intro w hSw
            clear hSw
            go_simp
            try with_reducible rfl
          try simp only [Act.put, List.getElem_toArray, List.getElem_cons_zero, List.getElem_cons_succ, List.setIfInBounds_toArray, List.set_cons_zero, List.set_cons_succ]
          refine wpAnyH_take (i := 10) (v := ?_) rfl (by kernel_rfl) (by kernel_rfl) (by kernel_rfl) (fun _ _ _ h => h) (Or.inl ⟨by rfl, ?_⟩) hHeld ?_
          rotate_left
          focus
            intro w hSw
            clear hSw
            go_simp
            try with_reducible rfl
          try simp only [Act.put, List.getElem_toArray, List.getElem_cons_zero, List.getElem_cons_succ, List.setIfInBounds_toArray, List.set_cons_zero, List.set_cons_succ]
          refine wpAnyH_take (i := 11) (v := ?_) rfl (by kernel_rfl) (by kernel_rfl) (by kernel_rfl) (fun _ _ _ h => h) (Or.inl ⟨by rfl, ?_⟩) hHeld ?_
          rotate_left
          focus
            intro w hSw
            clear hSw
            go_simp
            try with_reducible rfl
          try simp only [Act.put, List.getElem_toArray, List.getElem_cons_zero, List.getElem_cons_succ, List.setIfInBounds_toArray, List.set_cons_zero, List.set_cons_succ]
          refine wpAnyH_take (i := 12) (v := ?_) rfl (by kernel_rfl) (by kernel_rfl) (by kernel_rfl) (fun _ _ _ h => h) (Or.inl ⟨by rfl, ?_⟩) hHeld ?_
          rotate_left
          focus
            intro w hSw
            (try dsimp only at hSw)
            go_simp
            try with_reducible rfl
          try simp only [Act.put, List.getElem_toArray, List.getElem_cons_zero, List.getElem_cons_succ, List.setIfInBounds_toArray, List.set_cons_zero, List.set_cons_succ]
          refine wpAnyH_take (i := 13) (v := ?_) rfl (by kernel_rfl) (by kernel_rfl) (by kernel_rfl) (fun _ _ _ h => h) (Or.inl ⟨by rfl, ?_⟩) hHeld ?_
          rotate_left
          focus
            intro w hSw
            clear hSw
            go_simp
            try with_reducible rfl
          try simp only [Act.put, List.getElem_toArray, List.getElem_cons_zero, List.getElem_cons_succ, List.setIfInBounds_toArray, List.set_cons_zero, List.set_cons_succ]
          refine wpAnyH_take (i := 14) (v := ?_) rfl (by kernel_rfl) (by kernel_rfl) (by kernel_rfl) (fun _ _ _ h => h) (Or.inl ⟨by rfl, ?_⟩) hHeld ?_
          rotate_left
          focus
            intro w hSw
            clear hSw
            go_simp
            try with_reducible rfl
          try simp only [Act.put, List.getElem_toArray, List.getElem_cons_zero, List.getElem_cons_succ, List.setIfInBounds_toArray, List.set_cons_zero, List.set_cons_succ]
          refine wpAnyH_take (i := 15) (v := ?_) rfl (by kernel_rfl) (by kernel_rfl) (by kernel_rfl) (fun _ _ _ h => h) (Or.inl ⟨by rfl, ?_⟩) hHeld ?_
          rotate_left
          focus
            intro w hSw
            clear hSw
            go_simp
            try with_reducible rfl
          try simp only [Act.put, List.getElem_toArray, List.getElem_cons_zero, List.getElem_cons_succ, List.setIfInBounds_toArray, List.set_cons_zero, List.set_cons_succ]
          refine wpAnyH_take (i := 16) (v := ?_) rfl (by kernel_rfl) (by kernel_rfl) (by kernel_rfl) (fun _ _ _ h => h) (Or.inl ⟨by rfl, ?_⟩) hHeld ?_
          rotate_left
          focus
            intro w hSw
            clear hSw
            go_simp
            try with_reducible rfl
          try simp only [Act.put, List.getElem_toArray, List.getElem_cons_zero, List.getElem_cons_succ, List.setIfInBounds_toArray, List.set_cons_zero, List.set_cons_succ]
          refine wpAnyH_take (i := 17) (v := ?_) rfl (by kernel_rfl) (by kernel_rfl) (by kernel_rfl) (fun _ _ _ h => h) (Or.inl ⟨by rfl, ?_⟩) hHeld ?_
          rotate_left
          focus
            intro w hSw
            (try dsimp only at hSw)
            go_simp
            try with_reducible rfl
          try simp only [Act.put, List.getElem_toArray, List.getElem_cons_zero, List.getElem_cons_succ, List.setIfInBounds_toArray, List.set_cons_zero, List.set_cons_succ]
          refine wpAnyH_take (i := 18) (v := ?_) rfl (by kernel_rfl) (by kernel_rfl) (by kernel_rfl) (fun _ _ _ h => h) (Or.inl ⟨by rfl, ?_⟩) hHeld ?_
          rotate_left
          focus
            intro w hSw
            clear hSw
            go_simp
            try with_reducible rfl
          try simp only [Act.put, List.getElem_toArray, List.getElem_cons_zero, List.getElem_cons_succ, List.setIfInBounds_toArray, List.set_cons_zero, List.set_cons_succ]
          refine wpAnyH_take (i := 19) (v := ?_) rfl (by kernel_rfl) (by kernel_rfl) (by kernel_rfl) (fun _ _ _ h => h) (Or.inl ⟨by rfl, ?_⟩) hHeld ?_
          rotate_left
          focus
            intro w hSw
            clear hSw
            go_simp
            try with_reducible rfl
          try simp only [Act.put, List.getElem_toArray, List.getElem_cons_zero, List.getElem_cons_succ, List.setIfInBounds_toArray, List.set_cons_zero, List.set_cons_succ]
          refine wpAnyH_take (i := 20) (v := ?_) rfl (by kernel_rfl) (by kernel_rfl) (by kernel_rfl) (fun _ _ _ h => h) (Or.inl ⟨by rfl, ?_⟩) hHeld ?_
          rotate_left
          focus
            intro w hSw
            clear hSw
            go_simp
            try with_reducible rfl
          try simp only [Act.put, List.getElem_toArray, List.getElem_cons_zero, List.getElem_cons_succ, List.setIfInBounds_toArray, List.set_cons_zero, List.set_cons_succ]
          refine wpAnyH_done (by kernel_rfl) ?_ _
          refine NoPanic.normal ?_
          go_wp2_with fail
          refine (rfail_c q s (pos1, none) pos W1.drew (Lib.hid HR1.out.drew)).mono ?_
          rintro e W9 ⟨rfl, hr9, ht9⟩
          have HF : Hid (RefTQ w q s (rdT s most (pos, bad)) (.returned (.string ByteArray.empty)) W9) := by
            rw [HRD.out]
            exact ⟨rfl, hr9, HT1.out.drew.trans ht9 (fun _ _ h => h)⟩
          clear hr9 ht9
          go_wp2_with fail
          go_ret
          exact HF.out
        · have d3 : decide ((s.size : Int) - (pos1 : Int) < (m : Int)) = false := decide_eq_false h3
          have HRD : Hid (rdT s most (pos, bad) = (s.extract pos1 (pos1 + m), (pos1 + m, none))) := by
            show _ = _
            unfold rdT
            simp only [HR0.out]
            rw [if_neg (by omega), Int.toNat_natCast]
          obtain ⟨p2, hp2⟩ : ∃ p2, p2 = pos1 + m := ⟨_, rfl⟩
          have hp2l : p2 ≤ s.size := by omega
          have hp12 : pos1 ≤ p2 := by omega
          have e1 : (pos1 : Int) + (m : Int) = (p2 : Int) := by omega
          have e2 : IntKind.i64.wrap ((p2 : Int) - (m : Int)) = (pos1 : Int) := by rw [IntKind.wrap_i64]; omega
          have e3 : IntKind.i64.wrap (p2 : Int) = (p2 : Int) := by rw [IntKind.wrap_i64]; omega
          have e4 : wrap64 (p2 : Int) = (p2 : Int) := by unfold wrap64; omega
          have i1 : (pos1 : Int) ≤ (p2 : Int) := by omega
          have i2 : (p2 : Int) ≤ (s.size : Int) := by omega
          rw [← hp2] at HRD
          have hb2 : Blk (W1.drew.setCell ⟨q, 1, none⟩ (.int .i64 p2)) q #[.string s, .int .i64 p2, .int .i64 (-1)] 49 := HR1.out.drew.blk.set 1 _
          have k0 := hb2.cell 0 _ rfl
          have k1 := hb2.cell 1 _ rfl
          have f1 := HR1.out.blk.free 1
          have HF : Hid (RefTQ w q s (rdT s most (pos, bad)) (.returned (.string (s.extract pos1 p2))) (W1.drew.setCell ⟨q, 1, none⟩ (.int .i64 p2)).drew) := by
            rw [HRD.out]
            exact ⟨rfl, (RefV.drew ⟨hb2, hp2l⟩), (HT1.out.drew.trans (Turns.set (F := fun k => k = q) rfl) (fun _ _ h => h)).drew⟩
          clear h1 h2 h3 hp2 hb2
          go_wp2_with fail
          refine wp_region_noPanic ?_
          refine wp_region_held_drew (S := (fun w' => w'.cell? ⟨q, 0, none⟩ = some (.string s) ∧ w'.cell? ⟨q, 1, none⟩ = some (.int .i64 pos1))) (by kernel_rfl) ⟨c0, c1⟩ (fun hHeld => ?_)
          refine wpAnyH_take (i := 0) (v := ?_) rfl (by kernel_rfl) (by kernel_rfl) (by kernel_rfl) (fun _ _ _ h => h) (Or.inl ⟨by rfl, ?_⟩) hHeld ?_
          rotate_left
          focus
            intro w hSw
            clear hSw
            go_simp
            try with_reducible rfl
          try simp only [Act.put, List.getElem_toArray, List.getElem_cons_zero, List.getElem_cons_succ, List.setIfInBounds_toArray, List.set_cons_zero, List.set_cons_succ]
          refine wpAnyH_take (i := 1) (v := ?_) rfl (by kernel_rfl) (by kernel_rfl) (by kernel_rfl) (fun _ _ _ h => h) (Or.inl ⟨by rfl, ?_⟩) hHeld ?_
          rotate_left
          focus
            intro w hSw
            clear hSw
            go_simp
            try with_reducible rfl
          try simp only [Act.put, List.getElem_toArray, List.getElem_cons_zero, List.getElem_cons_succ, List.setIfInBounds_toArray, List.set_cons_zero, List.set_cons_succ]
          refine wpAnyH_take (i := 2) (v := ?_) rfl (by kernel_rfl) (by kernel_rfl) (by kernel_rfl) (fun _ _ _ h => h) (Or.inl ⟨by rfl, ?_⟩) hHeld ?_
          rotate_left
          focus
            intro w hSw
            clear hSw
            go_simp
            try with_reducible rfl
          try simp only [Act.put, List.getElem_toArray, List.getElem_cons_zero, List.getElem_cons_succ, List.setIfInBounds_toArray, List.set_cons_zero, List.set_cons_succ]
          refine wpAnyH_take (i := 3) (v := ?_) rfl (by kernel_rfl) (by kernel_rfl) (by kernel_rfl) (fun _ _ _ h => h) (Or.inl ⟨by rfl, ?_⟩) hHeld ?_
          rotate_left
          focus
            intro w hSw
            clear hSw
            go_simp
            try with_reducible rfl
          try simp only [Act.put, List.getElem_toArray, List.getElem_cons_zero, List.getElem_cons_succ, List.setIfInBounds_toArray, List.set_cons_zero, List.set_cons_succ]
          refine wpAnyH_take (i := 4) (v := ?_) rfl (by kernel_rfl) (by kernel_rfl) (by kernel_rfl) (fun _ _ _ h => h) (Or.inl ⟨by rfl, ?_⟩) hHeld ?_
          rotate_left
          focus
            intro w hSw
            clear hSw
            go_simp
            try with_reducible rfl
          try simp only [Act.put, List.getElem_toArray, List.getElem_cons_zero, List.getElem_cons_succ, List.setIfInBounds_toArray, List.set_cons_zero, List.set_cons_succ]
          refine wpAnyH_take (i := 5) (v := ?_) rfl (by kernel_rfl) (by kernel_rfl) (by kernel_rfl) (fun _ _ _ h => h) (Or.inl ⟨by rfl, ?_⟩) hHeld ?_
          rotate_left
          focus
            intro w hSw
            clear hSw
            go_simp
            try with_reducible rfl
          try simp only [Act.put, List.getElem_toArray, List.getElem_cons_zero, List.getElem_cons_succ, List.setIfInBounds_toArray, List.set_cons_zero, List.set_cons_succ]
          refine wpAnyH_take (i := 6) (v := ?_) rfl (by kernel_rfl) (by kernel_rfl) (by kernel_rfl) (fun _ _ _ h => h) (Or.inl ⟨by rfl, ?_⟩) hHeld ?_
          rotate_left
          focus
            intro w hSw
            clear hSw
            go_simp
            try with_reducible rfl
          try simp only [Act.put, List.getElem_toArray, List.getElem_cons_zero, List.getElem_cons_succ, List.setIfInBounds_toArray, List.set_cons_zero, List.set_cons_succ]
          refine wpAnyH_take (i := 7) (v := ?_) rfl (by kernel_rfl) (by kernel_rfl) (by kernel_rfl) (fun _ _ _ h => h) (Or.inl ⟨by rfl, ?_⟩) hHeld ?_
          rotate_left
          focus
            intro w hSw
            clear hSw
            go_simp
            try with_reducible rfl
          try simp only [Act.put, List.getElem_toArray, List.getElem_cons_zero, List.getElem_cons_succ, List.setIfInBounds_toArray, List.set_cons_zero, List.set_cons_succ]
          refine wpAnyH_take (i := 8) (v := ?_) rfl (by kernel_rfl) (by kernel_rfl) (by kernel_rfl) (fun _ _ _ h => h) (Or.inl ⟨by rfl, ?_⟩) hHeld ?_
          rotate_left
          focus
            intro w hSw
            clear hSw
            go_simp
            try with_reducible rfl
          try simp only [Act.put, List.getElem_toArray, List.getElem_cons_zero, List.getElem_cons_succ, List.setIfInBounds_toArray, List.set_cons_zero, List.set_cons_succ]
          refine wpAnyH_take (i := 9) (v := ?_) rfl (by kernel_rfl) (by kernel_rfl) (by kernel_rfl) (fun _ _ _ h => h) (Or.inl ⟨by rfl, ?_⟩) hHeld ?_
          rotate_left
          focus
            intro w hSw
            clear hSw
            go_simp
            try with_reducible rfl
          try simp only [Act.put, List.getElem_toArray, List.getElem_cons_zero, List.getElem_cons_succ, List.setIfInBounds_toArray, List.set_cons_zero, List.set_cons_succ]
          refine wpAnyH_take (i := 10) (v := ?_) rfl (by kernel_rfl) (by kernel_rfl) (by kernel_rfl) (fun _ _ _ h => h) (Or.inl ⟨by rfl, ?_⟩) hHeld ?_
          rotate_left
          focus
            intro w hSw
            clear hSw
            go_simp
            try with_reducible rfl
          try simp only [Act.put, List.getElem_toArray, List.getElem_cons_zero, List.getElem_cons_succ, List.setIfInBounds_toArray, List.set_cons_zero, List.set_cons_succ]
          refine wpAnyH_take (i := 11) (v := ?_) rfl (by kernel_rfl) (by kernel_rfl) (by kernel_rfl) (fun _ _ _ h => h) (Or.inl ⟨by rfl, ?_⟩) hHeld ?_
          rotate_left
          focus
            intro w hSw
            clear hSw
            go_simp
            try with_reducible rfl
          try simp only [Act.put, List.getElem_toArray, List.getElem_cons_zero, List.getElem_cons_succ, List.setIfInBounds_toArray, List.set_cons_zero, List.set_cons_succ]
          refine wpAnyH_take (i := 12) (v := ?_) rfl (by kernel_rfl) (by kernel_rfl) (by kernel_rfl) (fun _ _ _ h => h) (Or.inl ⟨by rfl, ?_⟩) hHeld ?_
          rotate_left
          focus
            intro w hSw
            (try dsimp only at hSw)
            go_simp
            try with_reducible rfl
          try simp only [Act.put, List.getElem_toArray, List.getElem_cons_zero, List.getElem_cons_succ, List.setIfInBounds_toArray, List.set_cons_zero, List.set_cons_succ]
          refine wpAnyH_take (i := 13) (v := ?_) rfl (by kernel_rfl) (by kernel_rfl) (by kernel_rfl) (fun _ _ _ h => h) (Or.inl ⟨by rfl, ?_⟩) hHeld ?_
          rotate_left
          focus
            intro w hSw
            clear hSw
            go_simp
            try with_reducible rfl
          try simp only [Act.put, List.getElem_toArray, List.getElem_cons_zero, List.getElem_cons_succ, List.setIfInBounds_toArray, List.set_cons_zero, List.set_cons_succ]
          refine wpAnyH_take (i := 14) (v := ?_) rfl (by kernel_rfl) (by kernel_rfl) (by kernel_rfl) (fun _ _ _ h => h) (Or.inl ⟨by rfl, ?_⟩) hHeld ?_
          rotate_left
          focus
            intro w hSw
            clear hSw
            go_simp
            try with_reducible rfl
          try simp only [Act.put, List.getElem_toArray, List.getElem_cons_zero, List.getElem_cons_succ, List.setIfInBounds_toArray, List.set_cons_zero, List.set_cons_succ]
          refine wpAnyH_take (i := 15) (v := ?_) rfl (by kernel_rfl) (by kernel_rfl) (by kernel_rfl) (fun _ _ _ h => h) (Or.inl ⟨by rfl, ?_⟩) hHeld ?_
          rotate_left
          focus
            intro w hSw
            clear hSw
            go_simp
            try with_reducible rfl
          try simp only [Act.put, List.getElem_toArray, List.getElem_cons_zero, List.getElem_cons_succ, List.setIfInBounds_toArray, List.set_cons_zero, List.set_cons_succ]
          refine wpAnyH_take (i := 16) (v := ?_) rfl (by kernel_rfl) (by kernel_rfl) (by kernel_rfl) (fun _ _ _ h => h) (Or.inl ⟨by rfl, ?_⟩) hHeld ?_
          rotate_left
          focus
            intro w hSw
            clear hSw
            go_simp
            try with_reducible rfl
          try simp only [Act.put, List.getElem_toArray, List.getElem_cons_zero, List.getElem_cons_succ, List.setIfInBounds_toArray, List.set_cons_zero, List.set_cons_succ]
          refine wpAnyH_take (i := 17) (v := ?_) rfl (by kernel_rfl) (by kernel_rfl) (by kernel_rfl) (fun _ _ _ h => h) (Or.inl ⟨by rfl, ?_⟩) hHeld ?_
          rotate_left
          focus
            intro w hSw
            (try dsimp only at hSw)
            go_simp
            try with_reducible rfl
          try simp only [Act.put, List.getElem_toArray, List.getElem_cons_zero, List.getElem_cons_succ, List.setIfInBounds_toArray, List.set_cons_zero, List.set_cons_succ]
          refine wpAnyH_take (i := 18) (v := ?_) rfl (by kernel_rfl) (by kernel_rfl) (by kernel_rfl) (fun _ _ _ h => h) (Or.inl ⟨by rfl, ?_⟩) hHeld ?_
          rotate_left
          focus
            intro w hSw
            clear hSw
            go_simp
            try with_reducible rfl
          try simp only [Act.put, List.getElem_toArray, List.getElem_cons_zero, List.getElem_cons_succ, List.setIfInBounds_toArray, List.set_cons_zero, List.set_cons_succ]
          refine wpAnyH_take (i := 19) (v := ?_) rfl (by kernel_rfl) (by kernel_rfl) (by kernel_rfl) (fun _ _ _ h => h) (Or.inl ⟨by rfl, ?_⟩) hHeld ?_
          rotate_left
          focus
            intro w hSw
            clear hSw
            go_simp
            try with_reducible rfl
          try simp only [Act.put, List.getElem_toArray, List.getElem_cons_zero, List.getElem_cons_succ, List.setIfInBounds_toArray, List.set_cons_zero, List.set_cons_succ]
          refine wpAnyH_take (i := 20) (v := ?_) rfl (by kernel_rfl) (by kernel_rfl) (by kernel_rfl) (fun _ _ _ h => h) (Or.inl ⟨by rfl, ?_⟩) hHeld ?_
          rotate_left
          focus
            intro w hSw
            clear hSw
            go_simp
            try with_reducible rfl
          try simp only [Act.put, List.getElem_toArray, List.getElem_cons_zero, List.getElem_cons_succ, List.setIfInBounds_toArray, List.set_cons_zero, List.set_cons_succ]
          refine wpAnyH_done (by kernel_rfl) ?_ _
          refine NoPanic.normal ?_
          go_wp2_with fail
          refine wp_region_noPanic ?_
          refine wp_region_held_drew (S := (fun w' => w'.cell? ⟨q, 0, none⟩ = some (.string s) ∧ w'.cell? ⟨q, 1, none⟩ = some (.int .i64 p2))) (by kernel_rfl) ⟨k0, k1⟩ (fun hHeld => ?_)
          refine wpAnyH_take (i := 0) (v := ?_) rfl (by kernel_rfl) (by kernel_rfl) (by kernel_rfl) (fun _ _ _ h => h) (Or.inl ⟨by rfl, ?_⟩) hHeld ?_
          rotate_left
          focus
            intro w hSw
            clear hSw
            go_simp
            try with_reducible rfl
          try simp only [Act.put, List.getElem_toArray, List.getElem_cons_zero, List.getElem_cons_succ, List.setIfInBounds_toArray, List.set_cons_zero, List.set_cons_succ]
          refine wpAnyH_take (i := 1) (v := ?_) rfl (by kernel_rfl) (by kernel_rfl) (by kernel_rfl) (fun _ _ _ h => h) (Or.inl ⟨by rfl, ?_⟩) hHeld ?_
          rotate_left
          focus
            intro w hSw
            clear hSw
            go_simp
            try with_reducible rfl
          try simp only [Act.put, List.getElem_toArray, List.getElem_cons_zero, List.getElem_cons_succ, List.setIfInBounds_toArray, List.set_cons_zero, List.set_cons_succ]
          refine wpAnyH_take (i := 2) (v := ?_) rfl (by kernel_rfl) (by kernel_rfl) (by kernel_rfl) (fun _ _ _ h => h) (Or.inl ⟨by rfl, ?_⟩) hHeld ?_
          rotate_left
          focus
            intro w hSw
            clear hSw
            go_simp
            try with_reducible rfl
          try simp only [Act.put, List.getElem_toArray, List.getElem_cons_zero, List.getElem_cons_succ, List.setIfInBounds_toArray, List.set_cons_zero, List.set_cons_succ]
          refine wpAnyH_take (i := 3) (v := ?_) rfl (by kernel_rfl) (by kernel_rfl) (by kernel_rfl) (fun _ _ _ h => h) (Or.inl ⟨by rfl, ?_⟩) hHeld ?_
          rotate_left
          focus
            intro w hSw
            (try dsimp only at hSw)
            go_simp
            try with_reducible rfl
          try simp only [Act.put, List.getElem_toArray, List.getElem_cons_zero, List.getElem_cons_succ, List.setIfInBounds_toArray, List.set_cons_zero, List.set_cons_succ]
          refine wpAnyH_take (i := 4) (v := ?_) rfl (by kernel_rfl) (by kernel_rfl) (by kernel_rfl) (fun _ _ _ h => h) (Or.inl ⟨by rfl, ?_⟩) hHeld ?_
          rotate_left
          focus
            intro w hSw
            clear hSw
            go_simp
            try with_reducible rfl
          try simp only [Act.put, List.getElem_toArray, List.getElem_cons_zero, List.getElem_cons_succ, List.setIfInBounds_toArray, List.set_cons_zero, List.set_cons_succ]
          refine wpAnyH_take (i := 5) (v := ?_) rfl (by kernel_rfl) (by kernel_rfl) (by kernel_rfl) (fun _ _ _ h => h) (Or.inl ⟨by rfl, ?_⟩) hHeld ?_
          rotate_left
          focus
            intro w hSw
            clear hSw
            go_simp
            try with_reducible rfl
          try simp only [Act.put, List.getElem_toArray, List.getElem_cons_zero, List.getElem_cons_succ, List.setIfInBounds_toArray, List.set_cons_zero, List.set_cons_succ]
          refine wpAnyH_take (i := 6) (v := ?_) rfl (by kernel_rfl) (by kernel_rfl) (by kernel_rfl) (fun _ _ _ h => h) (Or.inl ⟨by rfl, ?_⟩) hHeld ?_
          rotate_left
          focus
            intro w hSw
            clear hSw
            go_simp
            try with_reducible rfl
          try simp only [Act.put, List.getElem_toArray, List.getElem_cons_zero, List.getElem_cons_succ, List.setIfInBounds_toArray, List.set_cons_zero, List.set_cons_succ]
          refine wpAnyH_take (i := 7) (v := ?_) rfl (by kernel_rfl) (by kernel_rfl) (by kernel_rfl) (fun _ _ _ h => h) (Or.inl ⟨by rfl, ?_⟩) hHeld ?_
          rotate_left
          focus
            intro w hSw
            (try dsimp only at hSw)
            go_simp
            try with_reducible rfl
          try simp only [Act.put, List.getElem_toArray, List.getElem_cons_zero, List.getElem_cons_succ, List.setIfInBounds_toArray, List.set_cons_zero, List.set_cons_succ]
          refine wpAnyH_take (i := 8) (v := ?_) rfl (by kernel_rfl) (by kernel_rfl) (by kernel_rfl) (fun _ _ _ h => h) (Or.inl ⟨by rfl, ?_⟩) hHeld ?_
          rotate_left
          focus
            intro w hSw
            clear hSw
            go_simp
            try with_reducible rfl
          try simp only [Act.put, List.getElem_toArray, List.getElem_cons_zero, List.getElem_cons_succ, List.setIfInBounds_toArray, List.set_cons_zero, List.set_cons_succ]
          refine wpAnyH_take (i := 9) (v := ?_) rfl (by kernel_rfl) (by kernel_rfl) (by kernel_rfl) (fun _ _ _ h => h) (Or.inl ⟨by rfl, ?_⟩) hHeld ?_
          rotate_left
          focus
            intro w hSw
            clear hSw
            go_simp
            try with_reducible rfl
          try simp only [Act.put, List.getElem_toArray, List.getElem_cons_zero, List.getElem_cons_succ, List.setIfInBounds_toArray, List.set_cons_zero, List.set_cons_succ]
          refine wpAnyH_take (i := 10) (v := ?_) rfl (by kernel_rfl) (by kernel_rfl) (by kernel_rfl) (fun _ _ _ h => h) (Or.inl ⟨by rfl, ?_⟩) hHeld ?_
          rotate_left
          focus
            intro w hSw
            clear hSw
            go_simp
            try with_reducible rfl
          try simp only [Act.put, List.getElem_toArray, List.getElem_cons_zero, List.getElem_cons_succ, List.setIfInBounds_toArray, List.set_cons_zero, List.set_cons_succ]
          refine wpAnyH_take (i := 11) (v := ?_) rfl (by kernel_rfl) (by kernel_rfl) (by kernel_rfl) (fun _ _ _ h => h) (Or.inl ⟨by rfl, ?_⟩) hHeld ?_
          rotate_left
          focus
            intro w hSw
            clear hSw
            go_simp
            try with_reducible rfl
          try simp only [Act.put, List.getElem_toArray, List.getElem_cons_zero, List.getElem_cons_succ, List.setIfInBounds_toArray, List.set_cons_zero, List.set_cons_succ]
          refine wpAnyH_take (i := 12) (v := ?_) rfl (by kernel_rfl) (by kernel_rfl) (by kernel_rfl) (fun _ _ _ h => h) (Or.inl ⟨by rfl, ?_⟩) hHeld ?_
          rotate_left
          focus
            intro w hSw
            clear hSw
            go_simp
            try with_reducible rfl
          try simp only [Act.put, List.getElem_toArray, List.getElem_cons_zero, List.getElem_cons_succ, List.setIfInBounds_toArray, List.set_cons_zero, List.set_cons_succ]
          refine wpAnyH_take (i := 13) (v := ?_) rfl (by kernel_rfl) (by kernel_rfl) (by kernel_rfl) (fun _ _ _ h => h) (Or.inl ⟨by rfl, ?_⟩) hHeld ?_
          rotate_left
          focus
            intro w hSw
            (try dsimp only at hSw)
            go_simp
            try with_reducible rfl
          try simp only [Act.put, List.getElem_toArray, List.getElem_cons_zero, List.getElem_cons_succ, List.setIfInBounds_toArray, List.set_cons_zero, List.set_cons_succ]
          refine wpAnyH_take (i := 14) (v := ?_) rfl (by kernel_rfl) (by kernel_rfl) (by kernel_rfl) (fun _ _ _ h => h) (Or.inl ⟨by rfl, ?_⟩) hHeld ?_
          rotate_left
          focus
            intro w hSw
            clear hSw
            go_simp
            try with_reducible rfl
          try simp only [Act.put, List.getElem_toArray, List.getElem_cons_zero, List.getElem_cons_succ, List.setIfInBounds_toArray, List.set_cons_zero, List.set_cons_succ]
          refine wpAnyH_take (i := 15) (v := ?_) rfl (by kernel_rfl) (by kernel_rfl) (by kernel_rfl) (fun _ _ _ h => h) (Or.inl ⟨by rfl, ?_⟩) hHeld ?_
          rotate_left
          focus
            intro w hSw
            clear hSw
            go_simp
            try with_reducible rfl
          try simp only [Act.put, List.getElem_toArray, List.getElem_cons_zero, List.getElem_cons_succ, List.setIfInBounds_toArray, List.set_cons_zero, List.set_cons_succ]
          refine wpAnyH_done (by kernel_rfl) ?_ _
          refine NoPanic.normal ?_
          go_wp2_with fail
          go_ret
          exact HF.out
def RefBQ (w : World) (q : Nat) (s : ByteArray) (r : Bool × St) (e : Ending) (w' : World) : Prop := e = .returned (.bool r.1) ∧ RefV w' q s r.2 ∧ Turns (fun k => k = q) w w'
set_option maxRecDepth 100000 in
set_option maxHeartbeats 4000000 in
theorem rrbool_c (q : Nat) (s : ByteArray) (pos : Nat) (bad : Option Nat) (w : World) (h : Hid (RefV w q s (pos, bad))) (hs : s.size ≤ 1000000) :
    Calls Tryd.prog 29 #[.pointer (some ⟨q, 0, none⟩)] w (RefBQ w q s (rdB s (pos, bad))) := by
  have c1 : w.cell? ⟨q, 1, none⟩ = some (.int .i64 pos) := h.out.blk.cell 1 _ rfl
  obtain ⟨r, hr⟩ : ∃ r, rdI s (pos, bad) = r := ⟨_, rfl⟩
  have HINT := Lib.hid (rrint_c q s pos bad w h hs)
  rw [hr] at HINT
  obtain ⟨z, pos1, bad1⟩ := r
  have HR0 := Lib.hid hr
  clear hr
  go_enter Tryd.func29, Tryd.ntmps29
  go_wp2_with fail
  refine (HINT.out).mono ?_
  rintro e W1 ⟨rfl, hr1, ht1⟩
  have HR1 := Lib.hid hr1
  have HT1 := Lib.hid ht1
  clear ht1
  cases bad1 with
  | some y =>
    have c2 : W1.cell? ⟨q, 2, none⟩ = some (.int .i64 (y : Int)) := hr1.blk.cell 2 _ rfl
    obtain rfl := rdI_bad HR0.out
    have HF : Hid (RefBQ w q s (rdB s (pos, bad)) (.returned (.bool false)) W1) := by
      unfold rdB
      simp only [HR0.out]
      exact ⟨rfl, HR1.out, HT1.out⟩
    clear hr1
    go_wp2_with fail
    go_ret
    exact HF.out
  | none =>
    have c2 : W1.cell? ⟨q, 2, none⟩ = some (.int .i64 (-1)) := hr1.blk.cell 2 _ rfl
    clear hr1
    by_cases h0 : z = 0
    · subst h0
      have HF : Hid (RefBQ w q s (rdB s (pos, bad)) (.returned (.bool false)) W1) := by
        unfold rdB
        simp only [HR0.out]
        exact ⟨rfl, HR1.out, HT1.out⟩
      go_wp2_with fail
      go_ret
      exact HF.out
    · by_cases h1 : z = 1
      · subst h1
        have HF : Hid (RefBQ w q s (rdB s (pos, bad)) (.returned (.bool true)) W1) := by
          unfold rdB
          simp only [HR0.out]
          exact ⟨rfl, HR1.out, HT1.out⟩
        go_wp2_with fail
        go_ret
        exact HF.out
      · have HRD : Hid (rdB s (pos, bad) = (false, (s.size, some pos))) := by
          show _ = _
          unfold rdB
          simp only [HR0.out]
          rw [if_neg h0, if_neg h1]
        have d0 : (z == 0) = false := beq_eq_false_iff_ne.2 h0
        have d1 : (z == 1) = false := beq_eq_false_iff_ne.2 h1
        have d0' : (z != 0) = true := by rw [bne_iff_ne]; exact h0
        have d1' : (z != 1) = true := by rw [bne_iff_ne]; exact h1
        go_wp2_with fail
        refine (rfail_c q s (pos1, none) pos W1 HR1).mono ?_
        rintro e W9 ⟨rfl, hr9, ht9⟩
        have HF : Hid (RefBQ w q s (rdB s (pos, bad)) (.returned (.bool false)) W9) := by
          rw [HRD.out]
          exact ⟨rfl, hr9, HT1.out.trans ht9 (fun _ _ h => h)⟩
        clear hr9 ht9
        go_wp2_with fail
        go_ret
        exact HF.out
def RefVQ (w : World) (q : Nat) (s : ByteArray) (r : (Int × Int × Int × Int) × St) (e : Ending) (w' : World) : Prop := e = .returned (vecV r.1.1 r.1.2.1 r.1.2.2.1 r.1.2.2.2) ∧ RefV w' q s r.2 ∧ Turns (fun k => k = q) w w'
set_option maxRecDepth 100000 in
set_option maxHeartbeats 8000000 in
theorem rrvec_c (q : Nat) (s : ByteArray) (pos0 : Nat) (bad0 : Option Nat) (w : World) (h : Hid (RefV w q s (pos0, bad0))) (hs : s.size ≤ 1000000) :
    Calls Tryd.prog 27 #[.pointer (some ⟨q, 0, none⟩)] w (RefVQ w q s (rdV s (pos0, bad0))) := by
  obtain ⟨⟨z1, pos1, bad1⟩, h1⟩ : ∃ r, rdI s (pos0, bad0) = r := ⟨_, rfl⟩
  obtain ⟨⟨z2, pos2, bad2⟩, h2⟩ : ∃ r, rdI s (pos1, bad1) = r := ⟨_, rfl⟩
  obtain ⟨⟨z3, pos3, bad3⟩, h3⟩ : ∃ r, rdI s (pos2, bad2) = r := ⟨_, rfl⟩
  obtain ⟨⟨z4, pos4, bad4⟩, h4⟩ : ∃ r, rdI s (pos3, bad3) = r := ⟨_, rfl⟩
  have HC1 : Hid (∀ w, Hid (RefV w q s (pos0, bad0)) → Calls Tryd.prog 23 #[.pointer (some ⟨q, 0, none⟩)] w (RefIQ w q s (z1, (pos1, bad1)))) := fun w hi => by rw [← h1]; exact rrint_c q s pos0 bad0 w hi hs
  have HC2 : Hid (∀ w, Hid (RefV w q s (pos1, bad1)) → Calls Tryd.prog 23 #[.pointer (some ⟨q, 0, none⟩)] w (RefIQ w q s (z2, (pos2, bad2)))) := fun w hi => by rw [← h2]; exact rrint_c q s pos1 bad1 w hi hs
  have HC3 : Hid (∀ w, Hid (RefV w q s (pos2, bad2)) → Calls Tryd.prog 23 #[.pointer (some ⟨q, 0, none⟩)] w (RefIQ w q s (z3, (pos3, bad3)))) := fun w hi => by rw [← h3]; exact rrint_c q s pos2 bad2 w hi hs
  have HC4 : Hid (∀ w, Hid (RefV w q s (pos3, bad3)) → Calls Tryd.prog 23 #[.pointer (some ⟨q, 0, none⟩)] w (RefIQ w q s (z4, (pos4, bad4)))) := fun w hi => by rw [← h4]; exact rrint_c q s pos3 bad3 w hi hs
  have HPV : Hid (rdV s (pos0, bad0) = vsel (z1, z2, z3, z4) (pos4, bad4)) := by
    show _ = _
    unfold rdV
    simp only [h1, h2, h3, h4]
  have hqlt := h.out.blk.lt
  obtain ⟨V, hV⟩ : ∃ V, V = w.heap.size + 1 := ⟨_, rfl⟩
  obtain ⟨R, hR⟩ : ∃ R, R = w.heap.size := ⟨_, rfl⟩
  have HVQ : Hid (¬ V = q) := by show ¬ _; omega
  have HQV : Hid (¬ q = V) := by show ¬ _; omega
  have HRQ : Hid (¬ R = q) := by show ¬ _; omega
  have HQR : Hid (¬ q = R) := by show ¬ _; omega
  have HRV : Hid (¬ R = V) := by show ¬ _; omega
  have HVW : Hid (w.heap.size ≤ V) := by show _ ≤ _; omega
  have HRW : Hid (w.heap.size ≤ R) := by show _ ≤ _; omega
  clear h1 h2 h3 h4
  go_enter Tryd.func27, Tryd.ntmps27
  go_wp2_with fail
  obtain ⟨v0, hv0⟩ : ∃ v0, v0 = (w.alloc (.cells #[.int .i64 0, .int .i64 0, .int .i64 0, .int .i64 0] 43)).alloc (.cells #[.int .i64 0, .int .i64 0, .int .i64 0, .int .i64 0] 43) := ⟨_, rfl⟩
  have HV0 : Hid (Blk v0 V #[.int .i64 0, .int .i64 0, .int .i64 0, .int .i64 0] 43) := by
    show Blk _ _ _ _
    rw [hv0, hV]
    have := Blk.new (w.alloc (.cells #[.int .i64 0, .int .i64 0, .int .i64 0, .int .i64 0] 43)) #[.int .i64 0, .int .i64 0, .int .i64 0, .int .i64 0] 43
    simpa using this
  have HRB0 : Hid (Blk v0 R #[.int .i64 0, .int .i64 0, .int .i64 0, .int .i64 0] 43) := by
    show Blk _ _ _ _
    rw [hv0, hR]
    exact (Blk.new w #[.int .i64 0, .int .i64 0, .int .i64 0, .int .i64 0] 43).below ((Below.refl _ _).alloc (Nat.le_refl _) _)
  have hb0 : Below w.heap.size w v0 := by rw [hv0]; exact ((Below.refl _ w).alloc (Nat.le_refl _) _).alloc (by simp) _
  have HI0 := Lib.hid (h.out.below hb0)
  have HT0 : Hid (Turns (fun k => k = q) w v0) := Turns.of_below hb0
  rw [← hV, ← hR, ← hv0]
  clear hV hR hv0 hb0 hqlt h
  refine wp_loop_rounds 5 ?_
  rw [rounds_succ]
  go_wp2_with fail
  refine (HC1.out v0 HI0).mono ?_
  rintro e u1 ⟨rfl, hi, ht⟩
  have hv := ht.blk HV0.out HVQ.out
  have HRu := Lib.hid (ht.blk HRB0.out HRQ.out)
  have HIu := Lib.hid hi
  have HVu := Lib.hid hv
  have HTu : Hid (Turns (fun k => k = q) w u1) := HT0.out.trans ht (fun _ _ hf => hf)
  have f0 := hv.free 0
  have c0 := hv.cell 0 _ rfl
  clear hi ht hv HI0 HV0 HT0 HRB0
  go_wp2_with fail
  obtain ⟨v1, hv1⟩ : ∃ Z, Z = u1.setCell ⟨V, 0, none⟩ (.int .i64 z1) := ⟨_, rfl⟩
  have htt : Turns (fun k => k = V) u1 v1 := by rw [hv1]; exact Turns.set (F := fun k => k = V) rfl
  have HV1 : Hid (Blk v1 V #[.int .i64 z1, .int .i64 0, .int .i64 0, .int .i64 0] 43) := by show Blk _ _ _ _; rw [hv1]; exact HVu.out.set 0 _
  have HI1 : Hid (RefV v1 q s (pos1, bad1)) := HIu.out.turns htt HQV.out
  have HRB1 := Lib.hid (htt.blk HRu.out HRV.out)
  have HT1 : Hid (Turns (fun k => k = q) w v1) := HTu.out.trans htt (fun g hg hf => absurd hf (by have := HVW.out; omega))
  rw [← hv1]
  clear htt hv1 HVu HIu HRu HTu c0 f0
  rw [rounds_succ]
  go_wp2_with fail
  refine (HC2.out v1 HI1).mono ?_
  rintro e u2 ⟨rfl, hi, ht⟩
  have hv := ht.blk HV1.out HVQ.out
  have HRu := Lib.hid (ht.blk HRB1.out HRQ.out)
  have HIu := Lib.hid hi
  have HVu := Lib.hid hv
  have HTu : Hid (Turns (fun k => k = q) w u2) := HT1.out.trans ht (fun _ _ hf => hf)
  have f1 := hv.free 1
  have c1 := hv.cell 1 _ rfl
  clear hi ht hv HI1 HV1 HT1 HRB1
  go_wp2_with fail
  obtain ⟨v2, hv2⟩ : ∃ Z, Z = u2.setCell ⟨V, 1, none⟩ (.int .i64 z2) := ⟨_, rfl⟩
  have htt : Turns (fun k => k = V) u2 v2 := by rw [hv2]; exact Turns.set (F := fun k => k = V) rfl
  have HV2 : Hid (Blk v2 V #[.int .i64 z1, .int .i64 z2, .int .i64 0, .int .i64 0] 43) := by show Blk _ _ _ _; rw [hv2]; exact HVu.out.set 1 _
  have HI2 : Hid (RefV v2 q s (pos2, bad2)) := HIu.out.turns htt HQV.out
  have HRB2 := Lib.hid (htt.blk HRu.out HRV.out)
  have HT2 : Hid (Turns (fun k => k = q) w v2) := HTu.out.trans htt (fun g hg hf => absurd hf (by have := HVW.out; omega))
  rw [← hv2]
  clear htt hv2 HVu HIu HRu HTu c1 f1
  rw [rounds_succ]
  go_wp2_with fail
  refine (HC3.out v2 HI2).mono ?_
  rintro e u3 ⟨rfl, hi, ht⟩
  have hv := ht.blk HV2.out HVQ.out
  have HRu := Lib.hid (ht.blk HRB2.out HRQ.out)
  have HIu := Lib.hid hi
  have HVu := Lib.hid hv
  have HTu : Hid (Turns (fun k => k = q) w u3) := HT2.out.trans ht (fun _ _ hf => hf)
  have f2 := hv.free 2
  have c2 := hv.cell 2 _ rfl
  clear hi ht hv HI2 HV2 HT2 HRB2
  go_wp2_with fail
  obtain ⟨v3, hv3⟩ : ∃ Z, Z = u3.setCell ⟨V, 2, none⟩ (.int .i64 z3) := ⟨_, rfl⟩
  have htt : Turns (fun k => k = V) u3 v3 := by rw [hv3]; exact Turns.set (F := fun k => k = V) rfl
  have HV3 : Hid (Blk v3 V #[.int .i64 z1, .int .i64 z2, .int .i64 z3, .int .i64 0] 43) := by show Blk _ _ _ _; rw [hv3]; exact HVu.out.set 2 _
  have HI3 : Hid (RefV v3 q s (pos3, bad3)) := HIu.out.turns htt HQV.out
  have HRB3 := Lib.hid (htt.blk HRu.out HRV.out)
  have HT3 : Hid (Turns (fun k => k = q) w v3) := HTu.out.trans htt (fun g hg hf => absurd hf (by have := HVW.out; omega))
  rw [← hv3]
  clear htt hv3 HVu HIu HRu HTu c2 f2
  rw [rounds_succ]
  go_wp2_with fail
  refine (HC4.out v3 HI3).mono ?_
  rintro e u4 ⟨rfl, hi, ht⟩
  have hv := ht.blk HV3.out HVQ.out
  have HRu := Lib.hid (ht.blk HRB3.out HRQ.out)
  have HIu := Lib.hid hi
  have HVu := Lib.hid hv
  have HTu : Hid (Turns (fun k => k = q) w u4) := HT3.out.trans ht (fun _ _ hf => hf)
  have f3 := hv.free 3
  have c3 := hv.cell 3 _ rfl
  clear hi ht hv HI3 HV3 HT3 HRB3
  go_wp2_with fail
  obtain ⟨v4, hv4⟩ : ∃ Z, Z = u4.setCell ⟨V, 3, none⟩ (.int .i64 z4) := ⟨_, rfl⟩
  have htt : Turns (fun k => k = V) u4 v4 := by rw [hv4]; exact Turns.set (F := fun k => k = V) rfl
  have HV4 : Hid (Blk v4 V #[.int .i64 z1, .int .i64 z2, .int .i64 z3, .int .i64 z4] 43) := by show Blk _ _ _ _; rw [hv4]; exact HVu.out.set 3 _
  have HI4 : Hid (RefV v4 q s (pos4, bad4)) := HIu.out.turns htt HQV.out
  have HRB4 := Lib.hid (htt.blk HRu.out HRV.out)
  have HT4 : Hid (Turns (fun k => k = q) w v4) := HTu.out.trans htt (fun g hg hf => absurd hf (by have := HVW.out; omega))
  rw [← hv4]
  clear htt hv4 HVu HIu HRu HTu c3 f3
  rw [rounds_succ]
  have c0 := HV4.out.cell 0 _ rfl
  have c1 := HV4.out.cell 1 _ rfl
  have c2 := HV4.out.cell 2 _ rfl
  have c3 := HV4.out.cell 3 _ rfl
  have r0 := HRB4.out.cell 0 _ rfl
  have r1 := HRB4.out.cell 1 _ rfl
  have r2 := HRB4.out.cell 2 _ rfl
  have r3 := HRB4.out.cell 3 _ rfl
  have k0 := HRB4.out.free 0
  have k1 := HRB4.out.free 1
  have k2 := HRB4.out.free 2
  have k3 := HRB4.out.free 3
  cases bad4 with
  | some y =>
    have b2 : v4.cell? ⟨q, 2, none⟩ = some (.int .i64 (y : Int)) := HI4.out.blk.cell 2 _ rfl
    have HW5 := Lib.hid (set4 HRB4.out (.int .i64 0) (.int .i64 0) (.int .i64 0) (.int .i64 0))
    have HFIN : Hid (∀ w', Turns (fun k => k = R) v4 w' → RefVQ w q s (rdV s (pos0, bad0)) (.returned (vecV 0 0 0 0)) w') := fun w' ht => by
      rw [HPV.out]
      exact ⟨rfl, HI4.out.turns ht HQR.out, HT4.out.trans ht (fun g hg hf => absurd hf (by have := HRW.out; omega))⟩
    go_wp2_with fail
    exact bodyPost_row Tryd.results27 rfl R rfl #[.int .i64 0, .int .i64 0, .int .i64 0, .int .i64 0] 43 (0, 0) HW5.out.1 _ Tryd.underlying43 rfl 4 sizeVec rfl (HFIN.out _ HW5.out.2)
  | none =>
    have b2 : v4.cell? ⟨q, 2, none⟩ = some (.int .i64 (-1)) := HI4.out.blk.cell 2 _ rfl
    have HW5 := Lib.hid (set4 HRB4.out (.int .i64 z1) (.int .i64 z2) (.int .i64 z3) (.int .i64 z4))
    have HFIN : Hid (∀ w', Turns (fun k => k = R) v4 w' → RefVQ w q s (rdV s (pos0, bad0)) (.returned (vecV z1 z2 z3 z4)) w') := fun w' ht => by
      rw [HPV.out]
      exact ⟨rfl, HI4.out.turns ht HQR.out, HT4.out.trans ht (fun g hg hf => absurd hf (by have := HRW.out; omega))⟩
    go_wp2_with fail
    exact bodyPost_row Tryd.results27 rfl R rfl #[.int .i64 z1, .int .i64 z2, .int .i64 z3, .int .i64 z4] 43 (0, 0) HW5.out.1 _ Tryd.underlying43 rfl 4 sizeVec rfl (HFIN.out _ HW5.out.2)
end Go.Proofs.YtdebldpmloignaaDoor
