/-
  wire: the reader: Bool, End; the nil reader.
-/
import Derived.Test.YtbningfdpibdkaaDoorWrE
namespace Go.Proofs.YtbningfdpibdkaaDoor
open Go.RowKit
set_option linter.unusedVariables false
set_option linter.unusedSimpArgs false

theorem rdI_bad {s : ByteArray} {p : St} {z : Int} {pos1 y : Nat} (h : rdI s p = (z, (pos1, some y))) : z = 0 := by
  unfold rdI at h
  split at h
  · simpa using (Prod.mk.inj h).1.symm
  · split at h
    · cases h
    · simpa using (Prod.mk.inj h).1.symm
set_option maxRecDepth 100000 in
set_option maxHeartbeats 2000000 in
theorem ibool_c (E : Nat → Addr) (q : Nat) (s : ByteArray) (pos : Nat) (er : Value) (bad : Option Nat) (w : World) (h : Hid (InV w E q s pos er bad)) (hs : s.size ≤ 1000000) (hE : Hid (ErrForm w E)) :
    Calls Tryd.prog 150 #[.pointer (some ⟨q, 0, none⟩)] w (BoolQ w E q s (rdB s (pos, bad))) := by
  have c1 := h.out.blk.cell 1 _ rfl
  obtain ⟨r, hr⟩ : ∃ r, rdI s (pos, bad) = r := ⟨_, rfl⟩
  have HINT := Lib.hid (iint_c E q s pos er bad w h hs hE)
  rw [hr] at HINT
  obtain ⟨z, pos1, bad1⟩ := r
  have hle := h.out.le
  have HR0 := Lib.hid hr
  clear hr
  go_enter Tryd.func150, Tryd.ntmps150
  go_wp2_with fail
  refine (HINT.out).mono ?_
  rintro e w1 ⟨rfl, ⟨er1, hi1⟩, ht1⟩
  have HE1 := Lib.hid (hE.out.turns h.out ht1)
  have HT1 := Lib.hid ht1
  have HI1 := Lib.hid hi1
  clear ht1 hi1 c1 hE h HINT hle
  by_cases h0 : z = 0
  · have hrd : rdB s (pos, bad) = (false, (pos1, bad1)) := by unfold rdB; simp only [HR0.out]; rw [if_pos h0]
    have HR : Hid (BoolQ w E q s (rdB s (pos, bad)) (.returned (.bool false)) w1) := by
      rw [hrd]
      exact ⟨rfl, ⟨_, HI1.out⟩, HT1.out⟩
    clear hrd HI1 HE1 HT1 HR0
    subst h0
    go_wp2_with fail
    go_ret
    exact HR.out
  · by_cases h1 : z = 1
    · have hrd : rdB s (pos, bad) = (true, (pos1, bad1)) := by unfold rdB; simp only [HR0.out]; rw [if_neg h0, if_pos h1]
      have HR : Hid (BoolQ w E q s (rdB s (pos, bad)) (.returned (.bool true)) w1) := by
        rw [hrd]
        exact ⟨rfl, ⟨_, HI1.out⟩, HT1.out⟩
      clear hrd HI1 HE1 HT1 HR0
      subst h1
      go_wp2_with fail
      go_ret
      exact HR.out
    · have hrd : rdB s (pos, bad) = (false, (s.size, some pos)) := by unfold rdB; simp only [HR0.out]; rw [if_neg h0, if_neg h1]
      have hb1 : bad1 = none := by
        cases bad1 with
        | none => rfl
        | some y => exact absurd (rdI_bad HR0.out) h0
      subst hb1
      have HFF := Lib.hid (fail_c E q s pos1 pos er1 none w1 HI1 HE1.out)
      have HRR : Hid (∀ w3, FailQ w1 E q s pos (.returned (.tuple #[])) w3 → BoolQ w E q s (rdB s (pos, bad)) (.returned (.bool false)) w3) := fun w3 hf => by rw [hrd]; exact ⟨rfl, hf.2.1, HT1.out.trans hf.2.2 (fun _ _ h => h)⟩
      clear hrd HI1 HE1 HT1 HR0
      go_wp2_with fail
      refine (HFF.out).mono ?_
      rintro e w3 hf3
      obtain rfl : e = .returned (.tuple #[]) := hf3.1
      have HF3 := Lib.hid (HRR.out w3 hf3)
      clear hf3
      go_wp2_with fail
      go_ret
      exact HF3.out
/-- What End tells. -/
def EndIs (w : World) (E : Nat → Addr) (s : ByteArray) (p : St) (v : Value) : Prop := match p.2 with
  | some z => FaultIs w E RD v (some z)
  | none => if p.1 = s.size then v = .nilIface else FaultIs w E EN v (some p.1)
def EndQ (w : World) (E : Nat → Addr) (s : ByteArray) (p : St) (e : Ending) (w' : World) : Prop := ∃ v, e = .returned v ∧ EndIs w' E s p v ∧ Below w.heap.size w w'
set_option maxRecDepth 100000 in
set_option maxHeartbeats 2000000 in
theorem iend_c (E : Nat → Addr) (q : Nat) (s : ByteArray) (pos : Nat) (er : Value) (bad : Option Nat) (w : World) (h : Hid (InV w E q s pos er bad)) (hs : s.size ≤ 1000000) (hE : Hid (ErrForm w E)) :
    Calls Tryd.prog 75 #[.pointer (some ⟨q, 0, none⟩)] w (EndQ w E s (pos, bad)) := by
  have HERR := Lib.hid (err_c E q s pos er bad w h)
  have HLEFT := Lib.hid (left_c E q s pos er bad w h hs)
  have hle := h.out.le
  cases bad with
  | some z =>
    obtain ⟨g, rfl, hg⟩ := h.out.er_some
    have HR : Hid (EndQ w E s (pos, some z) (.returned (faultV g)) w) := ⟨_, rfl, ⟨g, rfl, hg⟩, Below.refl _ _⟩
    unfold faultV at HR HERR
    clear hg h hE HLEFT
    go_enter Tryd.func75, Tryd.ntmps75
    go_wp2_with fail
    refine (HERR.out).mono ?_
    rintro e w1 ⟨rfl, rfl⟩
    go_wp2_with fail
    go_ret
    exact HR.out
  | none =>
    have her := h.out.er_nil
    subst her
    by_cases hp : pos = s.size
    · have hl : ((s.size - pos : Nat) : Int) = 0 := by omega
      rw [hl] at HLEFT
      have HR : Hid (∀ w', Below w.heap.size w w' → EndQ w E s (pos, none) (.returned .nilIface) w') := fun w' hb => ⟨_, rfl, by unfold EndIs; simp only; rw [if_pos hp]; trivial, hb⟩
      clear h hE hp hl
      go_enter Tryd.func75, Tryd.ntmps75
      go_wp2_with fail
      refine (HERR.out).mono ?_
      rintro e w1 ⟨rfl, rfl⟩
      go_wp2_with fail
      refine (HLEFT.out).mono ?_
      rintro e w2 ⟨rfl, hb2⟩
      have HR2 := Lib.hid (HR.out w2 hb2)
      clear hb2
      go_wp2_with fail
      go_ret
      exact HR2.out
    · obtain ⟨d, hd⟩ : ∃ d, d = s.size - pos := ⟨_, rfl⟩
      rw [← hd] at HLEFT
      have hd0 : ¬ (d : Int) = 0 := by omega
      have HP := Lib.hid hp
      clear hd hp
      go_enter Tryd.func75, Tryd.ntmps75
      go_wp2_with fail
      refine (HERR.out).mono ?_
      rintro e w1 ⟨rfl, rfl⟩
      go_wp2_with fail
      refine (HLEFT.out).mono ?_
      rintro e w2 ⟨rfl, hb2⟩
      have c1 := (h.out.below hb2).blk.cell 1 _ rfl
      have hE2 : w2.cell? ⟨1, 0, none⟩ = some (erV E 3) := hE.out.below hb2
      have HF : Hid (∀ w', w' = w2.drew.alloc (.cells #[.string EN, .int .i64 pos, erV E 3] 34) → EndQ w E s (pos, none) (.returned (faultV w2.heap.size)) w') := fun w' hw => by
        subst hw
        refine ⟨_, rfl, ?_, (hb2.drew).alloc hb2.size _⟩
        unfold EndIs
        simp only
        rw [if_neg HP.out]
        exact ⟨w2.heap.size, rfl, Blk.new w2.drew _ _⟩
      rw [erV_some E 3 (by decide)] at hE2 HF
      unfold faultV at HF
      clear hb2 h hE HP hle
      go_wp2_with fail
      refine wp_region_tail 6 (by kernel_rfl) (by kernel_rfl) ?_
      simp only [List.take_succ_cons, List.take_zero, List.drop_succ_cons, List.drop_zero]
      iterate 6 (refine wpStill_step (fun K hK => ?_); go_simp; refine hK _ ?_; clear hK K)
      refine wpStill_nil ?_
      go_wp2_with fail
      go_ret
      exact HF.out _ rfl
set_option maxRecDepth 100000 in
theorem iint_nil (w : World) : Calls Tryd.prog 71 #[.pointer none] w fun e w' => e = .returned (.int .i64 0) ∧ w = w' := by
  go_enter Tryd.func71, Tryd.ntmps71
  go_wp2_with fail
  go_ret
  exact ⟨rfl, rfl⟩
set_option maxRecDepth 100000 in
theorem ibool_nil (w : World) : Calls Tryd.prog 150 #[.pointer none] w fun e w' => e = .returned (.bool false) ∧ w = w' := by
  go_enter Tryd.func150, Tryd.ntmps150
  go_wp2_with fail
  go_ret
  exact ⟨rfl, rfl⟩
set_option maxRecDepth 100000 in
theorem iend_nil (E : Nat → Addr) (w : World) (hE : w.cell? ⟨3, 0, none⟩ = some (erV E 2)) : Calls Tryd.prog 75 #[.pointer none] w fun e w' => e = .returned (erV E 2) ∧ w = w' := by
  have HERR := Lib.hid (err_nil E w hE)
  rw [erV_some E 2 (by decide)] at HERR ⊢
  clear hE
  go_enter Tryd.func75, Tryd.ntmps75
  go_wp2_with fail
  refine (HERR.out).mono ?_
  rintro e w1 ⟨rfl, rfl⟩
  go_wp2_with fail
  go_ret
  exact ⟨rfl, rfl⟩
end Go.Proofs.YtbningfdpibdkaaDoor
