/-
  wire: the reader: Vec.
-/
import Derived.Test.YtdebldpmloignaaDoorWirK
namespace Go.Proofs.YtdebldpmloignaaDoor
open Go.RowKit
set_option linter.unusedVariables false

def vsel (z : Int × Int × Int × Int) (p : St) : (Int × Int × Int × Int) × St := match p.2 with
  | some _ => ((0, 0, 0, 0), p)
  | none => (z, p)
/-- Vec, in plain words. -/
def rdV (s : ByteArray) (p : St) : (Int × Int × Int × Int) × St :=
  let r1 := rdI s p
  let r2 := rdI s r1.2
  let r3 := rdI s r2.2
  let r4 := rdI s r3.2
  vsel (r1.1, r2.1, r3.1, r4.1) r4.2
def VecQ (w : World) (E : Nat → Addr) (q : Nat) (s : ByteArray) (r : (Int × Int × Int × Int) × St) (e : Ending) (w' : World) : Prop := e = .returned (vecV r.1.1 r.1.2.1 r.1.2.2.1 r.1.2.2.2) ∧ InW w' E q s r.2 ∧ Turns (fun k => k = q) w w'
theorem Turns.below_q {q : Nat} {w w1 w2 : World} (ht : Turns (fun k => k = q) w1 w2) (hb : Below w.heap.size w w1) (hq : w.heap.size ≤ q) : Below w.heap.size w1 w2 :=
  ht.below hb.size (fun k hk => by rw [hk]; exact hq)
theorem set4 {w : World} {R : Nat} {x0 x1 x2 x3 : Value} {T : TypeId} (h : Blk w R #[x0, x1, x2, x3] T) (a b c d : Value) :
    Blk ((((w.setCell ⟨R, 0, none⟩ a).setCell ⟨R, 1, none⟩ b).setCell ⟨R, 2, none⟩ c).setCell ⟨R, 3, none⟩ d) R #[a, b, c, d] T ∧ Turns (fun k => k = R) w ((((w.setCell ⟨R, 0, none⟩ a).setCell ⟨R, 1, none⟩ b).setCell ⟨R, 2, none⟩ c).setCell ⟨R, 3, none⟩ d) :=
  ⟨(((h.set 0 a).set 1 b).set 2 c).set 3 d, (((Turns.set (F := fun k => k = R) rfl).trans (Turns.set (F := fun k => k = R) rfl) (fun _ _ h => h)).trans (Turns.set (F := fun k => k = R) rfl) (fun _ _ h => h)).trans (Turns.set (F := fun k => k = R) rfl) (fun _ _ h => h)⟩
theorem sizeVec : (Tryd.prog.info? 43).map (·.size) = some 4 := by kernel_rfl
set_option maxRecDepth 100000 in
set_option maxHeartbeats 8000000 in
theorem ivec_c (E : Nat → Addr) (q : Nat) (s : ByteArray) (pos0 : Nat) (er0 : Value) (bad0 : Option Nat) (w : World) (h : Hid (InV w E q s pos0 er0 bad0)) (hs : s.size ≤ 1000000) (hE : Hid (ErrForm w E)) :
    Calls Tryd.prog 26 #[.pointer (some ⟨q, 0, none⟩)] w (VecQ w E q s (rdV s (pos0, bad0))) := by
  obtain ⟨⟨z1, pos1, bad1⟩, h1⟩ : ∃ r, rdI s (pos0, bad0) = r := ⟨_, rfl⟩
  obtain ⟨⟨z2, pos2, bad2⟩, h2⟩ : ∃ r, rdI s (pos1, bad1) = r := ⟨_, rfl⟩
  obtain ⟨⟨z3, pos3, bad3⟩, h3⟩ : ∃ r, rdI s (pos2, bad2) = r := ⟨_, rfl⟩
  obtain ⟨⟨z4, pos4, bad4⟩, h4⟩ : ∃ r, rdI s (pos3, bad3) = r := ⟨_, rfl⟩
  have HC1 : Hid (∀ w er, Hid (InV w E q s pos0 er bad0) → Hid (ErrForm w E) → Calls Tryd.prog 17 #[.pointer (some ⟨q, 0, none⟩)] w (IntQ w E q s (z1, (pos1, bad1)))) := fun w er hi he => by rw [← h1]; exact iint_c E q s pos0 er bad0 w hi hs he
  have HC2 : Hid (∀ w er, Hid (InV w E q s pos1 er bad1) → Hid (ErrForm w E) → Calls Tryd.prog 17 #[.pointer (some ⟨q, 0, none⟩)] w (IntQ w E q s (z2, (pos2, bad2)))) := fun w er hi he => by rw [← h2]; exact iint_c E q s pos1 er bad1 w hi hs he
  have HC3 : Hid (∀ w er, Hid (InV w E q s pos2 er bad2) → Hid (ErrForm w E) → Calls Tryd.prog 17 #[.pointer (some ⟨q, 0, none⟩)] w (IntQ w E q s (z3, (pos3, bad3)))) := fun w er hi he => by rw [← h3]; exact iint_c E q s pos2 er bad2 w hi hs he
  have HC4 : Hid (∀ w er, Hid (InV w E q s pos3 er bad3) → Hid (ErrForm w E) → Calls Tryd.prog 17 #[.pointer (some ⟨q, 0, none⟩)] w (IntQ w E q s (z4, (pos4, bad4)))) := fun w er hi he => by rw [← h4]; exact iint_c E q s pos3 er bad3 w hi hs he
  have HPV : Hid (rdV s (pos0, bad0) = vsel (z1, z2, z3, z4) (pos4, bad4)) := by
    show _ = _
    unfold rdV
    simp only [h1, h2, h3, h4]
  have hqlt := h.out.blk.lt
  obtain ⟨V, hV⟩ : ∃ V, V = w.heap.size + 1 := ⟨_, rfl⟩
  obtain ⟨R, hR⟩ : ∃ R, R = w.heap.size := ⟨_, rfl⟩
  have HVQ : Hid (¬ V = q) := by show ¬ _; omega
  have HQV : Hid (¬ q = V) := by show ¬ _; omega
  have HRQ : Hid (¬ R = q) := by show ¬ _; omega
  have HRV : Hid (¬ R = V) := by show ¬ _; omega
  have HVW : Hid (w.heap.size ≤ V) := by show _ ≤ _; omega
  have HRW : Hid (w.heap.size ≤ R) := by show _ ≤ _; omega
  clear h1 h2 h3 h4
  go_enter Tryd.func26, Tryd.ntmps26
  go_wp2_with fail
  obtain ⟨v0, hv0⟩ : ∃ v0, v0 = (w.alloc (.cells #[.int .i64 0, .int .i64 0, .int .i64 0, .int .i64 0] 43)).alloc (.cells #[.int .i64 0, .int .i64 0, .int .i64 0, .int .i64 0] 43) := ⟨_, rfl⟩
  have HV0 : Hid (Blk v0 V #[.int .i64 0, .int .i64 0, .int .i64 0, .int .i64 0] 43) := by
    show Blk _ _ _ _
    rw [hv0, hV]
    have := Blk.new (w.alloc (.cells #[.int .i64 0, .int .i64 0, .int .i64 0, .int .i64 0] 43)) #[.int .i64 0, .int .i64 0, .int .i64 0, .int .i64 0] 43
    simpa using this
  have HRB0 : Hid (Blk v0 R #[.int .i64 0, .int .i64 0, .int .i64 0, .int .i64 0] 43) := by
    show Blk _ _ _ _
    rw [hv0, hR]
    exact (Blk.new w #[.int .i64 0, .int .i64 0, .int .i64 0, .int .i64 0] 43).below ((Below.refl _ _).alloc (Nat.le_refl _) _)
  have hb0 : Below w.heap.size w v0 := by rw [hv0]; exact ((Below.refl _ w).alloc (Nat.le_refl _) _).alloc (by simp) _
  have HI0 := Lib.hid (h.out.below hb0)
  have HT0 : Hid (Turns (fun k => k = q) w v0) := Turns.of_below hb0
  have HENV : Hid (∀ w', Turns (fun k => k = q) w w' → Hid (ErrForm w' E)) := fun w' ht => hE.out.turns h.out ht
  rw [← hV, ← hR, ← hv0]
  clear hV hR hv0 hb0 hqlt h hE
  refine wp_loop_rounds 5 ?_
  rw [rounds_succ]
  go_wp2_with fail
  refine (HC1.out v0 er0 HI0 (HENV.out v0 HT0.out)).mono ?_
  rintro e u1 ⟨rfl, ⟨er1, hi⟩, ht⟩
  have hv := ht.blk HV0.out HVQ.out
  have HRu := Lib.hid (ht.blk HRB0.out HRQ.out)
  have HIu := Lib.hid hi
  have HVu := Lib.hid hv
  have HTu : Hid (Turns (fun k => k = q) w u1) := HT0.out.trans ht (fun _ _ hf => hf)
  have f0 := hv.free 0
  have c0 := hv.cell 0 _ rfl
  clear hi ht hv HI0 HV0 HT0 HRB0
  go_wp2_with fail
  obtain ⟨v1, hv1⟩ : ∃ Z, Z = u1.setCell ⟨V, 0, none⟩ (.int .i64 z1) := ⟨_, rfl⟩
  have htt : Turns (fun k => k = V) u1 v1 := by rw [hv1]; exact Turns.set (F := fun k => k = V) rfl
  have HV1 : Hid (Blk v1 V #[.int .i64 z1, .int .i64 0, .int .i64 0, .int .i64 0] 43) := by show Blk _ _ _ _; rw [hv1]; exact HVu.out.set 0 _
  have HI1 : Hid (InV v1 E q s pos1 er1 bad1) := HIu.out.turns htt HQV.out (fun g cs hg => blk_ne HVu.out hg (by decide))
  have HRB1 := Lib.hid (htt.blk HRu.out HRV.out)
  have HT1 : Hid (Turns (fun k => k = q) w v1) := HTu.out.trans htt (fun g hg hf => absurd hf (by have := HVW.out; omega))
  rw [← hv1]
  clear htt hv1 HVu HIu HRu HTu c0 f0
  rw [rounds_succ]
  go_wp2_with fail
  refine (HC2.out v1 er1 HI1 (HENV.out v1 HT1.out)).mono ?_
  rintro e u2 ⟨rfl, ⟨er2, hi⟩, ht⟩
  have hv := ht.blk HV1.out HVQ.out
  have HRu := Lib.hid (ht.blk HRB1.out HRQ.out)
  have HIu := Lib.hid hi
  have HVu := Lib.hid hv
  have HTu : Hid (Turns (fun k => k = q) w u2) := HT1.out.trans ht (fun _ _ hf => hf)
  have f1 := hv.free 1
  have c1 := hv.cell 1 _ rfl
  clear hi ht hv HI1 HV1 HT1 HRB1
  go_wp2_with fail
  obtain ⟨v2, hv2⟩ : ∃ Z, Z = u2.setCell ⟨V, 1, none⟩ (.int .i64 z2) := ⟨_, rfl⟩
  have htt : Turns (fun k => k = V) u2 v2 := by rw [hv2]; exact Turns.set (F := fun k => k = V) rfl
  have HV2 : Hid (Blk v2 V #[.int .i64 z1, .int .i64 z2, .int .i64 0, .int .i64 0] 43) := by show Blk _ _ _ _; rw [hv2]; exact HVu.out.set 1 _
  have HI2 : Hid (InV v2 E q s pos2 er2 bad2) := HIu.out.turns htt HQV.out (fun g cs hg => blk_ne HVu.out hg (by decide))
  have HRB2 := Lib.hid (htt.blk HRu.out HRV.out)
  have HT2 : Hid (Turns (fun k => k = q) w v2) := HTu.out.trans htt (fun g hg hf => absurd hf (by have := HVW.out; omega))
  rw [← hv2]
  clear htt hv2 HVu HIu HRu HTu c1 f1
  rw [rounds_succ]
  go_wp2_with fail
  refine (HC3.out v2 er2 HI2 (HENV.out v2 HT2.out)).mono ?_
  rintro e u3 ⟨rfl, ⟨er3, hi⟩, ht⟩
  have hv := ht.blk HV2.out HVQ.out
  have HRu := Lib.hid (ht.blk HRB2.out HRQ.out)
  have HIu := Lib.hid hi
  have HVu := Lib.hid hv
  have HTu : Hid (Turns (fun k => k = q) w u3) := HT2.out.trans ht (fun _ _ hf => hf)
  have f2 := hv.free 2
  have c2 := hv.cell 2 _ rfl
  clear hi ht hv HI2 HV2 HT2 HRB2
  go_wp2_with fail
  obtain ⟨v3, hv3⟩ : ∃ Z, Z = u3.setCell ⟨V, 2, none⟩ (.int .i64 z3) := ⟨_, rfl⟩
  have htt : Turns (fun k => k = V) u3 v3 := by rw [hv3]; exact Turns.set (F := fun k => k = V) rfl
  have HV3 : Hid (Blk v3 V #[.int .i64 z1, .int .i64 z2, .int .i64 z3, .int .i64 0] 43) := by show Blk _ _ _ _; rw [hv3]; exact HVu.out.set 2 _
  have HI3 : Hid (InV v3 E q s pos3 er3 bad3) := HIu.out.turns htt HQV.out (fun g cs hg => blk_ne HVu.out hg (by decide))
  have HRB3 := Lib.hid (htt.blk HRu.out HRV.out)
  have HT3 : Hid (Turns (fun k => k = q) w v3) := HTu.out.trans htt (fun g hg hf => absurd hf (by have := HVW.out; omega))
  rw [← hv3]
  clear htt hv3 HVu HIu HRu HTu c2 f2
  rw [rounds_succ]
  go_wp2_with fail
  refine (HC4.out v3 er3 HI3 (HENV.out v3 HT3.out)).mono ?_
  rintro e u4 ⟨rfl, ⟨er4, hi⟩, ht⟩
  have hv := ht.blk HV3.out HVQ.out
  have HRu := Lib.hid (ht.blk HRB3.out HRQ.out)
  have HIu := Lib.hid hi
  have HVu := Lib.hid hv
  have HTu : Hid (Turns (fun k => k = q) w u4) := HT3.out.trans ht (fun _ _ hf => hf)
  have f3 := hv.free 3
  have c3 := hv.cell 3 _ rfl
  clear hi ht hv HI3 HV3 HT3 HRB3
  go_wp2_with fail
  obtain ⟨v4, hv4⟩ : ∃ Z, Z = u4.setCell ⟨V, 3, none⟩ (.int .i64 z4) := ⟨_, rfl⟩
  have htt : Turns (fun k => k = V) u4 v4 := by rw [hv4]; exact Turns.set (F := fun k => k = V) rfl
  have HV4 : Hid (Blk v4 V #[.int .i64 z1, .int .i64 z2, .int .i64 z3, .int .i64 z4] 43) := by show Blk _ _ _ _; rw [hv4]; exact HVu.out.set 3 _
  have HI4 : Hid (InV v4 E q s pos4 er4 bad4) := HIu.out.turns htt HQV.out (fun g cs hg => blk_ne HVu.out hg (by decide))
  have HRB4 := Lib.hid (htt.blk HRu.out HRV.out)
  have HT4 : Hid (Turns (fun k => k = q) w v4) := HTu.out.trans htt (fun g hg hf => absurd hf (by have := HVW.out; omega))
  rw [← hv4]
  clear htt hv4 HVu HIu HRu HTu c3 f3
  rw [rounds_succ]
  go_wp2_with fail
  refine (err_c E q s pos4 er4 bad4 v4 HI4).mono ?_
  rintro e y ⟨rfl, rfl⟩
  have c0 := HV4.out.cell 0 _ rfl
  have c1 := HV4.out.cell 1 _ rfl
  have c2 := HV4.out.cell 2 _ rfl
  have c3 := HV4.out.cell 3 _ rfl
  have r0 := HRB4.out.cell 0 _ rfl
  have r1 := HRB4.out.cell 1 _ rfl
  have r2 := HRB4.out.cell 2 _ rfl
  have r3 := HRB4.out.cell 3 _ rfl
  have k0 := HRB4.out.free 0
  have k1 := HRB4.out.free 1
  have k2 := HRB4.out.free 2
  have k3 := HRB4.out.free 3
  cases bad4 with
  | some y =>
    obtain ⟨g, rfl, hg⟩ := HI4.out.er_some
    have HW5 := Lib.hid (set4 HRB4.out (.int .i64 0) (.int .i64 0) (.int .i64 0) (.int .i64 0))
    have HFIN : Hid (∀ w', Turns (fun k => k = R) v4 w' → VecQ w E q s (rdV s (pos0, bad0)) (.returned (vecV 0 0 0 0)) w') := fun w' ht => by
      rw [HPV.out]
      exact ⟨rfl, ⟨_, HI4.out.turns ht (fun e => HRQ.out e.symm) (fun g cs hg => blk_ne HRB4.out hg (by decide))⟩, HT4.out.trans ht (fun g hg hf => absurd hf (by have := HRW.out; omega))⟩
    unfold faultV
    clear hg
    go_wp2_with fail
    exact bodyPost_row Tryd.results26 rfl R rfl #[.int .i64 0, .int .i64 0, .int .i64 0, .int .i64 0] 43 (0, 0) HW5.out.1 _ Tryd.underlying43 rfl 4 sizeVec rfl (HFIN.out _ HW5.out.2)
  | none =>
    have her := HI4.out.er_nil
    subst her
    have HW5 := Lib.hid (set4 HRB4.out (.int .i64 z1) (.int .i64 z2) (.int .i64 z3) (.int .i64 z4))
    have HFIN : Hid (∀ w', Turns (fun k => k = R) v4 w' → VecQ w E q s (rdV s (pos0, bad0)) (.returned (vecV z1 z2 z3 z4)) w') := fun w' ht => by
      rw [HPV.out]
      exact ⟨rfl, ⟨_, HI4.out.turns ht (fun e => HRQ.out e.symm) (fun g cs hg => blk_ne HRB4.out hg (by decide))⟩, HT4.out.trans ht (fun g hg hf => absurd hf (by have := HRW.out; omega))⟩
    go_wp2_with fail
    exact bodyPost_row Tryd.results26 rfl R rfl #[.int .i64 z1, .int .i64 z2, .int .i64 z3, .int .i64 z4] 43 (0, 0) HW5.out.1 _ Tryd.underlying43 rfl 4 sizeVec rfl (HFIN.out _ HW5.out.2)
end Go.Proofs.YtdebldpmloignaaDoor
