/-
  reply: the reader: fills.
-/
import Derived.Test.YtbningfdpibdkaaDoorRpE
namespace Go.Proofs.YtbningfdpibdkaaDoor
open Go.RowKit
set_option linter.unusedVariables false
set_option linter.unusedSimpArgs false

/-- A fill's six numbers. -/
structure Six where
  (a b c d e f : Int)
def fillE (t : Six) : List Value := [.int .i64 t.a, .int .i64 t.b, .int .i64 t.c, .int .i64 t.d, .int .i64 t.e, .int .i64 t.f]
/-- A fill, in plain words: six numbers, whatever is wrong. -/
def rdFl (s : ByteArray) (p : St) : Six × St := (⟨(rdI s p).1, (rdI s (rdI s p).2).1, (rdI s (rdI s (rdI s p).2).2).1, (rdI s (rdI s (rdI s (rdI s p).2).2).2).1, (rdI s (rdI s (rdI s (rdI s (rdI s p).2).2).2).2).1, (rdI s (rdI s (rdI s (rdI s (rdI s (rdI s p).2).2).2).2).2).1⟩, (rdI s (rdI s (rdI s (rdI s (rdI s (rdI s p).2).2).2).2).2).2)
theorem rdFl_eq (s : ByteArray) (p : St) : rdFl s p = (⟨(rdI s p).1, (rdI s (rdI s p).2).1, (rdI s (rdI s (rdI s p).2).2).1, (rdI s (rdI s (rdI s (rdI s p).2).2).2).1, (rdI s (rdI s (rdI s (rdI s (rdI s p).2).2).2).2).1, (rdI s (rdI s (rdI s (rdI s (rdI s (rdI s p).2).2).2).2).2).1⟩, (rdI s (rdI s (rdI s (rdI s (rdI s (rdI s p).2).2).2).2).2).2) := rfl
theorem fills_size : (Tryd.prog.info? 151).map (·.size) = some 6 := by kernel_rfl
/-- The reader while a block of another kind is written. -/
theorem RdV.setOf {w w' : World} {E : Nat → Addr} {r q F : Nat} {s : ByteArray} {p : St} {b : Bool} {cs : Array Value} {T : TypeId} (h : RdV w E r q s p b) (ht : Turns (fun k => k = F) w w') (hF : Blk w F cs T) (h1 : T ≠ 158) (h2 : T ≠ 191) (h3 : T ≠ 34) (hg : 1 < F) : RdV w' E r q s p b := by
  obtain ⟨er, hi⟩ := h.inw
  have hd : ∀ {k : Nat} {ds : Array Value} {U : TypeId}, Blk w k ds U → T ≠ U → ¬ k = F := fun hb hT e => by
    subst e
    have h4 := hF.symm.trans hb
    simp at h4
    exact hT h4.2
  refine ⟨ht.blk h.blk (hd h.blk h1), ⟨er, hi.turns ht (hd hi.blk h2) (fun g cs hb => hd hb h3)⟩, ?_⟩
  have hlt := World.block_lt_of_cell? w ⟨1, 0, none⟩ h.form
  exact (World.cell?_of_block (w := w) (ht.block _ hlt (fun e => by have e' : 1 = F := e; omega))).trans h.form
theorem fills_info : (Tryd.prog.info? 151).map (fun i => (i.zero, i.size, i.bytes)) = some (some (.agg #[.int .i64 0, .int .i64 0, .int .i64 0, .int .i64 0, .int .i64 0, .int .i64 0]), 6, 48) := by kernel_rfl
set_option maxRecDepth 100000 in
set_option maxHeartbeats 1000000 in
theorem fills_c (E : Nat → Addr) (r q : Nat) (s : ByteArray) (p : St) (b : Bool) (w : World) (h : Hid (RdV w E r q s p b)) (hs : s.size ≤ 1000000) :
    Calls Tryd.prog 92 #[.pointer (some ⟨r, 0, none⟩)] w fun e w' => ∃ v, e = .returned v ∧ w'.ownsRow w.heap.size 151 6 v (rdL s (rdFl s) b p).1.1.length (flatOf fillE (rdL s (rdFl s) b p).1.1) ∧ RdV w' E r q s (rdL s (rdFl s) b p).2 (rdL s (rdFl s) b p).1.2 ∧ Turns (fun k => k = q ∨ k = r) w w' := by
  obtain ⟨i0, hi, hz0, hz1, hz2⟩ := info_parts fills_info
  have HC := Lib.hid (count_c E r q s p b w h hs)
  have HLT := Lib.hid h.out.lt
  have HGF : Hid (1 < w.heap.size) := World.block_lt_of_cell? w ⟨1, 0, none⟩ h.out.form
  have hn0 := rdC_le s p hs
  unfold rdL
  obtain ⟨R, hR⟩ : ∃ R, R = rdC s p := ⟨_, rfl⟩
  rw [← hR] at HC hn0 ⊢
  obtain ⟨⟨n, bd⟩, p1⟩ := R
  simp only at HC hn0 ⊢
  obtain ⟨b1, hb1⟩ : ∃ z, z = (b || bd) := ⟨_, rfl⟩
  rw [← hb1] at HC ⊢
  obtain ⟨TT, hTT⟩ : ∃ z, z = rdLst (rdFl s) b1 n p1 := ⟨_, rfl⟩
  rw [← hTT]
  have HTT := Lib.hid hTT
  have HN := Lib.hid hn0
  clear hR h hb1 hTT hn0
  go_enter Tryd.func92, Tryd.ntmps92
  go_wp2_with fail
  refine HC.out.mono ?_
  rintro e w1 ⟨rfl, hv1, ht1⟩
  have H1 := Lib.hid hv1
  have HT1 := Lib.hid ht1
  clear hv1 ht1 HC
  go_wp2_with fail
  go_loopw [2, 4] (fun s2 s4 wx => ∃ (i : Nat) (ys : List Six) (p2 : St) (W : World), W = wx ∧ s4 = .int .i64 i ∧ i ≤ n ∧ ys.length ≤ i ∧ Hid (ys ++ (rdLst (rdFl s) b1 (n - i) p2).1 = TT.1 ∧ (rdLst (rdFl s) b1 (n - i) p2).2 = TT.2) ∧ Hid (W.ownsRow w.heap.size 151 6 s2 ys.length (flatOf fillE ys)) ∧ Hid (RdV W E r q s p2 b1) ∧ Hid (Turns (fun k => k = q ∨ k = r) w W)) (fun _ s4 _ => n - (intOf s4).toNat)
  case atStart => exact ⟨0, [], p1, _, rfl, rfl, Nat.zero_le _, Nat.le_refl _, Lib.hid ⟨by rw [HTT.out]; rfl, by rw [HTT.out]; rfl⟩, Lib.hid ⟨rfl, .inl ⟨rfl, rfl⟩⟩, H1, HT1⟩
  case round =>
    obtain ⟨i, ys, p2, W, rfl, rfl, hin, hyl, HEQ, HOW, HV, HTW⟩ := hrel
    obtain ⟨a2, c2, rfl⟩ := own_len HOW.out
    have HMO := Lib.hid (more_c E r q s p2 b1 (i : Int) (n : Int) W HV)
    have k0 : W.cell? ⟨r, 0, none⟩ = some (.pointer (some ⟨q, 0, none⟩)) := HV.out.blk.cell 0 _ rfl
    cases hm : (decide ((i : Int) < (n : Int)) && (!b1 && p2.2.isNone)) with
    | true =>
      rw [hm] at HMO
      obtain ⟨hlt, hgo⟩ := rdLst_go (rd := rdFl s) hm
      have HGO := Lib.hid hgo
      rw [rdFl_eq s p2] at HGO
      have hp0 : ∃ p0, p0 = p2 := ⟨_, rfl⟩
      obtain ⟨p0, hp0⟩ := hp0
      rw [← hp0] at HGO HV HEQ
      obtain ⟨⟨z0, p1⟩, hR0⟩ : ∃ R, R = rdI s p0 := ⟨_, rfl⟩
      have HR0 : Hid (∀ (W : World), RdV W E r q s p0 b1 → Calls Tryd.prog 71 #[.pointer (some ⟨q, 0, none⟩)] W fun e w' => e = .returned (.int .i64 z0) ∧ RdV w' E r q s p1 b1 ∧ Turns (fun k => k = q) W w') := fun W h => by
        have := rdInt_c E r q s p0 b1 W (Lib.hid h) hs
        rw [← hR0] at this
        exact this
      simp only [← hR0] at HGO
      obtain ⟨⟨z1, p2⟩, hR1⟩ : ∃ R, R = rdI s p1 := ⟨_, rfl⟩
      have HR1 : Hid (∀ (W : World), RdV W E r q s p1 b1 → Calls Tryd.prog 71 #[.pointer (some ⟨q, 0, none⟩)] W fun e w' => e = .returned (.int .i64 z1) ∧ RdV w' E r q s p2 b1 ∧ Turns (fun k => k = q) W w') := fun W h => by
        have := rdInt_c E r q s p1 b1 W (Lib.hid h) hs
        rw [← hR1] at this
        exact this
      simp only [← hR1] at HGO
      obtain ⟨⟨z2, p3⟩, hR2⟩ : ∃ R, R = rdI s p2 := ⟨_, rfl⟩
      have HR2 : Hid (∀ (W : World), RdV W E r q s p2 b1 → Calls Tryd.prog 71 #[.pointer (some ⟨q, 0, none⟩)] W fun e w' => e = .returned (.int .i64 z2) ∧ RdV w' E r q s p3 b1 ∧ Turns (fun k => k = q) W w') := fun W h => by
        have := rdInt_c E r q s p2 b1 W (Lib.hid h) hs
        rw [← hR2] at this
        exact this
      simp only [← hR2] at HGO
      obtain ⟨⟨z3, p4⟩, hR3⟩ : ∃ R, R = rdI s p3 := ⟨_, rfl⟩
      have HR3 : Hid (∀ (W : World), RdV W E r q s p3 b1 → Calls Tryd.prog 71 #[.pointer (some ⟨q, 0, none⟩)] W fun e w' => e = .returned (.int .i64 z3) ∧ RdV w' E r q s p4 b1 ∧ Turns (fun k => k = q) W w') := fun W h => by
        have := rdInt_c E r q s p3 b1 W (Lib.hid h) hs
        rw [← hR3] at this
        exact this
      simp only [← hR3] at HGO
      obtain ⟨⟨z4, p5⟩, hR4⟩ : ∃ R, R = rdI s p4 := ⟨_, rfl⟩
      have HR4 : Hid (∀ (W : World), RdV W E r q s p4 b1 → Calls Tryd.prog 71 #[.pointer (some ⟨q, 0, none⟩)] W fun e w' => e = .returned (.int .i64 z4) ∧ RdV w' E r q s p5 b1 ∧ Turns (fun k => k = q) W w') := fun W h => by
        have := rdInt_c E r q s p4 b1 W (Lib.hid h) hs
        rw [← hR4] at this
        exact this
      simp only [← hR4] at HGO
      obtain ⟨⟨z5, p6⟩, hR5⟩ : ∃ R, R = rdI s p5 := ⟨_, rfl⟩
      have HR5 : Hid (∀ (W : World), RdV W E r q s p5 b1 → Calls Tryd.prog 71 #[.pointer (some ⟨q, 0, none⟩)] W fun e w' => e = .returned (.int .i64 z5) ∧ RdV w' E r q s p6 b1 ∧ Turns (fun k => k = q) W w') := fun W h => by
        have := rdInt_c E r q s p5 b1 W (Lib.hid h) hs
        rw [← hR5] at this
        exact this
      simp only [← hR5] at HGO
      have hnl : (ys.length : Int) ≤ 1000000 := by have := HN.out; omega
      have hil : (i : Int) ≤ 1000000 := by have := HN.out; omega
      clear hm hgo hR0 hR1 hR2 hR3 hR4 hR5 k0
      obtain ⟨F, hF⟩ : ∃ F, F = W.heap.size := ⟨_, rfl⟩
      obtain ⟨V0, hV0⟩ : ∃ Z, Z = W.alloc (.cells #[.int .i64 0, .int .i64 0, .int .i64 0, .int .i64 0, .int .i64 0, .int .i64 0] 151) := ⟨_, rfl⟩
      obtain ⟨P, hP⟩ : ∃ P, P = W.heap.size + 1 := ⟨_, rfl⟩
      have hPV : V0.heap.size = P := by rw [hV0, hP]; simp
      obtain ⟨U0, hU0⟩ : ∃ Z, Z = V0.alloc (.cells #[.pointer (some ⟨F, 0, none⟩), .pointer (some ⟨F, 1, none⟩), .pointer (some ⟨F, 2, none⟩), .pointer (some ⟨F, 3, none⟩), .pointer (some ⟨F, 4, none⟩), .pointer (some ⟨F, 5, none⟩)] 197) := ⟨_, rfl⟩
      have hb0 : Below W.heap.size W V0 := by rw [hV0]; exact (Below.refl _ _).alloc (Nat.le_refl _) _
      have hb1' : Below V0.heap.size V0 U0 := by rw [hU0]; exact (Below.refl _ _).alloc (Nat.le_refl _) _
      have hbb : Below W.heap.size W U0 := hb0.trans (hb1'.mono hb0.size)
      have HF0 : Hid (Blk U0 F #[.int .i64 0, .int .i64 0, .int .i64 0, .int .i64 0, .int .i64 0, .int .i64 0] 151) := by
        have h1 : Blk V0 F #[.int .i64 0, .int .i64 0, .int .i64 0, .int .i64 0, .int .i64 0, .int .i64 0] 151 := by rw [hV0, hF]; exact Blk.new W _ _
        exact h1.below hb1'
      have HP0 : Hid (Blk U0 P #[.pointer (some ⟨F, 0, none⟩), .pointer (some ⟨F, 1, none⟩), .pointer (some ⟨F, 2, none⟩), .pointer (some ⟨F, 3, none⟩), .pointer (some ⟨F, 4, none⟩), .pointer (some ⟨F, 5, none⟩)] 197) := by show Blk _ _ _ _; rw [hU0, ← hPV]; exact Blk.new V0 _ _
      have HV0 := Lib.hid (HV.out.below hbb)
      have HO0 := Lib.hid ((Turns.of_below (F := fun _ => False) hbb).owns HOW.out (fun _ _ h => h))
      have HT0 := Lib.hid (HTW.out.trans (Turns.of_below (F := fun _ => False) hbb) (fun _ _ h => h.elim))
      have HPF : Hid (P ≠ F) := by show _ ≠ _; omega
      have HFL : Hid (w.heap.size ≤ F) := by show _ ≤ _; rw [hF]; exact HTW.out.size
      have HGF2 : Hid (1 < F) := Nat.lt_of_lt_of_le HGF.out HFL.out
      have HNF : Hid (∀ g, (Value.slice a2 ys.length c2).ownBlock = some g → g = F → False) := fun g hg e => by have := (HOW.out.lt g hg).2; omega
      have HVE := Lib.hid hV0
      have HUE := Lib.hid hU0
      have HFE := Lib.hid hF
      have HPE := Lib.hid hP
      clear hF hV0 hP hPV hU0 hb0 hb1' hbb
      go_wp2_with fail
      refine HMO.out.mono ?_
      rintro e w2 ⟨rfl, rfl⟩
      go_wp2_with fail
      rw [← HPE.out, ← HFE.out, ← HVE.out, ← HUE.out]
      refine wp_loop_rounds 7 ?_
      have k00 : U0.cell? ⟨r, 0, none⟩ = some (.pointer (some ⟨q, 0, none⟩)) := HV0.out.blk.cell 0 _ rfl
      have k0p : U0.cell? ⟨P, 0, none⟩ = some (.pointer (some ⟨F, 0, none⟩)) := HP0.out.cell 0 _ rfl
      rw [rounds_succ]
      go_wp2_with fail
      refine (HR0.out U0 HV0.out).mono ?_
      rintro e Y0 ⟨rfl, hv, ht⟩
      have HY0 := Lib.hid hv
      have HFY0 := Lib.hid (HV0.out.keep HF0.out (by decide) ht)
      have HPY0 := Lib.hid (HV0.out.keep HP0.out (by decide) ht)
      have y0 : Y0.cell? ⟨F, 0, none⟩ = some (.int .i64 0) := HFY0.out.cell 0 _ rfl
      have fy0 : Y0.frozen? ⟨F, 0, none⟩ = false := HFY0.out.free 0
      obtain ⟨U1, hU⟩ : ∃ Z, Z = Y0.setCell ⟨F, 0, none⟩ (.int .i64 z0) := ⟨_, rfl⟩
      have hset : Turns (fun k => k = F) Y0 U1 := by rw [hU]; exact Turns.set (F := fun k => k = F) rfl
      have HF1 : Hid (Blk U1 F #[.int .i64 z0, .int .i64 0, .int .i64 0, .int .i64 0, .int .i64 0, .int .i64 0] 151) := by show Blk _ _ _ _; rw [hU]; exact HFY0.out.set 0 (.int .i64 z0)
      have HP1 : Hid (Blk U1 P #[.pointer (some ⟨F, 0, none⟩), .pointer (some ⟨F, 1, none⟩), .pointer (some ⟨F, 2, none⟩), .pointer (some ⟨F, 3, none⟩), .pointer (some ⟨F, 4, none⟩), .pointer (some ⟨F, 5, none⟩)] 197) := hset.blk HPY0.out (fun e => HPF.out e)
      have HV1 : Hid (RdV U1 E r q s p1 b1) := HY0.out.setOf hset HFY0.out (by decide) (by decide) (by decide) HGF2.out
      have HO1 : Hid (U1.ownsRow w.heap.size 151 6 (.slice a2 ys.length c2) ys.length (flatOf fillE ys)) := hset.owns (ht.owns HO0.out (fun g hg e => by have h1 := (HO0.out.lt g hg).1; have h2 := HLT.out; omega)) (fun g hg e => HNF.out g hg e)
      have HT1 : Hid (Turns (fun k => k = q ∨ k = r) w U1) := (HT0.out.trans ht (fun _ _ h => .inl h)).trans hset (fun k hk e => by have h1 : k = F := e; have h2 := HFL.out; omega)
      have HU1 := Lib.hid hU
      clear hv ht hU hset k00 k0p
      go_wp2_with fail
      rw [← HU1.out]
      clear y0 fy0
      have k10 : U1.cell? ⟨r, 0, none⟩ = some (.pointer (some ⟨q, 0, none⟩)) := HV1.out.blk.cell 0 _ rfl
      have k1p : U1.cell? ⟨P, 1, none⟩ = some (.pointer (some ⟨F, 1, none⟩)) := HP1.out.cell 1 _ rfl
      rw [rounds_succ]
      go_wp2_with fail
      refine (HR1.out U1 HV1.out).mono ?_
      rintro e Y1 ⟨rfl, hv, ht⟩
      have HY1 := Lib.hid hv
      have HFY1 := Lib.hid (HV1.out.keep HF1.out (by decide) ht)
      have HPY1 := Lib.hid (HV1.out.keep HP1.out (by decide) ht)
      have y1 : Y1.cell? ⟨F, 1, none⟩ = some (.int .i64 0) := HFY1.out.cell 1 _ rfl
      have fy1 : Y1.frozen? ⟨F, 1, none⟩ = false := HFY1.out.free 1
      obtain ⟨U2, hU⟩ : ∃ Z, Z = Y1.setCell ⟨F, 1, none⟩ (.int .i64 z1) := ⟨_, rfl⟩
      have hset : Turns (fun k => k = F) Y1 U2 := by rw [hU]; exact Turns.set (F := fun k => k = F) rfl
      have HF2 : Hid (Blk U2 F #[.int .i64 z0, .int .i64 z1, .int .i64 0, .int .i64 0, .int .i64 0, .int .i64 0] 151) := by show Blk _ _ _ _; rw [hU]; exact HFY1.out.set 1 (.int .i64 z1)
      have HP2 : Hid (Blk U2 P #[.pointer (some ⟨F, 0, none⟩), .pointer (some ⟨F, 1, none⟩), .pointer (some ⟨F, 2, none⟩), .pointer (some ⟨F, 3, none⟩), .pointer (some ⟨F, 4, none⟩), .pointer (some ⟨F, 5, none⟩)] 197) := hset.blk HPY1.out (fun e => HPF.out e)
      have HV2 : Hid (RdV U2 E r q s p2 b1) := HY1.out.setOf hset HFY1.out (by decide) (by decide) (by decide) HGF2.out
      have HO2 : Hid (U2.ownsRow w.heap.size 151 6 (.slice a2 ys.length c2) ys.length (flatOf fillE ys)) := hset.owns (ht.owns HO1.out (fun g hg e => by have h1 := (HO1.out.lt g hg).1; have h2 := HLT.out; omega)) (fun g hg e => HNF.out g hg e)
      have HT2 : Hid (Turns (fun k => k = q ∨ k = r) w U2) := (HT1.out.trans ht (fun _ _ h => .inl h)).trans hset (fun k hk e => by have h1 : k = F := e; have h2 := HFL.out; omega)
      have HU2 := Lib.hid hU
      clear hv ht hU hset k10 k1p
      go_wp2_with fail
      rw [← HU2.out]
      clear y1 fy1
      have k20 : U2.cell? ⟨r, 0, none⟩ = some (.pointer (some ⟨q, 0, none⟩)) := HV2.out.blk.cell 0 _ rfl
      have k2p : U2.cell? ⟨P, 2, none⟩ = some (.pointer (some ⟨F, 2, none⟩)) := HP2.out.cell 2 _ rfl
      rw [rounds_succ]
      go_wp2_with fail
      refine (HR2.out U2 HV2.out).mono ?_
      rintro e Y2 ⟨rfl, hv, ht⟩
      have HY2 := Lib.hid hv
      have HFY2 := Lib.hid (HV2.out.keep HF2.out (by decide) ht)
      have HPY2 := Lib.hid (HV2.out.keep HP2.out (by decide) ht)
      have y2 : Y2.cell? ⟨F, 2, none⟩ = some (.int .i64 0) := HFY2.out.cell 2 _ rfl
      have fy2 : Y2.frozen? ⟨F, 2, none⟩ = false := HFY2.out.free 2
      obtain ⟨U3, hU⟩ : ∃ Z, Z = Y2.setCell ⟨F, 2, none⟩ (.int .i64 z2) := ⟨_, rfl⟩
      have hset : Turns (fun k => k = F) Y2 U3 := by rw [hU]; exact Turns.set (F := fun k => k = F) rfl
      have HF3 : Hid (Blk U3 F #[.int .i64 z0, .int .i64 z1, .int .i64 z2, .int .i64 0, .int .i64 0, .int .i64 0] 151) := by show Blk _ _ _ _; rw [hU]; exact HFY2.out.set 2 (.int .i64 z2)
      have HP3 : Hid (Blk U3 P #[.pointer (some ⟨F, 0, none⟩), .pointer (some ⟨F, 1, none⟩), .pointer (some ⟨F, 2, none⟩), .pointer (some ⟨F, 3, none⟩), .pointer (some ⟨F, 4, none⟩), .pointer (some ⟨F, 5, none⟩)] 197) := hset.blk HPY2.out (fun e => HPF.out e)
      have HV3 : Hid (RdV U3 E r q s p3 b1) := HY2.out.setOf hset HFY2.out (by decide) (by decide) (by decide) HGF2.out
      have HO3 : Hid (U3.ownsRow w.heap.size 151 6 (.slice a2 ys.length c2) ys.length (flatOf fillE ys)) := hset.owns (ht.owns HO2.out (fun g hg e => by have h1 := (HO2.out.lt g hg).1; have h2 := HLT.out; omega)) (fun g hg e => HNF.out g hg e)
      have HT3 : Hid (Turns (fun k => k = q ∨ k = r) w U3) := (HT2.out.trans ht (fun _ _ h => .inl h)).trans hset (fun k hk e => by have h1 : k = F := e; have h2 := HFL.out; omega)
      have HU3 := Lib.hid hU
      clear hv ht hU hset k20 k2p
      go_wp2_with fail
      rw [← HU3.out]
      clear y2 fy2
      have k30 : U3.cell? ⟨r, 0, none⟩ = some (.pointer (some ⟨q, 0, none⟩)) := HV3.out.blk.cell 0 _ rfl
      have k3p : U3.cell? ⟨P, 3, none⟩ = some (.pointer (some ⟨F, 3, none⟩)) := HP3.out.cell 3 _ rfl
      rw [rounds_succ]
      go_wp2_with fail
      refine (HR3.out U3 HV3.out).mono ?_
      rintro e Y3 ⟨rfl, hv, ht⟩
      have HY3 := Lib.hid hv
      have HFY3 := Lib.hid (HV3.out.keep HF3.out (by decide) ht)
      have HPY3 := Lib.hid (HV3.out.keep HP3.out (by decide) ht)
      have y3 : Y3.cell? ⟨F, 3, none⟩ = some (.int .i64 0) := HFY3.out.cell 3 _ rfl
      have fy3 : Y3.frozen? ⟨F, 3, none⟩ = false := HFY3.out.free 3
      obtain ⟨U4, hU⟩ : ∃ Z, Z = Y3.setCell ⟨F, 3, none⟩ (.int .i64 z3) := ⟨_, rfl⟩
      have hset : Turns (fun k => k = F) Y3 U4 := by rw [hU]; exact Turns.set (F := fun k => k = F) rfl
      have HF4 : Hid (Blk U4 F #[.int .i64 z0, .int .i64 z1, .int .i64 z2, .int .i64 z3, .int .i64 0, .int .i64 0] 151) := by show Blk _ _ _ _; rw [hU]; exact HFY3.out.set 3 (.int .i64 z3)
      have HP4 : Hid (Blk U4 P #[.pointer (some ⟨F, 0, none⟩), .pointer (some ⟨F, 1, none⟩), .pointer (some ⟨F, 2, none⟩), .pointer (some ⟨F, 3, none⟩), .pointer (some ⟨F, 4, none⟩), .pointer (some ⟨F, 5, none⟩)] 197) := hset.blk HPY3.out (fun e => HPF.out e)
      have HV4 : Hid (RdV U4 E r q s p4 b1) := HY3.out.setOf hset HFY3.out (by decide) (by decide) (by decide) HGF2.out
      have HO4 : Hid (U4.ownsRow w.heap.size 151 6 (.slice a2 ys.length c2) ys.length (flatOf fillE ys)) := hset.owns (ht.owns HO3.out (fun g hg e => by have h1 := (HO3.out.lt g hg).1; have h2 := HLT.out; omega)) (fun g hg e => HNF.out g hg e)
      have HT4 : Hid (Turns (fun k => k = q ∨ k = r) w U4) := (HT3.out.trans ht (fun _ _ h => .inl h)).trans hset (fun k hk e => by have h1 : k = F := e; have h2 := HFL.out; omega)
      have HU4 := Lib.hid hU
      clear hv ht hU hset k30 k3p
      go_wp2_with fail
      rw [← HU4.out]
      clear y3 fy3
      have k40 : U4.cell? ⟨r, 0, none⟩ = some (.pointer (some ⟨q, 0, none⟩)) := HV4.out.blk.cell 0 _ rfl
      have k4p : U4.cell? ⟨P, 4, none⟩ = some (.pointer (some ⟨F, 4, none⟩)) := HP4.out.cell 4 _ rfl
      rw [rounds_succ]
      go_wp2_with fail
      refine (HR4.out U4 HV4.out).mono ?_
      rintro e Y4 ⟨rfl, hv, ht⟩
      have HY4 := Lib.hid hv
      have HFY4 := Lib.hid (HV4.out.keep HF4.out (by decide) ht)
      have HPY4 := Lib.hid (HV4.out.keep HP4.out (by decide) ht)
      have y4 : Y4.cell? ⟨F, 4, none⟩ = some (.int .i64 0) := HFY4.out.cell 4 _ rfl
      have fy4 : Y4.frozen? ⟨F, 4, none⟩ = false := HFY4.out.free 4
      obtain ⟨U5, hU⟩ : ∃ Z, Z = Y4.setCell ⟨F, 4, none⟩ (.int .i64 z4) := ⟨_, rfl⟩
      have hset : Turns (fun k => k = F) Y4 U5 := by rw [hU]; exact Turns.set (F := fun k => k = F) rfl
      have HF5 : Hid (Blk U5 F #[.int .i64 z0, .int .i64 z1, .int .i64 z2, .int .i64 z3, .int .i64 z4, .int .i64 0] 151) := by show Blk _ _ _ _; rw [hU]; exact HFY4.out.set 4 (.int .i64 z4)
      have HP5 : Hid (Blk U5 P #[.pointer (some ⟨F, 0, none⟩), .pointer (some ⟨F, 1, none⟩), .pointer (some ⟨F, 2, none⟩), .pointer (some ⟨F, 3, none⟩), .pointer (some ⟨F, 4, none⟩), .pointer (some ⟨F, 5, none⟩)] 197) := hset.blk HPY4.out (fun e => HPF.out e)
      have HV5 : Hid (RdV U5 E r q s p5 b1) := HY4.out.setOf hset HFY4.out (by decide) (by decide) (by decide) HGF2.out
      have HO5 : Hid (U5.ownsRow w.heap.size 151 6 (.slice a2 ys.length c2) ys.length (flatOf fillE ys)) := hset.owns (ht.owns HO4.out (fun g hg e => by have h1 := (HO4.out.lt g hg).1; have h2 := HLT.out; omega)) (fun g hg e => HNF.out g hg e)
      have HT5 : Hid (Turns (fun k => k = q ∨ k = r) w U5) := (HT4.out.trans ht (fun _ _ h => .inl h)).trans hset (fun k hk e => by have h1 : k = F := e; have h2 := HFL.out; omega)
      have HU5 := Lib.hid hU
      clear hv ht hU hset k40 k4p
      go_wp2_with fail
      rw [← HU5.out]
      clear y4 fy4
      have k50 : U5.cell? ⟨r, 0, none⟩ = some (.pointer (some ⟨q, 0, none⟩)) := HV5.out.blk.cell 0 _ rfl
      have k5p : U5.cell? ⟨P, 5, none⟩ = some (.pointer (some ⟨F, 5, none⟩)) := HP5.out.cell 5 _ rfl
      rw [rounds_succ]
      go_wp2_with fail
      refine (HR5.out U5 HV5.out).mono ?_
      rintro e Y5 ⟨rfl, hv, ht⟩
      have HY5 := Lib.hid hv
      have HFY5 := Lib.hid (HV5.out.keep HF5.out (by decide) ht)
      have HPY5 := Lib.hid (HV5.out.keep HP5.out (by decide) ht)
      have y5 : Y5.cell? ⟨F, 5, none⟩ = some (.int .i64 0) := HFY5.out.cell 5 _ rfl
      have fy5 : Y5.frozen? ⟨F, 5, none⟩ = false := HFY5.out.free 5
      obtain ⟨U6, hU⟩ : ∃ Z, Z = Y5.setCell ⟨F, 5, none⟩ (.int .i64 z5) := ⟨_, rfl⟩
      have hset : Turns (fun k => k = F) Y5 U6 := by rw [hU]; exact Turns.set (F := fun k => k = F) rfl
      have HF6 : Hid (Blk U6 F #[.int .i64 z0, .int .i64 z1, .int .i64 z2, .int .i64 z3, .int .i64 z4, .int .i64 z5] 151) := by show Blk _ _ _ _; rw [hU]; exact HFY5.out.set 5 (.int .i64 z5)
      have HP6 : Hid (Blk U6 P #[.pointer (some ⟨F, 0, none⟩), .pointer (some ⟨F, 1, none⟩), .pointer (some ⟨F, 2, none⟩), .pointer (some ⟨F, 3, none⟩), .pointer (some ⟨F, 4, none⟩), .pointer (some ⟨F, 5, none⟩)] 197) := hset.blk HPY5.out (fun e => HPF.out e)
      have HV6 : Hid (RdV U6 E r q s p6 b1) := HY5.out.setOf hset HFY5.out (by decide) (by decide) (by decide) HGF2.out
      have HO6 : Hid (U6.ownsRow w.heap.size 151 6 (.slice a2 ys.length c2) ys.length (flatOf fillE ys)) := hset.owns (ht.owns HO5.out (fun g hg e => by have h1 := (HO5.out.lt g hg).1; have h2 := HLT.out; omega)) (fun g hg e => HNF.out g hg e)
      have HT6 : Hid (Turns (fun k => k = q ∨ k = r) w U6) := (HT5.out.trans ht (fun _ _ h => .inl h)).trans hset (fun k hk e => by have h1 : k = F := e; have h2 := HFL.out; omega)
      have HU6 := Lib.hid hU
      clear hv ht hU hset k50 k5p
      go_wp2_with fail
      rw [← HU6.out]
      clear y5 fy5
      have rF : U6.rangeAt F 0 [.int .i64 z0, .int .i64 z1, .int .i64 z2, .int .i64 z3, .int .i64 z4, .int .i64 z5] := rangeAt_b HF6.out
      have hsz6 : w.heap.size ≤ U6.heap.size := HT6.out.size
      rw [rounds_succ]
      go_wp2_with (first
        | (refine wpList_load_mid rfl 151 _ rfl F 0 rfl [.int .i64 z0, .int .i64 z1, .int .i64 z2, .int .i64 z3, .int .i64 z4, .int .i64 z5] _ rF Tryd.underlying151 rfl fills_size ?_)
        | (at_builtin; refine wpList_app1 rfl _ _ 71 rfl w.heap.size 151 i0 (.agg #[.int .i64 0, .int .i64 0, .int .i64 0, .int .i64 0, .int .i64 0, .int .i64 0]) 6 48 Tryd.underlying71 hi hz0 hz1 hz2 rfl (by decide) _ _ _ rfl HO6.out [.int .i64 z0, .int .i64 z1, .int .i64 z2, .int .i64 z3, .int .i64 z4, .int .i64 z5] _ rfl ?ca0 ?ca1 ?ca2 ?ca3 ?ca4 hsz6 ?_))
      case ca0 => rfl
      case ca1 => rfl
      case ca2 => simp [Value.oneCell']
      case ca3 => unfold maxLen; omega
      case ca4 => omega
      intro s2 W3 hown3 hg3 _
      have hown3 : W3.ownsRow w.heap.size 151 6 s2 (ys ++ [(⟨z0, z1, z2, z3, z4, z5⟩ : Six)]).length (flatOf fillE (ys ++ [(⟨z0, z1, z2, z3, z4, z5⟩ : Six)])) := by
        rw [List.length_append, flatOf_append, flatOf_one]
        exact hown3
      have HV9 := Lib.hid (HV6.out.app hg3 HO6.out HLT.out.1 HLT.out.2 HGF.out (by decide))
      have HT9 : Hid (Turns (fun k => k = q ∨ k = r) w W3) := HT6.out.trans (Turns.of_grown hg3) (fun k hk e => by have := (HO6.out.lt k e).1; omega)
      obtain ⟨a4, c4, rfl⟩ := own_len hown3
      have HO9 := Lib.hid hown3
      clear hown3 hg3 rF
      go_wp2_with fail
      go_roundw
      case rel => exact ⟨i + 1, ys ++ [(⟨z0, z1, z2, z3, z4, z5⟩ : Six)], p6, _, rfl, by go_num, by omega, by simp; omega, Lib.hid ⟨by rw [← HEQ.out.1, HGO.out]; simp, by rw [← HEQ.out.2, HGO.out]⟩, Lib.hid (by have h := HO9.out; rw [List.length_append] at h ⊢; exact h), HV9, HT9⟩
      case measure => simp [intOf]; omega
    | false =>
      rw [hm] at HMO
      have hst := rdLst_stop (rd := rdFl s) hm
      have HEND : Hid (TT = (ys, p2)) := by
        have h1 := HEQ.out
        rw [hst] at h1
        show _ = _
        rw [List.append_nil] at h1
        exact Prod.ext h1.1.symm h1.2.symm
      clear hm hst
      go_wp2_with fail
      refine HMO.out.mono ?_
      rintro e w2 ⟨rfl, rfl⟩
      go_wp2_with fail
      go_ret
      rw [HEND.out]
      exact ⟨_, rfl, HOW.out, HV.out, HTW.out⟩
end Go.Proofs.YtbningfdpibdkaaDoor
