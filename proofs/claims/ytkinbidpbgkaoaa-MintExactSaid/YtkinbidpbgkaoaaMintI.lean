/-
  mint: the reference's Command by contract.
-/
import Derived.Test.YtkinbidpbgkaoaaMintG
namespace Go.Proofs.Ytkinbidpbgkaoaa
open Go.RowKit
set_option linter.unusedVariables false

theorem RMintAt.kept {w w' : World} {b : Nat} {x : Int} {r : Option Nat} (h : RMintAt w b x) (hg : w.grownBy w' r) (hne : some b ≠ r) : RMintAt w' b x := by
  refine ⟨?_, h.2⟩
  have := h.1
  unfold One at this ⊢
  rw [hg.block _ (lt_of_block this) hne]
  exact this
theorem rcmdSize : (Try.prog.info? 36).map (·.size) = some 15 := by kernel_rfl
/-- The world in the middle of the reference's Command. -/
structure RT (w0 : World) (b : Nat) (x : Int) (w : World) : Prop where
  mint : RMintAt w b x
  res : w.heap[w0.heap.size]? = some (.cells #[.int .i64 0, .int .i64 0, .int .i64 0, .int .i64 0, .int .i64 0, .int .i64 0, .int .i64 0, .int .i64 0, .int .i64 0, .int .i64 0, .int .i64 0, .int .i64 0, .int .i64 0, .int .i64 0, .bool false] 36 (0, 0))
  grown : w0.grownBy w (some b)
theorem RT.under {w0 w w' : World} {b : Nat} {x x' : Int} (h : RT w0 b x w) (hb : b < w0.heap.size) (hm : RMintAt w' b x') (hg : w.grownBy w' (some b)) : RT w0 b x' w' :=
  ⟨hm, by rw [hg.block _ (lt_of_block h.res) (by simp; omega)]; exact h.res, grownBy_trans h.grown hg⟩

set_option maxRecDepth 100000 in
set_option maxHeartbeats 1000000 in
theorem rcommand_0 (b : Nat) (x : Int) (w : World) (hb : b < w.heap.size) (hm : RMintAt w b x) (hk : Mi.und x 10 = 0) :
    Calls Try.prog 13 #[.pointer (some ⟨b, 0, none⟩)] w fun e w' => e = .returned (Mi.cmdOf x).val ∧ RMintAt w' b (Mi.x6 x) ∧ w.grownBy w' (some b) := by
  have H0 : Hid (RT w b x (w.alloc (.cells #[.int .i64 0, .int .i64 0, .int .i64 0, .int .i64 0, .int .i64 0, .int .i64 0, .int .i64 0, .int .i64 0, .int .i64 0, .int .i64 0, .int .i64 0, .int .i64 0, .int .i64 0, .int .i64 0, .bool false] 36))) := by
    refine ⟨⟨?_, hm.2⟩, alloc_new' rfl, World.grownBy_alloc w _ _⟩
    have := hm.1
    unfold One at this ⊢
    rw [alloc_old' hb]
    exact this
  clear hm
  rw [show Mi.cmdOf x = Mi.cmd (Mi.und x 10) (1 + Mi.und (Mi.x1 x) 4) (1 + Mi.und (Mi.x2 x) 3) (Mi.und (Mi.x3 x) 3) (1 + Mi.und (Mi.x4 x) 5) (1 + Mi.und (Mi.x5 x) 12) from rfl]
  obtain ⟨pkk, qkk⟩ := Mi.und_range (x) 10 (by omega)
  generalize hkk : Mi.und (x) 10 = kk at *
  have Hkk := Lib.hid hkk
  clear hkk
  obtain ⟨pua, qua⟩ := Mi.und_range (Mi.x1 x) 4 (by omega)
  generalize hua : Mi.und (Mi.x1 x) 4 = ua at *
  have Hua := Lib.hid hua
  clear hua
  obtain ⟨pub, qub⟩ := Mi.und_range (Mi.x2 x) 3 (by omega)
  generalize hub : Mi.und (Mi.x2 x) 3 = ub at *
  have Hub := Lib.hid hub
  clear hub
  obtain ⟨puc, quc⟩ := Mi.und_range (Mi.x3 x) 3 (by omega)
  generalize huc : Mi.und (Mi.x3 x) 3 = uc at *
  have Huc := Lib.hid huc
  clear huc
  obtain ⟨pud, qud⟩ := Mi.und_range (Mi.x4 x) 5 (by omega)
  generalize hud : Mi.und (Mi.x4 x) 5 = ud at *
  have Hud := Lib.hid hud
  clear hud
  obtain ⟨pue, que⟩ := Mi.und_range (Mi.x5 x) 12 (by omega)
  generalize hue : Mi.und (Mi.x5 x) 12 = ue at *
  have Hue := Lib.hid hue
  clear hue
  subst hk
  rw [show Mi.cmd 0 (1 + ua) (1 + ub) uc (1 + ud) (1 + ue) = ⟨3, 1 + ua, 0, 1, 0, 0, 0, 0, 0, 0, 4 * (1 + ud), 4 * (1 + ud), 4 * (1 + ud), 4 * (1 + ud), false⟩ from rfl]
  go_enter Try.func13, Try.ntmps13
  go_wp2_with fail
  generalize hW : w.alloc (.cells #[.int .i64 0, .int .i64 0, .int .i64 0, .int .i64 0, .int .i64 0, .int .i64 0, .int .i64 0, .int .i64 0, .int .i64 0, .int .i64 0, .int .i64 0, .int .i64 0, .int .i64 0, .int .i64 0, .bool false] 36) = W0 at H0
  clear hW
  refine (runder_big b (x) 10 _ H0.out.mint (by omega) (by omega)).mono ?_
  rintro e W1 ⟨rfl, m0, g0⟩
  rw [Hkk.out]
  have H1 : Hid (RT w b (Mi.x1 x) W1) := H0.out.under hb m0 g0
  clear m0 g0 H0 Hkk
  go_wp2_with fail
  refine (runder_big b (Mi.x1 x) 4 _ H1.out.mint (by omega) (by omega)).mono ?_
  rintro e W2 ⟨rfl, m1, g1⟩
  rw [Hua.out]
  have H2 : Hid (RT w b (Mi.x2 x) W2) := H1.out.under hb m1 g1
  clear m1 g1 H1 Hua
  go_wp2_with fail
  refine (runder_big b (Mi.x2 x) 3 _ H2.out.mint (by omega) (by omega)).mono ?_
  rintro e W3 ⟨rfl, m2, g2⟩
  rw [Hub.out]
  have H3 : Hid (RT w b (Mi.x3 x) W3) := H2.out.under hb m2 g2
  clear m2 g2 H2 Hub
  go_wp2_with fail
  refine (runder_big b (Mi.x3 x) 3 _ H3.out.mint (by omega) (by omega)).mono ?_
  rintro e W4 ⟨rfl, m3, g3⟩
  rw [Huc.out]
  have H4 : Hid (RT w b (Mi.x4 x) W4) := H3.out.under hb m3 g3
  clear m3 g3 H3 Huc
  go_wp2_with fail
  refine (runder_big b (Mi.x4 x) 5 _ H4.out.mint (by omega) (by omega)).mono ?_
  rintro e W5 ⟨rfl, m4, g4⟩
  rw [Hud.out]
  have H5 : Hid (RT w b (Mi.x5 x) W5) := H4.out.under hb m4 g4
  clear m4 g4 H4 Hud
  go_wp2_with fail
  refine (runder_big b (Mi.x5 x) 12 _ H5.out.mint (by omega) (by omega)).mono ?_
  rintro e W6 ⟨rfl, m5, g5⟩
  rw [Hue.out]
  have H6 : Hid (RT w b (Mi.x6 x) W6) := H5.out.under hb m5 g5
  clear m5 g5 H5 Hue
  have hlt : w.heap.size < W6.heap.size := lt_of_block H6.out.res
  have hw4 : IntKind.i64.wrap (4 * (1 + ud)) = 4 * (1 + ud) := by rw [IntKind.wrap_i64]; omega
  have hw3 : IntKind.i64.wrap (3 * (1 + ud)) = 3 * (1 + ud) := by rw [IntKind.wrap_i64]; omega
  go_wp2_with (first | (go_at_call 18; refine (rall_c _ _).mono ?_; rintro e w' ⟨rfl, rfl⟩) | refine wpList_store_row rfl 36 _ _ rfl w.heap.size (Cmd.cells ⟨3, 1 + ua, 0, 1, 0, 0, 0, 0, 0, 0, 4 * (1 + ud), 4 * (1 + ud), 4 * (1 + ud), 4 * (1 + ud), false⟩).toArray rfl rfl 36 #[.int .i64 0, .int .i64 0, .int .i64 0, .int .i64 0, .int .i64 0, .int .i64 0, .int .i64 0, .int .i64 0, .int .i64 0, .int .i64 0, .int .i64 0, .int .i64 0, .int .i64 0, .int .i64 0, .bool false] ?hg ?i1 ?i2 ?i3 ?_)
  case i1 => exact rcmdSize
  case i2 => rfl
  case i3 => simp [Cmd.cells, Value.oneCell']
  case hg => repeat (first | exact H6.out.res | (refine Eq.trans (alloc_old' ?_) ?_; focus (first | exact hlt | (simp; done) | (simp; omega))) | refine Eq.trans (drew_get _ _) ?_ | refine Eq.trans (drewN_get _ _ _) ?_)
  go_wp2_with fail
  refine bodyPost_row Try.results13 rfl w.heap.size rfl (Cmd.cells ⟨3, 1 + ua, 0, 1, 0, 0, 0, 0, 0, 0, 4 * (1 + ud), 4 * (1 + ud), 4 * (1 + ud), 4 * (1 + ud), false⟩).toArray _ (0, 0) (setRow_heap _ _ #[.int .i64 0, .int .i64 0, .int .i64 0, .int .i64 0, .int .i64 0, .int .i64 0, .int .i64 0, .int .i64 0, .int .i64 0, .int .i64 0, .int .i64 0, .int .i64 0, .int .i64 0, .int .i64 0, .bool false] _ 36 (0, 0) ?hh) _ Try.underlying36 rfl 15 rcmdSize rfl ⟨rfl, ?_⟩
  case hh => repeat (first | exact H6.out.res | (refine Eq.trans (alloc_old' ?_) ?_; focus (first | exact hlt | (simp; done) | (simp; omega))) | refine Eq.trans (drew_get _ _) ?_ | refine Eq.trans (drewN_get _ _ _) ?_)
  have h6 := H6.out
  have key : ∀ W : World, RMintAt W b (Mi.x6 x) ∧ w.grownBy W (some b) → RMintAt (W.setRow w.heap.size (Cmd.cells ⟨3, 1 + ua, 0, 1, 0, 0, 0, 0, 0, 0, 4 * (1 + ud), 4 * (1 + ud), 4 * (1 + ud), 4 * (1 + ud), false⟩).toArray) b (Mi.x6 x) ∧ w.grownBy (W.setRow w.heap.size (Cmd.cells ⟨3, 1 + ua, 0, 1, 0, 0, 0, 0, 0, 0, 4 * (1 + ud), 4 * (1 + ud), 4 * (1 + ud), 4 * (1 + ud), false⟩).toArray) (some b) := by
    rintro W ⟨hm, hg⟩
    refine ⟨⟨?_, hm.2⟩, ⟨hg.os, hg.tape, hg.output, by simpa using hg.size, fun k hk hne => ?_⟩⟩
    · have := hm.1
      unfold One at this ⊢
      rw [setRow_other _ _ _ _ (by omega)]
      exact this
    · rw [setRow_other _ _ _ _ (by omega)]
      exact hg.block k hk hne
  have step : ∀ (W : World) (o : Obj), RMintAt W b (Mi.x6 x) ∧ w.grownBy W (some b) → RMintAt (W.alloc o) b (Mi.x6 x) ∧ w.grownBy (W.alloc o) (some b) := by
    rintro W o ⟨hm, hg⟩
    exact ⟨hm.kept (World.grownBy_alloc W o none) (by simp), grownBy_trans hg (World.grownBy_alloc W o _)⟩
  have dstep : ∀ (W : World), RMintAt W b (Mi.x6 x) ∧ w.grownBy W (some b) → RMintAt W.drew b (Mi.x6 x) ∧ w.grownBy W.drew (some b) := by
    rintro W ⟨hm, hg⟩
    exact ⟨hm, hg.os, hg.tape, hg.output, hg.size, hg.block⟩
  refine key _ ?_
  repeat (first | exact ⟨h6.mint, h6.grown⟩ | refine step _ _ ?_ | refine dstep _ ?_)
set_option maxRecDepth 100000 in
set_option maxHeartbeats 1000000 in
theorem rcommand_5 (b : Nat) (x : Int) (w : World) (hb : b < w.heap.size) (hm : RMintAt w b x) (hk : Mi.und x 10 = 5) :
    Calls Try.prog 13 #[.pointer (some ⟨b, 0, none⟩)] w fun e w' => e = .returned (Mi.cmdOf x).val ∧ RMintAt w' b (Mi.x6 x) ∧ w.grownBy w' (some b) := by
  have H0 : Hid (RT w b x (w.alloc (.cells #[.int .i64 0, .int .i64 0, .int .i64 0, .int .i64 0, .int .i64 0, .int .i64 0, .int .i64 0, .int .i64 0, .int .i64 0, .int .i64 0, .int .i64 0, .int .i64 0, .int .i64 0, .int .i64 0, .bool false] 36))) := by
    refine ⟨⟨?_, hm.2⟩, alloc_new' rfl, World.grownBy_alloc w _ _⟩
    have := hm.1
    unfold One at this ⊢
    rw [alloc_old' hb]
    exact this
  clear hm
  rw [show Mi.cmdOf x = Mi.cmd (Mi.und x 10) (1 + Mi.und (Mi.x1 x) 4) (1 + Mi.und (Mi.x2 x) 3) (Mi.und (Mi.x3 x) 3) (1 + Mi.und (Mi.x4 x) 5) (1 + Mi.und (Mi.x5 x) 12) from rfl]
  obtain ⟨pkk, qkk⟩ := Mi.und_range (x) 10 (by omega)
  generalize hkk : Mi.und (x) 10 = kk at *
  have Hkk := Lib.hid hkk
  clear hkk
  obtain ⟨pua, qua⟩ := Mi.und_range (Mi.x1 x) 4 (by omega)
  generalize hua : Mi.und (Mi.x1 x) 4 = ua at *
  have Hua := Lib.hid hua
  clear hua
  obtain ⟨pub, qub⟩ := Mi.und_range (Mi.x2 x) 3 (by omega)
  generalize hub : Mi.und (Mi.x2 x) 3 = ub at *
  have Hub := Lib.hid hub
  clear hub
  obtain ⟨puc, quc⟩ := Mi.und_range (Mi.x3 x) 3 (by omega)
  generalize huc : Mi.und (Mi.x3 x) 3 = uc at *
  have Huc := Lib.hid huc
  clear huc
  obtain ⟨pud, qud⟩ := Mi.und_range (Mi.x4 x) 5 (by omega)
  generalize hud : Mi.und (Mi.x4 x) 5 = ud at *
  have Hud := Lib.hid hud
  clear hud
  obtain ⟨pue, que⟩ := Mi.und_range (Mi.x5 x) 12 (by omega)
  generalize hue : Mi.und (Mi.x5 x) 12 = ue at *
  have Hue := Lib.hid hue
  clear hue
  subst hk
  rw [show Mi.cmd 5 (1 + ua) (1 + ub) uc (1 + ud) (1 + ue) = ⟨16, 1 + ue, 0, 0, 0, 0, 0, 0, 0, 0, 0, 0, 0, 0, false⟩ from rfl]
  go_enter Try.func13, Try.ntmps13
  go_wp2_with fail
  generalize hW : w.alloc (.cells #[.int .i64 0, .int .i64 0, .int .i64 0, .int .i64 0, .int .i64 0, .int .i64 0, .int .i64 0, .int .i64 0, .int .i64 0, .int .i64 0, .int .i64 0, .int .i64 0, .int .i64 0, .int .i64 0, .bool false] 36) = W0 at H0
  clear hW
  refine (runder_big b (x) 10 _ H0.out.mint (by omega) (by omega)).mono ?_
  rintro e W1 ⟨rfl, m0, g0⟩
  rw [Hkk.out]
  have H1 : Hid (RT w b (Mi.x1 x) W1) := H0.out.under hb m0 g0
  clear m0 g0 H0 Hkk
  go_wp2_with fail
  refine (runder_big b (Mi.x1 x) 4 _ H1.out.mint (by omega) (by omega)).mono ?_
  rintro e W2 ⟨rfl, m1, g1⟩
  rw [Hua.out]
  have H2 : Hid (RT w b (Mi.x2 x) W2) := H1.out.under hb m1 g1
  clear m1 g1 H1 Hua
  go_wp2_with fail
  refine (runder_big b (Mi.x2 x) 3 _ H2.out.mint (by omega) (by omega)).mono ?_
  rintro e W3 ⟨rfl, m2, g2⟩
  rw [Hub.out]
  have H3 : Hid (RT w b (Mi.x3 x) W3) := H2.out.under hb m2 g2
  clear m2 g2 H2 Hub
  go_wp2_with fail
  refine (runder_big b (Mi.x3 x) 3 _ H3.out.mint (by omega) (by omega)).mono ?_
  rintro e W4 ⟨rfl, m3, g3⟩
  rw [Huc.out]
  have H4 : Hid (RT w b (Mi.x4 x) W4) := H3.out.under hb m3 g3
  clear m3 g3 H3 Huc
  go_wp2_with fail
  refine (runder_big b (Mi.x4 x) 5 _ H4.out.mint (by omega) (by omega)).mono ?_
  rintro e W5 ⟨rfl, m4, g4⟩
  rw [Hud.out]
  have H5 : Hid (RT w b (Mi.x5 x) W5) := H4.out.under hb m4 g4
  clear m4 g4 H4 Hud
  go_wp2_with fail
  refine (runder_big b (Mi.x5 x) 12 _ H5.out.mint (by omega) (by omega)).mono ?_
  rintro e W6 ⟨rfl, m5, g5⟩
  rw [Hue.out]
  have H6 : Hid (RT w b (Mi.x6 x) W6) := H5.out.under hb m5 g5
  clear m5 g5 H5 Hue
  have hlt : w.heap.size < W6.heap.size := lt_of_block H6.out.res
  have hw4 : IntKind.i64.wrap (4 * (1 + ud)) = 4 * (1 + ud) := by rw [IntKind.wrap_i64]; omega
  have hw3 : IntKind.i64.wrap (3 * (1 + ud)) = 3 * (1 + ud) := by rw [IntKind.wrap_i64]; omega
  go_wp2_with (first | (go_at_call 18; refine (rall_c _ _).mono ?_; rintro e w' ⟨rfl, rfl⟩) | refine wpList_store_row rfl 36 _ _ rfl w.heap.size (Cmd.cells ⟨16, 1 + ue, 0, 0, 0, 0, 0, 0, 0, 0, 0, 0, 0, 0, false⟩).toArray rfl rfl 36 #[.int .i64 0, .int .i64 0, .int .i64 0, .int .i64 0, .int .i64 0, .int .i64 0, .int .i64 0, .int .i64 0, .int .i64 0, .int .i64 0, .int .i64 0, .int .i64 0, .int .i64 0, .int .i64 0, .bool false] ?hg ?i1 ?i2 ?i3 ?_)
  case i1 => exact rcmdSize
  case i2 => rfl
  case i3 => simp [Cmd.cells, Value.oneCell']
  case hg => repeat (first | exact H6.out.res | (refine Eq.trans (alloc_old' ?_) ?_; focus (first | exact hlt | (simp; done) | (simp; omega))) | refine Eq.trans (drew_get _ _) ?_ | refine Eq.trans (drewN_get _ _ _) ?_)
  go_wp2_with fail
  refine bodyPost_row Try.results13 rfl w.heap.size rfl (Cmd.cells ⟨16, 1 + ue, 0, 0, 0, 0, 0, 0, 0, 0, 0, 0, 0, 0, false⟩).toArray _ (0, 0) (setRow_heap _ _ #[.int .i64 0, .int .i64 0, .int .i64 0, .int .i64 0, .int .i64 0, .int .i64 0, .int .i64 0, .int .i64 0, .int .i64 0, .int .i64 0, .int .i64 0, .int .i64 0, .int .i64 0, .int .i64 0, .bool false] _ 36 (0, 0) ?hh) _ Try.underlying36 rfl 15 rcmdSize rfl ⟨rfl, ?_⟩
  case hh => repeat (first | exact H6.out.res | (refine Eq.trans (alloc_old' ?_) ?_; focus (first | exact hlt | (simp; done) | (simp; omega))) | refine Eq.trans (drew_get _ _) ?_ | refine Eq.trans (drewN_get _ _ _) ?_)
  have h6 := H6.out
  have key : ∀ W : World, RMintAt W b (Mi.x6 x) ∧ w.grownBy W (some b) → RMintAt (W.setRow w.heap.size (Cmd.cells ⟨16, 1 + ue, 0, 0, 0, 0, 0, 0, 0, 0, 0, 0, 0, 0, false⟩).toArray) b (Mi.x6 x) ∧ w.grownBy (W.setRow w.heap.size (Cmd.cells ⟨16, 1 + ue, 0, 0, 0, 0, 0, 0, 0, 0, 0, 0, 0, 0, false⟩).toArray) (some b) := by
    rintro W ⟨hm, hg⟩
    refine ⟨⟨?_, hm.2⟩, ⟨hg.os, hg.tape, hg.output, by simpa using hg.size, fun k hk hne => ?_⟩⟩
    · have := hm.1
      unfold One at this ⊢
      rw [setRow_other _ _ _ _ (by omega)]
      exact this
    · rw [setRow_other _ _ _ _ (by omega)]
      exact hg.block k hk hne
  have step : ∀ (W : World) (o : Obj), RMintAt W b (Mi.x6 x) ∧ w.grownBy W (some b) → RMintAt (W.alloc o) b (Mi.x6 x) ∧ w.grownBy (W.alloc o) (some b) := by
    rintro W o ⟨hm, hg⟩
    exact ⟨hm.kept (World.grownBy_alloc W o none) (by simp), grownBy_trans hg (World.grownBy_alloc W o _)⟩
  have dstep : ∀ (W : World), RMintAt W b (Mi.x6 x) ∧ w.grownBy W (some b) → RMintAt W.drew b (Mi.x6 x) ∧ w.grownBy W.drew (some b) := by
    rintro W ⟨hm, hg⟩
    exact ⟨hm, hg.os, hg.tape, hg.output, hg.size, hg.block⟩
  refine key _ ?_
  repeat (first | exact ⟨h6.mint, h6.grown⟩ | refine step _ _ ?_ | refine dstep _ ?_)
set_option maxRecDepth 100000 in
set_option maxHeartbeats 1000000 in
theorem rcommand_6 (b : Nat) (x : Int) (w : World) (hb : b < w.heap.size) (hm : RMintAt w b x) (hk : Mi.und x 10 = 6) :
    Calls Try.prog 13 #[.pointer (some ⟨b, 0, none⟩)] w fun e w' => e = .returned (Mi.cmdOf x).val ∧ RMintAt w' b (Mi.x6 x) ∧ w.grownBy w' (some b) := by
  have H0 : Hid (RT w b x (w.alloc (.cells #[.int .i64 0, .int .i64 0, .int .i64 0, .int .i64 0, .int .i64 0, .int .i64 0, .int .i64 0, .int .i64 0, .int .i64 0, .int .i64 0, .int .i64 0, .int .i64 0, .int .i64 0, .int .i64 0, .bool false] 36))) := by
    refine ⟨⟨?_, hm.2⟩, alloc_new' rfl, World.grownBy_alloc w _ _⟩
    have := hm.1
    unfold One at this ⊢
    rw [alloc_old' hb]
    exact this
  clear hm
  rw [show Mi.cmdOf x = Mi.cmd (Mi.und x 10) (1 + Mi.und (Mi.x1 x) 4) (1 + Mi.und (Mi.x2 x) 3) (Mi.und (Mi.x3 x) 3) (1 + Mi.und (Mi.x4 x) 5) (1 + Mi.und (Mi.x5 x) 12) from rfl]
  obtain ⟨pkk, qkk⟩ := Mi.und_range (x) 10 (by omega)
  generalize hkk : Mi.und (x) 10 = kk at *
  have Hkk := Lib.hid hkk
  clear hkk
  obtain ⟨pua, qua⟩ := Mi.und_range (Mi.x1 x) 4 (by omega)
  generalize hua : Mi.und (Mi.x1 x) 4 = ua at *
  have Hua := Lib.hid hua
  clear hua
  obtain ⟨pub, qub⟩ := Mi.und_range (Mi.x2 x) 3 (by omega)
  generalize hub : Mi.und (Mi.x2 x) 3 = ub at *
  have Hub := Lib.hid hub
  clear hub
  obtain ⟨puc, quc⟩ := Mi.und_range (Mi.x3 x) 3 (by omega)
  generalize huc : Mi.und (Mi.x3 x) 3 = uc at *
  have Huc := Lib.hid huc
  clear huc
  obtain ⟨pud, qud⟩ := Mi.und_range (Mi.x4 x) 5 (by omega)
  generalize hud : Mi.und (Mi.x4 x) 5 = ud at *
  have Hud := Lib.hid hud
  clear hud
  obtain ⟨pue, que⟩ := Mi.und_range (Mi.x5 x) 12 (by omega)
  generalize hue : Mi.und (Mi.x5 x) 12 = ue at *
  have Hue := Lib.hid hue
  clear hue
  subst hk
  rw [show Mi.cmd 6 (1 + ua) (1 + ub) uc (1 + ud) (1 + ue) = ⟨18, 0, 0, 0, 0, 0, 1 + ua, 0, 0, 0, 0, 0, 0, 0, false⟩ from rfl]
  go_enter Try.func13, Try.ntmps13
  go_wp2_with fail
  generalize hW : w.alloc (.cells #[.int .i64 0, .int .i64 0, .int .i64 0, .int .i64 0, .int .i64 0, .int .i64 0, .int .i64 0, .int .i64 0, .int .i64 0, .int .i64 0, .int .i64 0, .int .i64 0, .int .i64 0, .int .i64 0, .bool false] 36) = W0 at H0
  clear hW
  refine (runder_big b (x) 10 _ H0.out.mint (by omega) (by omega)).mono ?_
  rintro e W1 ⟨rfl, m0, g0⟩
  rw [Hkk.out]
  have H1 : Hid (RT w b (Mi.x1 x) W1) := H0.out.under hb m0 g0
  clear m0 g0 H0 Hkk
  go_wp2_with fail
  refine (runder_big b (Mi.x1 x) 4 _ H1.out.mint (by omega) (by omega)).mono ?_
  rintro e W2 ⟨rfl, m1, g1⟩
  rw [Hua.out]
  have H2 : Hid (RT w b (Mi.x2 x) W2) := H1.out.under hb m1 g1
  clear m1 g1 H1 Hua
  go_wp2_with fail
  refine (runder_big b (Mi.x2 x) 3 _ H2.out.mint (by omega) (by omega)).mono ?_
  rintro e W3 ⟨rfl, m2, g2⟩
  rw [Hub.out]
  have H3 : Hid (RT w b (Mi.x3 x) W3) := H2.out.under hb m2 g2
  clear m2 g2 H2 Hub
  go_wp2_with fail
  refine (runder_big b (Mi.x3 x) 3 _ H3.out.mint (by omega) (by omega)).mono ?_
  rintro e W4 ⟨rfl, m3, g3⟩
  rw [Huc.out]
  have H4 : Hid (RT w b (Mi.x4 x) W4) := H3.out.under hb m3 g3
  clear m3 g3 H3 Huc
  go_wp2_with fail
  refine (runder_big b (Mi.x4 x) 5 _ H4.out.mint (by omega) (by omega)).mono ?_
  rintro e W5 ⟨rfl, m4, g4⟩
  rw [Hud.out]
  have H5 : Hid (RT w b (Mi.x5 x) W5) := H4.out.under hb m4 g4
  clear m4 g4 H4 Hud
  go_wp2_with fail
  refine (runder_big b (Mi.x5 x) 12 _ H5.out.mint (by omega) (by omega)).mono ?_
  rintro e W6 ⟨rfl, m5, g5⟩
  rw [Hue.out]
  have H6 : Hid (RT w b (Mi.x6 x) W6) := H5.out.under hb m5 g5
  clear m5 g5 H5 Hue
  have hlt : w.heap.size < W6.heap.size := lt_of_block H6.out.res
  have hw4 : IntKind.i64.wrap (4 * (1 + ud)) = 4 * (1 + ud) := by rw [IntKind.wrap_i64]; omega
  have hw3 : IntKind.i64.wrap (3 * (1 + ud)) = 3 * (1 + ud) := by rw [IntKind.wrap_i64]; omega
  go_wp2_with (first | (go_at_call 18; refine (rall_c _ _).mono ?_; rintro e w' ⟨rfl, rfl⟩) | refine wpList_store_row rfl 36 _ _ rfl w.heap.size (Cmd.cells ⟨18, 0, 0, 0, 0, 0, 1 + ua, 0, 0, 0, 0, 0, 0, 0, false⟩).toArray rfl rfl 36 #[.int .i64 0, .int .i64 0, .int .i64 0, .int .i64 0, .int .i64 0, .int .i64 0, .int .i64 0, .int .i64 0, .int .i64 0, .int .i64 0, .int .i64 0, .int .i64 0, .int .i64 0, .int .i64 0, .bool false] ?hg ?i1 ?i2 ?i3 ?_)
  case i1 => exact rcmdSize
  case i2 => rfl
  case i3 => simp [Cmd.cells, Value.oneCell']
  case hg => repeat (first | exact H6.out.res | (refine Eq.trans (alloc_old' ?_) ?_; focus (first | exact hlt | (simp; done) | (simp; omega))) | refine Eq.trans (drew_get _ _) ?_ | refine Eq.trans (drewN_get _ _ _) ?_)
  go_wp2_with fail
  refine bodyPost_row Try.results13 rfl w.heap.size rfl (Cmd.cells ⟨18, 0, 0, 0, 0, 0, 1 + ua, 0, 0, 0, 0, 0, 0, 0, false⟩).toArray _ (0, 0) (setRow_heap _ _ #[.int .i64 0, .int .i64 0, .int .i64 0, .int .i64 0, .int .i64 0, .int .i64 0, .int .i64 0, .int .i64 0, .int .i64 0, .int .i64 0, .int .i64 0, .int .i64 0, .int .i64 0, .int .i64 0, .bool false] _ 36 (0, 0) ?hh) _ Try.underlying36 rfl 15 rcmdSize rfl ⟨rfl, ?_⟩
  case hh => repeat (first | exact H6.out.res | (refine Eq.trans (alloc_old' ?_) ?_; focus (first | exact hlt | (simp; done) | (simp; omega))) | refine Eq.trans (drew_get _ _) ?_ | refine Eq.trans (drewN_get _ _ _) ?_)
  have h6 := H6.out
  have key : ∀ W : World, RMintAt W b (Mi.x6 x) ∧ w.grownBy W (some b) → RMintAt (W.setRow w.heap.size (Cmd.cells ⟨18, 0, 0, 0, 0, 0, 1 + ua, 0, 0, 0, 0, 0, 0, 0, false⟩).toArray) b (Mi.x6 x) ∧ w.grownBy (W.setRow w.heap.size (Cmd.cells ⟨18, 0, 0, 0, 0, 0, 1 + ua, 0, 0, 0, 0, 0, 0, 0, false⟩).toArray) (some b) := by
    rintro W ⟨hm, hg⟩
    refine ⟨⟨?_, hm.2⟩, ⟨hg.os, hg.tape, hg.output, by simpa using hg.size, fun k hk hne => ?_⟩⟩
    · have := hm.1
      unfold One at this ⊢
      rw [setRow_other _ _ _ _ (by omega)]
      exact this
    · rw [setRow_other _ _ _ _ (by omega)]
      exact hg.block k hk hne
  have step : ∀ (W : World) (o : Obj), RMintAt W b (Mi.x6 x) ∧ w.grownBy W (some b) → RMintAt (W.alloc o) b (Mi.x6 x) ∧ w.grownBy (W.alloc o) (some b) := by
    rintro W o ⟨hm, hg⟩
    exact ⟨hm.kept (World.grownBy_alloc W o none) (by simp), grownBy_trans hg (World.grownBy_alloc W o _)⟩
  have dstep : ∀ (W : World), RMintAt W b (Mi.x6 x) ∧ w.grownBy W (some b) → RMintAt W.drew b (Mi.x6 x) ∧ w.grownBy W.drew (some b) := by
    rintro W ⟨hm, hg⟩
    exact ⟨hm, hg.os, hg.tape, hg.output, hg.size, hg.block⟩
  refine key _ ?_
  repeat (first | exact ⟨h6.mint, h6.grown⟩ | refine step _ _ ?_ | refine dstep _ ?_)
set_option maxRecDepth 100000 in
set_option maxHeartbeats 1000000 in
theorem rcommand_71 (b : Nat) (x : Int) (w : World) (hb : b < w.heap.size) (hm : RMintAt w b x) (hk : Mi.und x 10 = 7) (hd : Mi.und (Mi.x4 x) 5 = 0) :
    Calls Try.prog 13 #[.pointer (some ⟨b, 0, none⟩)] w fun e w' => e = .returned (Mi.cmdOf x).val ∧ RMintAt w' b (Mi.x6 x) ∧ w.grownBy w' (some b) := by
  have H0 : Hid (RT w b x (w.alloc (.cells #[.int .i64 0, .int .i64 0, .int .i64 0, .int .i64 0, .int .i64 0, .int .i64 0, .int .i64 0, .int .i64 0, .int .i64 0, .int .i64 0, .int .i64 0, .int .i64 0, .int .i64 0, .int .i64 0, .bool false] 36))) := by
    refine ⟨⟨?_, hm.2⟩, alloc_new' rfl, World.grownBy_alloc w _ _⟩
    have := hm.1
    unfold One at this ⊢
    rw [alloc_old' hb]
    exact this
  clear hm
  rw [show Mi.cmdOf x = Mi.cmd (Mi.und x 10) (1 + Mi.und (Mi.x1 x) 4) (1 + Mi.und (Mi.x2 x) 3) (Mi.und (Mi.x3 x) 3) (1 + Mi.und (Mi.x4 x) 5) (1 + Mi.und (Mi.x5 x) 12) from rfl]
  obtain ⟨pkk, qkk⟩ := Mi.und_range (x) 10 (by omega)
  generalize hkk : Mi.und (x) 10 = kk at *
  have Hkk := Lib.hid hkk
  clear hkk
  obtain ⟨pua, qua⟩ := Mi.und_range (Mi.x1 x) 4 (by omega)
  generalize hua : Mi.und (Mi.x1 x) 4 = ua at *
  have Hua := Lib.hid hua
  clear hua
  obtain ⟨pub, qub⟩ := Mi.und_range (Mi.x2 x) 3 (by omega)
  generalize hub : Mi.und (Mi.x2 x) 3 = ub at *
  have Hub := Lib.hid hub
  clear hub
  obtain ⟨puc, quc⟩ := Mi.und_range (Mi.x3 x) 3 (by omega)
  generalize huc : Mi.und (Mi.x3 x) 3 = uc at *
  have Huc := Lib.hid huc
  clear huc
  obtain ⟨pud, qud⟩ := Mi.und_range (Mi.x4 x) 5 (by omega)
  generalize hud : Mi.und (Mi.x4 x) 5 = ud at *
  have Hud := Lib.hid hud
  clear hud
  obtain ⟨pue, que⟩ := Mi.und_range (Mi.x5 x) 12 (by omega)
  generalize hue : Mi.und (Mi.x5 x) 12 = ue at *
  have Hue := Lib.hid hue
  clear hue
  subst hk
  subst hd
  rw [show Mi.cmd 7 (1 + ua) (1 + ub) uc (1 + 0) (1 + ue) = ⟨5, 1 + ua, 0, 0, 0, 0, 0, 0, 0, 0, 0, 0, 0, 0, false⟩ from rfl]
  go_enter Try.func13, Try.ntmps13
  go_wp2_with fail
  generalize hW : w.alloc (.cells #[.int .i64 0, .int .i64 0, .int .i64 0, .int .i64 0, .int .i64 0, .int .i64 0, .int .i64 0, .int .i64 0, .int .i64 0, .int .i64 0, .int .i64 0, .int .i64 0, .int .i64 0, .int .i64 0, .bool false] 36) = W0 at H0
  clear hW
  refine (runder_big b (x) 10 _ H0.out.mint (by omega) (by omega)).mono ?_
  rintro e W1 ⟨rfl, m0, g0⟩
  rw [Hkk.out]
  have H1 : Hid (RT w b (Mi.x1 x) W1) := H0.out.under hb m0 g0
  clear m0 g0 H0 Hkk
  go_wp2_with fail
  refine (runder_big b (Mi.x1 x) 4 _ H1.out.mint (by omega) (by omega)).mono ?_
  rintro e W2 ⟨rfl, m1, g1⟩
  rw [Hua.out]
  have H2 : Hid (RT w b (Mi.x2 x) W2) := H1.out.under hb m1 g1
  clear m1 g1 H1 Hua
  go_wp2_with fail
  refine (runder_big b (Mi.x2 x) 3 _ H2.out.mint (by omega) (by omega)).mono ?_
  rintro e W3 ⟨rfl, m2, g2⟩
  rw [Hub.out]
  have H3 : Hid (RT w b (Mi.x3 x) W3) := H2.out.under hb m2 g2
  clear m2 g2 H2 Hub
  go_wp2_with fail
  refine (runder_big b (Mi.x3 x) 3 _ H3.out.mint (by omega) (by omega)).mono ?_
  rintro e W4 ⟨rfl, m3, g3⟩
  rw [Huc.out]
  have H4 : Hid (RT w b (Mi.x4 x) W4) := H3.out.under hb m3 g3
  clear m3 g3 H3 Huc
  go_wp2_with fail
  refine (runder_big b (Mi.x4 x) 5 _ H4.out.mint (by omega) (by omega)).mono ?_
  rintro e W5 ⟨rfl, m4, g4⟩
  rw [Hud.out]
  have H5 : Hid (RT w b (Mi.x5 x) W5) := H4.out.under hb m4 g4
  clear m4 g4 H4 Hud
  go_wp2_with fail
  refine (runder_big b (Mi.x5 x) 12 _ H5.out.mint (by omega) (by omega)).mono ?_
  rintro e W6 ⟨rfl, m5, g5⟩
  rw [Hue.out]
  have H6 : Hid (RT w b (Mi.x6 x) W6) := H5.out.under hb m5 g5
  clear m5 g5 H5 Hue
  have hlt : w.heap.size < W6.heap.size := lt_of_block H6.out.res
  have hw4 : IntKind.i64.wrap (4 * (1 + 0)) = 4 * (1 + 0) := by rw [IntKind.wrap_i64]; omega
  have hw3 : IntKind.i64.wrap (3 * (1 + 0)) = 3 * (1 + 0) := by rw [IntKind.wrap_i64]; omega
  go_wp2_with (first | (go_at_call 18; refine (rall_c _ _).mono ?_; rintro e w' ⟨rfl, rfl⟩) | refine wpList_store_row rfl 36 _ _ rfl w.heap.size (Cmd.cells ⟨5, 1 + ua, 0, 0, 0, 0, 0, 0, 0, 0, 0, 0, 0, 0, false⟩).toArray rfl rfl 36 #[.int .i64 0, .int .i64 0, .int .i64 0, .int .i64 0, .int .i64 0, .int .i64 0, .int .i64 0, .int .i64 0, .int .i64 0, .int .i64 0, .int .i64 0, .int .i64 0, .int .i64 0, .int .i64 0, .bool false] ?hg ?i1 ?i2 ?i3 ?_)
  case i1 => exact rcmdSize
  case i2 => rfl
  case i3 => simp [Cmd.cells, Value.oneCell']
  case hg => repeat (first | exact H6.out.res | (refine Eq.trans (alloc_old' ?_) ?_; focus (first | exact hlt | (simp; done) | (simp; omega))) | refine Eq.trans (drew_get _ _) ?_ | refine Eq.trans (drewN_get _ _ _) ?_)
  go_wp2_with fail
  refine bodyPost_row Try.results13 rfl w.heap.size rfl (Cmd.cells ⟨5, 1 + ua, 0, 0, 0, 0, 0, 0, 0, 0, 0, 0, 0, 0, false⟩).toArray _ (0, 0) (setRow_heap _ _ #[.int .i64 0, .int .i64 0, .int .i64 0, .int .i64 0, .int .i64 0, .int .i64 0, .int .i64 0, .int .i64 0, .int .i64 0, .int .i64 0, .int .i64 0, .int .i64 0, .int .i64 0, .int .i64 0, .bool false] _ 36 (0, 0) ?hh) _ Try.underlying36 rfl 15 rcmdSize rfl ⟨rfl, ?_⟩
  case hh => repeat (first | exact H6.out.res | (refine Eq.trans (alloc_old' ?_) ?_; focus (first | exact hlt | (simp; done) | (simp; omega))) | refine Eq.trans (drew_get _ _) ?_ | refine Eq.trans (drewN_get _ _ _) ?_)
  have h6 := H6.out
  have key : ∀ W : World, RMintAt W b (Mi.x6 x) ∧ w.grownBy W (some b) → RMintAt (W.setRow w.heap.size (Cmd.cells ⟨5, 1 + ua, 0, 0, 0, 0, 0, 0, 0, 0, 0, 0, 0, 0, false⟩).toArray) b (Mi.x6 x) ∧ w.grownBy (W.setRow w.heap.size (Cmd.cells ⟨5, 1 + ua, 0, 0, 0, 0, 0, 0, 0, 0, 0, 0, 0, 0, false⟩).toArray) (some b) := by
    rintro W ⟨hm, hg⟩
    refine ⟨⟨?_, hm.2⟩, ⟨hg.os, hg.tape, hg.output, by simpa using hg.size, fun k hk hne => ?_⟩⟩
    · have := hm.1
      unfold One at this ⊢
      rw [setRow_other _ _ _ _ (by omega)]
      exact this
    · rw [setRow_other _ _ _ _ (by omega)]
      exact hg.block k hk hne
  have step : ∀ (W : World) (o : Obj), RMintAt W b (Mi.x6 x) ∧ w.grownBy W (some b) → RMintAt (W.alloc o) b (Mi.x6 x) ∧ w.grownBy (W.alloc o) (some b) := by
    rintro W o ⟨hm, hg⟩
    exact ⟨hm.kept (World.grownBy_alloc W o none) (by simp), grownBy_trans hg (World.grownBy_alloc W o _)⟩
  have dstep : ∀ (W : World), RMintAt W b (Mi.x6 x) ∧ w.grownBy W (some b) → RMintAt W.drew b (Mi.x6 x) ∧ w.grownBy W.drew (some b) := by
    rintro W ⟨hm, hg⟩
    exact ⟨hm, hg.os, hg.tape, hg.output, hg.size, hg.block⟩
  refine key _ ?_
  repeat (first | exact ⟨h6.mint, h6.grown⟩ | refine step _ _ ?_ | refine dstep _ ?_)
set_option maxRecDepth 100000 in
set_option maxHeartbeats 1000000 in
theorem rcommand_72 (b : Nat) (x : Int) (w : World) (hb : b < w.heap.size) (hm : RMintAt w b x) (hk : Mi.und x 10 = 7) (hd : Mi.und (Mi.x4 x) 5 = 1) :
    Calls Try.prog 13 #[.pointer (some ⟨b, 0, none⟩)] w fun e w' => e = .returned (Mi.cmdOf x).val ∧ RMintAt w' b (Mi.x6 x) ∧ w.grownBy w' (some b) := by
  have H0 : Hid (RT w b x (w.alloc (.cells #[.int .i64 0, .int .i64 0, .int .i64 0, .int .i64 0, .int .i64 0, .int .i64 0, .int .i64 0, .int .i64 0, .int .i64 0, .int .i64 0, .int .i64 0, .int .i64 0, .int .i64 0, .int .i64 0, .bool false] 36))) := by
    refine ⟨⟨?_, hm.2⟩, alloc_new' rfl, World.grownBy_alloc w _ _⟩
    have := hm.1
    unfold One at this ⊢
    rw [alloc_old' hb]
    exact this
  clear hm
  rw [show Mi.cmdOf x = Mi.cmd (Mi.und x 10) (1 + Mi.und (Mi.x1 x) 4) (1 + Mi.und (Mi.x2 x) 3) (Mi.und (Mi.x3 x) 3) (1 + Mi.und (Mi.x4 x) 5) (1 + Mi.und (Mi.x5 x) 12) from rfl]
  obtain ⟨pkk, qkk⟩ := Mi.und_range (x) 10 (by omega)
  generalize hkk : Mi.und (x) 10 = kk at *
  have Hkk := Lib.hid hkk
  clear hkk
  obtain ⟨pua, qua⟩ := Mi.und_range (Mi.x1 x) 4 (by omega)
  generalize hua : Mi.und (Mi.x1 x) 4 = ua at *
  have Hua := Lib.hid hua
  clear hua
  obtain ⟨pub, qub⟩ := Mi.und_range (Mi.x2 x) 3 (by omega)
  generalize hub : Mi.und (Mi.x2 x) 3 = ub at *
  have Hub := Lib.hid hub
  clear hub
  obtain ⟨puc, quc⟩ := Mi.und_range (Mi.x3 x) 3 (by omega)
  generalize huc : Mi.und (Mi.x3 x) 3 = uc at *
  have Huc := Lib.hid huc
  clear huc
  obtain ⟨pud, qud⟩ := Mi.und_range (Mi.x4 x) 5 (by omega)
  generalize hud : Mi.und (Mi.x4 x) 5 = ud at *
  have Hud := Lib.hid hud
  clear hud
  obtain ⟨pue, que⟩ := Mi.und_range (Mi.x5 x) 12 (by omega)
  generalize hue : Mi.und (Mi.x5 x) 12 = ue at *
  have Hue := Lib.hid hue
  clear hue
  subst hk
  subst hd
  rw [show Mi.cmd 7 (1 + ua) (1 + ub) uc (1 + 1) (1 + ue) = ⟨6, 1 + ua, 0, 0, 0, 0, 0, 0, 0, 0, 0, 0, 0, 0, false⟩ from rfl]
  go_enter Try.func13, Try.ntmps13
  go_wp2_with fail
  generalize hW : w.alloc (.cells #[.int .i64 0, .int .i64 0, .int .i64 0, .int .i64 0, .int .i64 0, .int .i64 0, .int .i64 0, .int .i64 0, .int .i64 0, .int .i64 0, .int .i64 0, .int .i64 0, .int .i64 0, .int .i64 0, .bool false] 36) = W0 at H0
  clear hW
  refine (runder_big b (x) 10 _ H0.out.mint (by omega) (by omega)).mono ?_
  rintro e W1 ⟨rfl, m0, g0⟩
  rw [Hkk.out]
  have H1 : Hid (RT w b (Mi.x1 x) W1) := H0.out.under hb m0 g0
  clear m0 g0 H0 Hkk
  go_wp2_with fail
  refine (runder_big b (Mi.x1 x) 4 _ H1.out.mint (by omega) (by omega)).mono ?_
  rintro e W2 ⟨rfl, m1, g1⟩
  rw [Hua.out]
  have H2 : Hid (RT w b (Mi.x2 x) W2) := H1.out.under hb m1 g1
  clear m1 g1 H1 Hua
  go_wp2_with fail
  refine (runder_big b (Mi.x2 x) 3 _ H2.out.mint (by omega) (by omega)).mono ?_
  rintro e W3 ⟨rfl, m2, g2⟩
  rw [Hub.out]
  have H3 : Hid (RT w b (Mi.x3 x) W3) := H2.out.under hb m2 g2
  clear m2 g2 H2 Hub
  go_wp2_with fail
  refine (runder_big b (Mi.x3 x) 3 _ H3.out.mint (by omega) (by omega)).mono ?_
  rintro e W4 ⟨rfl, m3, g3⟩
  rw [Huc.out]
  have H4 : Hid (RT w b (Mi.x4 x) W4) := H3.out.under hb m3 g3
  clear m3 g3 H3 Huc
  go_wp2_with fail
  refine (runder_big b (Mi.x4 x) 5 _ H4.out.mint (by omega) (by omega)).mono ?_
  rintro e W5 ⟨rfl, m4, g4⟩
  rw [Hud.out]
  have H5 : Hid (RT w b (Mi.x5 x) W5) := H4.out.under hb m4 g4
  clear m4 g4 H4 Hud
  go_wp2_with fail
  refine (runder_big b (Mi.x5 x) 12 _ H5.out.mint (by omega) (by omega)).mono ?_
  rintro e W6 ⟨rfl, m5, g5⟩
  rw [Hue.out]
  have H6 : Hid (RT w b (Mi.x6 x) W6) := H5.out.under hb m5 g5
  clear m5 g5 H5 Hue
  have hlt : w.heap.size < W6.heap.size := lt_of_block H6.out.res
  have hw4 : IntKind.i64.wrap (4 * (1 + 1)) = 4 * (1 + 1) := by rw [IntKind.wrap_i64]; omega
  have hw3 : IntKind.i64.wrap (3 * (1 + 1)) = 3 * (1 + 1) := by rw [IntKind.wrap_i64]; omega
  go_wp2_with (first | (go_at_call 18; refine (rall_c _ _).mono ?_; rintro e w' ⟨rfl, rfl⟩) | refine wpList_store_row rfl 36 _ _ rfl w.heap.size (Cmd.cells ⟨6, 1 + ua, 0, 0, 0, 0, 0, 0, 0, 0, 0, 0, 0, 0, false⟩).toArray rfl rfl 36 #[.int .i64 0, .int .i64 0, .int .i64 0, .int .i64 0, .int .i64 0, .int .i64 0, .int .i64 0, .int .i64 0, .int .i64 0, .int .i64 0, .int .i64 0, .int .i64 0, .int .i64 0, .int .i64 0, .bool false] ?hg ?i1 ?i2 ?i3 ?_)
  case i1 => exact rcmdSize
  case i2 => rfl
  case i3 => simp [Cmd.cells, Value.oneCell']
  case hg => repeat (first | exact H6.out.res | (refine Eq.trans (alloc_old' ?_) ?_; focus (first | exact hlt | (simp; done) | (simp; omega))) | refine Eq.trans (drew_get _ _) ?_ | refine Eq.trans (drewN_get _ _ _) ?_)
  go_wp2_with fail
  refine bodyPost_row Try.results13 rfl w.heap.size rfl (Cmd.cells ⟨6, 1 + ua, 0, 0, 0, 0, 0, 0, 0, 0, 0, 0, 0, 0, false⟩).toArray _ (0, 0) (setRow_heap _ _ #[.int .i64 0, .int .i64 0, .int .i64 0, .int .i64 0, .int .i64 0, .int .i64 0, .int .i64 0, .int .i64 0, .int .i64 0, .int .i64 0, .int .i64 0, .int .i64 0, .int .i64 0, .int .i64 0, .bool false] _ 36 (0, 0) ?hh) _ Try.underlying36 rfl 15 rcmdSize rfl ⟨rfl, ?_⟩
  case hh => repeat (first | exact H6.out.res | (refine Eq.trans (alloc_old' ?_) ?_; focus (first | exact hlt | (simp; done) | (simp; omega))) | refine Eq.trans (drew_get _ _) ?_ | refine Eq.trans (drewN_get _ _ _) ?_)
  have h6 := H6.out
  have key : ∀ W : World, RMintAt W b (Mi.x6 x) ∧ w.grownBy W (some b) → RMintAt (W.setRow w.heap.size (Cmd.cells ⟨6, 1 + ua, 0, 0, 0, 0, 0, 0, 0, 0, 0, 0, 0, 0, false⟩).toArray) b (Mi.x6 x) ∧ w.grownBy (W.setRow w.heap.size (Cmd.cells ⟨6, 1 + ua, 0, 0, 0, 0, 0, 0, 0, 0, 0, 0, 0, 0, false⟩).toArray) (some b) := by
    rintro W ⟨hm, hg⟩
    refine ⟨⟨?_, hm.2⟩, ⟨hg.os, hg.tape, hg.output, by simpa using hg.size, fun k hk hne => ?_⟩⟩
    · have := hm.1
      unfold One at this ⊢
      rw [setRow_other _ _ _ _ (by omega)]
      exact this
    · rw [setRow_other _ _ _ _ (by omega)]
      exact hg.block k hk hne
  have step : ∀ (W : World) (o : Obj), RMintAt W b (Mi.x6 x) ∧ w.grownBy W (some b) → RMintAt (W.alloc o) b (Mi.x6 x) ∧ w.grownBy (W.alloc o) (some b) := by
    rintro W o ⟨hm, hg⟩
    exact ⟨hm.kept (World.grownBy_alloc W o none) (by simp), grownBy_trans hg (World.grownBy_alloc W o _)⟩
  have dstep : ∀ (W : World), RMintAt W b (Mi.x6 x) ∧ w.grownBy W (some b) → RMintAt W.drew b (Mi.x6 x) ∧ w.grownBy W.drew (some b) := by
    rintro W ⟨hm, hg⟩
    exact ⟨hm, hg.os, hg.tape, hg.output, hg.size, hg.block⟩
  refine key _ ?_
  repeat (first | exact ⟨h6.mint, h6.grown⟩ | refine step _ _ ?_ | refine dstep _ ?_)
set_option maxRecDepth 100000 in
set_option maxHeartbeats 1000000 in
theorem rcommand_73 (b : Nat) (x : Int) (w : World) (hb : b < w.heap.size) (hm : RMintAt w b x) (hk : Mi.und x 10 = 7) (hd1 : Mi.und (Mi.x4 x) 5 ≠ 0) (hd2 : Mi.und (Mi.x4 x) 5 ≠ 1) :
    Calls Try.prog 13 #[.pointer (some ⟨b, 0, none⟩)] w fun e w' => e = .returned (Mi.cmdOf x).val ∧ RMintAt w' b (Mi.x6 x) ∧ w.grownBy w' (some b) := by
  have H0 : Hid (RT w b x (w.alloc (.cells #[.int .i64 0, .int .i64 0, .int .i64 0, .int .i64 0, .int .i64 0, .int .i64 0, .int .i64 0, .int .i64 0, .int .i64 0, .int .i64 0, .int .i64 0, .int .i64 0, .int .i64 0, .int .i64 0, .bool false] 36))) := by
    refine ⟨⟨?_, hm.2⟩, alloc_new' rfl, World.grownBy_alloc w _ _⟩
    have := hm.1
    unfold One at this ⊢
    rw [alloc_old' hb]
    exact this
  clear hm
  rw [show Mi.cmdOf x = Mi.cmd (Mi.und x 10) (1 + Mi.und (Mi.x1 x) 4) (1 + Mi.und (Mi.x2 x) 3) (Mi.und (Mi.x3 x) 3) (1 + Mi.und (Mi.x4 x) 5) (1 + Mi.und (Mi.x5 x) 12) from rfl]
  obtain ⟨pkk, qkk⟩ := Mi.und_range (x) 10 (by omega)
  generalize hkk : Mi.und (x) 10 = kk at *
  have Hkk := Lib.hid hkk
  clear hkk
  obtain ⟨pua, qua⟩ := Mi.und_range (Mi.x1 x) 4 (by omega)
  generalize hua : Mi.und (Mi.x1 x) 4 = ua at *
  have Hua := Lib.hid hua
  clear hua
  obtain ⟨pub, qub⟩ := Mi.und_range (Mi.x2 x) 3 (by omega)
  generalize hub : Mi.und (Mi.x2 x) 3 = ub at *
  have Hub := Lib.hid hub
  clear hub
  obtain ⟨puc, quc⟩ := Mi.und_range (Mi.x3 x) 3 (by omega)
  generalize huc : Mi.und (Mi.x3 x) 3 = uc at *
  have Huc := Lib.hid huc
  clear huc
  obtain ⟨pud, qud⟩ := Mi.und_range (Mi.x4 x) 5 (by omega)
  generalize hud : Mi.und (Mi.x4 x) 5 = ud at *
  have Hud := Lib.hid hud
  clear hud
  obtain ⟨pue, que⟩ := Mi.und_range (Mi.x5 x) 12 (by omega)
  generalize hue : Mi.und (Mi.x5 x) 12 = ue at *
  have Hue := Lib.hid hue
  clear hue
  subst hk
  have dd1 : (1 + ud == 1) = false := by simp; omega
  have dd2 : (1 + ud == 2) = false := by simp; omega
  rw [show Mi.cmd 7 (1 + ua) (1 + ub) uc (1 + ud) (1 + ue) = ⟨7, 1 + ua, 0, 0, 0, 0, 0, 0, 0, 0, 0, 0, 0, 0, false⟩ by simp [Mi.cmd, Mi.turnK]; omega]
  go_enter Try.func13, Try.ntmps13
  go_wp2_with fail
  generalize hW : w.alloc (.cells #[.int .i64 0, .int .i64 0, .int .i64 0, .int .i64 0, .int .i64 0, .int .i64 0, .int .i64 0, .int .i64 0, .int .i64 0, .int .i64 0, .int .i64 0, .int .i64 0, .int .i64 0, .int .i64 0, .bool false] 36) = W0 at H0
  clear hW
  refine (runder_big b (x) 10 _ H0.out.mint (by omega) (by omega)).mono ?_
  rintro e W1 ⟨rfl, m0, g0⟩
  rw [Hkk.out]
  have H1 : Hid (RT w b (Mi.x1 x) W1) := H0.out.under hb m0 g0
  clear m0 g0 H0 Hkk
  go_wp2_with fail
  refine (runder_big b (Mi.x1 x) 4 _ H1.out.mint (by omega) (by omega)).mono ?_
  rintro e W2 ⟨rfl, m1, g1⟩
  rw [Hua.out]
  have H2 : Hid (RT w b (Mi.x2 x) W2) := H1.out.under hb m1 g1
  clear m1 g1 H1 Hua
  go_wp2_with fail
  refine (runder_big b (Mi.x2 x) 3 _ H2.out.mint (by omega) (by omega)).mono ?_
  rintro e W3 ⟨rfl, m2, g2⟩
  rw [Hub.out]
  have H3 : Hid (RT w b (Mi.x3 x) W3) := H2.out.under hb m2 g2
  clear m2 g2 H2 Hub
  go_wp2_with fail
  refine (runder_big b (Mi.x3 x) 3 _ H3.out.mint (by omega) (by omega)).mono ?_
  rintro e W4 ⟨rfl, m3, g3⟩
  rw [Huc.out]
  have H4 : Hid (RT w b (Mi.x4 x) W4) := H3.out.under hb m3 g3
  clear m3 g3 H3 Huc
  go_wp2_with fail
  refine (runder_big b (Mi.x4 x) 5 _ H4.out.mint (by omega) (by omega)).mono ?_
  rintro e W5 ⟨rfl, m4, g4⟩
  rw [Hud.out]
  have H5 : Hid (RT w b (Mi.x5 x) W5) := H4.out.under hb m4 g4
  clear m4 g4 H4 Hud
  go_wp2_with fail
  refine (runder_big b (Mi.x5 x) 12 _ H5.out.mint (by omega) (by omega)).mono ?_
  rintro e W6 ⟨rfl, m5, g5⟩
  rw [Hue.out]
  have H6 : Hid (RT w b (Mi.x6 x) W6) := H5.out.under hb m5 g5
  clear m5 g5 H5 Hue
  have hlt : w.heap.size < W6.heap.size := lt_of_block H6.out.res
  have hw4 : IntKind.i64.wrap (4 * (1 + ud)) = 4 * (1 + ud) := by rw [IntKind.wrap_i64]; omega
  have hw3 : IntKind.i64.wrap (3 * (1 + ud)) = 3 * (1 + ud) := by rw [IntKind.wrap_i64]; omega
  go_wp2_with (first | (go_at_call 18; refine (rall_c _ _).mono ?_; rintro e w' ⟨rfl, rfl⟩) | refine wpList_store_row rfl 36 _ _ rfl w.heap.size (Cmd.cells ⟨7, 1 + ua, 0, 0, 0, 0, 0, 0, 0, 0, 0, 0, 0, 0, false⟩).toArray rfl rfl 36 #[.int .i64 0, .int .i64 0, .int .i64 0, .int .i64 0, .int .i64 0, .int .i64 0, .int .i64 0, .int .i64 0, .int .i64 0, .int .i64 0, .int .i64 0, .int .i64 0, .int .i64 0, .int .i64 0, .bool false] ?hg ?i1 ?i2 ?i3 ?_)
  case i1 => exact rcmdSize
  case i2 => rfl
  case i3 => simp [Cmd.cells, Value.oneCell']
  case hg => repeat (first | exact H6.out.res | (refine Eq.trans (alloc_old' ?_) ?_; focus (first | exact hlt | (simp; done) | (simp; omega))) | refine Eq.trans (drew_get _ _) ?_ | refine Eq.trans (drewN_get _ _ _) ?_)
  go_wp2_with fail
  refine bodyPost_row Try.results13 rfl w.heap.size rfl (Cmd.cells ⟨7, 1 + ua, 0, 0, 0, 0, 0, 0, 0, 0, 0, 0, 0, 0, false⟩).toArray _ (0, 0) (setRow_heap _ _ #[.int .i64 0, .int .i64 0, .int .i64 0, .int .i64 0, .int .i64 0, .int .i64 0, .int .i64 0, .int .i64 0, .int .i64 0, .int .i64 0, .int .i64 0, .int .i64 0, .int .i64 0, .int .i64 0, .bool false] _ 36 (0, 0) ?hh) _ Try.underlying36 rfl 15 rcmdSize rfl ⟨rfl, ?_⟩
  case hh => repeat (first | exact H6.out.res | (refine Eq.trans (alloc_old' ?_) ?_; focus (first | exact hlt | (simp; done) | (simp; omega))) | refine Eq.trans (drew_get _ _) ?_ | refine Eq.trans (drewN_get _ _ _) ?_)
  have h6 := H6.out
  have key : ∀ W : World, RMintAt W b (Mi.x6 x) ∧ w.grownBy W (some b) → RMintAt (W.setRow w.heap.size (Cmd.cells ⟨7, 1 + ua, 0, 0, 0, 0, 0, 0, 0, 0, 0, 0, 0, 0, false⟩).toArray) b (Mi.x6 x) ∧ w.grownBy (W.setRow w.heap.size (Cmd.cells ⟨7, 1 + ua, 0, 0, 0, 0, 0, 0, 0, 0, 0, 0, 0, 0, false⟩).toArray) (some b) := by
    rintro W ⟨hm, hg⟩
    refine ⟨⟨?_, hm.2⟩, ⟨hg.os, hg.tape, hg.output, by simpa using hg.size, fun k hk hne => ?_⟩⟩
    · have := hm.1
      unfold One at this ⊢
      rw [setRow_other _ _ _ _ (by omega)]
      exact this
    · rw [setRow_other _ _ _ _ (by omega)]
      exact hg.block k hk hne
  have step : ∀ (W : World) (o : Obj), RMintAt W b (Mi.x6 x) ∧ w.grownBy W (some b) → RMintAt (W.alloc o) b (Mi.x6 x) ∧ w.grownBy (W.alloc o) (some b) := by
    rintro W o ⟨hm, hg⟩
    exact ⟨hm.kept (World.grownBy_alloc W o none) (by simp), grownBy_trans hg (World.grownBy_alloc W o _)⟩
  have dstep : ∀ (W : World), RMintAt W b (Mi.x6 x) ∧ w.grownBy W (some b) → RMintAt W.drew b (Mi.x6 x) ∧ w.grownBy W.drew (some b) := by
    rintro W ⟨hm, hg⟩
    exact ⟨hm, hg.os, hg.tape, hg.output, hg.size, hg.block⟩
  refine key _ ?_
  repeat (first | exact ⟨h6.mint, h6.grown⟩ | refine step _ _ ?_ | refine dstep _ ?_)
set_option maxRecDepth 100000 in
set_option maxHeartbeats 1000000 in
theorem rcommand_8 (b : Nat) (x : Int) (w : World) (hb : b < w.heap.size) (hm : RMintAt w b x) (hk : Mi.und x 10 = 8) :
    Calls Try.prog 13 #[.pointer (some ⟨b, 0, none⟩)] w fun e w' => e = .returned (Mi.cmdOf x).val ∧ RMintAt w' b (Mi.x6 x) ∧ w.grownBy w' (some b) := by
  have H0 : Hid (RT w b x (w.alloc (.cells #[.int .i64 0, .int .i64 0, .int .i64 0, .int .i64 0, .int .i64 0, .int .i64 0, .int .i64 0, .int .i64 0, .int .i64 0, .int .i64 0, .int .i64 0, .int .i64 0, .int .i64 0, .int .i64 0, .bool false] 36))) := by
    refine ⟨⟨?_, hm.2⟩, alloc_new' rfl, World.grownBy_alloc w _ _⟩
    have := hm.1
    unfold One at this ⊢
    rw [alloc_old' hb]
    exact this
  clear hm
  rw [show Mi.cmdOf x = Mi.cmd (Mi.und x 10) (1 + Mi.und (Mi.x1 x) 4) (1 + Mi.und (Mi.x2 x) 3) (Mi.und (Mi.x3 x) 3) (1 + Mi.und (Mi.x4 x) 5) (1 + Mi.und (Mi.x5 x) 12) from rfl]
  obtain ⟨pkk, qkk⟩ := Mi.und_range (x) 10 (by omega)
  generalize hkk : Mi.und (x) 10 = kk at *
  have Hkk := Lib.hid hkk
  clear hkk
  obtain ⟨pua, qua⟩ := Mi.und_range (Mi.x1 x) 4 (by omega)
  generalize hua : Mi.und (Mi.x1 x) 4 = ua at *
  have Hua := Lib.hid hua
  clear hua
  obtain ⟨pub, qub⟩ := Mi.und_range (Mi.x2 x) 3 (by omega)
  generalize hub : Mi.und (Mi.x2 x) 3 = ub at *
  have Hub := Lib.hid hub
  clear hub
  obtain ⟨puc, quc⟩ := Mi.und_range (Mi.x3 x) 3 (by omega)
  generalize huc : Mi.und (Mi.x3 x) 3 = uc at *
  have Huc := Lib.hid huc
  clear huc
  obtain ⟨pud, qud⟩ := Mi.und_range (Mi.x4 x) 5 (by omega)
  generalize hud : Mi.und (Mi.x4 x) 5 = ud at *
  have Hud := Lib.hid hud
  clear hud
  obtain ⟨pue, que⟩ := Mi.und_range (Mi.x5 x) 12 (by omega)
  generalize hue : Mi.und (Mi.x5 x) 12 = ue at *
  have Hue := Lib.hid hue
  clear hue
  subst hk
  rw [show Mi.cmd 8 (1 + ua) (1 + ub) uc (1 + ud) (1 + ue) = ⟨17, 0, 0, 0, 0, 0, 0, 0, 0, 0, 0, 0, 0, 0, false⟩ from rfl]
  go_enter Try.func13, Try.ntmps13
  go_wp2_with fail
  generalize hW : w.alloc (.cells #[.int .i64 0, .int .i64 0, .int .i64 0, .int .i64 0, .int .i64 0, .int .i64 0, .int .i64 0, .int .i64 0, .int .i64 0, .int .i64 0, .int .i64 0, .int .i64 0, .int .i64 0, .int .i64 0, .bool false] 36) = W0 at H0
  clear hW
  refine (runder_big b (x) 10 _ H0.out.mint (by omega) (by omega)).mono ?_
  rintro e W1 ⟨rfl, m0, g0⟩
  rw [Hkk.out]
  have H1 : Hid (RT w b (Mi.x1 x) W1) := H0.out.under hb m0 g0
  clear m0 g0 H0 Hkk
  go_wp2_with fail
  refine (runder_big b (Mi.x1 x) 4 _ H1.out.mint (by omega) (by omega)).mono ?_
  rintro e W2 ⟨rfl, m1, g1⟩
  rw [Hua.out]
  have H2 : Hid (RT w b (Mi.x2 x) W2) := H1.out.under hb m1 g1
  clear m1 g1 H1 Hua
  go_wp2_with fail
  refine (runder_big b (Mi.x2 x) 3 _ H2.out.mint (by omega) (by omega)).mono ?_
  rintro e W3 ⟨rfl, m2, g2⟩
  rw [Hub.out]
  have H3 : Hid (RT w b (Mi.x3 x) W3) := H2.out.under hb m2 g2
  clear m2 g2 H2 Hub
  go_wp2_with fail
  refine (runder_big b (Mi.x3 x) 3 _ H3.out.mint (by omega) (by omega)).mono ?_
  rintro e W4 ⟨rfl, m3, g3⟩
  rw [Huc.out]
  have H4 : Hid (RT w b (Mi.x4 x) W4) := H3.out.under hb m3 g3
  clear m3 g3 H3 Huc
  go_wp2_with fail
  refine (runder_big b (Mi.x4 x) 5 _ H4.out.mint (by omega) (by omega)).mono ?_
  rintro e W5 ⟨rfl, m4, g4⟩
  rw [Hud.out]
  have H5 : Hid (RT w b (Mi.x5 x) W5) := H4.out.under hb m4 g4
  clear m4 g4 H4 Hud
  go_wp2_with fail
  refine (runder_big b (Mi.x5 x) 12 _ H5.out.mint (by omega) (by omega)).mono ?_
  rintro e W6 ⟨rfl, m5, g5⟩
  rw [Hue.out]
  have H6 : Hid (RT w b (Mi.x6 x) W6) := H5.out.under hb m5 g5
  clear m5 g5 H5 Hue
  have hlt : w.heap.size < W6.heap.size := lt_of_block H6.out.res
  have hw4 : IntKind.i64.wrap (4 * (1 + ud)) = 4 * (1 + ud) := by rw [IntKind.wrap_i64]; omega
  have hw3 : IntKind.i64.wrap (3 * (1 + ud)) = 3 * (1 + ud) := by rw [IntKind.wrap_i64]; omega
  go_wp2_with (first | (go_at_call 18; refine (rall_c _ _).mono ?_; rintro e w' ⟨rfl, rfl⟩) | refine wpList_store_row rfl 36 _ _ rfl w.heap.size (Cmd.cells ⟨17, 0, 0, 0, 0, 0, 0, 0, 0, 0, 0, 0, 0, 0, false⟩).toArray rfl rfl 36 #[.int .i64 0, .int .i64 0, .int .i64 0, .int .i64 0, .int .i64 0, .int .i64 0, .int .i64 0, .int .i64 0, .int .i64 0, .int .i64 0, .int .i64 0, .int .i64 0, .int .i64 0, .int .i64 0, .bool false] ?hg ?i1 ?i2 ?i3 ?_)
  case i1 => exact rcmdSize
  case i2 => rfl
  case i3 => simp [Cmd.cells, Value.oneCell']
  case hg => repeat (first | exact H6.out.res | (refine Eq.trans (alloc_old' ?_) ?_; focus (first | exact hlt | (simp; done) | (simp; omega))) | refine Eq.trans (drew_get _ _) ?_ | refine Eq.trans (drewN_get _ _ _) ?_)
  go_wp2_with fail
  refine bodyPost_row Try.results13 rfl w.heap.size rfl (Cmd.cells ⟨17, 0, 0, 0, 0, 0, 0, 0, 0, 0, 0, 0, 0, 0, false⟩).toArray _ (0, 0) (setRow_heap _ _ #[.int .i64 0, .int .i64 0, .int .i64 0, .int .i64 0, .int .i64 0, .int .i64 0, .int .i64 0, .int .i64 0, .int .i64 0, .int .i64 0, .int .i64 0, .int .i64 0, .int .i64 0, .int .i64 0, .bool false] _ 36 (0, 0) ?hh) _ Try.underlying36 rfl 15 rcmdSize rfl ⟨rfl, ?_⟩
  case hh => repeat (first | exact H6.out.res | (refine Eq.trans (alloc_old' ?_) ?_; focus (first | exact hlt | (simp; done) | (simp; omega))) | refine Eq.trans (drew_get _ _) ?_ | refine Eq.trans (drewN_get _ _ _) ?_)
  have h6 := H6.out
  have key : ∀ W : World, RMintAt W b (Mi.x6 x) ∧ w.grownBy W (some b) → RMintAt (W.setRow w.heap.size (Cmd.cells ⟨17, 0, 0, 0, 0, 0, 0, 0, 0, 0, 0, 0, 0, 0, false⟩).toArray) b (Mi.x6 x) ∧ w.grownBy (W.setRow w.heap.size (Cmd.cells ⟨17, 0, 0, 0, 0, 0, 0, 0, 0, 0, 0, 0, 0, 0, false⟩).toArray) (some b) := by
    rintro W ⟨hm, hg⟩
    refine ⟨⟨?_, hm.2⟩, ⟨hg.os, hg.tape, hg.output, by simpa using hg.size, fun k hk hne => ?_⟩⟩
    · have := hm.1
      unfold One at this ⊢
      rw [setRow_other _ _ _ _ (by omega)]
      exact this
    · rw [setRow_other _ _ _ _ (by omega)]
      exact hg.block k hk hne
  have step : ∀ (W : World) (o : Obj), RMintAt W b (Mi.x6 x) ∧ w.grownBy W (some b) → RMintAt (W.alloc o) b (Mi.x6 x) ∧ w.grownBy (W.alloc o) (some b) := by
    rintro W o ⟨hm, hg⟩
    exact ⟨hm.kept (World.grownBy_alloc W o none) (by simp), grownBy_trans hg (World.grownBy_alloc W o _)⟩
  have dstep : ∀ (W : World), RMintAt W b (Mi.x6 x) ∧ w.grownBy W (some b) → RMintAt W.drew b (Mi.x6 x) ∧ w.grownBy W.drew (some b) := by
    rintro W ⟨hm, hg⟩
    exact ⟨hm, hg.os, hg.tape, hg.output, hg.size, hg.block⟩
  refine key _ ?_
  repeat (first | exact ⟨h6.mint, h6.grown⟩ | refine step _ _ ?_ | refine dstep _ ?_)
set_option maxRecDepth 100000 in
set_option maxHeartbeats 1000000 in
theorem rcommand_9 (b : Nat) (x : Int) (w : World) (hb : b < w.heap.size) (hm : RMintAt w b x) (hk : Mi.und x 10 = 9) :
    Calls Try.prog 13 #[.pointer (some ⟨b, 0, none⟩)] w fun e w' => e = .returned (Mi.cmdOf x).val ∧ RMintAt w' b (Mi.x6 x) ∧ w.grownBy w' (some b) := by
  have H0 : Hid (RT w b x (w.alloc (.cells #[.int .i64 0, .int .i64 0, .int .i64 0, .int .i64 0, .int .i64 0, .int .i64 0, .int .i64 0, .int .i64 0, .int .i64 0, .int .i64 0, .int .i64 0, .int .i64 0, .int .i64 0, .int .i64 0, .bool false] 36))) := by
    refine ⟨⟨?_, hm.2⟩, alloc_new' rfl, World.grownBy_alloc w _ _⟩
    have := hm.1
    unfold One at this ⊢
    rw [alloc_old' hb]
    exact this
  clear hm
  rw [show Mi.cmdOf x = Mi.cmd (Mi.und x 10) (1 + Mi.und (Mi.x1 x) 4) (1 + Mi.und (Mi.x2 x) 3) (Mi.und (Mi.x3 x) 3) (1 + Mi.und (Mi.x4 x) 5) (1 + Mi.und (Mi.x5 x) 12) from rfl]
  obtain ⟨pkk, qkk⟩ := Mi.und_range (x) 10 (by omega)
  generalize hkk : Mi.und (x) 10 = kk at *
  have Hkk := Lib.hid hkk
  clear hkk
  obtain ⟨pua, qua⟩ := Mi.und_range (Mi.x1 x) 4 (by omega)
  generalize hua : Mi.und (Mi.x1 x) 4 = ua at *
  have Hua := Lib.hid hua
  clear hua
  obtain ⟨pub, qub⟩ := Mi.und_range (Mi.x2 x) 3 (by omega)
  generalize hub : Mi.und (Mi.x2 x) 3 = ub at *
  have Hub := Lib.hid hub
  clear hub
  obtain ⟨puc, quc⟩ := Mi.und_range (Mi.x3 x) 3 (by omega)
  generalize huc : Mi.und (Mi.x3 x) 3 = uc at *
  have Huc := Lib.hid huc
  clear huc
  obtain ⟨pud, qud⟩ := Mi.und_range (Mi.x4 x) 5 (by omega)
  generalize hud : Mi.und (Mi.x4 x) 5 = ud at *
  have Hud := Lib.hid hud
  clear hud
  obtain ⟨pue, que⟩ := Mi.und_range (Mi.x5 x) 12 (by omega)
  generalize hue : Mi.und (Mi.x5 x) 12 = ue at *
  have Hue := Lib.hid hue
  clear hue
  subst hk
  rw [show Mi.cmd 9 (1 + ua) (1 + ub) uc (1 + ud) (1 + ue) = ⟨13, 1 + ue, 1, 1, uc, 1 + ub - 1, 1 + ud, 1 + ua, 0, 0, 0, 0, 0, 0, (1 + ue) % 2 == 0⟩ from rfl]
  go_enter Try.func13, Try.ntmps13
  go_wp2_with fail
  generalize hW : w.alloc (.cells #[.int .i64 0, .int .i64 0, .int .i64 0, .int .i64 0, .int .i64 0, .int .i64 0, .int .i64 0, .int .i64 0, .int .i64 0, .int .i64 0, .int .i64 0, .int .i64 0, .int .i64 0, .int .i64 0, .bool false] 36) = W0 at H0
  clear hW
  refine (runder_big b (x) 10 _ H0.out.mint (by omega) (by omega)).mono ?_
  rintro e W1 ⟨rfl, m0, g0⟩
  rw [Hkk.out]
  have H1 : Hid (RT w b (Mi.x1 x) W1) := H0.out.under hb m0 g0
  clear m0 g0 H0 Hkk
  go_wp2_with fail
  refine (runder_big b (Mi.x1 x) 4 _ H1.out.mint (by omega) (by omega)).mono ?_
  rintro e W2 ⟨rfl, m1, g1⟩
  rw [Hua.out]
  have H2 : Hid (RT w b (Mi.x2 x) W2) := H1.out.under hb m1 g1
  clear m1 g1 H1 Hua
  go_wp2_with fail
  refine (runder_big b (Mi.x2 x) 3 _ H2.out.mint (by omega) (by omega)).mono ?_
  rintro e W3 ⟨rfl, m2, g2⟩
  rw [Hub.out]
  have H3 : Hid (RT w b (Mi.x3 x) W3) := H2.out.under hb m2 g2
  clear m2 g2 H2 Hub
  go_wp2_with fail
  refine (runder_big b (Mi.x3 x) 3 _ H3.out.mint (by omega) (by omega)).mono ?_
  rintro e W4 ⟨rfl, m3, g3⟩
  rw [Huc.out]
  have H4 : Hid (RT w b (Mi.x4 x) W4) := H3.out.under hb m3 g3
  clear m3 g3 H3 Huc
  go_wp2_with fail
  refine (runder_big b (Mi.x4 x) 5 _ H4.out.mint (by omega) (by omega)).mono ?_
  rintro e W5 ⟨rfl, m4, g4⟩
  rw [Hud.out]
  have H5 : Hid (RT w b (Mi.x5 x) W5) := H4.out.under hb m4 g4
  clear m4 g4 H4 Hud
  go_wp2_with fail
  refine (runder_big b (Mi.x5 x) 12 _ H5.out.mint (by omega) (by omega)).mono ?_
  rintro e W6 ⟨rfl, m5, g5⟩
  rw [Hue.out]
  have H6 : Hid (RT w b (Mi.x6 x) W6) := H5.out.under hb m5 g5
  clear m5 g5 H5 Hue
  have hlt : w.heap.size < W6.heap.size := lt_of_block H6.out.res
  have hw4 : IntKind.i64.wrap (4 * (1 + ud)) = 4 * (1 + ud) := by rw [IntKind.wrap_i64]; omega
  have hw3 : IntKind.i64.wrap (3 * (1 + ud)) = 3 * (1 + ud) := by rw [IntKind.wrap_i64]; omega
  go_wp2_with (first | (go_at_call 18; refine (rall_c _ _).mono ?_; rintro e w' ⟨rfl, rfl⟩) | refine wpList_store_row rfl 36 _ _ rfl w.heap.size (Cmd.cells ⟨13, 1 + ue, 1, 1, uc, 1 + ub - 1, 1 + ud, 1 + ua, 0, 0, 0, 0, 0, 0, (1 + ue) % 2 == 0⟩).toArray rfl rfl 36 #[.int .i64 0, .int .i64 0, .int .i64 0, .int .i64 0, .int .i64 0, .int .i64 0, .int .i64 0, .int .i64 0, .int .i64 0, .int .i64 0, .int .i64 0, .int .i64 0, .int .i64 0, .int .i64 0, .bool false] ?hg ?i1 ?i2 ?i3 ?_)
  case i1 => exact rcmdSize
  case i2 => rfl
  case i3 => simp [Cmd.cells, Value.oneCell']
  case hg => repeat (first | exact H6.out.res | (refine Eq.trans (alloc_old' ?_) ?_; focus (first | exact hlt | (simp; done) | (simp; omega))) | refine Eq.trans (drew_get _ _) ?_ | refine Eq.trans (drewN_get _ _ _) ?_)
  go_wp2_with fail
  refine bodyPost_row Try.results13 rfl w.heap.size rfl (Cmd.cells ⟨13, 1 + ue, 1, 1, uc, 1 + ub - 1, 1 + ud, 1 + ua, 0, 0, 0, 0, 0, 0, (1 + ue) % 2 == 0⟩).toArray _ (0, 0) (setRow_heap _ _ #[.int .i64 0, .int .i64 0, .int .i64 0, .int .i64 0, .int .i64 0, .int .i64 0, .int .i64 0, .int .i64 0, .int .i64 0, .int .i64 0, .int .i64 0, .int .i64 0, .int .i64 0, .int .i64 0, .bool false] _ 36 (0, 0) ?hh) _ Try.underlying36 rfl 15 rcmdSize rfl ⟨rfl, ?_⟩
  case hh => repeat (first | exact H6.out.res | (refine Eq.trans (alloc_old' ?_) ?_; focus (first | exact hlt | (simp; done) | (simp; omega))) | refine Eq.trans (drew_get _ _) ?_ | refine Eq.trans (drewN_get _ _ _) ?_)
  have h6 := H6.out
  have key : ∀ W : World, RMintAt W b (Mi.x6 x) ∧ w.grownBy W (some b) → RMintAt (W.setRow w.heap.size (Cmd.cells ⟨13, 1 + ue, 1, 1, uc, 1 + ub - 1, 1 + ud, 1 + ua, 0, 0, 0, 0, 0, 0, (1 + ue) % 2 == 0⟩).toArray) b (Mi.x6 x) ∧ w.grownBy (W.setRow w.heap.size (Cmd.cells ⟨13, 1 + ue, 1, 1, uc, 1 + ub - 1, 1 + ud, 1 + ua, 0, 0, 0, 0, 0, 0, (1 + ue) % 2 == 0⟩).toArray) (some b) := by
    rintro W ⟨hm, hg⟩
    refine ⟨⟨?_, hm.2⟩, ⟨hg.os, hg.tape, hg.output, by simpa using hg.size, fun k hk hne => ?_⟩⟩
    · have := hm.1
      unfold One at this ⊢
      rw [setRow_other _ _ _ _ (by omega)]
      exact this
    · rw [setRow_other _ _ _ _ (by omega)]
      exact hg.block k hk hne
  have step : ∀ (W : World) (o : Obj), RMintAt W b (Mi.x6 x) ∧ w.grownBy W (some b) → RMintAt (W.alloc o) b (Mi.x6 x) ∧ w.grownBy (W.alloc o) (some b) := by
    rintro W o ⟨hm, hg⟩
    exact ⟨hm.kept (World.grownBy_alloc W o none) (by simp), grownBy_trans hg (World.grownBy_alloc W o _)⟩
  have dstep : ∀ (W : World), RMintAt W b (Mi.x6 x) ∧ w.grownBy W (some b) → RMintAt W.drew b (Mi.x6 x) ∧ w.grownBy W.drew (some b) := by
    rintro W ⟨hm, hg⟩
    exact ⟨hm, hg.os, hg.tape, hg.output, hg.size, hg.block⟩
  refine key _ ?_
  repeat (first | exact ⟨h6.mint, h6.grown⟩ | refine step _ _ ?_ | refine dstep _ ?_)
set_option maxRecDepth 100000 in
set_option maxHeartbeats 1000000 in
theorem rcommand_x (b : Nat) (x : Int) (w : World) (hb : b < w.heap.size) (hm : RMintAt w b x) (k0 : Mi.und x 10 ≠ 0) (k1 : Mi.und x 10 ≠ 1) (k5 : Mi.und x 10 ≠ 5) (k6 : Mi.und x 10 ≠ 6) (k7 : Mi.und x 10 ≠ 7) (k8 : Mi.und x 10 ≠ 8) (k9 : Mi.und x 10 ≠ 9) :
    Calls Try.prog 13 #[.pointer (some ⟨b, 0, none⟩)] w fun e w' => e = .returned (Mi.cmdOf x).val ∧ RMintAt w' b (Mi.x6 x) ∧ w.grownBy w' (some b) := by
  have H0 : Hid (RT w b x (w.alloc (.cells #[.int .i64 0, .int .i64 0, .int .i64 0, .int .i64 0, .int .i64 0, .int .i64 0, .int .i64 0, .int .i64 0, .int .i64 0, .int .i64 0, .int .i64 0, .int .i64 0, .int .i64 0, .int .i64 0, .bool false] 36))) := by
    refine ⟨⟨?_, hm.2⟩, alloc_new' rfl, World.grownBy_alloc w _ _⟩
    have := hm.1
    unfold One at this ⊢
    rw [alloc_old' hb]
    exact this
  clear hm
  rw [show Mi.cmdOf x = Mi.cmd (Mi.und x 10) (1 + Mi.und (Mi.x1 x) 4) (1 + Mi.und (Mi.x2 x) 3) (Mi.und (Mi.x3 x) 3) (1 + Mi.und (Mi.x4 x) 5) (1 + Mi.und (Mi.x5 x) 12) from rfl]
  obtain ⟨pkk, qkk⟩ := Mi.und_range (x) 10 (by omega)
  generalize hkk : Mi.und (x) 10 = kk at *
  have Hkk := Lib.hid hkk
  clear hkk
  obtain ⟨pua, qua⟩ := Mi.und_range (Mi.x1 x) 4 (by omega)
  generalize hua : Mi.und (Mi.x1 x) 4 = ua at *
  have Hua := Lib.hid hua
  clear hua
  obtain ⟨pub, qub⟩ := Mi.und_range (Mi.x2 x) 3 (by omega)
  generalize hub : Mi.und (Mi.x2 x) 3 = ub at *
  have Hub := Lib.hid hub
  clear hub
  obtain ⟨puc, quc⟩ := Mi.und_range (Mi.x3 x) 3 (by omega)
  generalize huc : Mi.und (Mi.x3 x) 3 = uc at *
  have Huc := Lib.hid huc
  clear huc
  obtain ⟨pud, qud⟩ := Mi.und_range (Mi.x4 x) 5 (by omega)
  generalize hud : Mi.und (Mi.x4 x) 5 = ud at *
  have Hud := Lib.hid hud
  clear hud
  obtain ⟨pue, que⟩ := Mi.und_range (Mi.x5 x) 12 (by omega)
  generalize hue : Mi.und (Mi.x5 x) 12 = ue at *
  have Hue := Lib.hid hue
  clear hue
  have d0 : (kk == 0) = false := by simpa using k0
  have d1 : (kk == 1) = false := by simpa using k1
  have d5 : (kk == 5) = false := by simpa using k5
  have d6 : (kk == 6) = false := by simpa using k6
  have d7 : (kk == 7) = false := by simpa using k7
  have d8 : (kk == 8) = false := by simpa using k8
  have d9 : (kk == 9) = false := by simpa using k9
  rw [show Mi.cmd kk (1 + ua) (1 + ub) uc (1 + ud) (1 + ue) = ⟨15, 1 + ue, 1, 1, uc, 0, 1 + ub, 1, 1 + ua, 0, 1 + ud, 1, 1, 1, false⟩ by simp [Mi.cmd, k0, k1, k5, k6, k7, k8, k9]]
  clear k0 k1 k5 k6 k7 k8 k9
  go_enter Try.func13, Try.ntmps13
  go_wp2_with fail
  generalize hW : w.alloc (.cells #[.int .i64 0, .int .i64 0, .int .i64 0, .int .i64 0, .int .i64 0, .int .i64 0, .int .i64 0, .int .i64 0, .int .i64 0, .int .i64 0, .int .i64 0, .int .i64 0, .int .i64 0, .int .i64 0, .bool false] 36) = W0 at H0
  clear hW
  refine (runder_big b (x) 10 _ H0.out.mint (by omega) (by omega)).mono ?_
  rintro e W1 ⟨rfl, m0, g0⟩
  rw [Hkk.out]
  have H1 : Hid (RT w b (Mi.x1 x) W1) := H0.out.under hb m0 g0
  clear m0 g0 H0 Hkk
  go_wp2_with fail
  refine (runder_big b (Mi.x1 x) 4 _ H1.out.mint (by omega) (by omega)).mono ?_
  rintro e W2 ⟨rfl, m1, g1⟩
  rw [Hua.out]
  have H2 : Hid (RT w b (Mi.x2 x) W2) := H1.out.under hb m1 g1
  clear m1 g1 H1 Hua
  go_wp2_with fail
  refine (runder_big b (Mi.x2 x) 3 _ H2.out.mint (by omega) (by omega)).mono ?_
  rintro e W3 ⟨rfl, m2, g2⟩
  rw [Hub.out]
  have H3 : Hid (RT w b (Mi.x3 x) W3) := H2.out.under hb m2 g2
  clear m2 g2 H2 Hub
  go_wp2_with fail
  refine (runder_big b (Mi.x3 x) 3 _ H3.out.mint (by omega) (by omega)).mono ?_
  rintro e W4 ⟨rfl, m3, g3⟩
  rw [Huc.out]
  have H4 : Hid (RT w b (Mi.x4 x) W4) := H3.out.under hb m3 g3
  clear m3 g3 H3 Huc
  go_wp2_with fail
  refine (runder_big b (Mi.x4 x) 5 _ H4.out.mint (by omega) (by omega)).mono ?_
  rintro e W5 ⟨rfl, m4, g4⟩
  rw [Hud.out]
  have H5 : Hid (RT w b (Mi.x5 x) W5) := H4.out.under hb m4 g4
  clear m4 g4 H4 Hud
  go_wp2_with fail
  refine (runder_big b (Mi.x5 x) 12 _ H5.out.mint (by omega) (by omega)).mono ?_
  rintro e W6 ⟨rfl, m5, g5⟩
  rw [Hue.out]
  have H6 : Hid (RT w b (Mi.x6 x) W6) := H5.out.under hb m5 g5
  clear m5 g5 H5 Hue
  have hlt : w.heap.size < W6.heap.size := lt_of_block H6.out.res
  have hw4 : IntKind.i64.wrap (4 * (1 + ud)) = 4 * (1 + ud) := by rw [IntKind.wrap_i64]; omega
  have hw3 : IntKind.i64.wrap (3 * (1 + ud)) = 3 * (1 + ud) := by rw [IntKind.wrap_i64]; omega
  go_wp2_with (first | (go_at_call 18; refine (rall_c _ _).mono ?_; rintro e w' ⟨rfl, rfl⟩) | refine wpList_store_row rfl 36 _ _ rfl w.heap.size (Cmd.cells ⟨15, 1 + ue, 1, 1, uc, 0, 1 + ub, 1, 1 + ua, 0, 1 + ud, 1, 1, 1, false⟩).toArray rfl rfl 36 #[.int .i64 0, .int .i64 0, .int .i64 0, .int .i64 0, .int .i64 0, .int .i64 0, .int .i64 0, .int .i64 0, .int .i64 0, .int .i64 0, .int .i64 0, .int .i64 0, .int .i64 0, .int .i64 0, .bool false] ?hg ?i1 ?i2 ?i3 ?_)
  case i1 => exact rcmdSize
  case i2 => rfl
  case i3 => simp [Cmd.cells, Value.oneCell']
  case hg => repeat (first | exact H6.out.res | (refine Eq.trans (alloc_old' ?_) ?_; focus (first | exact hlt | (simp; done) | (simp; omega))) | refine Eq.trans (drew_get _ _) ?_ | refine Eq.trans (drewN_get _ _ _) ?_)
  go_wp2_with fail
  refine bodyPost_row Try.results13 rfl w.heap.size rfl (Cmd.cells ⟨15, 1 + ue, 1, 1, uc, 0, 1 + ub, 1, 1 + ua, 0, 1 + ud, 1, 1, 1, false⟩).toArray _ (0, 0) (setRow_heap _ _ #[.int .i64 0, .int .i64 0, .int .i64 0, .int .i64 0, .int .i64 0, .int .i64 0, .int .i64 0, .int .i64 0, .int .i64 0, .int .i64 0, .int .i64 0, .int .i64 0, .int .i64 0, .int .i64 0, .bool false] _ 36 (0, 0) ?hh) _ Try.underlying36 rfl 15 rcmdSize rfl ⟨rfl, ?_⟩
  case hh => repeat (first | exact H6.out.res | (refine Eq.trans (alloc_old' ?_) ?_; focus (first | exact hlt | (simp; done) | (simp; omega))) | refine Eq.trans (drew_get _ _) ?_ | refine Eq.trans (drewN_get _ _ _) ?_)
  have h6 := H6.out
  have key : ∀ W : World, RMintAt W b (Mi.x6 x) ∧ w.grownBy W (some b) → RMintAt (W.setRow w.heap.size (Cmd.cells ⟨15, 1 + ue, 1, 1, uc, 0, 1 + ub, 1, 1 + ua, 0, 1 + ud, 1, 1, 1, false⟩).toArray) b (Mi.x6 x) ∧ w.grownBy (W.setRow w.heap.size (Cmd.cells ⟨15, 1 + ue, 1, 1, uc, 0, 1 + ub, 1, 1 + ua, 0, 1 + ud, 1, 1, 1, false⟩).toArray) (some b) := by
    rintro W ⟨hm, hg⟩
    refine ⟨⟨?_, hm.2⟩, ⟨hg.os, hg.tape, hg.output, by simpa using hg.size, fun k hk hne => ?_⟩⟩
    · have := hm.1
      unfold One at this ⊢
      rw [setRow_other _ _ _ _ (by omega)]
      exact this
    · rw [setRow_other _ _ _ _ (by omega)]
      exact hg.block k hk hne
  have step : ∀ (W : World) (o : Obj), RMintAt W b (Mi.x6 x) ∧ w.grownBy W (some b) → RMintAt (W.alloc o) b (Mi.x6 x) ∧ w.grownBy (W.alloc o) (some b) := by
    rintro W o ⟨hm, hg⟩
    exact ⟨hm.kept (World.grownBy_alloc W o none) (by simp), grownBy_trans hg (World.grownBy_alloc W o _)⟩
  have dstep : ∀ (W : World), RMintAt W b (Mi.x6 x) ∧ w.grownBy W (some b) → RMintAt W.drew b (Mi.x6 x) ∧ w.grownBy W.drew (some b) := by
    rintro W ⟨hm, hg⟩
    exact ⟨hm, hg.os, hg.tape, hg.output, hg.size, hg.block⟩
  refine key _ ?_
  repeat (first | exact ⟨h6.mint, h6.grown⟩ | refine step _ _ ?_ | refine dstep _ ?_)
end Go.Proofs.Ytkinbidpbgkaoaa
