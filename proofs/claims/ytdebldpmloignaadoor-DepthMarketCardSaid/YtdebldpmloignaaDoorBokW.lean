/-
  book: the law's awake.
-/
import Derived.Test.YtdebldpmloignaaDoorBokL
import Derived.Test.YtdebldpmloignaaDoorKind13
namespace Go.Proofs.YtdebldpmloignaaDoor
open Go.RowKit
set_option linter.unusedVariables false
set_option linter.unusedSimpArgs false

theorem ord_eql_same (a b : Int) (s : Bool) (c d e : Int) (w : World) : (binOp .eql 67 (.agg #[.int .i64 a, .int .i64 b, .bool s, .int .i64 c, .int .i64 d, .int .i64 e]) (.agg #[.int .i64 a, .int .i64 b, .bool s, .int .i64 c, .int .i64 d, .int .i64 e])).run Tryd.prog w = .ok (.bool true) w := by
  have hp : Tryd.prog.stoodInHeld 67 = false := by kernel_rfl
  rw [run_eql_struct, show (10000 : Nat) = 9999 + 1 from rfl, run_equalIn_agg w 9999 67 _ _ (by kernel_rfl) hp]
  have u3 := Tryd.underlying3
  have u4 := Tryd.underlying4
  simp only [Program.fieldsOf, Tryd.underlying67]
  go_simp
theorem ord_neq_same (a b : Int) (s : Bool) (c d e : Int) (w : World) : (binOp .neq 67 (.agg #[.int .i64 a, .int .i64 b, .bool s, .int .i64 c, .int .i64 d, .int .i64 e]) (.agg #[.int .i64 a, .int .i64 b, .bool s, .int .i64 c, .int .i64 d, .int .i64 e])).run Tryd.prog w = .ok (.bool false) w := by
  have hp : Tryd.prog.stoodInHeld 67 = false := by kernel_rfl
  rw [run_neq_struct, show (10000 : Nat) = 9999 + 1 from rfl, run_equalIn_agg w 9999 67 _ _ (by kernel_rfl) hp]
  have u3 := Tryd.underlying3
  have u4 := Tryd.underlying4
  simp only [Program.fieldsOf, Tryd.underlying67]
  go_simp
theorem ord_eqIn_same (a b : Int) (s : Bool) (c d e : Int) (w : World) : (Op.equalIn 10000 67 (.agg #[.int .i64 a, .int .i64 b, .bool s, .int .i64 c, .int .i64 d, .int .i64 e]) (.agg #[.int .i64 a, .int .i64 b, .bool s, .int .i64 c, .int .i64 d, .int .i64 e])).run Tryd.prog w = .ok true w := by
  have hp : Tryd.prog.stoodInHeld 67 = false := by kernel_rfl
  rw [show (10000 : Nat) = 9999 + 1 from rfl, run_equalIn_agg w 9999 67 _ _ (by kernel_rfl) hp]
  have u3 := Tryd.underlying3
  have u4 := Tryd.underlying4
  simp only [Program.fieldsOf, Tryd.underlying67]
  go_simp
theorem ord_eqGuardType : Tryd.prog.eqGuardType Tryd.prog.depth 67 = false := by kernel_rfl
theorem ord_guard (op : BinOp) (x y : Operand) (xs ys : Array Value) (w : World) : (eqGuard op 67 x y (.agg xs) (.agg ys)).run Tryd.prog w = .ok () w := run_eqGuard_agg w op 67 x y _ _ (by kernel_rfl)
/-- Add, where the book is as it should be. -/
theorem add_c (B q : Nat) (l : Bool → List Ord) (v : Bool → Value) (came : Nat) (o : Ord) (w : World) (h : Hid (BV w B q l v came)) (hN : ∀ s, (l s).length ≤ 1000) (hI : Inv l came) (hc : came ≤ 1000000) (hBw : B ≤ w.heap.size) (hk : addK l o = 0) :
    Calls Tryd.prog 41 #[.pointer (some ⟨q, 0, none⟩), .agg o.cells.toArray] w (AddQ w B q v (addL l o came) (came + 1)) :=
  add_ok B q l v came o (placeOf (l o.sell) (o.at (came + 1))) w h hN hc hBw hk (place_le _ _) (Lib.hid (fun j x hj hx => place_lo _ _ j x hj hx)) (Lib.hid (fun j x hj hx => place_hi o.sell _ _ (hI.sorted o.sell) (hI.side o.sell) j x hj hx))
def O1 : Ord := ⟨1, 0, false, 5, 1, 0⟩
def O2 : Ord := ⟨2, 0, false, 7, 2, 0⟩
def O3 : Ord := ⟨3, 0, false, 7, 3, 0⟩
def AL1 : Bool → List Ord := fun _ => []
def AL2 : Bool → List Ord := addL AL1 O1 0
def AL3 : Bool → List Ord := addL AL2 O2 1
def AL4 : Bool → List Ord := addL AL3 O3 2
def AL5 : Bool → List Ord := updL AL4 false ((AL4 false).eraseIdx 0)
theorem awI1 : Inv AL1 0 := Inv.empty
theorem awI2 : Inv AL2 1 := awI1.add (by kernel_rfl)
theorem awI3 : Inv AL3 2 := awI2.add (by kernel_rfl)
theorem awI4 : Inv AL4 3 := awI3.add (by kernel_rfl)
theorem awI5 : Inv AL5 3 := awI4.erase
theorem aw_best : (AL4 false).head? = some ⟨2, 0, false, 7, 2, 2⟩ := by kernel_rfl
theorem aw_best2 : (AL4 true).head? = none := by kernel_rfl
theorem aw_len : (AL4 true).length + (AL4 false).length = 3 := by kernel_rfl
theorem aw_fnd : fnd AL4 2 = some (false, 0) := by kernel_rfl
theorem aw_at : (AL4 false)[0]? = some ⟨2, 0, false, 7, 2, 2⟩ := by kernel_rfl
theorem aw_len5 : (AL5 false).length = 2 := by kernel_rfl
theorem aw_fnd5 : fnd AL5 2 = none := by kernel_rfl
theorem below_addQ {w w' : World} {q : Nat} {l l' : Bool → List Ord} {v v' : Bool → Value} {c c' C : Nat} (h : BS w w' q q v l' v' c') (h0 : BV w q q l v c) (hC : C ≤ q) : Below C w w' := h.below h0 hC
set_option maxRecDepth 100000 in
set_option maxHeartbeats 4000000 in
theorem awake13_c (B0 : Nat) (E : Nat → Addr) (w : World) (hE : Hid (Errs B0 w allKinds E)) (hB0 : B0 ≤ w.heap.size) :
    Calls Tryd.prog 39 #[] w fun e w' => e = .returned (.bool true) ∧ Below w.heap.size w w' := by
  have HENV : Hid (∀ w', Below w.heap.size w w' → EnvK w' E) := fun w' hb => EnvK.of (hE.out.below (hb.mono hB0))
  have HKIND : Hid (∀ w', Below w.heap.size w w' → Calls Tryd.prog 43 #[.iface 202 (.pointer (some (E 5)))] w' fun e w'' => e = .returned (.int .i64 5) ∧ Below w'.heap.size w' w'') := fun w' hb => by
    have h := kind13_c w' (Nat.le_trans hB0 hb.size) (hE.out.below (hb.mono hB0)) 5 (by decide)
    rw [erV_some E 5 (by decide)] at h
    exact h
  obtain ⟨q, hq⟩ : ∃ q, q = w.heap.size := ⟨_, rfl⟩
  have HQ : Hid (w.heap.size ≤ q) := by show _ ≤ _; omega
  have HNEW := Lib.hid (bnew_c w)
  rw [← hq] at HNEW
  clear hq hB0 hE
  go_enter Tryd.func39, Tryd.ntmps39
  go_wp2_with fail
  refine HNEW.out.mono ?_
  rintro e W1 ⟨rfl, hv1, hb1⟩
  obtain ⟨v1, hv1e⟩ : ∃ v1 : Bool → Value, v1 = fun _ => .slice none 0 0 := ⟨_, rfl⟩
  have HV1 : Hid (BV W1 q q AL1 v1 0) := by show BV _ _ _ _ _ _; rw [hv1e]; exact hv1
  have HB1 : Hid (Below w.heap.size w W1) := hb1.mono HQ.out
  clear hv1 hb1 hv1e HNEW
  go_wp2_with fail
  refine (add_c q q AL1 v1 0 O1 W1 HV1 (fun s => Nat.le_trans (awI1.len s) (by decide)) awI1 (by decide) (Nat.le_of_lt HV1.out.lt) (by kernel_rfl)).mono ?_
  rintro e W2 ⟨rfl, v2, hs⟩
  have HB2 := Lib.hid (HB1.out.trans (hs.below HV1.out HQ.out))
  have HV2 : Hid (BV W2 q q AL2 v2 1) := hs.out
  clear hs
  go_wp2_with fail
  refine (add_c q q AL2 v2 1 O2 W2 HV2 (fun s => Nat.le_trans (awI2.len s) (by decide)) awI2 (by decide) (Nat.le_of_lt HV2.out.lt) (by kernel_rfl)).mono ?_
  rintro e W3 ⟨rfl, v3, hs⟩
  have HB3 := Lib.hid (HB2.out.trans (hs.below HV2.out HQ.out))
  have HV3 : Hid (BV W3 q q AL3 v3 2) := hs.out
  clear hs
  go_wp2_with fail
  refine (add_c q q AL3 v3 2 O3 W3 HV3 (fun s => Nat.le_trans (awI3.len s) (by decide)) awI3 (by decide) (Nat.le_of_lt HV3.out.lt) (by kernel_rfl)).mono ?_
  rintro e W4 ⟨rfl, v4, hs⟩
  have HB4 := Lib.hid (HB3.out.trans (hs.below HV3.out HQ.out))
  have HV4 : Hid (BV W4 q q AL4 v4 3) := hs.out
  clear hs
  go_wp2_with fail
  refine (best_c q q AL4 v4 3 false W4 HV4 (fun s => Nat.le_trans (awI4.len s) (by decide))).mono ?_
  rw [aw_best]
  rintro e W5 ⟨rfl, hb5⟩
  have HV5 := Lib.hid (HV4.out.below hb5)
  have HB5 := Lib.hid (HB4.out.trans (hb5.mono HB4.out.size))
  clear hb5 HV4 HB4
  simp only [ordV, Ord.cells, Option.isSome]
  go_wp2_with fail
  obtain ⟨W6, hW6⟩ : ∃ W6, W6 = W5.alloc (.cells #[.int .i64 2, .int .i64 0, .bool false, .int .i64 7, .int .i64 2, .int .i64 2] 67) := ⟨_, rfl⟩
  obtain ⟨X, hX⟩ : ∃ X, X = W5.heap.size := ⟨_, rfl⟩
  have HX6 : Hid (Blk W6 X #[.int .i64 2, .int .i64 0, .bool false, .int .i64 7, .int .i64 2, .int .i64 2] 67) := by show Blk _ _ _ _; rw [hW6, hX]; exact Blk.new W5 _ _
  have HV6 : Hid (BV W6 q q AL4 v4 3) := by show BV _ _ _ _ _ _; rw [hW6]; exact HV5.out.below ((Below.refl _ W5).alloc (Nat.le_refl _) _)
  have HB6 : Hid (Below w.heap.size w W6) := by show Below _ _ _; rw [hW6]; exact HB5.out.alloc HB5.out.size _
  rw [← hW6, ← hX]
  clear hW6 hX HV5 HB5
  refine (best_c q q AL4 v4 3 true W6 HV6 (fun s => Nat.le_trans (awI4.len s) (by decide))).mono ?_
  rw [aw_best2]
  rintro e W7 ⟨rfl, hb7⟩
  have hr7 : W7.rangeAt X 0 [.int .i64 2, .int .i64 0, .bool false, .int .i64 7, .int .i64 2, .int .i64 2] := fun j u hj => by
    rw [Nat.zero_add]
    exact (HX6.out.below hb7).cell j u (by simpa using hj)
  have HV7 := Lib.hid (HV6.out.below hb7)
  have HB7 := Lib.hid (HB6.out.trans (hb7.mono HB6.out.size))
  have hlt7 : X < W7.heap.size := Nat.lt_of_lt_of_le HX6.out.lt hb7.size
  obtain ⟨W8, hW8⟩ : ∃ W8, W8 = W7.alloc (.cells #[.int .i64 0, .int .i64 0, .bool false, .int .i64 0, .int .i64 0, .int .i64 0] 67) := ⟨_, rfl⟩
  have hb8 : Below W7.heap.size W7 W8 := by rw [hW8]; exact (Below.refl _ _).alloc (Nat.le_refl _) _
  have hr8 := rangeAt_below hr7 hb8 hlt7
  have HV8 := Lib.hid (HV7.out.below hb8)
  have HB8 := Lib.hid (HB7.out.trans (hb8.mono HB7.out.size))
  have ho := ord_eql_same 2 0 false 7 2 2
  have hgd := ord_guard
  clear hb7 hr7 HV6 HB6 hlt7 hb8 HV7 HB7 HX6
  simp only [ordV, Option.isSome]
  rw [hW8] at hr8
  have k0 := hr8 0 _ rfl
  have k1 := hr8 1 _ rfl
  have k2 := hr8 2 _ rfl
  have k3 := hr8 3 _ rfl
  have k4 := hr8 4 _ rfl
  have k5 := hr8 5 _ rfl
  simp only [Nat.zero_add] at k0 k1 k2 k3 k4 k5
  go_wp2_with fail
  rw [← hW8]
  clear hr8 hW8 k0 k1 k2 k3 k4 k5
  refine (blen_c q q AL4 v4 3 W8 HV8 (fun s => Nat.le_trans (awI4.len s) (by decide))).mono ?_
  rw [aw_len]
  rintro e W9 ⟨rfl, hb9⟩
  have HV9 := Lib.hid (HV8.out.below hb9)
  have HB9 := Lib.hid (HB8.out.trans (hb9.mono HB8.out.size))
  clear hb9 HV8 HB8
  go_wp2_with fail
  refine (cut_gone q q AL4 v4 3 2 2 false 0 ⟨2, 0, false, 7, 2, 2⟩ W9 HV9 (fun s => Nat.le_trans (awI4.len s) (by decide)) aw_fnd aw_at (by decide) rfl (by decide)).mono ?_
  rintro e W10 ⟨rfl, v5, hs⟩
  have HB10 := Lib.hid (HB9.out.trans (hs.below HV9.out HQ.out))
  have HV10 : Hid (BV W10 q q AL5 v5 3) := hs.out
  clear hs HV9 HB9
  go_wp2_with fail
  refine (blist_c q q AL5 v5 3 false W10 HV10 (fun s => Nat.le_trans (awI5.len s) (by decide))).mono ?_
  rw [aw_len5]
  rintro e W11 ⟨v6, rfl, hown, hb11⟩
  obtain ⟨a6, c6, rfl⟩ := own_len hown
  have HV11 := Lib.hid (HV10.out.below hb11)
  have HB11 := Lib.hid (HB10.out.trans (hb11.mono HB10.out.size))
  clear hb11 HV10 HB10 hown
  go_wp2_with fail
  refine (cut_none E q q AL5 v5 3 2 1 W11 HV11 (Lib.hid (HENV.out _ HB11.out)) (fun s => Nat.le_trans (awI5.len s) (by decide)) aw_fnd5).mono ?_
  rw [erV_some E 5 (by decide)]
  rintro e W12 ⟨rfl, hb12⟩
  have HB12 := Lib.hid (HB11.out.trans (hb12.mono HB11.out.size))
  clear hb12
  go_wp2_with fail
  refine (HKIND.out W12 HB12.out).mono ?_
  rintro e W13 ⟨rfl, hb13⟩
  have HB13 := Lib.hid (HB12.out.trans (hb13.mono HB12.out.size))
  clear hb13
  go_wp2_with fail
  go_ret
  exact ⟨rfl, HB13.out⟩
end Go.Proofs.YtdebldpmloignaaDoor
