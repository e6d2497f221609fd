/-
  wire: awake.
-/
import Derived.Test.YtdebldpmloignaaDoorWirG
namespace Go.Proofs.YtdebldpmloignaaDoor
open Go.RowKit
set_option linter.unusedVariables false

theorem eI1 : encI 1 = [2] := by show encU 2 = [2]; rw [encU_small (by decide)]; rfl
theorem eIm : encI (-1) = [1] := by show encU 1 = [1]; rw [encU_small (by decide)]; rfl
theorem eI64 : encI 64 = [128, 1] := by show encU 128 = [128, 1]; rw [encU_great (by decide), encU_small (by decide)]; rfl
theorem eI2 : encI 2 = [4] := by show encU 4 = [4]; rw [encU_small (by decide)]; rfl
theorem l1 : ([] : List UInt8) ++ encI 1 = [2] := by rw [eI1]; rfl
theorem l2 : ([] : List UInt8) ++ encI 1 ++ encI (-1) = [2, 1] := by rw [eI1, eIm]; rfl
theorem l3 : ([] : List UInt8) ++ encI 1 ++ encI (-1) ++ encI 64 = [2, 1, 128, 1] := by rw [eI1, eIm, eI64]; rfl
theorem l4 : ([] : List UInt8) ++ encI 1 ++ encI (-1) ++ encI 64 ++ encT ⟨#[97, 98]⟩ = [2, 1, 128, 1, 4, 97, 98] := by
  rw [l3]
  unfold encT
  rw [show ((⟨#[97, 98]⟩ : ByteArray).size : Int) = 2 from rfl, eI2]
  rfl
def S8 : ByteArray := ⟨#[2, 1, 128, 1, 4, 97, 98, 120]⟩
theorem r1 : rdI S8 (0, none) = (1, (1, none)) := by decide +kernel
theorem r2 : rdI S8 (1, none) = (-1, (2, none)) := by decide +kernel
theorem r3 : rdI S8 (2, none) = (64, (4, none)) := by decide +kernel
theorem r4 : rdT S8 5 (4, none) = (⟨#[97, 98]⟩, (7, none)) := by decide +kernel
theorem r5 : rdB S8 (7, none) = (false, (8, some 7)) := by decide +kernel
set_option maxRecDepth 100000 in
set_option maxHeartbeats 4000000 in
theorem awake03_c (E : Nat → Addr) (B : Nat) (w : World) (hE : Hid (Env w E B)) :
    Calls Tryd.prog 14 #[] w fun e w' => e = .returned (.bool true) ∧ Below w.heap.size w w' := by
  go_enter Tryd.func14, Tryd.ntmps14
  go_wp2_with fail
  obtain ⟨w0, hw0⟩ : ∃ w0, w0 = w.alloc (.cells #[.pointer none, .slice none 0 0] 31) := ⟨_, rfl⟩
  have HO0 : Hid (OutV w0 w.heap.size w.heap.size (.pointer none) (.slice none 0 0) []) := by show OutV _ _ _ _ _ _; rw [hw0]; exact OutV.fresh w
  have HB0 : Hid (Below w.heap.size w w0) := by show Below _ _ _; rw [hw0]; exact (Below.refl _ w).alloc (Nat.le_refl _) _
  rw [← hw0]
  clear hw0
  refine (oint_c w.heap.size w.heap.size _ _ [] 1 (by omega) (by omega) w0 HO0 (by simp)).mono ?_
  rintro e w1 ⟨rfl, p1, v1, hs1⟩
  have HS1 : Hid (OutS w0 w1 w.heap.size w.heap.size (.slice none 0 0) p1 v1 ([] ++ encI 1)) := by
    have := hs1
    exact this
  have HO1 := Lib.hid HS1.out.out
  clear hs1
  go_wp2_with fail
  refine (oint_c w.heap.size w.heap.size _ _ _ (-1) (by omega) (by omega) w1 HO1 (by rw [l1]; simp)).mono ?_
  rintro e w2 ⟨rfl, p2, v2, hs2⟩
  have HS2 : Hid (OutS w0 w2 w.heap.size w.heap.size (.slice none 0 0) p2 v2 ([] ++ encI 1 ++ encI (-1))) := by
    have := HS1.out.trans hs2
    exact this
  have HO2 := Lib.hid HS2.out.out
  clear hs2
  go_wp2_with fail
  refine (oint_c w.heap.size w.heap.size _ _ _ 64 (by omega) (by omega) w2 HO2 (by rw [l2]; simp)).mono ?_
  rintro e w3 ⟨rfl, p3, v3, hs3⟩
  have HS3 : Hid (OutS w0 w3 w.heap.size w.heap.size (.slice none 0 0) p3 v3 ([] ++ encI 1 ++ encI (-1) ++ encI 64)) := by
    have := HS2.out.trans hs3
    exact this
  have HO3 := Lib.hid HS3.out.out
  clear hs3
  go_wp2_with fail
  refine (otext_c w.heap.size w.heap.size _ _ _ ⟨#[97, 98]⟩ w3 HO3 (by rw [l3]; simp) (by decide)).mono ?_
  rintro e w4 ⟨rfl, p4, v4, hs4⟩
  have HS4 : Hid (OutS w0 w4 w.heap.size w.heap.size (.slice none 0 0) p4 v4 ([] ++ encI 1 ++ encI (-1) ++ encI 64 ++ encT ⟨#[97, 98]⟩)) := by
    have := HS3.out.trans hs4
    exact this
  have HO4 := Lib.hid HS4.out.out
  clear hs4
  go_wp2_with fail
  have HB4 : Hid (Below w.heap.size w w4) := HB0.out.trans (HS4.out.below HO0.out (Nat.le_refl _))
  rw [l4] at HO4
  clear HS1 HS2 HS3 HS4 HO1 HO2 HO3 HO0 HB0
  refine (obytes_c w.heap.size w.heap.size p4 v4 _ w4 HO4 (by simp)).mono ?_
  rintro e w5 ⟨rfl, hs5⟩
  have HO5 := Lib.hid hs5.out
  have HB5 : Hid (Below w.heap.size w w5) := HB4.out.trans (hs5.below HO4.out (Nat.le_refl _))
  clear hs5 HO4 HB4
  go_wp2_with fail
  refine (of_c E S8 w5).mono ?_
  rintro e w6 ⟨rfl, hi6, hb6⟩
  obtain ⟨q, hq⟩ : ∃ q, q = w5.heap.size := ⟨_, rfl⟩
  rw [← hq] at hi6 ⊢
  have HQ : Hid (w.heap.size ≤ q) := by show _ ≤ _; rw [hq]; exact HB5.out.size
  have HI6 := Lib.hid hi6
  have HQN : Hid (∀ k, OutF w.heap.size v4 k → ¬ k = q) := fun k hk e => by
    have h1 := HO5.out.blk.lt
    rcases hk with hk | hk
    · omega
    · have := (HO5.out.row.lt k hk).2
      omega
  have HO6 := Lib.hid (HO5.out.below hb6)
  have HB6 : Hid (Below w.heap.size w w6) := HB5.out.trans (hb6.mono HB5.out.size)
  clear hi6 hb6 hq HO5 HB5
  go_wp2_with fail
  refine (obytes_c w.heap.size w.heap.size p4 v4 _ w6 HO6 (by simp)).mono ?_
  rintro e w7 ⟨rfl, hs7⟩
  have HB7 : Hid (Below w.heap.size w w7) := HB6.out.trans (hs7.below HO6.out (Nat.le_refl _))
  have HI7 : Hid (InV w7 E q S8 0 .nilIface none) := by
    exact ⟨hs7.turns.blk HI6.out.blk (fun hf => HQN.out q hf rfl), rfl, HI6.out.le⟩
  clear hs7 HO6 HB6 HI6
  go_wp2_with fail
  have HC7 := Lib.hid (iint_c E q S8 0 .nilIface none w7 HI7 (by decide) (Lib.hid (hE.out.below (HB7.out.mono hE.out.low)).form))
  rw [r1] at HC7
  refine (HC7.out).mono ?_
  rintro e w8 ⟨rfl, ⟨er, hi⟩, ht⟩
  have her := hi.er_nil
  subst her
  have HI8 := Lib.hid hi
  have HB8 : Hid (Below w.heap.size w w8) := HB7.out.trans (ht.below HB7.out.size (fun k hk => by rw [hk]; exact HQ.out))
  clear hi ht HI7 HB7 HC7
  go_wp2_with fail
  have HC8 := Lib.hid (iint_c E q S8 1 .nilIface none w8 HI8 (by decide) (Lib.hid (hE.out.below (HB8.out.mono hE.out.low)).form))
  rw [r2] at HC8
  refine (HC8.out).mono ?_
  rintro e w9 ⟨rfl, ⟨er, hi⟩, ht⟩
  have her := hi.er_nil
  subst her
  have HI9 := Lib.hid hi
  have HB9 : Hid (Below w.heap.size w w9) := HB8.out.trans (ht.below HB8.out.size (fun k hk => by rw [hk]; exact HQ.out))
  clear hi ht HI8 HB8 HC8
  go_wp2_with fail
  have HC9 := Lib.hid (iint_c E q S8 2 .nilIface none w9 HI9 (by decide) (Lib.hid (hE.out.below (HB9.out.mono hE.out.low)).form))
  rw [r3] at HC9
  refine (HC9.out).mono ?_
  rintro e w10 ⟨rfl, ⟨er, hi⟩, ht⟩
  have her := hi.er_nil
  subst her
  have HI10 := Lib.hid hi
  have HB10 : Hid (Below w.heap.size w w10) := HB9.out.trans (ht.below HB9.out.size (fun k hk => by rw [hk]; exact HQ.out))
  clear hi ht HI9 HB9 HC9
  go_wp2_with fail
  have HC10 := Lib.hid (itext_c E q S8 4 .nilIface none 5 w10 HI10 (by decide) (Lib.hid (hE.out.below (HB10.out.mono hE.out.low)).form))
  rw [r4] at HC10
  refine (HC10.out).mono ?_
  rintro e w11 ⟨rfl, ⟨er, hi⟩, ht⟩
  have her := hi.er_nil
  subst her
  have HI11 := Lib.hid hi
  have HB11 : Hid (Below w.heap.size w w11) := HB10.out.trans (ht.below HB10.out.size (fun k hk => by rw [hk]; exact HQ.out))
  clear hi ht HI10 HB10 HC10
  go_wp2_with fail
  refine (err_c E q S8 7 .nilIface none w11 HI11).mono ?_
  rintro e w12 ⟨rfl, rfl⟩
  go_wp2_with fail
  refine (iend_c E q S8 7 .nilIface none w11 HI11 (by decide) (Lib.hid (hE.out.below (HB11.out.mono hE.out.low)).form)).mono ?_
  rintro e w12 ⟨v, rfl, hv, hb⟩
  obtain ⟨g, rfl, hg⟩ : ∃ g, v = faultV g ∧ Blk w12 g #[.string EN, .int .i64 (7 : Nat), erV E 3] 133 := hv
  have HG := Lib.hid hg
  have HI12 := Lib.hid (HI11.out.below hb)
  have HB12 : Hid (Below w.heap.size w w12) := HB11.out.trans (hb.mono HB11.out.size)
  clear hg hb HI11 HB11
  have HAT := Lib.hid (at_hit E B g EN 7 w12 (Lib.hid (hE.out.below (HB12.out.mono hE.out.low))) HG)
  unfold faultV EN at HAT
  unfold faultV
  go_wp2_with fail
  refine (HAT.out).mono ?_
  rintro e w13 ⟨rfl, hb⟩
  have HI13 := Lib.hid (HI12.out.below hb)
  have HB13 : Hid (Below w.heap.size w w13) := HB12.out.trans (hb.mono HB12.out.size)
  clear hb HI12 HB12 HAT HG
  go_wp2_with fail
  refine (left_c E q S8 7 .nilIface none w13 HI13 (by decide)).mono ?_
  rintro e w14 ⟨rfl, hb⟩
  have HI14 := Lib.hid (HI13.out.below hb)
  have HB14 : Hid (Below w.heap.size w w14) := HB13.out.trans (hb.mono HB13.out.size)
  clear hb HI13 HB13
  have hsz : ((S8.size - 7 : Nat) : Int) = 1 := by decide
  rw [hsz]
  clear hsz
  go_wp2_with fail
  have HC14 := Lib.hid (ibool_c E q S8 7 .nilIface none w14 HI14 (by decide) (Lib.hid (hE.out.below (HB14.out.mono hE.out.low)).form))
  rw [r5] at HC14
  refine (HC14.out).mono ?_
  rintro e w15 ⟨rfl, ⟨er, hi⟩, ht⟩
  obtain ⟨g, rfl, hg⟩ := hi.er_some
  have HI15 := Lib.hid hi
  have HG := Lib.hid hg
  have HB15 : Hid (Below w.heap.size w w15) := HB14.out.trans (ht.below HB14.out.size (fun k hk => by rw [hk]; exact HQ.out))
  clear hi hg ht HI14 HB14 HC14
  go_wp2_with fail
  refine (err_c E q S8 8 (faultV g) (some 7) w15 HI15).mono ?_
  rintro e w16 ⟨rfl, rfl⟩
  have HAT := Lib.hid (at_hit E B g RD 7 w15 (Lib.hid (hE.out.below (HB15.out.mono hE.out.low))) HG)
  unfold faultV RD at HAT
  unfold faultV
  go_wp2_with fail
  refine (HAT.out).mono ?_
  rintro e w16 ⟨rfl, hb⟩
  have HB16 : Hid (Below w.heap.size w w16) := HB15.out.trans (hb.mono HB15.out.size)
  clear hb HB15 HI15 HAT HG
  go_wp2_with fail
  go_ret
  exact ⟨rfl, HB16.out⟩
end Go.Proofs.YtdebldpmloignaaDoor
