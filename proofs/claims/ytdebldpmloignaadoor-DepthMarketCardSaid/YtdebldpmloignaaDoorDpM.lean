/-
  DepthMarket: the walk.
-/
import Derived.Test.YtdebldpmloignaaDoorDpL
import Derived.Test.YtdebldpmloignaaDoorLaidB
import Derived.Deep.CutRange
import Derived.Deep.CutBlock
namespace Go.Proofs.YtdebldpmloignaaDoor
open Go.RowKit
set_option linter.unusedVariables false
set_option linter.unusedSimpArgs false

theorem idsT {l : Bool → List Ord} {o : Ord} {came : Nat} (h : ∀ s, ∀ x ∈ l s, x.id ≤ 25) (ho : o.id ≤ 25) : ∀ s, ∀ x ∈ addLK l o came s, x.id ≤ 25 := addLK_ids h ho
set_option maxRecDepth 100000 in
set_option maxHeartbeats 8000000 in
theorem depthMarket_walk (B0 : Nat) (E : Nat → Addr) (A : Option Addr) (len cap : Nat) (ds : List Ord) (lots : Int) (w : World) (hE : Hid (Errs B0 w [1, 2, 5, 6, 7] E)) (hB0 : B0 ≤ w.heap.size) (hz : Hid (RdRows w w.heap.size Ord.cells 6 A len ds)) (hcap : len ≤ cap) (hcm : cap ≤ maxLen) :
    Calls Tryd.prog 13 #[.slice A len cap, .int .i64 lots] w fun e w' => e = .returned (.bool true) ∧ Below w.heap.size w w' := by
  have hlM : (len : Int) ≤ 9223372036854775807 := by unfold maxLen at hcm; omega
  have HENV : Hid (∀ W, Below w.heap.size w W → EnvK W E) := fun W hb => EnvK.of5 (hE.out.below (hb.mono hB0)) (fun k hk => hk)
  have HAW := Lib.hid (awake34_c w)
  clear hcm hcap hE hB0
  go_enter Tryd.func13, Tryd.ntmps13
  go_wp2_with fail
  refine HAW.out.mono ?_
  rintro e w1 ⟨rfl, hb1⟩
  have HB1 := Lib.hid hb1
  clear hb1 HAW
  go_wp2_with fail
  obtain ⟨q, hq⟩ : ∃ q, q = w1.heap.size := ⟨_, rfl⟩
  have HNEW := Lib.hid (bnew_c w1)
  rw [← hq] at HNEW
  have HQ1 : Hid (w.heap.size ≤ q) := by show _ ≤ _; rw [hq]; exact HB1.out.size
  clear hq
  refine HNEW.out.mono ?_
  rintro e w2 ⟨rfl, hv2, hb2⟩
  obtain ⟨v0, hv2e⟩ : ∃ v0 : Bool → Value, v0 = fun _ => .slice none 0 0 := ⟨_, rfl⟩
  have HV2 : Hid (BV w2 q q (fun _ => []) v0 0) := by show BV _ _ _ _ _ _; rw [hv2e]; exact hv2
  have HB2 : Hid (Below w.heap.size w w2) := HB1.out.trans (hb2.mono (Nat.le_trans HQ1.out (Nat.le_refl _)))
  clear hv2 hb2 hv2e HNEW
  go_upto_block 0 with fail
  go_cut [6] from 28 to 48 (fun s6 wx => ∃ (came : Nat) (l : Bool → List Ord) (v : Bool → Value) (wr : World), wr = wx ∧ came ≤ 25 ∧ Hid (Inv l came) ∧ Hid (∀ s, ∀ x ∈ l s, x.id ≤ 25) ∧ Hid ((l true).length + (l false).length ≤ 25) ∧ Hid (BV wr q q l v came) ∧ Hid (Below w.heap.size w wr))
  case first =>
    go_wp2_with fail
    go_loopw [6] (fun s6 wx => ∃ (i came : Nat) (l : Bool → List Ord) (v : Bool → Value) (wr : World), wr = wx ∧ i ≤ 25 ∧ i ≤ len ∧ s6 = .int .i64 i ∧ came ≤ i ∧ Hid (Inv l came) ∧ Hid (∀ s, ∀ x ∈ l s, x.id ≤ 25) ∧ Hid ((l true).length + (l false).length ≤ i) ∧ Hid (BV wr q q l v came) ∧ Hid (Below w.heap.size w wr)) (fun s6 _ => 25 - (intOf s6).toNat)
    case atStart => exact ⟨0, 0, _, v0, _, rfl, by omega, by omega, rfl, Nat.le_refl _, Lib.hid Inv.empty, Lib.hid (fun s x hx => by cases hx), Nat.le_refl _, HV2, HB2⟩
    case round =>
      obtain ⟨i, came, l, v, wr, rfl, hi, hil, rfl, hci, HI, HID, HLN, HV, HB⟩ := hrel
      clear HV2 HB2
      by_cases h1 : i < len
      · have hk1 : (i : Int) < (len : Int) := by omega
        by_cases h2 : i < 25
        · have hk2 : (i : Int) < 25 := by omega
          obtain ⟨b, off, rfl, hbb, hrows⟩ := hz.out.2 (by omega)
          obtain ⟨x, hx⟩ : ∃ x, ds[i]? = some x := ⟨_, List.getElem?_eq_getElem (by have := hz.out.1; omega)⟩
          have r1 := rangeAt_below (hrows i x hx) HB.out hbb
          obtain ⟨xi, xt, xs, xp, xl, xq⟩ := x
          have r1 : wr.rangeAt b (off + i * 6) [.int .i64 xi, .int .i64 xt, .bool xs, .int .i64 xp, .int .i64 xl, .int .i64 xq] := r1
          have hb6 : Below wr.heap.size wr (wr.alloc (.cells #[.int .i64 ((i : Int) + 1), .int .i64 xt, .bool true, .int .i64 xp, .int .i64 xl, .int .i64 xq] 67)) := (Below.refl _ _).alloc (Nat.le_refl _) _
          have HV6 := Lib.hid (HV.out.below hb6)
          have HB6 := Lib.hid (HB.out.trans (hb6.mono HB.out.size))
          have HAD := Lib.hid (add_any E q q l v came ⟨(i : Int) + 1, xt, true, xp, xl, xq⟩ _ HV6 (Lib.hid (HENV.out _ HB6.out)) HI.out (by omega) (Nat.le_of_lt HV6.out.lt))
          simp only [Ord.cells] at HAD
          have HI2 := Lib.hid (HI.out.addLK (o := ⟨(i : Int) + 1, xt, true, xp, xl, xq⟩))
          have HID2 := Lib.hid (idsT (o := ⟨(i : Int) + 1, xt, true, xp, xl, xq⟩) (came := came) HID.out (by simp only; omega))
          have HLN2 := Lib.hid (addLK_len (l := l) (o := ⟨(i : Int) + 1, xt, true, xp, xl, xq⟩) (came := came))
          have hc2 := addC_le l ⟨(i : Int) + 1, xt, true, xp, xl, xq⟩ came
          generalize addLK l ⟨(i : Int) + 1, xt, true, xp, xl, xq⟩ came = l2 at HAD HI2 HID2 HLN2
          generalize addC l ⟨(i : Int) + 1, xt, true, xp, xl, xq⟩ came = c2 at HAD HI2 hc2
          clear hrows hx hb6
          go_wp2_with (refine wpList_load_mid rfl 67 _ rfl b (off + i * 6) rfl [.int .i64 xi, .int .i64 xt, .bool xs, .int .i64 xp, .int .i64 xl, .int .i64 xq] _ r1 Tryd.underlying67 rfl size_ord ?_)
          refine HAD.out.mono ?_
          rintro e W7 ⟨rfl, v7, hs7⟩
          have HV7 : Hid (BV W7 q q l2 v7 c2) := hs7.out
          have HB7 : Hid (Below w.heap.size w W7) := HB6.out.trans (hs7.below HV6.out HQ1.out)
          clear hs7 r1
          go_wp2_with fail
          go_roundw
          case rel => exact ⟨i + 1, c2, l2, v7, _, rfl, by omega, by omega, by go_num, by omega, HI2, HID2, Lib.hid (by have := HLN.out; have := HLN2.out; omega), HV7, HB7⟩
          case measure => simp [intOf]; omega
        · have hk2 : ¬ (i : Int) < 25 := by omega
          go_wp2_with fail
          go_meet
          exact ⟨came, l, v, _, rfl, by omega, HI, HID, Lib.hid (by have := HLN.out; omega), HV, HB⟩
      · have hk1 : ¬ (i : Int) < (len : Int) := by omega
        go_wp2_with fail
        go_meet
        exact ⟨came, l, v, _, rfl, by omega, HI, HID, Lib.hid (by have := HLN.out; omega), HV, HB⟩
  case rest =>
    obtain ⟨came, l, v, wr, rfl, hc, HI, HID, HLN, HV, HB⟩ := hcut
    clear HV2 HB2
    have HSM := Lib.hid HI.out.small
    obtain ⟨T, hT⟩ : ∃ T : Int, wrap64 ((IntKind.u64.wrap lots).tmod 1000) = T := ⟨_, rfl⟩
    have hu := umod_range lots 1000 (by omega) (by omega)
    rw [hT] at hu
    obtain ⟨N, hNT⟩ : ∃ N : Int, N = 1 + T := ⟨_, rfl⟩
    have hN : 1 ≤ N ∧ N ≤ 1000 := by omega
    have HT1 := Lib.hid hT
    have HT2 : Hid (wrap64 (1 + T) = N) := by show _ = _; unfold wrap64; omega
    have HT3 : Hid (wrap64 (N + 1) = N + 1) := by show _ = _; unfold wrap64; omega
    clear hT hu hNT
    have HK := Lib.hid (takO_ok HI.out hN HID.out HLN.out)
    obtain ⟨hf1, hf2, hf3, hf4⟩ := takO_fills HI.out hN
    have HSD := Lib.hid (sideT HI.out)
    have HOK := Lib.hid (HI.out.okO true)
    have hnL : (l true).length ≤ 32 := HI.out.len true
    have hAL := lotsL_range (l true) (HI.out.lotsR true)
    have hk1 := (takeR_lots (l true) HOK.out N (by omega)).1
    obtain ⟨hm1, hm2⟩ := takeR_mono (l true) HOK.out N (N + 1) (by omega) (by omega)
    rw [hk1] at hf4 hm2
    have hc1 : costF' (l true) N = ((takeR N (l true)).1, min N (lotsL (l true))) := by rw [costF_take HSD.out (by omega), ← hk1]
    have hc2 : costF' (l true) (N + 1) = ((takeR (N + 1) (l true)).1, (takeR (N + 1) (l true)).2) := costF_take HSD.out (by omega)
    have HMO := Lib.hid (fun (W : World) (hV : BV W q q l v came) => (match_ok q q l v came (takO N) W (Lib.hid hV) HI.out (by omega) (Nat.le_of_lt hV.lt) HK.out).mono fun e w' hq => (by
      obtain ⟨s8, v', he, ho, hs⟩ := hq
      exact (⟨s8, dealZ l (takO N), he, ho, hs.below hV HQ1.out⟩ : ∃ s8 zz, e = .returned (.tuple #[s8, .int .i64 zz, .nilIface]) ∧ w'.ownsRow W.heap.size 82 6 s8 (dealF l (takO N)).length (flatOf Fill.cells (dealF l (takO N))) ∧ Below w.heap.size W w')))
    have hf5 := worthF_range ⟨hf1, fun f hf => (hf2 f hf).1⟩
    have hke := kept_all hf1 hf2
    generalize dealF l (takO N) = fs at hf1 hf2 hf3 hf4 hf5 hke HMO
    simp only [takO, Ord.cells] at HMO
    have HFW := Lib.hid (fun (A : Option Addr) (c : Nat) (W : World) (hr : RdRows W W.heap.size Fill.cells 6 A fs.length fs) => worth_c A fs.length c fs W (Lib.hid hr) hf1 (Lib.hid fun f hf => (hf2 f hf).1))
    have HFA := Lib.hid (fun (A : Option Addr) (c : Nat) (W : World) (hA : A = none → fs.length = 0) (hr : RdRows W W.heap.size Fill.cells 6 A fs.length fs) => average_c A fs.length c fs W hA (Lib.hid hr) (by unfold maxLen; omega))
    have HFR := Lib.hid (fun (A : Option Addr) (c : Nat) (W : World) (hA : A = none → fs.length = 0) (hr : RdRows W W.heap.size Fill.cells 6 A fs.length fs) => range_c A fs.length c fs W hA (Lib.hid hr) (by unfold maxLen; omega))
    rw [hke] at HFR
    rw [hf3] at HFW hf5
    generalize (takeR N (l true)).1 = C1 at hf3 hf5 hm1 hc1 HFW
    generalize (takeR (N + 1) (l true)).1 = C2 at hm1 hc2
    generalize (takeR (N + 1) (l true)).2 = K2 at hm2 hc2
    have HMEAN : Hid (fs ≠ [] → ∃ P R : Int, meanF fs = [.int .i64 P, .int .i64 R, .int .i64 (lotsF fs)] ∧ isF fs = true ∧ (rangeF fs).1 ≤ P ∧ P ≤ (rangeF fs).2 ∧ P * lotsF fs + R = C1 ∧ 0 ≤ R ∧ R < lotsF fs) := fun hne => by
      obtain ⟨a, b, c, d, e⟩ := mean_law hf2 hne
      refine ⟨(worthF fs).tdiv (lotsF fs), (worthF fs).tmod (lotsF fs), ?_, ?_, a, b, by rw [c, hf3], Int.tmod_nonneg _ (by rw [hf3]; exact hf5.1), d⟩
      · unfold meanF
        rw [hke, if_neg hne]
      · unfold isF
        rw [hke]
        simp [hne]
    have HNIL : Hid (lotsF fs = 0 → fs = []) := fun h => by
      by_cases hne : fs = []
      · exact hne
      · have := sum_pos hf2 hne
        omega
    have HPOS : Hid (fs = [] → lotsF fs = 0) := fun h => by rw [h]; rfl
    rw [hf4] at HMEAN HNIL HPOS
    clear hf1 hf2 hf3 hf4 hke hk1 HK
    go_wp2_with fail
    refine (blist_c q q l v came true wr HV HSM.out).mono ?_
    rintro e W1 ⟨va, rfl, hown1, hb1⟩
    obtain ⟨A8, c8, rfl, hc8, hA8, hr8⟩ := own_form Ord.k6 hown1
    have HR8 := Lib.hid hr8
    have HV1 := Lib.hid (HV.out.below hb1)
    have HB1 := Lib.hid (HB.out.trans (hb1.mono HB.out.size))
    clear hown1 hb1 hr8 HV HB
    have HST := Lib.hid (steps_ok A8 (l true).length c8 (l true) W1 HR8 (by unfold maxLen; omega) HSD.out)
    have HCO := Lib.hid (fun (W : World) (hb : Below W1.heap.size W1 W) (z : Int) (h0 : -9223372036854775808 ≤ z) (h1 : z ≤ 9223372036854775807) => cost_c A8 (l true).length c8 (l true) z W h0 h1 (Lib.hid ((HR8.out.below hb (Nat.le_refl _)).mono hb.size)) (by unfold maxLen; omega))
    have HCO1 : Hid (∀ W, Below W1.heap.size W1 W → Calls Tryd.prog 69 #[.slice A8 (l true).length c8, .int .i64 N] W fun e w' => e = .returned (.tuple #[.int .i64 C1, .int .i64 (min N (lotsL (l true)))]) ∧ Below W.heap.size W w') := fun W hb => by
      have := HCO.out W hb N (by omega) (by omega)
      rw [hc1] at this
      exact this
    have HCO2 : Hid (∀ W, Below W1.heap.size W1 W → Calls Tryd.prog 69 #[.slice A8 (l true).length c8, .int .i64 (N + 1)] W fun e w' => e = .returned (.tuple #[.int .i64 C2, .int .i64 K2]) ∧ Below W.heap.size W w') := fun W hb => by
      have := HCO.out W hb (N + 1) (by omega) (by omega)
      rw [hc2] at this
      exact this
    have HSE : Hid (l true = [] → stepsO (l true) = []) := fun h => by rw [h]; rfl
    have HSN : Hid (l true ≠ [] → ∃ i y, stepsO (l true) = i ++ [y] ∧ y.sum = lotsL (l true)) := fun h => stepsO_last h
    have HALP : Hid (l true ≠ [] → 1 ≤ lotsL (l true)) := fun h => by
      have hp := HI.out.lotsR true
      cases hl : l true with
      | nil => exact absurd hl h
      | cons x r =>
        rw [hl] at hp
        have h1 := hp x (by simp)
        have h2 := (lotsL_range r (fun y hy => hp y (by simp [hy]))).1
        have h3 : lotsL (x :: r) = x.lots + lotsL r := by simp [lotsL]
        omega
    have HALE : Hid (l true = [] → lotsL (l true) = 0) := fun h => by rw [h]; rfl
    have HLR := Lib.hid (fun k => lotsL_range ((l true).take k) (fun y hy => HI.out.lotsR true y (List.mem_of_mem_take hy)))
    clear hc1 hc2 HCO HSD HI HID HLN
    generalize l true = S at *
    go_wp2_with fail
    go_loop [9, 10] (fun s9 s10 => ∃ j : Nat, j ≤ S.length ∧ s10 = .int .i64 j ∧ s9 = .int .i64 (lotsL (S.take j))) (fun _ s10 => S.length - (intOf s10).toNat)
    case atStart => exact ⟨0, Nat.zero_le _, rfl, rfl⟩
    case round =>
      obtain ⟨j, hj, rfl, rfl⟩ := hrel
      by_cases hlt : j < S.length
      · obtain ⟨gs, os_, hAs, hgs, hrows⟩ := HR8.out.2 (by omega)
        subst hAs
        obtain ⟨x, hx⟩ : ∃ x, S[j]? = some x := ⟨_, List.getElem?_eq_getElem hlt⟩
        have rs := hrows j x hx
        have x4 : W1.cell? ⟨gs, os_ + j * 6 + 4, none⟩ = some (.int .i64 x.lots) := rs 4 _ rfl
        have HT := Lib.hid (lotsL_take S j x hx)
        have h1 := HLR.out j
        have h2 := HLR.out (j + 1)
        have h3 : (S.take j).length ≤ 32 := by rw [List.length_take]; omega
        have h4 : (S.take (j + 1)).length ≤ 32 := by rw [List.length_take]; omega
        rw [HT.out] at h2
        have j0 : (0 : Int) ≤ (j : Int) := by omega
        have j1 : (j : Int) < (S.length : Int) := by omega
        have hw : wrap64 (lotsL (S.take j) + x.lots) = lotsL (S.take j) + x.lots := by unfold wrap64; omega
        clear hrows hx h1 h2 h3 h4 rs
        go_wp2_with fail
        go_round
        case rel => exact ⟨j + 1, by omega, by go_num, by rw [HT.out]; first | rfl | rw [hw]⟩
        case measure => simp [intOf]; omega
      · obtain rfl : j = S.length := by omega
        rw [List.take_of_length_le (Nat.le_refl _)]
        obtain ⟨AL, hALe⟩ : ∃ z, z = lotsL S := ⟨_, rfl⟩
        rw [← hALe] at hAL HCO1 HMEAN HNIL HPOS hm2 HSN HALP HALE
        rw [← hALe]
        clear hALe hlt hj
        go_wp2_with fail
        refine HST.out.mono ?_
        rintro e W2 ⟨va, rfl, hown2, hb2⟩
        have HB2 := Lib.hid hb2
        by_cases hS : S = []
        · have hS0 : S.length = 0 := by rw [hS]; rfl
          rw [HSE.out hS] at hown2
          obtain ⟨A9, c9, rfl⟩ := own_len hown2
          have hA0 := HALE.out hS
          have hfs := HNIL.out (by omega)
          subst hA0
          subst hfs
          simp only [List.length_nil]
          rw [hS0] at HCO1 HCO2 ⊢
          clear hS hb2 hown2 HSN HALP HMEAN
          have hme : meanF ([] : List Fill) = [.int .i64 0, .int .i64 0, .int .i64 0] := rfl
          have his : isF ([] : List Fill) = false := rfl
          rw [hme, his] at HFA
          generalize (rangeF ([] : List Fill)).1 = lo at HFR
          generalize (rangeF ([] : List Fill)).2 = hi at HFR
          have t1 := HT1.out
          go_wp2_with fail
          rw [HT2.out]
          refine (HCO1.out W2 HB2.out).mono ?_
          rintro e W3 ⟨rfl, hb3⟩
          have HB3 := Lib.hid (HB2.out.trans (hb3.mono HB2.out.size))
          clear hb3 t1
          go_wp2_with fail
          try rw [HT3.out]
          refine (HCO2.out W3 HB3.out).mono ?_
          rintro e W4 ⟨rfl, hb4⟩
          have HB4 := Lib.hid (HB3.out.trans (hb4.mono HB3.out.size))
          have d1 : decide (C2 < C1) = false := by simp; omega
          have d2 : decide (K2 < min N 0) = false := by simp; omega
          clear hb4
          go_wp2_with fail
          refine (HMO.out W4 (HV1.out.below HB4.out)).mono ?_
          rintro e W5 ⟨s8, zz, rfl, hown5, hb5⟩
          have HBW5 := Lib.hid ((HB1.out.trans (HB4.out.mono HB1.out.size)).trans hb5)
          obtain ⟨A5, c5, rfl, hc5, hA5, hr5⟩ := own_form Fill.k6 hown5
          have HA5 : Hid (A5 = none → ([] : List Fill).length = 0) := fun h => by have := hA5 h; omega
          have HR5 := Lib.hid hr5
          clear hown5 hb5 hr5 hA5 hc5 d1 d2
          go_wp2_with fail
          refine (HFW.out A5 c5 W5 HR5.out).mono ?_
          rintro e W6 ⟨rfl, hb6⟩
          have HB6 := Lib.hid hb6
          clear hb6
          go_wp2_with fail
          refine (HFA.out A5 c5 W6 HA5.out ((HR5.out.below HB6.out (Nat.le_refl _)).mono HB6.out.size)).mono ?_
          rintro e W7 ⟨rfl, hb7⟩
          have HB7 := Lib.hid (HB6.out.trans (hb7.mono HB6.out.size))
          obtain ⟨MB, hMB⟩ : ∃ z : Nat, z = W7.heap.size := ⟨_, rfl⟩
          obtain ⟨W8, hW8⟩ : ∃ Z : World, Z = W7.alloc (.cells #[.int .i64 0, .int .i64 0, .int .i64 0] 120) := ⟨_, rfl⟩
          have hb8 : Below W7.heap.size W7 W8 := by rw [hW8]; exact (Below.refl _ _).alloc (Nat.le_refl _) _
          have HKM : Hid (Blk W8 MB #[.int .i64 0, .int .i64 0, .int .i64 0] 120) := by show Blk _ _ _ _; rw [hW8, hMB]; exact Blk.new W7 _ _
          have HB8 := Lib.hid (HB7.out.trans (hb8.mono HB7.out.size))
          have HW8 := Lib.hid hW8
          have HMBE := Lib.hid hMB
          clear hb7 hb8 hW8 hMB
          go_upto_region 29 with fail
          rw [← HW8.out, ← HMBE.out]
          go_wp2_with fail
          refine (HFR.out A5 c5 W8 HA5.out ((HR5.out.below HB8.out (Nat.le_refl _)).mono HB8.out.size)).mono ?_
          rintro e W9 ⟨rfl, hb9⟩
          have HEND : Hid (Below w.heap.size w W9) := HBW5.out.trans ((HB8.out.trans (hb9.mono HB8.out.size)).mono HBW5.out.size)
          have hkm := HKM.out.below hb9
          have g0 : W9.cell? ⟨MB, 0, none⟩ = some (.int .i64 0) := hkm.cell 0 _ rfl
          have x1 : decide (0 < min N 0) = false := by simp; omega
          clear hkm hb9
          go_wp2_with fail
          go_ret
          exact ⟨rfl, HEND.out⟩
        · obtain ⟨m, hm⟩ : ∃ m, S.length = m + 1 := ⟨S.length - 1, by have := List.length_pos_iff.2 hS; omega⟩
          obtain ⟨i, y, hi, hy⟩ := HSN.out hS
          rw [hi] at hown2
          have hp := HALP.out hS
          have hfs : fs ≠ [] := fun h => by have := HPOS.out h; omega
          obtain ⟨g9, cap9, cur9, rfl, _, _, hg9, hblk9, _, hrows9⟩ := own_rows' Stp.k4 hown2 rfl (by simp)
          have rg := hrows9 i.length y (by simp)
          have q3 : W2.cell? ⟨g9, i.length * 4 + 3, none⟩ = some (.int .i64 AL) := by
            have := rg 3 (.int .i64 y.sum) rfl
            rw [hy] at this
            simpa using this
          have hl9 : (i ++ [y]).length = i.length + 1 := by simp
          rw [hl9, hm]
          rw [hm] at HCO1 HCO2
          obtain ⟨P, R, hme, his, hlo, hhi, hPR, hR0, hR1⟩ := HMEAN.out hfs
          have hil : i.length ≤ 1000000 := by
            have h1 := congrArg List.length hi
            have h2 := (stepsOk_to S HOK.out S.length (Nat.le_refl _)).1
            unfold stepsO at h1
            rw [foldTo_all] at h2
            rw [h1, hl9] at h2
            omega
          clear hS hb2 hown2 HSE HALE hrows9 rg hblk9 hi hy
          rw [hme, his] at HFA
          generalize (rangeF fs).1 = lo at hlo HFR
          generalize (rangeF fs).2 = hi at hhi HFR
          have n0 : (0 : Int) < (m : Int) + 1 := by omega
          have n1 : ((m : Int) + 1 == 0) = false := by simp; omega
          have s1 : IntKind.i64.wrap ((i.length : Int) + 1 - 1) = (i.length : Int) := by rw [IntKind.wrap_i64]; omega
          have s2 : IntKind.i64.wrap (i.length : Int) = (i.length : Int) := by rw [IntKind.wrap_i64]; omega
          have s3 : (0 : Int) ≤ (i.length : Int) := by omega
          have s4 : (i.length : Int) < (i.length : Int) + 1 := by omega
          have t1 := HT1.out
          go_wp2_with fail
          rw [HT2.out]
          refine (HCO1.out W2 HB2.out).mono ?_
          rintro e W3 ⟨rfl, hb3⟩
          have HB3 := Lib.hid (HB2.out.trans (hb3.mono HB2.out.size))
          clear hb3 t1
          go_wp2_with fail
          try rw [HT3.out]
          refine (HCO2.out W3 HB3.out).mono ?_
          rintro e W4 ⟨rfl, hb4⟩
          have HB4 := Lib.hid (HB3.out.trans (hb4.mono HB3.out.size))
          have d1 : decide (C2 < C1) = false := by simp; omega
          have d2 : decide (K2 < min N AL) = false := by simp; omega
          clear hb4
          go_wp2_with fail
          refine (HMO.out W4 (HV1.out.below HB4.out)).mono ?_
          rintro e W5 ⟨s8, zz, rfl, hown5, hb5⟩
          have HBW5 := Lib.hid ((HB1.out.trans (HB4.out.mono HB1.out.size)).trans hb5)
          obtain ⟨A5, c5, rfl, hc5, hA5, hr5⟩ := own_form Fill.k6 hown5
          have HA5 : Hid (A5 = none → fs.length = 0) := fun h => by have := hA5 h; omega
          have HR5 := Lib.hid hr5
          clear hown5 hb5 hr5 hA5 hc5 d1 d2
          go_wp2_with fail
          refine (HFW.out A5 c5 W5 HR5.out).mono ?_
          rintro e W6 ⟨rfl, hb6⟩
          have HB6 := Lib.hid hb6
          clear hb6
          go_wp2_with fail
          refine (HFA.out A5 c5 W6 HA5.out ((HR5.out.below HB6.out (Nat.le_refl _)).mono HB6.out.size)).mono ?_
          rintro e W7 ⟨rfl, hb7⟩
          have HB7 := Lib.hid (HB6.out.trans (hb7.mono HB6.out.size))
          obtain ⟨MB, hMB⟩ : ∃ z : Nat, z = W7.heap.size := ⟨_, rfl⟩
          obtain ⟨W8, hW8⟩ : ∃ Z : World, Z = W7.alloc (.cells #[.int .i64 P, .int .i64 R, .int .i64 (min N AL)] 120) := ⟨_, rfl⟩
          have hb8 : Below W7.heap.size W7 W8 := by rw [hW8]; exact (Below.refl _ _).alloc (Nat.le_refl _) _
          have HKM : Hid (Blk W8 MB #[.int .i64 P, .int .i64 R, .int .i64 (min N AL)] 120) := by show Blk _ _ _ _; rw [hW8, hMB]; exact Blk.new W7 _ _
          have HB8 := Lib.hid (HB7.out.trans (hb8.mono HB7.out.size))
          have HW8 := Lib.hid hW8
          have HMBE := Lib.hid hMB
          clear hb7 hb8 hW8 hMB
          go_upto_region 29 with fail
          rw [← HW8.out, ← HMBE.out]
          go_wp2_with fail
          refine (HFR.out A5 c5 W8 HA5.out ((HR5.out.below HB8.out (Nat.le_refl _)).mono HB8.out.size)).mono ?_
          rintro e W9 ⟨rfl, hb9⟩
          have HEND : Hid (Below w.heap.size w W9) := HBW5.out.trans ((HB8.out.trans (hb9.mono HB8.out.size)).mono HBW5.out.size)
          have hkm := HKM.out.below hb9
          have g0 : W9.cell? ⟨MB, 0, none⟩ = some (.int .i64 P) := hkm.cell 0 _ rfl
          have g1 : W9.cell? ⟨MB, 1, none⟩ = some (.int .i64 R) := hkm.cell 1 _ rfl
          have g2 : W9.cell? ⟨MB, 2, none⟩ = some (.int .i64 (min N AL)) := hkm.cell 2 _ rfl
          have x1 : decide (0 < min N AL) = true := by simp; omega
          have x2 : decide (lo ≤ P) = true := by simpa using hlo
          have x3 : decide (P ≤ hi) = true := by simpa using hhi
          have x4 : decide (R < min N AL) = true := by simpa using hR1
          have hP0 : P * min N AL ≤ 1000000000000 ∧ -1000000000000 ≤ P * min N AL := by omega
          have x5 : wrap64 (P * min N AL) = P * min N AL := by unfold wrap64; omega
          have x6 : wrap64 (P * min N AL + R) = C1 := by rw [hPR]; unfold wrap64; omega
          clear hkm hb9 hlo hhi hR0 hP0 hPR
          go_wp2_with fail
          go_ret
          exact ⟨rfl, HEND.out⟩
end Go.Proofs.YtdebldpmloignaaDoor
