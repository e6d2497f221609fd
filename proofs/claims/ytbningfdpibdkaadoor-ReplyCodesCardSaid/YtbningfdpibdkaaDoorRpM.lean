/-
  ReplyCodes: the walk.
-/
import Derived.Test.YtbningfdpibdkaaDoorRpL
namespace Go.Proofs.YtbningfdpibdkaaDoor
open Go.RowKit
set_option linter.unusedVariables false
set_option linter.unusedSimpArgs false

def opW : ByteArray := ⟨#[119]⟩
set_option maxRecDepth 100000 in
set_option maxHeartbeats 4000000 in
theorem replyCodes_walk (E : Nat → Addr) (B : Nat) (code : Int) (A : Option Addr) (n c : Nat) (zs : List Int) (w : World) (hE : Hid (Env w E B)) (hr : Hid (RdInts w w.heap.size A n zs)) (hnc : n ≤ c) (hcm : c ≤ maxLen) :
    Calls Tryd.prog 8 #[.int .i64 code, .slice A n c] w fun e w' => e = .returned (.bool true) ∧ Below w.heap.size w w' := by
  have hnM : (n : Int) ≤ 9223372036854775807 := by unfold maxLen at hcm; omega
  have HEV : Hid (∀ W, Below w.heap.size w W → Env W E B) := fun W hb => hE.out.below (hb.mono hE.out.low)
  have HAW := Lib.hid (awake24_c w hE.out.low hE.out.errs hE.out.et)
  clear hcm hnc
  go_enter Tryd.func8, Tryd.ntmps8
  go_wp2_with fail
  refine HAW.out.mono ?_
  rintro e w1 ⟨rfl, hb1⟩
  have HB1 := Lib.hid hb1
  clear hb1 HAW
  by_cases hn : 10 < n
  · have hd : decide ((10 : Int) < (n : Int)) = true := by simp; omega
    have hd' : (10 : Int) < (n : Int) := by omega
    clear hn
    go_wp2_with fail
    go_ret
    exact ⟨rfl, HB1.out⟩
  · have hd : decide ((10 : Int) < (n : Int)) = false := by simp; omega
    have hd' : ¬ (10 : Int) < (n : Int) := by omega
    have hn10 : n ≤ 10 := by omega
    have HER := Lib.hid (rerr_c code w1 (HEV.out w1 HB1.out).errs)
    go_wp2_with fail
    refine HER.out.mono ?_
    rintro e w2 ⟨rfl, hb2⟩
    have HB2 := Lib.hid (HB1.out.trans (hb2.mono HB1.out.size))
    clear hb2 HER
    by_cases hc : 1 ≤ code ∧ code ≤ 14
    · obtain ⟨k, hk⟩ : ∃ k : Nat, code = (k : Int) := ⟨code.toNat, by omega⟩
      have hek : errK code = k := by unfold errK; rw [if_pos hc]; omega
      rw [hek]
      subst hk
      have hk1 : 1 ≤ k := by omega
      have hk2 : k ≤ 14 := by omega
      have d1 : decide ((k : Int) < 1) = false := by simp; omega
      have d2 : decide ((14 : Int) < (k : Int)) = false := by simp; omega
      have d1' : ¬ (k : Int) < 1 := by omega
      have d2' : ¬ (14 : Int) < (k : Int) := by omega
      have HK := Lib.hid (⟨hk1, hk2⟩ : 1 ≤ k ∧ k ≤ 14)
      have HCO := Lib.hid (fun (W : World) (hb : Below w.heap.size w W) (l : List (ByteArray × Int)) (v : Value) (hC : Chain W E l k v) => code_c W (HEV.out W hb).low (HEV.out W hb).errs l k HK.out.2 v (Lib.hid hC))
      have HCN : Hid (∀ l, codeN l k = k) := fun l => by unfold codeN; rw [if_neg (by have := HK.out; omega)]
      have HKI := Lib.hid (kic24_c w2 (HEV.out w2 HB2.out).low (HEV.out w2 HB2.out).errs [] k hk1 hk2 (erV E k) (Lib.hid rfl))
      clear hek hc hk1 hk2
      go_wp2_with fail
      refine HKI.out.mono ?_
      rintro e w3 ⟨rfl, hb3⟩
      have HB3 := Lib.hid (HB2.out.trans (hb3.mono HB2.out.size))
      clear hb3 HKI d1 d2 d1' d2'
      go_wp2_with fail
      refine (HCO.out w3 HB3.out [] (erV E k) rfl).mono ?_
      rw [HCN.out]
      rintro e w4 ⟨rfl, hb4⟩
      have HB4 := Lib.hid (HB3.out.trans (hb4.mono HB3.out.size))
      clear hb4
      go_wp2_with fail
      refine (at_c E [] k (erV E k) w4 (HEV.out w4 HB4.out).et (Lib.hid rfl)).mono ?_
      rintro e w5 ⟨rfl, hb5⟩
      have HB5 := Lib.hid (HB4.out.trans (hb5.mono HB4.out.size))
      have hat0 : atN [] = 0 := rfl
      rw [hat0]
      clear hb5 hat0
      go_wp2_with fail
      go_loopw [5, 6, 7] (fun s5 s6 s7 wx => ∃ (i : Nat) (l : List (ByteArray × Int)) (W : World) (z : Int), W = wx ∧ i ≤ n ∧ s7 = .int .i64 i ∧ s6 = .int .i64 z ∧ Hid (Chain W E l k s5) ∧ Hid (Below w.heap.size w W)) (fun _ _ s7 _ => n - (intOf s7).toNat)
      case atStart => exact ⟨0, [], _, 0, rfl, Nat.zero_le _, rfl, rfl, Lib.hid rfl, HB5⟩
      case round =>
        obtain ⟨i, l, W, z, rfl, hi, rfl, rfl, HCH, HBW⟩ := hrel
        obtain ⟨vt, vx, hv⟩ := HCH.out.ne_nil (.inr (by have := HK.out; omega))
        rw [hv] at HCH ⊢
        by_cases hlt : i < n
        · have i1 : (i : Int) < (n : Int) := by omega
          have i0 : (0 : Int) ≤ (i : Int) := by omega
          have hil : (i : Int) ≤ 10 := by omega
          obtain ⟨g, off, hA, hg, hcell⟩ := hr.out.2 (by omega)
          obtain ⟨y, hy⟩ : ∃ y, y = zs.getD i 0 := ⟨_, rfl⟩
          have hc0 := hcell i hlt
          rw [← hy] at hc0
          subst hA
          have cy : W.cell? ⟨g, off + i, none⟩ = some (.int .i64 y) := (HBW.out.cell (p := ⟨g, off + i, none⟩) hg).trans hc0
          obtain ⟨F, hF⟩ : ∃ F, F = W.heap.size := ⟨_, rfl⟩
          obtain ⟨V, hV⟩ : ∃ Z, Z = W.alloc (.cells #[.string ⟨#[119]⟩, .int .i64 y, .iface vt vx] 34) := ⟨_, rfl⟩
          have hbv : Below W.heap.size W V := by rw [hV]; exact (Below.refl _ _).alloc (Nat.le_refl _) _
          have hkF : Blk V F #[.string ⟨#[119]⟩, .int .i64 y, .iface vt vx] 34 := by rw [hV, hF]; exact Blk.new W _ _
          have HC2 : Hid (Chain V E ((opW, y) :: l) k (.iface 32 (.pointer (some ⟨F, 0, none⟩)))) := ⟨F, _, rfl, hkF, HCH.out.below hbv⟩
          have HBV := Lib.hid (HBW.out.trans (hbv.mono HBW.out.size))
          have cy2 : V.cell? ⟨g, off + i, none⟩ = some (.int .i64 y) := (HBV.out.cell (p := ⟨g, off + i, none⟩) hg).trans hc0
          have HVE := Lib.hid hV
          have HFE := Lib.hid hF
          have hat : atN ((opW, y) :: l) = y := rfl
          have HAT := Lib.hid hat
          clear hc0 hcell hy hg hbv hkF hV hF hat hv
          go_upto_region 15 with fail
          rw [← HVE.out, ← HFE.out]
          go_wp2_with fail
          refine (HCO.out V HBV.out _ _ HC2.out).mono ?_
          rw [HCN.out]
          rintro e V2 ⟨rfl, hb2⟩
          have HBV2 := Lib.hid (HBV.out.trans (hb2.mono HBV.out.size))
          have HC3 := Lib.hid (HC2.out.below hb2)
          clear hb2
          go_wp2_with fail
          refine (at_c E _ k _ V2 (HEV.out V2 HBV2.out).et HC3).mono ?_
          rw [HAT.out]
          rintro e V3 ⟨rfl, hb3⟩
          have HBV3 := Lib.hid (HBV2.out.trans (hb3.mono HBV2.out.size))
          have HC4 := Lib.hid (HC3.out.below hb3)
          clear hb3
          go_wp2_with fail
          go_roundw
          case rel => exact ⟨i + 1, _, _, y, rfl, by omega, by go_num, rfl, HC4, HBV3⟩
          case measure => simp [intOf]; omega
        · obtain rfl : i = n := by omega
          obtain ⟨F, hF⟩ : ∃ F, F = W.heap.size := ⟨_, rfl⟩
          obtain ⟨V, hV⟩ : ∃ Z, Z = W.alloc (.cells #[.string ⟨#[110, 111, 110, 101]⟩, .int .i64 0, .nilIface] 34) := ⟨_, rfl⟩
          have hbv : Below W.heap.size W V := by rw [hV]; exact (Below.refl _ _).alloc (Nat.le_refl _) _
          have hkF : Blk V F #[.string ⟨#[110, 111, 110, 101]⟩, .int .i64 0, .nilIface] 34 := by rw [hV, hF]; exact Blk.new W _ _
          have HC2 : Hid (Chain V E [(⟨#[110, 111, 110, 101]⟩, 0)] 0 (.iface 32 (.pointer (some ⟨F, 0, none⟩)))) := ⟨F, _, rfl, hkF, rfl⟩
          have HBV := Lib.hid (HBW.out.trans (hbv.mono HBW.out.size))
          have HCF := Lib.hid (code_c V (HEV.out V HBV.out).low (HEV.out V HBV.out).errs _ 0 (by omega) _ HC2)
          have hcf : codeN [((⟨#[110, 111, 110, 101]⟩ : ByteArray), (0 : Int))] 0 = 15 := rfl
          rw [hcf] at HCF
          have HVE := Lib.hid hV
          have HFE := Lib.hid hF
          clear hbv hkF hV hF hcf
          go_wp2_with fail
          rw [← HVE.out, ← HFE.out]
          refine HCF.out.mono ?_
          rintro e V2 ⟨rfl, hb2⟩
          have HBV2 := Lib.hid (HBV.out.trans (hb2.mono HBV.out.size))
          clear hb2
          go_wp2_with fail
          refine (new_c _ V2).mono ?_
          rintro e V3 ⟨rfl, hk3, hb3⟩
          have HBV3 := Lib.hid (HBV2.out.trans (hb3.mono HBV2.out.size))
          have HCX := Lib.hid (code_other V3 (HEV.out V3 HBV3.out).errs _ _ _ hk3 (Nat.le_trans (HEV.out V2 HBV2.out).low (Nat.le_refl _)))
          clear hk3 hb3
          go_wp2_with fail
          refine HCX.out.mono ?_
          rintro e V4 ⟨rfl, hb4⟩
          have HBV4 := Lib.hid (HBV3.out.trans (hb4.mono HBV3.out.size))
          clear hb4
          go_wp2_with fail
          go_ret
          exact ⟨rfl, HBV4.out⟩
    · have hek : errK code = 0 := by unfold errK; rw [if_neg hc]
      rw [hek, erV_nil]
      by_cases h1 : code < 1
      · have d1 : decide (code < 1) = true := by simpa using h1
        clear hc hek h1
        go_wp2_with fail
        go_ret
        exact ⟨rfl, HB2.out⟩
      · have d1 : decide (code < 1) = false := by simpa using h1
        have d2 : decide (14 < code) = true := by simp; omega
        clear hc hek h1
        go_wp2_with fail
        go_ret
        exact ⟨rfl, HB2.out⟩
end Go.Proofs.YtbningfdpibdkaaDoor
