/-
  wire: the law WireWrites.
-/
import Derived.Test.YtdebldpmloignaaDoorLaidW
namespace Go.Proofs.YtdebldpmloignaaDoor
open Go.RowKit
set_option linter.unusedVariables false

theorem encT_len (s : ByteArray) (h : s.size ≤ 1000) : (encT s).length ≤ s.size + 10 := by
  have := encI_len (n := (s.size : Int)) (by omega) (by omega)
  unfold encT
  rw [List.length_append]
  simp
  omega
theorem encV_len {a b c d : Int} (ha : I64 a) (hb : I64 b) (hc : I64 c) (hd : I64 d) : (encV a b c d).length ≤ 40 := by
  have h1 := encI_len ha.1 ha.2
  have h2 := encI_len hb.1 hb.2
  have h3 := encI_len hc.1 hc.2
  have h4 := encI_len hd.1 hd.2
  unfold encV
  simp only [List.length_append]
  omega
theorem encB_len (x : Bool) : (encB x).length ≤ 10 := by
  cases x
  · exact encI_len (by omega) (by omega)
  · exact encI_len (by omega) (by omega)
theorem size_wact : (Tryd.prog.info? 45).map (·.size) = some 8 := by kernel_rfl
set_option maxRecDepth 100000 in
set_option maxHeartbeats 1000000 in
theorem ovec_nil (x1 x2 x3 x4 : Int) (w : World) : Calls Tryd.prog 35 #[.pointer none, vecV x1 x2 x3 x4] w fun e w' => e = .returned (.tuple #[]) ∧ Below w.heap.size w w' := by
  have i1 := vec_at0 x1 x2 x3 x4
  have i2 := vec_at1 x1 x2 x3 x4
  have i3 := vec_at2 x1 x2 x3 x4
  have i4 := vec_at3 x1 x2 x3 x4
  unfold vecV
  go_enter Tryd.func35, Tryd.ntmps35
  go_wp2_with fail
  have HB : Hid (Below w.heap.size w (w.alloc (.cells #[.int .i64 x1, .int .i64 x2, .int .i64 x3, .int .i64 x4] 43))) := (Below.refl _ w).alloc (Nat.le_refl _) _
  refine wp_loop_rounds 5 ?_
  rw [rounds_succ]
  go_wp2_with fail
  refine (oint_nil _ _).mono ?_
  rintro e y ⟨rfl, rfl⟩
  go_wp2_with fail
  rw [rounds_succ]
  go_wp2_with fail
  refine (oint_nil _ _).mono ?_
  rintro e y ⟨rfl, rfl⟩
  go_wp2_with fail
  rw [rounds_succ]
  go_wp2_with fail
  refine (oint_nil _ _).mono ?_
  rintro e y ⟨rfl, rfl⟩
  go_wp2_with fail
  rw [rounds_succ]
  go_wp2_with fail
  refine (oint_nil _ _).mono ?_
  rintro e y ⟨rfl, rfl⟩
  go_wp2_with fail
  rw [rounds_succ]
  go_wp2_with fail
  go_end0
  exact ⟨rfl, HB.out⟩
set_option maxRecDepth 100000 in
set_option maxHeartbeats 4000000 in
theorem wireWrites_walk (E : Nat → Addr) (B : Nat) (A : Option Addr) (len cap : Nat) (ds : List Wact) (w : World) (hE : Hid (Env w E B)) (hz : Hid (RdRows w w.heap.size Wact.cells 8 A len ds)) (hok : Hid (∀ x ∈ ds, Wact.ok x)) (hcap : len ≤ cap) (hcm : cap ≤ maxLen) :
    Calls Tryd.prog 5 #[.slice A len cap] w fun e w' => e = .returned (.bool true) ∧ Below w.heap.size w w' := by
  have hlM : (len : Int) ≤ 9223372036854775807 := by unfold maxLen at hcm; omega
  go_enter Tryd.func5, Tryd.ntmps5
  go_wp2_with fail
  refine (awake03_c E B w hE).mono ?_
  rintro e w1 ⟨rfl, hb1⟩
  have HB1 := Lib.hid hb1
  clear hb1
  go_wp2_with fail
  obtain ⟨b, hbb⟩ : ∃ b, b = w1.heap.size := ⟨_, rfl⟩
  have HWB : Hid (w.heap.size ≤ b) := by show _ ≤ _; rw [hbb]; exact HB1.out.size
  obtain ⟨w3, hw3⟩ : ∃ w3, w3 = w1.alloc (.cells #[.pointer none, .slice none 0 0] 31) := ⟨_, rfl⟩
  have HO3 : Hid (OutV w3 b b (.pointer none) (.slice none 0 0) []) := by show OutV _ _ _ _ _ _; rw [hw3, hbb]; exact OutV.fresh w1
  have HB3 : Hid (Below w.heap.size w w3) := by show Below _ _ _; rw [hw3]; exact HB1.out.alloc HB1.out.size _
  rw [← hw3, ← hbb]
  clear hw3 hbb HB1
  go_loopw [4, 5, 6] (fun s4 s5 _ wx => ∃ (k : Nat) (l : List UInt8) (p v : Value) (wr : World), wr = wx ∧ k ≤ 40 ∧ k ≤ len ∧ s5 = .int .i64 k ∧ s4 = .string ⟨l.toArray⟩ ∧ Hid (l.length ≤ 110 * k) ∧ Hid (OutV wr b b p v l) ∧ Hid (Below w.heap.size w wr)) (fun _ s5 _ _ => 40 - (intOf s5).toNat)
  case atStart => exact ⟨0, [], _, _, _, rfl, by omega, by omega, rfl, rfl, by show _ ≤ _; simp, HO3, HB3⟩
  case round =>
    obtain ⟨k, l, p, v, wr, rfl, hk, hkl, rfl, rfl, HL, HO0, HB0⟩ := hrel
    clear HO3 HB3
    by_cases h1 : k < len
    · by_cases h2 : k < 40
      · obtain ⟨bb, off, rfl, hbb, hrows⟩ := hz.out.2 (by omega)
        obtain ⟨x, hx⟩ : ∃ x, ds[k]? = some x := ⟨_, List.getElem?_eq_getElem (by have := hz.out.1; omega)⟩
        have r1 := rangeAt_below (hrows k x hx) HB0.out hbb
        have hxo := hok.out x (List.mem_of_getElem? hx)
        obtain ⟨xk, xn, xs, xa, xb, xc, xd, xf⟩ := x
        obtain ⟨hn, ha, hb, hc, hd⟩ := hxo
        replace hn : I64 xn := hn
        replace ha : Hid (I64 xa) := ha
        replace hb : Hid (I64 xb) := hb
        replace hc : Hid (I64 xc) := hc
        replace hd : Hid (I64 xd) := hd
        have hk1 : (k : Int) < (len : Int) := by omega
        have hk2 : (k : Int) < 40 := by omega
        obtain ⟨X, hX⟩ : ∃ X, X = wr.heap.size := ⟨_, rfl⟩
        obtain ⟨W8, hW8⟩ : ∃ Z : World, Z = wr.alloc (.cells #[.int .i64 xk, .int .i64 xn, .string xs, .int .i64 xa, .int .i64 xb, .int .i64 xc, .int .i64 xd, .bool xf] 45) := ⟨_, rfl⟩
        have HX : Hid (Blk W8 X #[.int .i64 xk, .int .i64 xn, .string xs, .int .i64 xa, .int .i64 xb, .int .i64 xc, .int .i64 xd, .bool xf] 45) := by show Blk _ _ _ _; rw [hW8, hX]; exact Blk.new wr _ _
        have HO : Hid (OutV W8 b b p v l) := by show OutV _ _ _ _ _ _; rw [hW8]; exact HO0.out.below ((Below.refl _ wr).alloc (Nat.le_refl _) _)
        have HB : Hid (Below w.heap.size w W8) := by show Below _ _ _; rw [hW8]; exact HB0.out.alloc HB0.out.size _
        have HXN : Hid (¬ OutF b v X) := fun hf => by
          rcases hf with hf | hf
          · have := HO0.out.lt; omega
          · have := (HO0.out.row.lt X hf).2; omega
        clear hrows hx
        go_upto_region 9 with (refine wpList_load_mid rfl 45 _ rfl bb (off + k * 8) rfl [.int .i64 xk, .int .i64 xn, .string xs, .int .i64 xa, .int .i64 xb, .int .i64 xc, .int .i64 xd, .bool xf] _ r1 Tryd.underlying45 rfl size_wact ?_)
        rw [← hW8, ← hX]
        clear r1 hW8 HO0 HB0 hX
        have g0 := HX.out.cell 0 _ rfl
        have g1 := HX.out.cell 1 _ rfl
        have g2 := HX.out.cell 2 _ rfl
        have g3 := HX.out.cell 3 _ rfl
        have g4 := HX.out.cell 4 _ rfl
        have g5 := HX.out.cell 5 _ rfl
        have g6 := HX.out.cell 6 _ rfl
        have g7 := HX.out.cell 7 _ rfl
        by_cases hs : (100 : Int) < (xs.size : Int)
        · go_wp2_with fail
          go_ret
          exact ⟨rfl, HB.out⟩
        · have hsn : xs.size ≤ 100 := by omega
          by_cases hk1' : xk = 1
          · subst hk1'
            go_wp2_with fail
            refine (oint_c b b p v l xn hn.1 hn.2 W8 HO (by have := HL.out; omega)).mono ?_
            rintro e W9 ⟨rfl, p9, v9, hs9⟩
            have HX9 : Hid (Blk W9 X #[.int .i64 1, .int .i64 xn, .string xs, .int .i64 xa, .int .i64 xb, .int .i64 xc, .int .i64 xd, .bool xf] 45) := hs9.turns.blk HX.out (fun hf => HXN.out hf)
            have HO9 := Lib.hid hs9.out
            have HB9 : Hid (Below w.heap.size w W9) := hs9.below_b HO.out HB.out HWB.out
            clear hs9 HX HXN HO HB g0 g1 g2 g3 g4 g5 g6 g7
            have g1 := HX9.out.cell 1 _ rfl
            have g2 := HX9.out.cell 2 _ rfl
            have g3 := HX9.out.cell 3 _ rfl
            have g4 := HX9.out.cell 4 _ rfl
            have g5 := HX9.out.cell 5 _ rfl
            have g6 := HX9.out.cell 6 _ rfl
            have g7 := HX9.out.cell 7 _ rfl
            go_wp2_with fail
            refine (rint_c xn hn.1 hn.2 W9).mono ?_
            rintro e W10 ⟨rfl, hb10⟩
            have HO10 := Lib.hid (HO9.out.below hb10)
            have HB10 : Hid (Below w.heap.size w W10) := HB9.out.trans (hb10.mono HB9.out.size)
            have hlim : ¬ 9223372036854775807 < l.length + (encI xn).length := by have := HL.out; have := encI_len hn.1 hn.2; omega
            clear hb10 HO9 HB9 HX9 g1 g2 g3 g4 g5 g6 g7
            go_wp2_with fail
            rw [ba_app]
            refine (obytes_c b b p9 v9 _ W10 HO10 (by rw [List.length_append]; have := HL.out; have := encI_len hn.1 hn.2; omega)).mono ?_
            rintro e W11 ⟨rfl, hs11⟩
            have HO11 := Lib.hid hs11.out
            have HB11 : Hid (Below w.heap.size w W11) := hs11.below_b HO10.out HB10.out HWB.out
            clear hs11 HO10 HB10
            go_wp2_with fail
            go_roundw
            case rel => exact ⟨k + 1, _, _, _, _, rfl, by omega, by omega, by go_num, rfl, (by show _ ≤ _; rw [List.length_append]; have := HL.out; have := encI_len hn.1 hn.2; omega), HO11, HB11⟩
            case measure => simp [intOf]; omega
          · have n1 : (xk == 1) = false := by simpa using hk1'
            by_cases hk2' : xk = 2
            · subst hk2'
              go_wp2_with fail
              refine (otext_c b b p v l xs W8 HO (by have := HL.out; omega) (by omega)).mono ?_
              rintro e W9 ⟨rfl, p9, v9, hs9⟩
              have HX9 : Hid (Blk W9 X #[.int .i64 2, .int .i64 xn, .string xs, .int .i64 xa, .int .i64 xb, .int .i64 xc, .int .i64 xd, .bool xf] 45) := hs9.turns.blk HX.out (fun hf => HXN.out hf)
              have HO9 := Lib.hid hs9.out
              have HB9 : Hid (Below w.heap.size w W9) := hs9.below_b HO.out HB.out HWB.out
              clear hs9 HX HXN HO HB g0 g1 g2 g3 g4 g5 g6 g7
              have g1 := HX9.out.cell 1 _ rfl
              have g2 := HX9.out.cell 2 _ rfl
              have g3 := HX9.out.cell 3 _ rfl
              have g4 := HX9.out.cell 4 _ rfl
              have g5 := HX9.out.cell 5 _ rfl
              have g6 := HX9.out.cell 6 _ rfl
              have g7 := HX9.out.cell 7 _ rfl
              go_wp2_with fail
              refine (rtext_c xs (by omega) W9).mono ?_
              rintro e W10 ⟨rfl, hb10⟩
              have HO10 := Lib.hid (HO9.out.below hb10)
              have HB10 : Hid (Below w.heap.size w W10) := HB9.out.trans (hb10.mono HB9.out.size)
              have hlim : ¬ 9223372036854775807 < l.length + (encT xs).length := by have := HL.out; have := encT_len xs (by omega); omega
              clear hb10 HO9 HB9 HX9 g1 g2 g3 g4 g5 g6 g7
              go_wp2_with fail
              rw [ba_app]
              refine (obytes_c b b p9 v9 _ W10 HO10 (by rw [List.length_append]; have := HL.out; have := encT_len xs (by omega); omega)).mono ?_
              rintro e W11 ⟨rfl, hs11⟩
              have HO11 := Lib.hid hs11.out
              have HB11 : Hid (Below w.heap.size w W11) := hs11.below_b HO10.out HB10.out HWB.out
              clear hs11 HO10 HB10
              go_wp2_with fail
              go_roundw
              case rel => exact ⟨k + 1, _, _, _, _, rfl, by omega, by omega, by go_num, rfl, (by show _ ≤ _; rw [List.length_append]; have := HL.out; have := encT_len xs (by omega); omega), HO11, HB11⟩
              case measure => simp [intOf]; omega
            · have n2 : (xk == 2) = false := by simpa using hk2'
              by_cases hk3' : xk = 3
              · subst hk3'
                go_wp2_with fail
                refine (ovec_c b b p v l xa xb xc xd ha hb hc hd W8 HO (by have := HL.out; omega) (Nat.le_of_lt HO.out.lt)).mono ?_
                rintro e W9 ⟨rfl, p9, v9, hs9⟩
                have HX9 : Hid (Blk W9 X #[.int .i64 3, .int .i64 xn, .string xs, .int .i64 xa, .int .i64 xb, .int .i64 xc, .int .i64 xd, .bool xf] 45) := hs9.turns.blk HX.out (fun hf => HXN.out hf)
                have HO9 := Lib.hid hs9.out
                have HB9 : Hid (Below w.heap.size w W9) := hs9.below_b HO.out HB.out HWB.out
                clear hs9 HX HXN HO HB g0 g1 g2 g3 g4 g5 g6 g7
                have g1 := HX9.out.cell 1 _ rfl
                have g2 := HX9.out.cell 2 _ rfl
                have g3 := HX9.out.cell 3 _ rfl
                have g4 := HX9.out.cell 4 _ rfl
                have g5 := HX9.out.cell 5 _ rfl
                have g6 := HX9.out.cell 6 _ rfl
                have g7 := HX9.out.cell 7 _ rfl
                go_wp2_with fail
                refine (rvec_c xa xb xc xd ha hb hc hd W9).mono ?_
                rintro e W10 ⟨rfl, hb10⟩
                have HO10 := Lib.hid (HO9.out.below hb10)
                have HB10 : Hid (Below w.heap.size w W10) := HB9.out.trans (hb10.mono HB9.out.size)
                have hlim : ¬ 9223372036854775807 < l.length + (encV xa xb xc xd).length := by have := HL.out; have := encV_len ha.out hb.out hc.out hd.out; omega
                clear hb10 HO9 HB9 HX9 g1 g2 g3 g4 g5 g6 g7
                go_wp2_with fail
                rw [ba_app]
                refine (obytes_c b b p9 v9 _ W10 HO10 (by rw [List.length_append]; have := HL.out; have := encV_len ha.out hb.out hc.out hd.out; omega)).mono ?_
                rintro e W11 ⟨rfl, hs11⟩
                have HO11 := Lib.hid hs11.out
                have HB11 : Hid (Below w.heap.size w W11) := hs11.below_b HO10.out HB10.out HWB.out
                clear hs11 HO10 HB10
                go_wp2_with fail
                go_roundw
                case rel => exact ⟨k + 1, _, _, _, _, rfl, by omega, by omega, by go_num, rfl, (by show _ ≤ _; rw [List.length_append]; have := HL.out; have := encV_len ha.out hb.out hc.out hd.out; omega), HO11, HB11⟩
                case measure => simp [intOf]; omega
              · have n3 : (xk == 3) = false := by simpa using hk3'
                go_wp2_with fail
                refine (obool_c b b p v l xf W8 HO (by have := HL.out; omega)).mono ?_
                rintro e W9 ⟨rfl, p9, v9, hs9⟩
                have HX9 : Hid (Blk W9 X #[.int .i64 xk, .int .i64 xn, .string xs, .int .i64 xa, .int .i64 xb, .int .i64 xc, .int .i64 xd, .bool xf] 45) := hs9.turns.blk HX.out (fun hf => HXN.out hf)
                have HO9 := Lib.hid hs9.out
                have HB9 : Hid (Below w.heap.size w W9) := hs9.below_b HO.out HB.out HWB.out
                clear hs9 HX HXN HO HB g0 g1 g2 g3 g4 g5 g6 g7
                have g1 := HX9.out.cell 1 _ rfl
                have g2 := HX9.out.cell 2 _ rfl
                have g3 := HX9.out.cell 3 _ rfl
                have g4 := HX9.out.cell 4 _ rfl
                have g5 := HX9.out.cell 5 _ rfl
                have g6 := HX9.out.cell 6 _ rfl
                have g7 := HX9.out.cell 7 _ rfl
                go_wp2_with fail
                refine (rbool_c xf W9).mono ?_
                rintro e W10 ⟨rfl, hb10⟩
                have HO10 := Lib.hid (HO9.out.below hb10)
                have HB10 : Hid (Below w.heap.size w W10) := HB9.out.trans (hb10.mono HB9.out.size)
                have hlim : ¬ 9223372036854775807 < l.length + (encB xf).length := by have := HL.out; have := encB_len xf; omega
                clear hb10 HO9 HB9 HX9 g1 g2 g3 g4 g5 g6 g7
                go_wp2_with fail
                rw [ba_app]
                refine (obytes_c b b p9 v9 _ W10 HO10 (by rw [List.length_append]; have := HL.out; have := encB_len xf; omega)).mono ?_
                rintro e W11 ⟨rfl, hs11⟩
                have HO11 := Lib.hid hs11.out
                have HB11 : Hid (Below w.heap.size w W11) := hs11.below_b HO10.out HB10.out HWB.out
                clear hs11 HO10 HB10
                go_wp2_with fail
                go_roundw
                case rel => exact ⟨k + 1, _, _, _, _, rfl, by omega, by omega, by go_num, rfl, (by show _ ≤ _; rw [List.length_append]; have := HL.out; have := encB_len xf; omega), HO11, HB11⟩
                case measure => simp [intOf]; omega
      · have hk1 : (k : Int) < (len : Int) := by omega
        have hk2 : ¬ (k : Int) < 40 := by omega
        have HB := HB0
        clear HO0 HB0 HL
        go_wp2_with fail
        refine (oint_nil 1 wr).mono ?_
        rintro e y ⟨rfl, rfl⟩
        go_wp2_with fail
        refine (otext_nil _ wr).mono ?_
        rintro e y ⟨rfl, rfl⟩
        go_wp2_with fail
        refine (ovec_nil 0 0 0 0 wr).mono ?_
        rintro e y ⟨rfl, hby⟩
        have HBY : Hid (Below w.heap.size w y) := HB.out.trans (hby.mono HB.out.size)
        clear hby HB
        go_wp2_with fail
        refine (obool_nil true y).mono ?_
        rintro e y2 ⟨rfl, rfl⟩
        go_wp2_with fail
        refine (obytes_nil y).mono ?_
        rintro e y2 ⟨rfl, rfl⟩
        go_wp2_with fail
        go_ret
        exact ⟨rfl, HBY.out⟩
    · have hk1 : ¬ (k : Int) < (len : Int) := by omega
      have HB := HB0
      clear HO0 HB0 HL
      go_wp2_with fail
      refine (oint_nil 1 wr).mono ?_
      rintro e y ⟨rfl, rfl⟩
      go_wp2_with fail
      refine (otext_nil _ wr).mono ?_
      rintro e y ⟨rfl, rfl⟩
      go_wp2_with fail
      refine (ovec_nil 0 0 0 0 wr).mono ?_
      rintro e y ⟨rfl, hby⟩
      have HBY : Hid (Below w.heap.size w y) := HB.out.trans (hby.mono HB.out.size)
      clear hby HB
      go_wp2_with fail
      refine (obool_nil true y).mono ?_
      rintro e y2 ⟨rfl, rfl⟩
      go_wp2_with fail
      refine (obytes_nil y).mono ?_
      rintro e y2 ⟨rfl, rfl⟩
      go_wp2_with fail
      go_ret
      exact ⟨rfl, HBY.out⟩
end Go.Proofs.YtdebldpmloignaaDoor
