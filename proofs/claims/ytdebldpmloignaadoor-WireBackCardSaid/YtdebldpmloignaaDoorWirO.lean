/-
  wire: the law WireBack.
-/
import Derived.Test.YtdebldpmloignaaDoorWirN
import Derived.Test.YtdebldpmloignaaDoorWirL
import Derived.Test.YtdebldpmloignaaDoorWirP2
namespace Go.Proofs.YtdebldpmloignaaDoor
open Go.RowKit
set_option linter.unusedVariables false

theorem OutV.not_low {w : World} {b X : Nat} {p v : Value} {l : List UInt8} (h : OutV w b b p v l) (hX : X < b) : ¬ OutF b v X := fun hf => by
  rcases hf with hf | hf
  · omega
  · have := (h.row.lt X hf).1; omega
theorem vec_range {w : World} {g : Nat} {a b c d : Value} {T : TypeId} (h : Blk w g #[a, b, c, d] T) : w.rangeAt g 0 [a, b, c, d] := fun j v hj => by
  rw [Nat.zero_add]
  exact h.cell j v (by simpa using hj)
theorem encD_len {s : ByteArray} {a b c d z : Int} (hs : s.size ≤ 100) (ha : I64 a) (hb : I64 b) (hc : I64 c) (hd : I64 d) (hz : I64 z) : (encD s a b c d z).length ≤ 170 := by
  have h1 := encI_len hz.1 hz.2
  have h2 := encT_len s (by omega)
  have h3 := encV_len ha hb hc hd
  have h4 := encB_len (decide (0 < z))
  unfold encD
  simp only [List.length_append]
  omega
theorem encA_len {s : ByteArray} {a b c d : Int} (hs : s.size ≤ 100) (ha : I64 a) (hb : I64 b) (hc : I64 c) (hd : I64 d) : ∀ (l : List Int), (∀ z ∈ l, I64 z) → (encA s a b c d l).length ≤ 170 * l.length
  | [], _ => Nat.zero_le _
  | z :: l, h => by
    have h1 := encD_len hs ha hb hc hd (h z (by simp))
    have h2 := encA_len hs ha hb hc hd l (fun x hx => h x (by simp [hx]))
    have h3 : encA s a b c d (z :: l) = encD s a b c d z ++ encA s a b c d l := by simp [encA]
    rw [h3, List.length_append, List.length_cons]
    omega
theorem encN_len : ∀ (l : List Int), (∀ z ∈ l, I64 z) → (encN l).length ≤ 10 * l.length
  | [], _ => Nat.zero_le _
  | z :: l, h => by
    have h1 := encI_len (h z (by simp)).1 (h z (by simp)).2
    have h2 := encN_len l (fun x hx => h x (by simp [hx]))
    have h3 : encN (z :: l) = encI z ++ encN l := by simp [encN]
    rw [h3, List.length_append, List.length_cons]
    omega
theorem same_step_t {zs ys : List Int} {k len len2 : Nat} {z y : Int} (h : true = decide (len = len2 ∧ zs.take k = ys.take k)) (hz : zs[k]? = some z) (hy : ys[k]? = some y) : decide (z = y) = decide (len = len2 ∧ zs.take (k + 1) = ys.take (k + 1)) := by
  obtain ⟨h1, h2⟩ := of_decide_eq_true h.symm
  rw [List.take_add_one, List.take_add_one, hz, hy, h2]
  rw [decide_eq_decide]
  constructor
  · rintro rfl; exact ⟨h1, rfl⟩
  · rintro ⟨_, h3⟩; simpa using h3
theorem same_step_f {zs ys : List Int} {k len len2 : Nat} (h : false = decide (len = len2 ∧ zs.take k = ys.take k)) : false = decide (len = len2 ∧ zs.take (k + 1) = ys.take (k + 1)) := by
  have h0 := of_decide_eq_false h.symm
  symm
  rw [decide_eq_false_iff_not]
  rintro ⟨h1, h2⟩
  refine h0 ⟨h1, ?_⟩
  have := congrArg (List.take k) h2
  rwa [List.take_take, List.take_take, Nat.min_eq_left (by omega)] at this
theorem same_end {zs ys : List Int} {len len2 : Nat} {sm : Bool} (h : sm = decide (len = len2 ∧ zs.take len = ys.take len)) (hz : zs.length = len) (hy : ys.length = len2) : sm = decide (zs = ys) := by
  rw [h, decide_eq_decide]
  constructor
  · rintro ⟨h1, h2⟩
    rwa [List.take_of_length_le (by omega), List.take_of_length_le (by omega)] at h2
  · rintro rfl
    exact ⟨by omega, rfl⟩
set_option maxRecDepth 100000 in
set_option maxHeartbeats 8000000 in
theorem wireBack_walk (E : Nat → Addr) (B : Nat) (A : Option Addr) (len cap : Nat) (zs : List Int) (A2 : Option Addr) (len2 cap2 : Nat) (ys : List Int) (s : ByteArray) (xa xb xc xd : Int) (w : World) (hE : Hid (Env w E B))
    (hzr : Hid (RdInts w w.heap.size A len zs)) (hcap : len ≤ cap) (hcm : cap ≤ maxLen) (hyr : Hid (RdInts w w.heap.size A2 len2 ys)) (hcap2 : len2 ≤ cap2) (hcm2 : cap2 ≤ maxLen)
    (hzs : Hid (∀ z ∈ zs, I64 z)) (hys : Hid (∀ z ∈ ys, I64 z)) (ha : Hid (I64 xa)) (hb : Hid (I64 xb)) (hc : Hid (I64 xc)) (hd : Hid (I64 xd)) :
    Calls Tryd.prog 6 #[.slice A len cap, .slice A2 len2 cap2, .string s, vecV xa xb xc xd] w fun e w' => e = .returned (.bool true) ∧ Below w.heap.size w w' := by
  have hlM : (len : Int) ≤ 9223372036854775807 := by unfold maxLen at hcm; omega
  have hlM2 : (len2 : Int) ≤ 9223372036854775807 := by unfold maxLen at hcm2; omega
  by_cases hbig : 40 < len ∨ 40 < len2 ∨ 100 < s.size
  · have hway : (40 : Int) < (len : Int) ∨ (¬ (40 : Int) < (len : Int) ∧ (40 : Int) < (len2 : Int)) ∨ (¬ (40 : Int) < (len : Int) ∧ ¬ (40 : Int) < (len2 : Int) ∧ (100 : Int) < (s.size : Int)) := by omega
    clear hbig
    have HAW := Lib.hid (fun (u0 : World) (hb : Below w.heap.size w u0) => awake03_c E B u0 (Lib.hid (hE.out.below (hb.mono hE.out.low))))
    have HBU : Hid (Below w.heap.size w (w.alloc (.cells #[.int .i64 xa, .int .i64 xb, .int .i64 xc, .int .i64 xd] 43))) := (Below.refl _ w).alloc (Nat.le_refl _) _
    unfold vecV
    rcases hway with h1 | ⟨h1, h2⟩ | ⟨h1, h2, h3⟩
    all_goals
      go_enter Tryd.func6, Tryd.ntmps6
      go_wp2_with fail
      refine (HAW.out _ HBU.out).mono ?_
      rintro e u1 ⟨rfl, hb1⟩
      have HB1 : Hid (Below w.heap.size w u1) := HBU.out.trans (hb1.mono HBU.out.size)
      clear hb1
      go_wp2_with fail
      go_ret
      exact ⟨rfl, HB1.out⟩
  · obtain ⟨g1, g2, g3⟩ : len ≤ 40 ∧ len2 ≤ 40 ∧ s.size ≤ 100 := by omega
    have t1 : ¬ (40 : Int) < (len : Int) := by omega
    have t2 : ¬ (40 : Int) < (len2 : Int) := by omega
    have t3 : ¬ (100 : Int) < (s.size : Int) := by omega
    clear hbig
    unfold vecV
    go_enter Tryd.func6, Tryd.ntmps6
    go_wp2_with fail
    obtain ⟨u0, hu0⟩ : ∃ u0, u0 = w.alloc (.cells #[.int .i64 xa, .int .i64 xb, .int .i64 xc, .int .i64 xd] 43) := ⟨_, rfl⟩
    have HXu : Hid (Blk u0 w.heap.size #[.int .i64 xa, .int .i64 xb, .int .i64 xc, .int .i64 xd] 43) := by show Blk _ _ _ _; rw [hu0]; exact Blk.new w _ _
    have HBu : Hid (Below w.heap.size w u0) := by show Below _ _ _; rw [hu0]; exact (Below.refl _ w).alloc (Nat.le_refl _) _
    rw [← hu0]
    refine (awake03_c E B u0 (Lib.hid (hE.out.below (HBu.out.mono hE.out.low)))).mono ?_
    rintro e u1 ⟨rfl, hb1⟩
    have HX1 := Lib.hid (HXu.out.below hb1)
    have HB1 : Hid (Below w.heap.size w u1) := HBu.out.trans (hb1.mono HBu.out.size)
    have HXW : Hid (w.heap.size < u1.heap.size) := HX1.out.lt
    clear hb1 HXu HBu hu0
    go_wp2_with fail
    obtain ⟨b, hbb⟩ : ∃ b, b = u1.heap.size := ⟨_, rfl⟩
    obtain ⟨u2, hu2⟩ : ∃ u2, u2 = u1.alloc (.cells #[.pointer none, .slice none 0 0] 31) := ⟨_, rfl⟩
    obtain ⟨c, hcc⟩ : ∃ c, c = b + 1 := ⟨_, rfl⟩
    obtain ⟨u3, hu3⟩ : ∃ u3, u3 = u2.alloc (.cells #[.pointer none, .slice none 0 0] 31) := ⟨_, rfl⟩
    have hu2s : u2.heap.size = c := by rw [hu2, hcc, hbb]; simp
    have HO3 : Hid (OutV u3 b b (.pointer none) (.slice none 0 0) []) := by
      show OutV _ _ _ _ _ _
      rw [hu3, hbb]
      refine OutV.below ?_ ((Below.refl _ u2).alloc (Nat.le_refl _) _)
      rw [hu2]
      exact OutV.fresh u1
    have HP3 : Hid (OutV u3 c c (.pointer none) (.slice none 0 0) []) := by
      show OutV _ _ _ _ _ _
      rw [hu3, ← hu2s]
      exact OutV.fresh u2
    have hb3 : Below u1.heap.size u1 u3 := by rw [hu3, hu2]; exact ((Below.refl _ u1).alloc (Nat.le_refl _) _).alloc (by simp) _
    have HB3 : Hid (Below w.heap.size w u3) := HB1.out.trans (hb3.mono HB1.out.size)
    have HX3 := Lib.hid (HX1.out.below hb3)
    have HXB : Hid (w.heap.size < b) := by show _ < _; rw [hbb]; exact HXW.out
    have HWB : Hid (w.heap.size ≤ b) := by show _ ≤ _; rw [hbb]; exact HB1.out.size
    have HWC : Hid (w.heap.size ≤ c) := by have := HWB.out; show _ ≤ _; omega
    have HXC : Hid (w.heap.size < c) := by have := HXB.out; show _ < _; omega
    have HA3 : Hid (Apart b (.slice none 0 0) c (.slice none 0 0)) := fun k h1 h2 => by
      rcases h1 with h1 | h1
      · rcases h2 with h2 | h2
        · omega
        · simp [Value.ownBlock] at h2
      · simp [Value.ownBlock] at h1
    rw [← hbb, ← hcc, ← hu2, ← hu3]
    clear hbb hcc hu2 hu3 hb3 hu2s HB1 HX1
    go_loopw [11] (fun s11 wx => ∃ (k : Nat) (v0p v0 : Value) (W0 : World), W0 = wx ∧ k ≤ len ∧ s11 = .int .i64 k ∧ Hid (OutV W0 b b v0p v0 (encA s xa xb xc xd (zs.take k))) ∧ Hid (OutV W0 c c (.pointer none) (.slice none 0 0) []) ∧ Hid (Apart b v0 c (.slice none 0 0)) ∧ Hid (Blk W0 w.heap.size #[.int .i64 xa, .int .i64 xb, .int .i64 xc, .int .i64 xd] 43) ∧ Hid (Below w.heap.size w W0)) (fun s11 _ => len - (intOf s11).toNat)
    case atStart => exact ⟨0, _, _, _, rfl, by omega, rfl, HO3, HP3, HA3, HX3, HB3⟩
    case round =>
      obtain ⟨k, v0p, v0, W0, rfl, hk, rfl, HO0, HP0, HA0, HX0, HB0⟩ := hrel
      by_cases hkl : k < len
      · obtain ⟨ab, ao, rfl, hablt, hzc⟩ := hzr.out.2 (by omega)
        obtain ⟨z, hz⟩ : ∃ z, zs[k]? = some z := ⟨_, List.getElem?_eq_getElem (by have := hzr.out.1; omega)⟩
        have hcz : w.cell? ⟨ab, ao + k, none⟩ = some (.int .i64 z) := by have := hzc k hkl; rwa [List.getD_eq_getElem?_getD, hz] at this
        have hzb := hzs.out z (List.mem_of_getElem? hz)
        have HL : Hid ((encA s xa xb xc xd (zs.take k)).length ≤ 6800) := by
          have := encA_len (s := s) g3 ha.out hb.out hc.out hd.out (zs.take k) (fun x hx => hzs.out x (List.mem_of_mem_take hx))
          rw [List.length_take] at this
          show _ ≤ _
          omega
        have LZ := Lib.hid (encI_len hzb.1 hzb.2)
        have LT := Lib.hid (encT_len s (by omega))
        have LV := Lib.hid (encV_len ha.out hb.out hc.out hd.out)
        have hkl' : (k : Int) < (len : Int) := by omega
        clear hzc HO3 HP3 HA3 HX3 HB3
        have cz := (HB0.out.cell (p := ⟨ab, ao + k, none⟩) hablt).trans hcz
        go_wp2_with fail
        refine (oint_c b b v0p v0 _ z hzb.1 hzb.2 W0 HO0 (by have := HL.out; omega)).mono ?_
        rintro e W1 ⟨rfl, p1, v1, hs⟩
        have HP1 := Lib.hid (HP0.out.other hs HA0.out)
        have HA1 := Lib.hid (HA0.out.step HP0.out hs)
        have HX1 := Lib.hid (hs.turns.blk HX0.out (OutV.not_low HO0.out HXB.out))
        have HB1 := Lib.hid (hs.below_b HO0.out HB0.out HWB.out)
        have HO1 := Lib.hid hs.out
        clear hs HP0 HA0 HX0 HO0 HB0
        clear cz
        go_wp2_with fail
        refine (otext_c b b p1 v1 _ s W1 HO1 (by simp only [List.length_append]; have := HL.out; have := LZ.out; omega) (by omega)).mono ?_
        rintro e W2 ⟨rfl, p2, v2, hs⟩
        have HP2 := Lib.hid (HP1.out.other hs HA1.out)
        have HA2 := Lib.hid (HA1.out.step HP1.out hs)
        have HX2 := Lib.hid (hs.turns.blk HX1.out (OutV.not_low HO1.out HXB.out))
        have HB2 := Lib.hid (hs.below_b HO1.out HB1.out HWB.out)
        have HO2 := Lib.hid hs.out
        clear hs HP1 HA1 HX1 HO1 HB1
        have y0 := HX2.out.cell 0 _ rfl
        have y1 := HX2.out.cell 1 _ rfl
        have y2 := HX2.out.cell 2 _ rfl
        have y3 := HX2.out.cell 3 _ rfl
        go_wp2_with fail
        refine (ovec_c b b p2 v2 _ xa xb xc xd ha hb hc hd W2 HO2 (by simp only [List.length_append]; have := HL.out; have := LZ.out; have := LT.out; omega) (Nat.le_of_lt HO2.out.lt)).mono ?_
        rintro e W3 ⟨rfl, p3, v3, hs⟩
        have HP3 := Lib.hid (HP2.out.other hs HA2.out)
        have HA3 := Lib.hid (HA2.out.step HP2.out hs)
        have HX3 := Lib.hid (hs.turns.blk HX2.out (OutV.not_low HO2.out HXB.out))
        have HB3 := Lib.hid (hs.below_b HO2.out HB2.out HWB.out)
        have HO3 := Lib.hid hs.out
        clear hs HP2 HA2 HX2 HO2 HB2
        clear y0 y1 y2 y3
        have cz := (HB3.out.cell (p := ⟨ab, ao + k, none⟩) hablt).trans hcz
        go_wp2_with fail
        refine (obool_c b b p3 v3 _ (decide (0 < z)) W3 HO3 (by simp only [List.length_append]; have := HL.out; have := LZ.out; have := LT.out; have := LV.out; omega)).mono ?_
        rintro e W4 ⟨rfl, p4, v4, hs⟩
        have HP4 := Lib.hid (HP3.out.other hs HA3.out)
        have HA4 := Lib.hid (HA3.out.step HP3.out hs)
        have HX4 := Lib.hid (hs.turns.blk HX3.out (OutV.not_low HO3.out HXB.out))
        have HB4 := Lib.hid (hs.below_b HO3.out HB3.out HWB.out)
        have HO4 := Lib.hid hs.out
        clear hs HP3 HA3 HX3 HO3 HB3
        clear cz
        go_wp2_with fail
        go_roundw
        case rel => exact ⟨k + 1, _, _, _, rfl, by omega, by go_num, (by show OutV _ _ _ _ _ _; rw [encA_take hz]; unfold encD; simp only [← List.append_assoc]; exact HO4.out), HP4, HA4, HX4, HB4⟩
        case measure => simp [intOf]; omega
      · have hkl' : ¬ (k : Int) < (len : Int) := by omega
        obtain rfl : len = k := by omega
        have hall : zs.take len = zs := List.take_of_length_le (by have := hzr.out.1; omega)
        rw [hall] at HO0
        clear HO3 HP3 HA3 HX3 HB3 hall
        go_wp2_with fail
        go_loopw [12] (fun s12 wx => ∃ (j : Nat) (v1p v1 : Value) (W1 : World), W1 = wx ∧ j ≤ len2 ∧ s12 = .int .i64 j ∧ Hid (OutV W1 c c v1p v1 (encN (ys.take j))) ∧ Hid (OutV W1 b b v0p v0 (encA s xa xb xc xd zs)) ∧ Hid (Apart c v1 b v0) ∧ Hid (Blk W1 w.heap.size #[.int .i64 xa, .int .i64 xb, .int .i64 xc, .int .i64 xd] 43) ∧ Hid (Below w.heap.size w W1)) (fun s12 _ => len2 - (intOf s12).toNat)
        case atStart => exact ⟨0, _, _, _, rfl, by omega, rfl, HP0, HO0, HA0.out.symm, HX0, HB0⟩
        case round =>
          clear HO0 HP0 HA0 HX0 HB0
          obtain ⟨j, v1p, v1, W0, rfl, hj, rfl, HO0, HP0, HA0, HX0, HB0⟩ := hrel
          by_cases hjl : j < len2
          · obtain ⟨bb, bo, rfl, hbblt, hyc⟩ := hyr.out.2 (by omega)
            obtain ⟨y, hy⟩ : ∃ y, ys[j]? = some y := ⟨_, List.getElem?_eq_getElem (by have := hyr.out.1; omega)⟩
            have hcy : w.cell? ⟨bb, bo + j, none⟩ = some (.int .i64 y) := by have := hyc j hjl; rwa [List.getD_eq_getElem?_getD, hy] at this
            have hyb := hys.out y (List.mem_of_getElem? hy)
            have HL : Hid ((encN (ys.take j)).length ≤ 400) := by
              have := encN_len (ys.take j) (fun x hx => hys.out x (List.mem_of_mem_take hx))
              rw [List.length_take] at this
              show _ ≤ _
              omega
            have hjl' : (j : Int) < (len2 : Int) := by omega
            clear hyc
            have cy := (HB0.out.cell (p := ⟨bb, bo + j, none⟩) hbblt).trans hcy
            go_wp2_with fail
            refine (oint_c c c v1p v1 _ y hyb.1 hyb.2 W0 HO0 (by have := HL.out; omega)).mono ?_
            rintro e W1 ⟨rfl, p1, v1, hs⟩
            have HP1 := Lib.hid (HP0.out.other hs HA0.out)
            have HA1 := Lib.hid (HA0.out.step HP0.out hs)
            have HX1 := Lib.hid (hs.turns.blk HX0.out (OutV.not_low HO0.out HXC.out))
            have HB1 := Lib.hid (hs.below_b HO0.out HB0.out HWC.out)
            have HO1 := Lib.hid hs.out
            clear hs HP0 HA0 HX0 HO0 HB0
            clear cy
            go_wp2_with fail
            go_roundw
            case rel => exact ⟨j + 1, _, _, _, rfl, by omega, by go_num, (by show OutV _ _ _ _ _ _; rw [encN_take hy]; exact HO1.out), HP1, HA1, HX1, HB1⟩
            case measure => simp [intOf]; omega
          · have hjl' : ¬ (j : Int) < (len2 : Int) := by omega
            obtain rfl : len2 = j := by omega
            have hall : ys.take len2 = ys := List.take_of_length_le (by have := hyr.out.1; omega)
            rw [hall] at HO0
            have HLA : Hid ((encA s xa xb xc xd zs).length ≤ 6800) := by
              have := encA_len (s := s) g3 ha.out hb.out hc.out hd.out zs hzs.out
              rw [hzr.out.1] at this
              show _ ≤ _
              omega
            clear hall
            go_wp2_with fail
            refine (obytes_c b b v0p v0 _ W0 HP0 (by have := HLA.out; omega)).mono ?_
            rintro e W1 ⟨rfl, hs⟩
            have HO1 := Lib.hid (HO0.out.other hs HA0.out.symm)
            have HX1 := Lib.hid (hs.turns.blk HX0.out (OutV.not_low HP0.out HXB.out))
            have HB1 := Lib.hid (hs.below_b HP0.out HB0.out HWB.out)
            obtain ⟨S, hS⟩ : ∃ S : ByteArray, S = ⟨(encA s xa xb xc xd zs).toArray⟩ := ⟨_, rfl⟩
            have HSD : Hid (S.data.toList = encA s xa xb xc xd zs) := by show _ = _; rw [hS]
            have HSZ : Hid (S.size ≤ 6800) := by
              have h1 : S.size = (encA s xa xb xc xd zs).length := by rw [hS]; simp [ByteArray.size]
              have := HLA.out
              show _ ≤ _
              omega
            rw [← hS]
            clear hs HO0 HX0 HB0 HP0 HA0 hS
            go_wp2_with fail
            refine (of_c E S W1).mono ?_
            rintro e W2 ⟨rfl, hi2, hb2⟩
            obtain ⟨q, hq⟩ : ∃ q, q = W1.heap.size := ⟨_, rfl⟩
            rw [← hq] at hi2 ⊢
            have HNQ : Hid (¬ OutF c v1 q) := fun hf => by
              rcases hf with hf | hf
              · have := HO1.out.lt; omega
              · have := (HO1.out.row.lt q hf).2; omega
            have HWQ : Hid (w.heap.size < q) := by have := HX1.out.lt; show _ < _; omega
            have HI2 := Lib.hid hi2
            have HO2 := Lib.hid (HO1.out.below hb2)
            have HX2 := Lib.hid (HX1.out.below hb2)
            have HB2 : Hid (Below w.heap.size w W2) := HB1.out.trans (hb2.mono HB1.out.size)
            clear hi2 hb2 hq HO1 HX1 HB1
            go_wp2_with fail
            go_loopw [14] (fun s14 wx => ∃ (k pos : Nat) (W0 : World), W0 = wx ∧ k ≤ len ∧ s14 = .int .i64 k ∧ Hid (S.data.toList.drop pos = encA s xa xb xc xd (zs.drop k)) ∧ Hid (InV W0 E q S pos .nilIface none) ∧ Hid (OutV W0 c c v1p v1 (encN ys)) ∧ Hid (Blk W0 w.heap.size #[.int .i64 xa, .int .i64 xb, .int .i64 xc, .int .i64 xd] 43) ∧ Hid (Below w.heap.size w W0)) (fun s14 _ => len - (intOf s14).toNat)
            case atStart => exact ⟨0, 0, _, rfl, by omega, rfl, (by show _ = _; rw [List.drop_zero, List.drop_zero]; exact HSD.out), HI2, HO2, HX2, HB2⟩
            case round =>
              obtain ⟨k, pos, W0, rfl, hk, rfl, HRD, HI0, HO0, HX0, HB0⟩ := hrel
              clear HI2 HO2 HX2 HB2
              have HSM : Hid (S.size ≤ 1000000) := Nat.le_trans HSZ.out (by decide)
              have HENV : Hid (∀ w', Below w.heap.size w w' → Hid (ErrForm w' E)) := fun w' hb => (hE.out.below (hb.mono hE.out.low)).form
              by_cases hkl : k < len
              · obtain ⟨ab, ao, rfl, hablt, hzc⟩ := hzr.out.2 (by omega)
                obtain ⟨z, hz⟩ : ∃ z, zs[k]? = some z := ⟨_, List.getElem?_eq_getElem (by have := hzr.out.1; omega)⟩
                have hcz : w.cell? ⟨ab, ao + k, none⟩ = some (.int .i64 z) := by have := hzc k hkl; rwa [List.getD_eq_getElem?_getD, hz] at this
                have hzb := hzs.out z (List.mem_of_getElem? hz)
                have hkl' : (k : Int) < (len : Int) := by omega
                have hrd := HRD.out
                rw [encA_drop hz] at hrd
                unfold encD at hrd
                simp only [List.append_assoc] at hrd
                obtain ⟨q1, hrd⟩ := rdI_at hrd hzb
                obtain ⟨pos1, hp1⟩ : ∃ p, p = pos + (encI z).length := ⟨_, rfl⟩
                rw [← hp1] at q1 hrd
                obtain ⟨q2, hrd⟩ := rdT_at hrd (by omega)
                obtain ⟨pos2, hp2⟩ : ∃ p, p = pos1 + (encT s).length := ⟨_, rfl⟩
                rw [← hp2] at q2 hrd
                obtain ⟨q3, hrd⟩ := rdV_at hrd ha.out hb.out hc.out hd.out
                obtain ⟨pos3, hp3⟩ : ∃ p, p = pos2 + (encV xa xb xc xd).length := ⟨_, rfl⟩
                rw [← hp3] at q3 hrd
                obtain ⟨q4, hrd⟩ := rdB_at hrd
                obtain ⟨pos4, hp4⟩ : ∃ p, p = pos3 + (encB (decide (0 < z))).length := ⟨_, rfl⟩
                rw [← hp4] at q4 hrd
                have HRD4 := Lib.hid hrd
                have HC1 : Hid (∀ W, InV W E q S pos .nilIface none → Hid (ErrForm W E) → Calls Tryd.prog 17 #[.pointer (some ⟨q, 0, none⟩)] W (IntQ W E q S (z, (pos1, none)))) := fun W hi he => by rw [← q1]; exact iint_c E q S pos .nilIface none W hi HSM.out he
                have HC2 : Hid (∀ W, InV W E q S pos1 .nilIface none → Hid (ErrForm W E) → Calls Tryd.prog 24 #[.pointer (some ⟨q, 0, none⟩), .int .i64 s.size] W (TextQ W E q S (s, (pos2, none)))) := fun W hi he => by rw [← q2]; exact itext_c E q S pos1 .nilIface none s.size W hi HSM.out he
                have HC3 : Hid (∀ W, InV W E q S pos2 .nilIface none → Hid (ErrForm W E) → Calls Tryd.prog 26 #[.pointer (some ⟨q, 0, none⟩)] W (VecQ W E q S ((xa, xb, xc, xd), (pos3, none)))) := fun W hi he => by rw [← q3]; exact ivec_c E q S pos2 .nilIface none W hi HSM.out he
                have HC4 : Hid (∀ W, InV W E q S pos3 .nilIface none → Hid (ErrForm W E) → Calls Tryd.prog 28 #[.pointer (some ⟨q, 0, none⟩)] W (BoolQ W E q S (decide (0 < z), (pos4, none)))) := fun W hi he => by rw [← q4]; exact ibool_c E q S pos3 .nilIface none W hi HSM.out he
                have cz := (HB0.out.cell (p := ⟨ab, ao + k, none⟩) hablt).trans hcz
                have rX := vec_range HX0.out
                have vn := vec_eq_self xa xb xc xd
                have vg := vecGuard
                clear hzc hp1 hp2 hp3 hp4 q1 q2 q3 q4 hrd
                go_wp2_with fail
                refine wp_region_noPanic ?_
                refine wp_region_held_drew (S := (fun w' => w'.cell? ⟨ab, ao + k, none⟩ = some (.int .i64 z) ∧ w'.rangeAt w.heap.size 0 [.int .i64 xa, .int .i64 xb, .int .i64 xc, .int .i64 xd])) (by kernel_rfl) ⟨cz, rX⟩ (fun hHeld => ?_)
                have HI := HI0.out.drew
                have HO := HO0.out.drew
                have HX : Blk W0.drew w.heap.size #[.int .i64 xa, .int .i64 xb, .int .i64 xc, .int .i64 xd] 43 := HX0.out
                have HB : Below w.heap.size w W0.drew := ⟨HB0.out.os, HB0.out.tape, HB0.out.output, HB0.out.size, HB0.out.block⟩
                refine wpAnyH_take (i := 0) (v := ?_) rfl (by kernel_rfl) (by kernel_rfl) (by kernel_rfl) (fun _ _ _ h => h) (Or.inl ⟨by rfl, ?_⟩) hHeld ?_
                rotate_left
                focus
                  intro w hSw
                  clear hSw
                  go_simp
                  try with_reducible rfl
                try simp only [Act.put, List.getElem_toArray, List.getElem_cons_zero, List.getElem_cons_succ, List.setIfInBounds_toArray, List.set_cons_zero, List.set_cons_succ]
                refine wpAnyH_take (i := 2) (v := ?_) rfl (by kernel_rfl) (by kernel_rfl) (by kernel_rfl) (fun _ _ _ h => h) (Or.inl ⟨by rfl, ?_⟩) hHeld ?_
                rotate_left
                focus
                  intro w hSw
                  clear hSw
                  go_simp
                  try with_reducible rfl
                try simp only [Act.put, List.getElem_toArray, List.getElem_cons_zero, List.getElem_cons_succ, List.setIfInBounds_toArray, List.set_cons_zero, List.set_cons_succ]
                refine wpAnyH_take (i := 3) (v := ?_) rfl (by kernel_rfl) (by kernel_rfl) (by kernel_rfl) (fun _ _ _ h => h) (Or.inl ⟨by rfl, ?_⟩) hHeld ?_
                rotate_left
                focus
                  intro w hSw
                  clear hSw
                  go_simp
                  try with_reducible rfl
                try simp only [Act.put, List.getElem_toArray, List.getElem_cons_zero, List.getElem_cons_succ, List.setIfInBounds_toArray, List.set_cons_zero, List.set_cons_succ]
                refine wpAnyH_take (i := 4) (v := ?_) rfl (by kernel_rfl) (by kernel_rfl) (by kernel_rfl) (fun _ _ _ h => h) (Or.inl ⟨by rfl, ?_⟩) hHeld ?_
                rotate_left
                focus
                  intro w hSw
                  clear hSw
                  go_simp
                  try with_reducible rfl
                try simp only [Act.put, List.getElem_toArray, List.getElem_cons_zero, List.getElem_cons_succ, List.setIfInBounds_toArray, List.set_cons_zero, List.set_cons_succ]
                refine wpAnyH_take (i := 5) (v := ?_) rfl (by kernel_rfl) (by kernel_rfl) (by kernel_rfl) (fun _ _ _ h => h) (Or.inl ⟨by rfl, ?_⟩) hHeld ?_
                rotate_left
                focus
                  intro w hSw
                  (try dsimp only at hSw)
                  go_simp
                  try with_reducible rfl
                try simp only [Act.put, List.getElem_toArray, List.getElem_cons_zero, List.getElem_cons_succ, List.setIfInBounds_toArray, List.set_cons_zero, List.set_cons_succ]
                refine wpAnyH_ready (rs := [1]) (by kernel_rfl) (by simp) ?_
                refine AllReadyH.cons rfl (fun K hK => ?_) AllReadyH.nil
                go_simp
                refine (HC1.out _ HI (HENV.out _ HB)).mono ?_
                rintro e y ⟨rfl, ⟨er, hi⟩, ht⟩
                obtain rfl := hi.er_nil
                have HI := hi
                have HO := HO.turns ht (fun k' hk' e => HNQ.out (e ▸ hk'))
                have HX := ht.blk HX (fun e => by have := HWQ.out; omega)
                have HB := HB.trans (ht.below HB.size (fun k' hk' => by have := HWQ.out; omega))
                have cz := (HB.cell (p := ⟨ab, ao + k, none⟩) hablt).trans hcz
                have rX := vec_range HX
                clear hi ht
                refine hK.out _ _ ⟨cz, rX⟩ (fun hHeld => ?_)
                clear hK K
                try simp only [Act.put, List.getElem_toArray, List.getElem_cons_zero, List.getElem_cons_succ, List.setIfInBounds_toArray, List.set_cons_zero, List.set_cons_succ]
                refine wpAnyH_take (i := 6) (v := ?_) rfl (by kernel_rfl) (by kernel_rfl) (by kernel_rfl) (fun _ _ _ h => h) (Or.inl ⟨by rfl, ?_⟩) hHeld ?_
                rotate_left
                focus
                  intro w hSw
                  clear hSw
                  go_simp
                  try with_reducible rfl
                try simp only [Act.put, List.getElem_toArray, List.getElem_cons_zero, List.getElem_cons_succ, List.setIfInBounds_toArray, List.set_cons_zero, List.set_cons_succ]
                refine wpAnyH_take (i := 7) (v := ?_) rfl (by kernel_rfl) (by kernel_rfl) (by kernel_rfl) (fun _ _ _ h => h) (Or.inl ⟨by rfl, ?_⟩) hHeld ?_
                rotate_left
                focus
                  intro w hSw
                  clear hSw
                  go_simp
                  try with_reducible rfl
                try simp only [Act.put, List.getElem_toArray, List.getElem_cons_zero, List.getElem_cons_succ, List.setIfInBounds_toArray, List.set_cons_zero, List.set_cons_succ]
                refine wpAnyH_take (i := 8) (v := ?_) rfl (by kernel_rfl) (by kernel_rfl) (by kernel_rfl) (fun _ _ _ h => h) (Or.inl ⟨by rfl, ?_⟩) hHeld ?_
                rotate_left
                focus
                  intro w hSw
                  clear hSw
                  go_simp
                  try with_reducible rfl
                try simp only [Act.put, List.getElem_toArray, List.getElem_cons_zero, List.getElem_cons_succ, List.setIfInBounds_toArray, List.set_cons_zero, List.set_cons_succ]
                refine wpAnyH_take (i := 9) (v := ?_) rfl (by kernel_rfl) (by kernel_rfl) (by kernel_rfl) (fun _ _ _ h => h) (Or.inl ⟨by rfl, ?_⟩) hHeld ?_
                rotate_left
                focus
                  intro w hSw
                  clear hSw
                  go_simp
                  try with_reducible rfl
                try simp only [Act.put, List.getElem_toArray, List.getElem_cons_zero, List.getElem_cons_succ, List.setIfInBounds_toArray, List.set_cons_zero, List.set_cons_succ]
                refine wpAnyH_take (i := 10) (v := ?_) rfl (by kernel_rfl) (by kernel_rfl) (by kernel_rfl) (fun _ _ _ h => h) (Or.inl ⟨by rfl, ?_⟩) hHeld ?_
                rotate_left
                focus
                  intro w hSw
                  clear hSw
                  go_simp
                  try with_reducible rfl
                try simp only [Act.put, List.getElem_toArray, List.getElem_cons_zero, List.getElem_cons_succ, List.setIfInBounds_toArray, List.set_cons_zero, List.set_cons_succ]
                refine wpAnyH_take (i := 12) (v := ?_) rfl (by kernel_rfl) (by kernel_rfl) (by kernel_rfl) (fun _ _ _ h => h) (Or.inl ⟨by rfl, ?_⟩) hHeld ?_
                rotate_left
                focus
                  intro w hSw
                  clear hSw
                  go_simp
                  try with_reducible rfl
                try simp only [Act.put, List.getElem_toArray, List.getElem_cons_zero, List.getElem_cons_succ, List.setIfInBounds_toArray, List.set_cons_zero, List.set_cons_succ]
                refine wpAnyH_ready (rs := [11]) (by kernel_rfl) (by simp) ?_
                refine AllReadyH.cons rfl (fun K hK => ?_) AllReadyH.nil
                go_simp
                refine (HC2.out _ HI (HENV.out _ HB)).mono ?_
                rintro e y ⟨rfl, ⟨er, hi⟩, ht⟩
                obtain rfl := hi.er_nil
                have HI := hi
                have HO := HO.turns ht (fun k' hk' e => HNQ.out (e ▸ hk'))
                have HX := ht.blk HX (fun e => by have := HWQ.out; omega)
                have HB := HB.trans (ht.below HB.size (fun k' hk' => by have := HWQ.out; omega))
                have cz := (HB.cell (p := ⟨ab, ao + k, none⟩) hablt).trans hcz
                have rX := vec_range HX
                clear hi ht
                refine hK.out _ _ ⟨cz, rX⟩ (fun hHeld => ?_)
                clear hK K
                try simp only [Act.put, List.getElem_toArray, List.getElem_cons_zero, List.getElem_cons_succ, List.setIfInBounds_toArray, List.set_cons_zero, List.set_cons_succ]
                refine wpAnyH_take (i := 13) (v := ?_) rfl (by kernel_rfl) (by kernel_rfl) (by kernel_rfl) (fun _ _ _ h => h) (Or.inl ⟨by rfl, ?_⟩) hHeld ?_
                rotate_left
                focus
                  intro w hSw
                  clear hSw
                  go_simp
                  try with_reducible rfl
                try simp only [Act.put, List.getElem_toArray, List.getElem_cons_zero, List.getElem_cons_succ, List.setIfInBounds_toArray, List.set_cons_zero, List.set_cons_succ]
                refine wpAnyH_take (i := 14) (v := ?_) rfl (by kernel_rfl) (by kernel_rfl) (by kernel_rfl) (fun _ _ _ h => h) (Or.inl ⟨by rfl, ?_⟩) hHeld ?_
                rotate_left
                focus
                  intro w hSw
                  clear hSw
                  go_simp
                  try with_reducible rfl
                try simp only [Act.put, List.getElem_toArray, List.getElem_cons_zero, List.getElem_cons_succ, List.setIfInBounds_toArray, List.set_cons_zero, List.set_cons_succ]
                refine wpAnyH_take (i := 15) (v := ?_) rfl (by kernel_rfl) (by kernel_rfl) (by kernel_rfl) (fun _ _ _ h => h) (Or.inl ⟨by rfl, ?_⟩) hHeld ?_
                rotate_left
                focus
                  intro w hSw
                  clear hSw
                  go_simp
                  try with_reducible rfl
                try simp only [Act.put, List.getElem_toArray, List.getElem_cons_zero, List.getElem_cons_succ, List.setIfInBounds_toArray, List.set_cons_zero, List.set_cons_succ]
                refine wpAnyH_take (i := 16) (v := ?_) rfl (by kernel_rfl) (by kernel_rfl) (by kernel_rfl) (fun _ _ _ h => h) (Or.inl ⟨by rfl, ?_⟩) hHeld ?_
                rotate_left
                focus
                  intro w hSw
                  clear hSw
                  go_simp
                  try with_reducible rfl
                try simp only [Act.put, List.getElem_toArray, List.getElem_cons_zero, List.getElem_cons_succ, List.setIfInBounds_toArray, List.set_cons_zero, List.set_cons_succ]
                refine wpAnyH_take (i := 18) rfl (by kernel_rfl) (by kernel_rfl) (by kernel_rfl) (fun _ _ _ h => h) (yieldsIf_load_mid (by rfl) 43 _ rfl w.heap.size (0) rfl [.int .i64 xa, .int .i64 xb, .int .i64 xc, .int .i64 xd] _ (fun w h => h.2) Tryd.underlying43 rfl sizeVec) hHeld ?_
                try simp only [Act.put, List.getElem_toArray, List.getElem_cons_zero, List.getElem_cons_succ, List.setIfInBounds_toArray, List.set_cons_zero, List.set_cons_succ]
                refine wpAnyH_ready (rs := [17]) (by kernel_rfl) (by simp) ?_
                refine AllReadyH.cons rfl (fun K hK => ?_) AllReadyH.nil
                go_simp
                refine (HC3.out _ HI (HENV.out _ HB)).mono ?_
                rintro e y ⟨rfl, ⟨er, hi⟩, ht⟩
                obtain rfl := hi.er_nil
                have HI := hi
                have HO := HO.turns ht (fun k' hk' e => HNQ.out (e ▸ hk'))
                have HX := ht.blk HX (fun e => by have := HWQ.out; omega)
                have HB := HB.trans (ht.below HB.size (fun k' hk' => by have := HWQ.out; omega))
                have cz := (HB.cell (p := ⟨ab, ao + k, none⟩) hablt).trans hcz
                have rX := vec_range HX
                clear hi ht
                unfold vecV
                refine hK.out _ _ ⟨cz, rX⟩ (fun hHeld => ?_)
                clear hK K
                try simp only [Act.put, List.getElem_toArray, List.getElem_cons_zero, List.getElem_cons_succ, List.setIfInBounds_toArray, List.set_cons_zero, List.set_cons_succ]
                refine wpAnyH_take (i := 19) (v := ?_) rfl (by kernel_rfl) (by kernel_rfl) (by kernel_rfl) (fun _ _ _ h => h) (Or.inl ⟨by rfl, ?_⟩) hHeld ?_
                rotate_left
                focus
                  intro w hSw
                  clear hSw
                  go_simp
                  try with_reducible rfl
                try simp only [Act.put, List.getElem_toArray, List.getElem_cons_zero, List.getElem_cons_succ, List.setIfInBounds_toArray, List.set_cons_zero, List.set_cons_succ]
                refine wpAnyH_take (i := 20) (v := ?_) rfl (by kernel_rfl) (by kernel_rfl) (by kernel_rfl) (fun _ _ _ h => h) (Or.inl ⟨by rfl, ?_⟩) hHeld ?_
                rotate_left
                focus
                  intro w hSw
                  clear hSw
                  go_simp
                  try with_reducible rfl
                try simp only [Act.put, List.getElem_toArray, List.getElem_cons_zero, List.getElem_cons_succ, List.setIfInBounds_toArray, List.set_cons_zero, List.set_cons_succ]
                refine wpAnyH_take (i := 21) (v := ?_) rfl (by kernel_rfl) (by kernel_rfl) (by kernel_rfl) (fun _ _ _ h => h) (Or.inl ⟨by rfl, ?_⟩) hHeld ?_
                rotate_left
                focus
                  intro w hSw
                  clear hSw
                  go_simp
                  try with_reducible rfl
                try simp only [Act.put, List.getElem_toArray, List.getElem_cons_zero, List.getElem_cons_succ, List.setIfInBounds_toArray, List.set_cons_zero, List.set_cons_succ]
                refine wpAnyH_take (i := 22) (v := ?_) rfl (by kernel_rfl) (by kernel_rfl) (by kernel_rfl) (fun _ _ _ h => h) (Or.inl ⟨by rfl, ?_⟩) hHeld ?_
                rotate_left
                focus
                  intro w hSw
                  clear hSw
                  go_simp
                  try with_reducible rfl
                try simp only [Act.put, List.getElem_toArray, List.getElem_cons_zero, List.getElem_cons_succ, List.setIfInBounds_toArray, List.set_cons_zero, List.set_cons_succ]
                refine wpAnyH_take (i := 24) (v := ?_) rfl (by kernel_rfl) (by kernel_rfl) (by kernel_rfl) (fun _ _ _ h => h) (Or.inl ⟨by rfl, ?_⟩) hHeld ?_
                rotate_left
                focus
                  intro w hSw
                  clear hSw
                  go_simp
                  try with_reducible rfl
                try simp only [Act.put, List.getElem_toArray, List.getElem_cons_zero, List.getElem_cons_succ, List.setIfInBounds_toArray, List.set_cons_zero, List.set_cons_succ]
                refine wpAnyH_take (i := 25) (v := ?_) rfl (by kernel_rfl) (by kernel_rfl) (by kernel_rfl) (fun _ _ _ h => h) (Or.inl ⟨by rfl, ?_⟩) hHeld ?_
                rotate_left
                focus
                  intro w hSw
                  clear hSw
                  go_simp
                  try with_reducible rfl
                try simp only [Act.put, List.getElem_toArray, List.getElem_cons_zero, List.getElem_cons_succ, List.setIfInBounds_toArray, List.set_cons_zero, List.set_cons_succ]
                refine wpAnyH_take (i := 26) (v := ?_) rfl (by kernel_rfl) (by kernel_rfl) (by kernel_rfl) (fun _ _ _ h => h) (Or.inl ⟨by rfl, ?_⟩) hHeld ?_
                rotate_left
                focus
                  intro w hSw
                  clear hSw
                  go_simp
                  try with_reducible rfl
                try simp only [Act.put, List.getElem_toArray, List.getElem_cons_zero, List.getElem_cons_succ, List.setIfInBounds_toArray, List.set_cons_zero, List.set_cons_succ]
                refine wpAnyH_take (i := 27) (v := ?_) rfl (by kernel_rfl) (by kernel_rfl) (by kernel_rfl) (fun _ _ _ h => h) (Or.inl ⟨by rfl, ?_⟩) hHeld ?_
                rotate_left
                focus
                  intro w hSw
                  (try dsimp only at hSw)
                  go_simp
                  try with_reducible rfl
                try simp only [Act.put, List.getElem_toArray, List.getElem_cons_zero, List.getElem_cons_succ, List.setIfInBounds_toArray, List.set_cons_zero, List.set_cons_succ]
                refine wpAnyH_take (i := 28) (v := ?_) rfl (by kernel_rfl) (by kernel_rfl) (by kernel_rfl) (fun _ _ _ h => h) (Or.inl ⟨by rfl, ?_⟩) hHeld ?_
                rotate_left
                focus
                  intro w hSw
                  clear hSw
                  go_simp
                  try with_reducible rfl
                try simp only [Act.put, List.getElem_toArray, List.getElem_cons_zero, List.getElem_cons_succ, List.setIfInBounds_toArray, List.set_cons_zero, List.set_cons_succ]
                refine wpAnyH_ready (rs := [23]) (by kernel_rfl) (by simp) ?_
                refine AllReadyH.cons rfl (fun K hK => ?_) AllReadyH.nil
                go_simp
                refine (HC4.out _ HI (HENV.out _ HB)).mono ?_
                rintro e y ⟨rfl, ⟨er, hi⟩, ht⟩
                obtain rfl := hi.er_nil
                have HI := hi
                have HO := HO.turns ht (fun k' hk' e => HNQ.out (e ▸ hk'))
                have HX := ht.blk HX (fun e => by have := HWQ.out; omega)
                have HB := HB.trans (ht.below HB.size (fun k' hk' => by have := HWQ.out; omega))
                have cz := (HB.cell (p := ⟨ab, ao + k, none⟩) hablt).trans hcz
                have rX := vec_range HX
                clear hi ht
                refine hK.out _ _ ⟨cz, rX⟩ (fun hHeld => ?_)
                clear hK K
                try simp only [Act.put, List.getElem_toArray, List.getElem_cons_zero, List.getElem_cons_succ, List.setIfInBounds_toArray, List.set_cons_zero, List.set_cons_succ]
                refine wpAnyH_take (i := 29) (v := ?_) rfl (by kernel_rfl) (by kernel_rfl) (by kernel_rfl) (fun _ _ _ h => h) (Or.inl ⟨by rfl, ?_⟩) hHeld ?_
                rotate_left
                focus
                  intro w hSw
                  clear hSw
                  go_simp
                  try with_reducible rfl
                try simp only [Act.put, List.getElem_toArray, List.getElem_cons_zero, List.getElem_cons_succ, List.setIfInBounds_toArray, List.set_cons_zero, List.set_cons_succ]
                refine wpAnyH_take (i := 30) (v := ?_) rfl (by kernel_rfl) (by kernel_rfl) (by kernel_rfl) (fun _ _ _ h => h) (Or.inl ⟨by rfl, ?_⟩) hHeld ?_
                rotate_left
                focus
                  intro w hSw
                  clear hSw
                  go_simp
                  try with_reducible rfl
                try simp only [Act.put, List.getElem_toArray, List.getElem_cons_zero, List.getElem_cons_succ, List.setIfInBounds_toArray, List.set_cons_zero, List.set_cons_succ]
                refine wpAnyH_done (by kernel_rfl) ?_ _
                refine NoPanic.normal ?_
                go_wp2_with fail
                go_roundw
                case rel => exact ⟨k + 1, pos4, _, rfl, by omega, by go_num, HRD4, HI, HO, HX, HB⟩
                case measure => simp [intOf]; omega
              · have hkl' : ¬ (k : Int) < (len : Int) := by omega
                have hpe : pos = S.size := by
                  have h1 := congrArg List.length HRD.out
                  rw [show zs.drop k = [] from List.drop_eq_nil_of_le (by have := hzr.out.1; omega), List.length_drop] at h1
                  have h2 : (encA s xa xb xc xd []).length = 0 := rfl
                  have h3 : S.data.toList.length = S.size := by simp
                  have := HI0.out.le
                  omega
                have HPE := Lib.hid hpe
                clear hpe HRD
                go_wp2_with fail
                refine (iend_c E q S pos .nilIface none W0 HI0 HSM.out (HENV.out W0 HB0.out)).mono ?_
                rintro e W1 ⟨v6, rfl, hv6, hb6⟩
                have HB1 : Hid (Below w.heap.size w W1) := HB0.out.trans (hb6.mono HB0.out.size)
                have HI1 := Lib.hid (HI0.out.below hb6)
                have HO1 := Lib.hid (HO0.out.below hb6)
                obtain rfl : v6 = .nilIface := by
                  unfold EndIs at hv6
                  simp only at hv6
                  rwa [if_pos HPE.out] at hv6
                clear hb6 hv6 HI0 HO0 HX0 HB0
                go_wp2_with fail
                refine (left_c E q S pos .nilIface none W1 HI1 HSM.out).mono ?_
                rintro e W2 ⟨rfl, hb2⟩
                have HB2 : Hid (Below w.heap.size w W2) := HB1.out.trans (hb2.mono HB1.out.size)
                have HO2 := Lib.hid (HO1.out.below hb2)
                have h00 : ((S.size - pos : Nat) : Int) = 0 := by have := HPE.out; omega
                rw [h00]
                clear hb2 HI1 HO1 HB1 h00
                go_wp2_with fail
                obtain ⟨d, hdd⟩ : ∃ d, d = W2.heap.size := ⟨_, rfl⟩
                obtain ⟨W3, hW3⟩ : ∃ W3, W3 = W2.alloc (.cells #[.pointer none, .slice none 0 0] 31) := ⟨_, rfl⟩
                have HO3 : Hid (OutV W3 d d (.pointer none) (.slice none 0 0) []) := by show OutV _ _ _ _ _ _; rw [hW3, hdd]; exact OutV.fresh W2
                have HP3 : Hid (OutV W3 c c v1p v1 (encN ys)) := by show OutV _ _ _ _ _ _; rw [hW3]; exact HO2.out.below ((Below.refl _ W2).alloc (Nat.le_refl _) _)
                have HB3 : Hid (Below w.heap.size w W3) := by show Below _ _ _; rw [hW3]; exact HB2.out.alloc HB2.out.size _
                have HWD : Hid (w.heap.size ≤ d) := by show _ ≤ _; rw [hdd]; exact HB2.out.size
                have HA3 : Hid (Apart d (.slice none 0 0) c v1) := fun k' h1 h2 => by
                  rcases h1 with h1 | h1
                  · rcases h2 with h2 | h2
                    · have := HO2.out.lt; omega
                    · have := (HO2.out.row.lt k' h2).2; omega
                  · simp [Value.ownBlock] at h1
                rw [← hW3, ← hdd]
                clear hW3 hdd HO2 HB2
                go_loopw [16, 17] (fun s16 s17 wx => ∃ (k : Nat) (p4 v4 : Value) (sm : Bool) (W0 : World), W0 = wx ∧ k ≤ len ∧ s17 = .int .i64 k ∧ s16 = .bool sm ∧ Hid (sm = decide (len = len2 ∧ zs.take k = ys.take k)) ∧ Hid (OutV W0 d d p4 v4 (encN (zs.take k))) ∧ Hid (OutV W0 c c v1p v1 (encN ys)) ∧ Hid (Apart d v4 c v1) ∧ Hid (Below w.heap.size w W0)) (fun _ s17 _ => len - (intOf s17).toNat)
                case atStart => exact ⟨0, _, _, _, _, rfl, by omega, rfl, rfl, (by show _ = _; simp only [List.take_zero, and_true]; exact Bool.eq_iff_iff.2 (by simp; try omega)), HO3, HP3, HA3, HB3⟩
                case round =>
                  obtain ⟨k, p4, v4, sm, W0, rfl, hk, rfl, rfl, HSM4, HO0, HP0, HA0, HB0⟩ := hrel
                  clear HO3 HP3 HA3 HB3
                  by_cases hkl : k < len
                  · obtain ⟨ab, ao, rfl, hablt, hzc⟩ := hzr.out.2 (by omega)
                    obtain ⟨z, hz⟩ : ∃ z, zs[k]? = some z := ⟨_, List.getElem?_eq_getElem (by have := hzr.out.1; omega)⟩
                    have hcz : w.cell? ⟨ab, ao + k, none⟩ = some (.int .i64 z) := by have := hzc k hkl; rwa [List.getD_eq_getElem?_getD, hz] at this
                    have hzb := hzs.out z (List.mem_of_getElem? hz)
                    have hkl' : (k : Int) < (len : Int) := by omega
                    have HL : Hid ((encN (zs.take k)).length ≤ 400) := by
                      have := encN_len (zs.take k) (fun x hx => hzs.out x (List.mem_of_mem_take hx))
                      rw [List.length_take] at this
                      show _ ≤ _
                      omega
                    have cz0 := (HB0.out.cell (p := ⟨ab, ao + k, none⟩) hablt).trans hcz
                    clear hzc
                    go_wp2_with fail
                    refine (oint_c d d p4 v4 _ z hzb.1 hzb.2 W0 HO0 (by have := HL.out; omega)).mono ?_
                    rintro e W1 ⟨rfl, p5, v5, hs⟩
                    have HP1 := Lib.hid (HP0.out.other hs HA0.out)
                    have HA1 := Lib.hid (HA0.out.step HP0.out hs)
                    have HB1 := Lib.hid (hs.below_b HO0.out HB0.out HWD.out)
                    have HO1 : Hid (OutV W1 d d p5 v5 (encN (zs.take (k + 1)))) := by show OutV _ _ _ _ _ _; rw [encN_take hz]; exact hs.out
                    have cz := (HB1.out.cell (p := ⟨ab, ao + k, none⟩) hablt).trans hcz
                    clear hs HP0 HA0 HB0 HO0 cz0
                    cases sm with
                    | true =>
                      have hl2 := (of_decide_eq_true HSM4.out.symm).1
                      have hk2 : (k : Int) < (len2 : Int) := by omega
                      obtain ⟨bb, bo, rfl, hbblt, hyc⟩ := hyr.out.2 (by omega)
                      obtain ⟨y, hy⟩ : ∃ y, ys[k]? = some y := ⟨_, List.getElem?_eq_getElem (by have := hyr.out.1; omega)⟩
                      have hcy : w.cell? ⟨bb, bo + k, none⟩ = some (.int .i64 y) := by have := hyc k (by omega); rwa [List.getD_eq_getElem?_getD, hy] at this
                      have cy := (HB1.out.cell (p := ⟨bb, bo + k, none⟩) hbblt).trans hcy
                      clear hyc hl2
                      go_wp2_with fail
                      refine wp_region_noPanic ?_
                      refine wp_region_held_drew (S := (fun w' => w'.cell? ⟨ab, ao + k, none⟩ = some (.int .i64 z) ∧ w'.cell? ⟨bb, bo + k, none⟩ = some (.int .i64 y))) (by kernel_rfl) ⟨cz, cy⟩ (fun hHeld => ?_)
                      refine wpAnyH_take (i := 0) (v := ?_) rfl (by kernel_rfl) (by kernel_rfl) (by kernel_rfl) (fun _ _ _ h => h) (Or.inl ⟨by rfl, ?_⟩) hHeld ?_
                      rotate_left
                      focus
                        intro w hSw
                        clear hSw
                        go_simp
                        try with_reducible rfl
                      try simp only [Act.put, List.getElem_toArray, List.getElem_cons_zero, List.getElem_cons_succ, List.setIfInBounds_toArray, List.set_cons_zero, List.set_cons_succ]
                      refine wpAnyH_take (i := 1) (v := ?_) rfl (by kernel_rfl) (by kernel_rfl) (by kernel_rfl) (fun _ _ _ h => h) (Or.inl ⟨by rfl, ?_⟩) hHeld ?_
                      rotate_left
                      focus
                        intro w hSw
                        clear hSw
                        go_simp
                        try with_reducible rfl
                      try simp only [Act.put, List.getElem_toArray, List.getElem_cons_zero, List.getElem_cons_succ, List.setIfInBounds_toArray, List.set_cons_zero, List.set_cons_succ]
                      refine wpAnyH_take (i := 2) (v := ?_) rfl (by kernel_rfl) (by kernel_rfl) (by kernel_rfl) (fun _ _ _ h => h) (Or.inl ⟨by rfl, ?_⟩) hHeld ?_
                      rotate_left
                      focus
                        intro w hSw
                        clear hSw
                        go_simp
                        try with_reducible rfl
                      try simp only [Act.put, List.getElem_toArray, List.getElem_cons_zero, List.getElem_cons_succ, List.setIfInBounds_toArray, List.set_cons_zero, List.set_cons_succ]
                      refine wpAnyH_take (i := 3) (v := ?_) rfl (by kernel_rfl) (by kernel_rfl) (by kernel_rfl) (fun _ _ _ h => h) (Or.inl ⟨by rfl, ?_⟩) hHeld ?_
                      rotate_left
                      focus
                        intro w hSw
                        clear hSw
                        go_simp
                        try with_reducible rfl
                      try simp only [Act.put, List.getElem_toArray, List.getElem_cons_zero, List.getElem_cons_succ, List.setIfInBounds_toArray, List.set_cons_zero, List.set_cons_succ]
                      refine wpAnyH_take (i := 4) (v := ?_) rfl (by kernel_rfl) (by kernel_rfl) (by kernel_rfl) (fun _ _ _ h => h) (Or.inl ⟨by rfl, ?_⟩) hHeld ?_
                      rotate_left
                      focus
                        intro w hSw
                        clear hSw
                        go_simp
                        try with_reducible rfl
                      try simp only [Act.put, List.getElem_toArray, List.getElem_cons_zero, List.getElem_cons_succ, List.setIfInBounds_toArray, List.set_cons_zero, List.set_cons_succ]
                      refine wpAnyH_take (i := 5) (v := ?_) rfl (by kernel_rfl) (by kernel_rfl) (by kernel_rfl) (fun _ _ _ h => h) (Or.inl ⟨by rfl, ?_⟩) hHeld ?_
                      rotate_left
                      focus
                        intro w hSw
                        (try dsimp only at hSw)
                        go_simp
                        try with_reducible rfl
                      try simp only [Act.put, List.getElem_toArray, List.getElem_cons_zero, List.getElem_cons_succ, List.setIfInBounds_toArray, List.set_cons_zero, List.set_cons_succ]
                      refine wpAnyH_take (i := 6) (v := ?_) rfl (by kernel_rfl) (by kernel_rfl) (by kernel_rfl) (fun _ _ _ h => h) (Or.inl ⟨by rfl, ?_⟩) hHeld ?_
                      rotate_left
                      focus
                        intro w hSw
                        clear hSw
                        go_simp
                        try with_reducible rfl
                      try simp only [Act.put, List.getElem_toArray, List.getElem_cons_zero, List.getElem_cons_succ, List.setIfInBounds_toArray, List.set_cons_zero, List.set_cons_succ]
                      refine wpAnyH_take (i := 7) (v := ?_) rfl (by kernel_rfl) (by kernel_rfl) (by kernel_rfl) (fun _ _ _ h => h) (Or.inl ⟨by rfl, ?_⟩) hHeld ?_
                      rotate_left
                      focus
                        intro w hSw
                        clear hSw
                        go_simp
                        try with_reducible rfl
                      try simp only [Act.put, List.getElem_toArray, List.getElem_cons_zero, List.getElem_cons_succ, List.setIfInBounds_toArray, List.set_cons_zero, List.set_cons_succ]
                      refine wpAnyH_take (i := 8) (v := ?_) rfl (by kernel_rfl) (by kernel_rfl) (by kernel_rfl) (fun _ _ _ h => h) (Or.inl ⟨by rfl, ?_⟩) hHeld ?_
                      rotate_left
                      focus
                        intro w hSw
                        clear hSw
                        go_simp
                        try with_reducible rfl
                      try simp only [Act.put, List.getElem_toArray, List.getElem_cons_zero, List.getElem_cons_succ, List.setIfInBounds_toArray, List.set_cons_zero, List.set_cons_succ]
                      refine wpAnyH_take (i := 9) (v := ?_) rfl (by kernel_rfl) (by kernel_rfl) (by kernel_rfl) (fun _ _ _ h => h) (Or.inl ⟨by rfl, ?_⟩) hHeld ?_
                      rotate_left
                      focus
                        intro w hSw
                        (try dsimp only at hSw)
                        go_simp
                        try with_reducible rfl
                      try simp only [Act.put, List.getElem_toArray, List.getElem_cons_zero, List.getElem_cons_succ, List.setIfInBounds_toArray, List.set_cons_zero, List.set_cons_succ]
                      refine wpAnyH_take (i := 10) (v := ?_) rfl (by kernel_rfl) (by kernel_rfl) (by kernel_rfl) (fun _ _ _ h => h) (Or.inl ⟨by rfl, ?_⟩) hHeld ?_
                      rotate_left
                      focus
                        intro w hSw
                        clear hSw
                        go_simp
                        try with_reducible rfl
                      try simp only [Act.put, List.getElem_toArray, List.getElem_cons_zero, List.getElem_cons_succ, List.setIfInBounds_toArray, List.set_cons_zero, List.set_cons_succ]
                      refine wpAnyH_take (i := 11) (v := ?_) rfl (by kernel_rfl) (by kernel_rfl) (by kernel_rfl) (fun _ _ _ h => h) (Or.inl ⟨by rfl, ?_⟩) hHeld ?_
                      rotate_left
                      focus
                        intro w hSw
                        clear hSw
                        go_simp
                        try with_reducible rfl
                      try simp only [Act.put, List.getElem_toArray, List.getElem_cons_zero, List.getElem_cons_succ, List.setIfInBounds_toArray, List.set_cons_zero, List.set_cons_succ]
                      refine wpAnyH_take (i := 12) (v := ?_) rfl (by kernel_rfl) (by kernel_rfl) (by kernel_rfl) (fun _ _ _ h => h) (Or.inl ⟨by rfl, ?_⟩) hHeld ?_
                      rotate_left
                      focus
                        intro w hSw
                        clear hSw
                        go_simp
                        try with_reducible rfl
                      try simp only [Act.put, List.getElem_toArray, List.getElem_cons_zero, List.getElem_cons_succ, List.setIfInBounds_toArray, List.set_cons_zero, List.set_cons_succ]
                      refine wpAnyH_done (by kernel_rfl) ?_ _
                      refine NoPanic.normal ?_
                      go_wp2_with fail
                      go_roundw
                      case rel => exact ⟨k + 1, _, _, _, _, rfl, by omega, by go_num, rfl, (by show _ = _; first | exact same_step_t HSM4.out hz hy | (have := same_step_t HSM4.out hz hy; simpa using this)), (show Hid _ from HO1.out.drew), (show Hid _ from HP1.out.drew), HA1, (show Hid _ from ⟨HB1.out.os, HB1.out.tape, HB1.out.output, HB1.out.size, HB1.out.block⟩)⟩
                      case measure => simp [intOf]; omega
                    | false =>
                      go_wp2_with fail
                      refine wp_region_noPanic ?_
                      refine wp_region_held_drew (S := (fun _ => True)) (by kernel_rfl) trivial (fun hHeld => ?_)
                      refine wpAnyH_take (i := 0) (v := ?_) rfl (by kernel_rfl) (by kernel_rfl) (by kernel_rfl) (fun _ _ _ h => h) (Or.inl ⟨by rfl, ?_⟩) hHeld ?_
                      rotate_left
                      focus
                        intro w hSw
                        clear hSw
                        go_simp
                        try with_reducible rfl
                      try simp only [Act.put, List.getElem_toArray, List.getElem_cons_zero, List.getElem_cons_succ, List.setIfInBounds_toArray, List.set_cons_zero, List.set_cons_succ]
                      refine wpAnyH_take (i := 1) (v := ?_) rfl (by kernel_rfl) (by kernel_rfl) (by kernel_rfl) (fun _ _ _ h => h) (Or.inl ⟨by rfl, ?_⟩) hHeld ?_
                      rotate_left
                      focus
                        intro w hSw
                        clear hSw
                        go_simp
                        try with_reducible rfl
                      try simp only [Act.put, List.getElem_toArray, List.getElem_cons_zero, List.getElem_cons_succ, List.setIfInBounds_toArray, List.set_cons_zero, List.set_cons_succ]
                      refine wpAnyH_take (i := 2) (v := undef) rfl (by kernel_rfl) (by kernel_rfl) (by kernel_rfl) (fun _ _ _ h => h) (Or.inr ⟨by rfl, rfl⟩) hHeld ?_
                      try simp only [Act.put, List.getElem_toArray, List.getElem_cons_zero, List.getElem_cons_succ, List.setIfInBounds_toArray, List.set_cons_zero, List.set_cons_succ]
                      refine wpAnyH_take (i := 3) (v := undef) rfl (by kernel_rfl) (by kernel_rfl) (by kernel_rfl) (fun _ _ _ h => h) (Or.inr ⟨by rfl, rfl⟩) hHeld ?_
                      try simp only [Act.put, List.getElem_toArray, List.getElem_cons_zero, List.getElem_cons_succ, List.setIfInBounds_toArray, List.set_cons_zero, List.set_cons_succ]
                      refine wpAnyH_take (i := 4) (v := undef) rfl (by kernel_rfl) (by kernel_rfl) (by kernel_rfl) (fun _ _ _ h => h) (Or.inr ⟨by rfl, rfl⟩) hHeld ?_
                      try simp only [Act.put, List.getElem_toArray, List.getElem_cons_zero, List.getElem_cons_succ, List.setIfInBounds_toArray, List.set_cons_zero, List.set_cons_succ]
                      refine wpAnyH_take (i := 5) (v := undef) rfl (by kernel_rfl) (by kernel_rfl) (by kernel_rfl) (fun _ _ _ h => h) (Or.inr ⟨by rfl, rfl⟩) hHeld ?_
                      try simp only [Act.put, List.getElem_toArray, List.getElem_cons_zero, List.getElem_cons_succ, List.setIfInBounds_toArray, List.set_cons_zero, List.set_cons_succ]
                      refine wpAnyH_take (i := 6) (v := undef) rfl (by kernel_rfl) (by kernel_rfl) (by kernel_rfl) (fun _ _ _ h => h) (Or.inr ⟨by rfl, rfl⟩) hHeld ?_
                      try simp only [Act.put, List.getElem_toArray, List.getElem_cons_zero, List.getElem_cons_succ, List.setIfInBounds_toArray, List.set_cons_zero, List.set_cons_succ]
                      refine wpAnyH_take (i := 7) (v := undef) rfl (by kernel_rfl) (by kernel_rfl) (by kernel_rfl) (fun _ _ _ h => h) (Or.inr ⟨by rfl, rfl⟩) hHeld ?_
                      try simp only [Act.put, List.getElem_toArray, List.getElem_cons_zero, List.getElem_cons_succ, List.setIfInBounds_toArray, List.set_cons_zero, List.set_cons_succ]
                      refine wpAnyH_take (i := 8) (v := undef) rfl (by kernel_rfl) (by kernel_rfl) (by kernel_rfl) (fun _ _ _ h => h) (Or.inr ⟨by rfl, rfl⟩) hHeld ?_
                      try simp only [Act.put, List.getElem_toArray, List.getElem_cons_zero, List.getElem_cons_succ, List.setIfInBounds_toArray, List.set_cons_zero, List.set_cons_succ]
                      refine wpAnyH_take (i := 9) (v := undef) rfl (by kernel_rfl) (by kernel_rfl) (by kernel_rfl) (fun _ _ _ h => h) (Or.inr ⟨by rfl, rfl⟩) hHeld ?_
                      try simp only [Act.put, List.getElem_toArray, List.getElem_cons_zero, List.getElem_cons_succ, List.setIfInBounds_toArray, List.set_cons_zero, List.set_cons_succ]
                      refine wpAnyH_take (i := 10) (v := undef) rfl (by kernel_rfl) (by kernel_rfl) (by kernel_rfl) (fun _ _ _ h => h) (Or.inr ⟨by rfl, rfl⟩) hHeld ?_
                      try simp only [Act.put, List.getElem_toArray, List.getElem_cons_zero, List.getElem_cons_succ, List.setIfInBounds_toArray, List.set_cons_zero, List.set_cons_succ]
                      refine wpAnyH_take (i := 11) (v := ?_) rfl (by kernel_rfl) (by kernel_rfl) (by kernel_rfl) (fun _ _ _ h => h) (Or.inl ⟨by rfl, ?_⟩) hHeld ?_
                      rotate_left
                      focus
                        intro w hSw
                        clear hSw
                        go_simp
                        try with_reducible rfl
                      try simp only [Act.put, List.getElem_toArray, List.getElem_cons_zero, List.getElem_cons_succ, List.setIfInBounds_toArray, List.set_cons_zero, List.set_cons_succ]
                      refine wpAnyH_take (i := 12) (v := ?_) rfl (by kernel_rfl) (by kernel_rfl) (by kernel_rfl) (fun _ _ _ h => h) (Or.inl ⟨by rfl, ?_⟩) hHeld ?_
                      rotate_left
                      focus
                        intro w hSw
                        clear hSw
                        go_simp
                        try with_reducible rfl
                      try simp only [Act.put, List.getElem_toArray, List.getElem_cons_zero, List.getElem_cons_succ, List.setIfInBounds_toArray, List.set_cons_zero, List.set_cons_succ]
                      refine wpAnyH_done (by kernel_rfl) ?_ _
                      refine NoPanic.normal ?_
                      go_wp2_with fail
                      go_roundw
                      case rel => exact ⟨k + 1, _, _, _, _, rfl, by omega, by go_num, rfl, (by show _ = _; exact same_step_f HSM4.out), (show Hid _ from HO1.out.drew), (show Hid _ from HP1.out.drew), HA1, (show Hid _ from ⟨HB1.out.os, HB1.out.tape, HB1.out.output, HB1.out.size, HB1.out.block⟩)⟩
                      case measure => simp [intOf]; omega
                  · have hkl' : ¬ (k : Int) < (len : Int) := by omega
                    obtain rfl : len = k := by omega
                    have hsm := same_end HSM4.out hzr.out.1 hyr.out.1
                    have hall : zs.take len = zs := List.take_of_length_le (by have := hzr.out.1; omega)
                    rw [hall] at HO0
                    have HLN : Hid ((encN zs).length ≤ 400) := by
                      have := encN_len zs hzs.out
                      have h2 := hzr.out.1
                      show _ ≤ _
                      omega
                    have HLY : Hid ((encN ys).length ≤ 400) := by
                      have := encN_len ys hys.out
                      have h2 := hyr.out.1
                      show _ ≤ _
                      omega
                    clear hall HSM4
                    have HSM := Lib.hid hsm
                    clear hsm
                    go_wp2_with fail
                    refine (obytes_c d d p4 v4 _ W0 HO0 (by have := HLN.out; omega)).mono ?_
                    rintro e W1 ⟨rfl, hs⟩
                    have HP1 := Lib.hid (HP0.out.other hs HA0.out)
                    have HB1 := Lib.hid (hs.below_b HO0.out HB0.out HWD.out)
                    obtain ⟨SA, hSA⟩ : ∃ SA : ByteArray, SA = ⟨(encN zs).toArray⟩ := ⟨_, rfl⟩
                    rw [← hSA]
                    have HSA := Lib.hid hSA
                    clear hs HP0 HA0 HB0 HO0 hSA
                    go_wp2_with fail
                    refine (obytes_c c c v1p v1 _ W1 HP1 (by have := HLY.out; omega)).mono ?_
                    rintro e W4 ⟨rfl, hs⟩
                    have HB4 := Lib.hid (hs.below_b HP1.out HB1.out HWC.out)
                    obtain ⟨SB, hSB⟩ : ∃ SB : ByteArray, SB = ⟨(encN ys).toArray⟩ := ⟨_, rfl⟩
                    rw [← hSB]
                    have HSB := Lib.hid hSB
                    clear hs HP1 HB1 hSB
                    by_cases heq : zs = ys
                    · have hb : (SA.toList == SB.toList) = true := by rw [str_beq, HSA.out, HSB.out, heq]; simp
                      obtain rfl : sm = true := by rw [HSM.out, heq]; simp
                      clear heq
                      go_wp2_with fail
                      go_ret
                      exact ⟨rfl, HB4.out⟩
                    · have hb : (SA.toList == SB.toList) = false := by
                        rw [str_beq, HSA.out, HSB.out]
                        refine decide_eq_false (fun e => heq (encN_inj hzs.out hys.out ?_))
                        have := congrArg (fun b : ByteArray => b.data.toList) e
                        simpa using this
                      obtain rfl : sm = false := by rw [HSM.out]; exact decide_eq_false heq
                      clear heq
                      go_wp2_with fail
                      go_ret
                      exact ⟨rfl, HB4.out⟩
end Go.Proofs.YtdebldpmloignaaDoor
