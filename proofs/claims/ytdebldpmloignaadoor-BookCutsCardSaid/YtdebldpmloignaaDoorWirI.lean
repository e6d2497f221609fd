/-
  wire: the law WireOnly.
-/
import Derived.Test.YtdebldpmloignaaDoorWirH
namespace Go.Proofs.YtdebldpmloignaaDoor
open Go.RowKit
set_option linter.unusedVariables false

theorem InV.out_step {w w' : World} {E : Nat → Addr} {q b : Nat} {s : ByteArray} {pos : Nat} {p v p' v' : Value} {l l' : List UInt8} (h : InV w E q s pos .nilIface none) (ho : OutV w b b p v l) (hs : OutS w w' b b v p' v' l') (hq : q < b) : InV w' E q s pos .nilIface none :=
  ⟨hs.turns.blk h.blk (fun hf => by
    rcases hf with hf | hf
    · omega
    · have := (ho.row.lt q hf).1; omega), rfl, h.le⟩
theorem OutV.in_step {w w' : World} {q b : Nat} {p v : Value} {l : List UInt8} (ho : OutV w b b p v l) (ht : Turns (fun k => k = q) w w') (hq : q < b) : OutV w' b b p v l :=
  ho.turns ht (fun k hk e => by
    rcases hk with hk | hk
    · omega
    · have := (ho.row.lt k hk).1; omega)
theorem OutS.below_b {w0 w w' : World} {b : Nat} {p v p' v' : Value} {l l' : List UInt8} (hs : OutS w w' b b v p' v' l') (ho : OutV w b b p v l) (h0 : Below w0.heap.size w0 w) (hb : w0.heap.size ≤ b) : Below w0.heap.size w0 w' :=
  h0.trans (hs.below ho hb)
theorem rd_none {s : ByteArray} {pos : Nat} (h : readI (s.data.toList.drop pos) = none) : rdI s (pos, none) = (0, (s.size, some pos)) := by unfold rdI; simp only [h]
theorem rd_some {s : ByteArray} {pos : Nat} {z : Int} {n : Nat} (h : readI (s.data.toList.drop pos) = some (z, n)) : rdI s (pos, none) = (z, (pos + n, none)) := by unfold rdI; simp only [h]
theorem take_step {s : ByteArray} {pos n : Nat} {z : Int} (h : (s.data.toList.drop pos).take n = encI z) : s.data.toList.take pos ++ encI z = s.data.toList.take (pos + n) := by
  rw [← h, List.take_add]
theorem bytes_all (s : ByteArray) (pos : Nat) (h : pos = s.size) : (⟨(s.data.toList.take pos).toArray⟩ : ByteArray) = s := by
  rw [List.take_of_length_le (by subst h; simp)]
set_option maxRecDepth 100000 in
set_option maxHeartbeats 4000000 in
theorem wireOnly_walk (E : Nat → Addr) (B : Nat) (s : ByteArray) (w : World) (hE : Hid (Env w E B)) :
    Calls Tryd.prog 3 #[.string s] w fun e w' => e = .returned (.bool true) ∧ Below w.heap.size w w' := by
  have HENV : Hid (∀ w', Below w.heap.size w w' → ErrForm w' E) := fun w' hb => (hE.out.below (hb.mono hE.out.low)).form
  by_cases hs : (512 : Int) < (s.size : Int)
  · go_enter Tryd.func3, Tryd.ntmps3
    go_wp2_with fail
    refine (awake03_c E B w hE).mono ?_
    rintro e w1 ⟨rfl, hb1⟩
    have HB1 := Lib.hid hb1
    clear hb1
    go_wp2_with fail
    go_ret
    exact ⟨rfl, HB1.out⟩
  · have hsz : s.size ≤ 512 := by omega
    have HSZ := Lib.hid hsz
    clear hsz
    go_enter Tryd.func3, Tryd.ntmps3
    go_wp2_with fail
    refine (awake03_c E B w hE).mono ?_
    rintro e w1 ⟨rfl, hb1⟩
    have HB1 := Lib.hid hb1
    clear hb1
    go_wp2_with fail
    refine (of_c E s w1).mono ?_
    rintro e w2 ⟨rfl, hi2, hb2⟩
    obtain ⟨q, hq⟩ : ∃ q, q = w1.heap.size := ⟨_, rfl⟩
    rw [← hq] at hi2 ⊢
    have HQ : Hid (w.heap.size ≤ q) := by show _ ≤ _; rw [hq]; exact HB1.out.size
    have HB2 : Hid (Below w.heap.size w w2) := HB1.out.trans (hb2.mono HB1.out.size)
    obtain ⟨b, hbb⟩ : ∃ b, b = w2.heap.size := ⟨_, rfl⟩
    have HQB : Hid (q < b) := by show _ < _; rw [hbb]; exact hi2.blk.lt
    have HWB : Hid (w.heap.size ≤ b) := Nat.le_trans HQ.out (Nat.le_of_lt HQB.out)
    have HI2 := Lib.hid hi2
    clear hq hb2 hi2 hs HB1
    go_wp2_with fail
    obtain ⟨w3, hw3⟩ : ∃ w3, w3 = w2.alloc (.cells #[.pointer none, .slice none 0 0] 31) := ⟨_, rfl⟩
    have HO3 : Hid (OutV w3 b b (.pointer none) (.slice none 0 0) []) := by show OutV _ _ _ _ _ _; rw [hw3, hbb]; exact OutV.fresh w2
    have HI3 : Hid (InV w3 E q s 0 .nilIface none) := by show InV _ _ _ _ _ _ _; rw [hw3]; exact HI2.out.below ((Below.refl _ w2).alloc (Nat.le_refl _) _)
    have HB3 : Hid (Below w.heap.size w w3) := by show Below _ _ _; rw [hw3]; exact HB2.out.alloc HB2.out.size _
    rw [← hw3, ← hbb]
    clear hw3 hbb HI2 HB2
    go_loopg [5, 6] (s.size) (fun n s5 s6 wx => ∃ (pos : Nat) (p v : Value) (wr : World), wr = wx ∧ n = s.size - pos ∧ InV wr E q s pos .nilIface none ∧ OutV wr b b p v (s.data.toList.take pos) ∧ Below w.heap.size w wr)
    case atStart => exact ⟨0, _, _, _, rfl, rfl, HI3.out, HO3.out, HB3.out⟩
    case round =>
      obtain ⟨pos, p, v, wr, rfl, hn, hi, ho, hb⟩ := hrel
      have HI := Lib.hid hi
      have HO := Lib.hid ho
      have HB := Lib.hid hb
      have hle := hi.le
      have HN := Lib.hid hn
      have HSM : Hid (s.size ≤ 1000000) := Nat.le_trans HSZ.out (by decide)
      clear hi ho hb HI3 HO3 HB3 hn
      by_cases hp : pos < s.size
      · obtain ⟨d, hd⟩ : ∃ d, d = s.size - pos := ⟨_, rfl⟩
        have hd0 : (0 : Int) < (d : Int) := by omega
        have HD := Lib.hid hd
        have HP := Lib.hid hp
        clear hp hle hd
        go_wp2_with fail
        refine (left_c E q s pos .nilIface none wr HI HSM.out).mono ?_
        rintro e w4 ⟨rfl, hb4⟩
        have HI4 := Lib.hid (HI.out.below hb4)
        have HO4 := Lib.hid (HO.out.below hb4)
        have HB4 : Hid (Below w.heap.size w w4) := HB.out.trans (hb4.mono HB.out.size)
        clear hb4
        rw [← HD.out]
        go_wp2_with fail
        refine (left_c E q s pos .nilIface none w4 HI4 HSM.out).mono ?_
        rintro e w5 ⟨rfl, hb5⟩
        have HI5 := Lib.hid (HI4.out.below hb5)
        have HO5 := Lib.hid (HO4.out.below hb5)
        have HB5 : Hid (Below w.heap.size w w5) := HB4.out.trans (hb5.mono HB4.out.size)
        clear hb5 HI4 HO4 HB4 HI HO HB
        rw [← HD.out]
        have HINT := Lib.hid (iint_c E q s pos .nilIface none w5 HI5 HSM.out (Lib.hid (HENV.out w5 HB5.out)))
        cases hr : readI (s.data.toList.drop pos) with
        | none =>
          rw [rd_none hr] at HINT
          clear hr
          go_wp2_with fail
          refine (HINT.out).mono ?_
          rintro e w6 ⟨rfl, ⟨er, hi6⟩, ht6⟩
          obtain ⟨g, rfl, hg⟩ := hi6.er_some
          have HI6 := Lib.hid hi6
          have HB6 : Hid (Below w.heap.size w w6) := HB5.out.trans (ht6.below HB5.out.size (fun k hk => by rw [hk]; exact HQ.out))
          clear hi6 ht6 hg HB5 HO5 HI5 HINT
          go_wp2_with fail
          refine (err_c E q s s.size (faultV g) (some pos) w6 HI6).mono ?_
          rintro e w7 ⟨rfl, rfl⟩
          unfold faultV
          go_wp2_with fail
          refine (left_c E q s s.size (faultV g) (some pos) w6 HI6 HSM.out).mono ?_
          rintro e w7 ⟨rfl, hb7⟩
          have HB7 : Hid (Below w.heap.size w w7) := HB6.out.trans (hb7.mono HB6.out.size)
          have h0 : ((s.size - s.size : Nat) : Int) = 0 := by omega
          rw [h0]
          clear hb7 HB6 HI6 h0
          go_wp2_with fail
          go_ret
          exact ⟨rfl, HB7.out⟩
        | some zn =>
          obtain ⟨z, n⟩ := zn
          obtain ⟨hn1, hn2, hn3, hz1, hz2⟩ := readI_some hr
          rw [rd_some hr] at HINT
          have HTK := Lib.hid (take_step hn2)
          have hpos : 0 < n := by rw [hn1]; exact encI_pos z
          have hlen : (s.data.toList.drop pos).length = s.size - pos := by rw [List.length_drop]; simp
          rw [hlen] at hn3
          have HPN : Hid (pos + n ≤ s.size ∧ 0 < n) := ⟨by have := HP.out; omega, hpos⟩
          have HZ : Hid (-9223372036854775808 ≤ z ∧ z ≤ 9223372036854775807) := ⟨hz1, hz2⟩
          clear hr hn1 hn2 hlen hn3 hpos hz1 hz2
          go_wp2_with fail
          refine (HINT.out).mono ?_
          rintro e w6 ⟨rfl, ⟨er, hi6⟩, ht6⟩
          have her := hi6.er_nil
          subst her
          have HI6 := Lib.hid hi6
          have HO6 := Lib.hid (HO5.out.in_step ht6 HQB.out)
          have HB6 : Hid (Below w.heap.size w w6) := HB5.out.trans (ht6.below HB5.out.size (fun k hk => by rw [hk]; exact HQ.out))
          clear hi6 ht6 HB5 HO5 HI5 HINT
          go_wp2_with fail
          refine (err_c E q s (pos + n) .nilIface none w6 HI6).mono ?_
          rintro e w7 ⟨rfl, rfl⟩
          go_wp2_with fail
          refine (left_c E q s (pos + n) .nilIface none w6 HI6 HSM.out).mono ?_
          rintro e w7 ⟨rfl, hb7⟩
          obtain ⟨d2, hd2⟩ : ∃ d2, d2 = s.size - (pos + n) := ⟨_, rfl⟩
          rw [← hd2]
          have hlt : (d2 : Int) < (d : Int) := by have := HD.out; have := HPN.out; omega
          have HI7 := Lib.hid (HI6.out.below hb7)
          have HO7 := Lib.hid (HO6.out.below hb7)
          have HB7 : Hid (Below w.heap.size w w7) := HB6.out.trans (hb7.mono HB6.out.size)
          have HD2 := Lib.hid hd2
          clear hb7 HB6 HI6 HO6 hd2
          go_wp2_with fail
          refine (oint_c b b p v _ z HZ.out.1 HZ.out.2 w7 HO7 (by rw [List.length_take]; have := HSM.out; have := HPN.out; omega)).mono ?_
          rintro e w8 ⟨rfl, p8, v8, hs8⟩
          have HI8 := Lib.hid (HI7.out.out_step HO7.out hs8 HQB.out)
          have HB8 := Lib.hid (hs8.below_b HO7.out HB7.out HWB.out)
          have HO8 : Hid (OutV w8 b b p8 v8 (s.data.toList.take (pos + n))) := by show OutV _ _ _ _ _ _; rw [← HTK.out]; exact hs8.out
          clear hs8 HO7 HB7 HI7
          go_wp2_with fail
          go_roundg (s.size - (pos + n))
          case measure => have := HN.out; have := HPN.out; omega
          case rel => exact ⟨pos + n, _, _, _, rfl, rfl, HI8.out, HO8.out, HB8.out⟩
      · have hpe : pos = s.size := by omega
        have h0 : ((s.size - pos : Nat) : Int) = 0 := by omega
        have HPE := Lib.hid hpe
        have H0 := Lib.hid h0
        clear hp hle hpe h0
        go_wp2_with fail
        refine (left_c E q s pos .nilIface none wr HI HSM.out).mono ?_
        rintro e w4 ⟨rfl, hb4⟩
        have HI4 := Lib.hid (HI.out.below hb4)
        have HO4 := Lib.hid (HO.out.below hb4)
        have HB4 : Hid (Below w.heap.size w w4) := HB.out.trans (hb4.mono HB.out.size)
        rw [H0.out]
        clear hb4 HI HO HB
        go_wp2_with fail
        refine (obytes_c b b p v _ w4 HO4 (by rw [List.length_take]; have := HSM.out; have := HPE.out; omega)).mono ?_
        rintro e w5 ⟨rfl, hs5⟩
        have HI5 := Lib.hid (HI4.out.out_step HO4.out hs5 HQB.out)
        have HB5 := Lib.hid (hs5.below_b HO4.out HB4.out HWB.out)
        rw [bytes_all s pos HPE.out]
        clear hs5 HI4 HO4 HB4
        go_wp2_with fail
        refine (iend_c E q s pos .nilIface none w5 HI5 HSM.out (Lib.hid (HENV.out w5 HB5.out))).mono ?_
        rintro e w6 ⟨v6, rfl, hv6, hb6⟩
        have HB6 : Hid (Below w.heap.size w w6) := HB5.out.trans (hb6.mono HB5.out.size)
        obtain rfl : v6 = .nilIface := by
          unfold EndIs at hv6
          simp only at hv6
          rwa [if_pos HPE.out] at hv6
        clear hb6 HB5 HI5 hv6
        go_wp2_with fail
        go_ret
        exact ⟨rfl, HB6.out⟩
end Go.Proofs.YtdebldpmloignaaDoor
