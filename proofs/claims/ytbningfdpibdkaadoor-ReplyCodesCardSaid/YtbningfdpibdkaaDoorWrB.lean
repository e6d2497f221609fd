/-
  wire: the writer: Int, Text, Vec, Bool, Bytes.
-/
import Derived.Test.YtbningfdpibdkaaDoorWirA
import Derived.Test.YtbningfdpibdkaaDoorWirP
import Derived.Outline
namespace Go.Proofs.YtbningfdpibdkaaDoor
open Go.RowKit
set_option linter.unusedVariables false
set_option linter.unusedSimpArgs false

def OutQ (w : World) (B b : Nat) (v : Value) (l' : List UInt8) (e : Ending) (w' : World) : Prop := e = .returned (.tuple #[]) ∧ ∃ p' v', OutS w w' B b v p' v' l'
set_option maxRecDepth 100000 in
set_option maxHeartbeats 2000000 in
theorem oint_c (B b : Nat) (p v : Value) (l : List UInt8) (n : Int) (hn1 : -9223372036854775808 ≤ n) (hn2 : n ≤ 9223372036854775807) (w : World) (h : Hid (OutV w B b p v l)) (hl : l.length ≤ 900000) :
    Calls Tryd.prog 81 #[.pointer (some ⟨b, 0, none⟩), .int .i64 n] w (OutQ w B b v (l ++ encI n)) := by
  have HZ := Lib.hid (zig_lt hn1 hn2)
  have HLEN := Lib.hid (encI_len hn1 hn2)
  by_cases h0 : 0 ≤ n
  · have hz := zig_pos h0 hn2
    go_enter Tryd.func81, Tryd.ntmps81
    go_wp2_with fail
    clear hz
    go_loopw [4] (fun s4 wx => ∃ (u : Nat) (acc : List UInt8) (p' v' : Value) (wr : World), wr = wx ∧ u < 18446744073709551616 ∧ s4 = .int .u64 u ∧ Hid (encI n = acc ++ encU u) ∧ acc.length ≤ 10 ∧ Hid (OutS w wr B b v p' v' (l ++ acc))) (fun s4 _ => (intOf s4).toNat)
    case atStart => exact ⟨zig n, [], p, v, _, rfl, HZ.out, rfl, rfl, by simp, by have := OutS.refl h.out; rwa [List.append_nil]⟩
    case round =>
      obtain ⟨u, acc, p', v', wr, rfl, hu, rfl, henc, hal, hS⟩ := hrel
      have HOUT : Hid (OutV wr B b p' v' (l ++ acc)) := hS.out.out
      have hll : (l ++ acc).length ≤ 1000000 := by rw [List.length_append]; omega
      have HLL := Lib.hid hll
      clear hll
      by_cases hg : u < 128
      · have hg1 : ¬ (128 : Int) ≤ (u : Int) := by omega
        have hw : IntKind.u8.wrap (u : Int) = ((UInt8.ofNat u).toNat : Int) := by
          rw [u8_toNat (by omega)]
          simp [IntKind.wrap, IntKind.signed, IntKind.bits]; omega
        have HW := Lib.hid hw
        have hE : Hid (encI n = acc ++ [UInt8.ofNat u]) := by rw [← encU_small hg]; exact henc.out
        clear hw
        go_wp2_with fail
        refine (writeByte_c B b p' v' (l ++ acc) (UInt8.ofNat u) _ ?hz wr HOUT HLL.out).mono ?_
        case hz => first | exact HW.out | (have := HW.out; simp [IntKind.wrap, IntKind.signed, IntKind.bits] at this ⊢; omega)
        rintro e w2 ⟨rfl, p2, v2, hs2⟩
        go_wp2_with fail
        go_end0
        exact ⟨rfl, p2, v2, by rw [hE.out, ← List.append_assoc]; exact hS.out.trans hs2⟩
      · have hg1 : (128 : Int) ≤ (u : Int) := by omega
        have HW := Lib.hid (or_128 u)
        have hE : Hid (encI n = (acc ++ [UInt8.ofNat (u % 128 + 128)]) ++ encU (u / 128)) := by rw [List.append_assoc, List.singleton_append, ← encU_great hg]; exact henc.out
        have HAL : Hid ((acc ++ [UInt8.ofNat (u % 128 + 128)]).length ≤ 10) := by
          have h1 := congrArg List.length hE.out
          have h2 := HLEN.out
          rw [List.length_append] at h1
          show _ ≤ _
          omega
        go_wp2_with fail
        refine (writeByte_c B b p' v' (l ++ acc) (UInt8.ofNat (u % 128 + 128)) _ ?hz2 wr HOUT HLL.out).mono ?_
        case hz2 => exact HW.out
        rintro e w2 ⟨rfl, p2, v2, hs2⟩
        have HS2 : Hid (OutS w w2 B b v p2 v2 (l ++ (acc ++ [UInt8.ofNat (u % 128 + 128)]))) := by rw [← List.append_assoc]; exact hS.out.trans hs2
        clear hs2
        go_wp2_with fail
        go_roundw
        case rel => exact ⟨u / 128, _, _, _, _, rfl, by omega, by go_num, hE, HAL.out, HS2⟩
        case measure => simp [intOf]; omega
  · have h1 : n < 0 := by omega
    have hz := zig_neg hn1 h1
    clear h0
    go_enter Tryd.func81, Tryd.ntmps81
    go_wp2_with fail
    clear hz
    go_loopw [4] (fun s4 wx => ∃ (u : Nat) (acc : List UInt8) (p' v' : Value) (wr : World), wr = wx ∧ u < 18446744073709551616 ∧ s4 = .int .u64 u ∧ Hid (encI n = acc ++ encU u) ∧ acc.length ≤ 10 ∧ Hid (OutS w wr B b v p' v' (l ++ acc))) (fun s4 _ => (intOf s4).toNat)
    case atStart => exact ⟨zig n, [], p, v, _, rfl, HZ.out, rfl, rfl, by simp, by have := OutS.refl h.out; rwa [List.append_nil]⟩
    case round =>
      obtain ⟨u, acc, p', v', wr, rfl, hu, rfl, henc, hal, hS⟩ := hrel
      have HOUT : Hid (OutV wr B b p' v' (l ++ acc)) := hS.out.out
      have hll : (l ++ acc).length ≤ 1000000 := by rw [List.length_append]; omega
      have HLL := Lib.hid hll
      clear hll
      by_cases hg : u < 128
      · have hg1 : ¬ (128 : Int) ≤ (u : Int) := by omega
        have hw : IntKind.u8.wrap (u : Int) = ((UInt8.ofNat u).toNat : Int) := by
          rw [u8_toNat (by omega)]
          simp [IntKind.wrap, IntKind.signed, IntKind.bits]; omega
        have HW := Lib.hid hw
        have hE : Hid (encI n = acc ++ [UInt8.ofNat u]) := by rw [← encU_small hg]; exact henc.out
        clear hw
        go_wp2_with fail
        refine (writeByte_c B b p' v' (l ++ acc) (UInt8.ofNat u) _ ?hz wr HOUT HLL.out).mono ?_
        case hz => first | exact HW.out | (have := HW.out; simp [IntKind.wrap, IntKind.signed, IntKind.bits] at this ⊢; omega)
        rintro e w2 ⟨rfl, p2, v2, hs2⟩
        go_wp2_with fail
        go_end0
        exact ⟨rfl, p2, v2, by rw [hE.out, ← List.append_assoc]; exact hS.out.trans hs2⟩
      · have hg1 : (128 : Int) ≤ (u : Int) := by omega
        have HW := Lib.hid (or_128 u)
        have hE : Hid (encI n = (acc ++ [UInt8.ofNat (u % 128 + 128)]) ++ encU (u / 128)) := by rw [List.append_assoc, List.singleton_append, ← encU_great hg]; exact henc.out
        have HAL : Hid ((acc ++ [UInt8.ofNat (u % 128 + 128)]).length ≤ 10) := by
          have h1 := congrArg List.length hE.out
          have h2 := HLEN.out
          rw [List.length_append] at h1
          show _ ≤ _
          omega
        go_wp2_with fail
        refine (writeByte_c B b p' v' (l ++ acc) (UInt8.ofNat (u % 128 + 128)) _ ?hz2 wr HOUT HLL.out).mono ?_
        case hz2 => exact HW.out
        rintro e w2 ⟨rfl, p2, v2, hs2⟩
        have HS2 : Hid (OutS w w2 B b v p2 v2 (l ++ (acc ++ [UInt8.ofNat (u % 128 + 128)]))) := by rw [← List.append_assoc]; exact hS.out.trans hs2
        clear hs2
        go_wp2_with fail
        go_roundw
        case rel => exact ⟨u / 128, _, _, _, _, rfl, by omega, by go_num, hE, HAL.out, HS2⟩
        case measure => simp [intOf]; omega
set_option maxRecDepth 100000 in
theorem oint_nil (n : Int) (w : World) : Calls Tryd.prog 81 #[.pointer none, .int .i64 n] w fun e w' => e = .returned (.tuple #[]) ∧ w = w' := by
  go_enter Tryd.func81, Tryd.ntmps81
  go_wp2_with fail
  exact bodyPost_ret (results_none (by kernel_rfl) _ _ _) rfl ⟨rfl, rfl⟩
def encT (s : ByteArray) : List UInt8 := encI s.size ++ s.data.toList
def encB (x : Bool) : List UInt8 := if x then encI 1 else encI 0
set_option maxRecDepth 100000 in
theorem obool_c (B b : Nat) (p v : Value) (l : List UInt8) (x : Bool) (w : World) (h : Hid (OutV w B b p v l)) (hl : l.length ≤ 900000) :
    Calls Tryd.prog 155 #[.pointer (some ⟨b, 0, none⟩), .bool x] w (OutQ w B b v (l ++ encB x)) := by
  cases x with
  | true =>
    go_enter Tryd.func155, Tryd.ntmps155
    go_wp2_with fail
    refine (oint_c B b p v l 1 (by omega) (by omega) w h hl).mono ?_
    rintro e w1 ⟨rfl, p1, v1, hs1⟩
    have HS1 := Lib.hid hs1
    clear hs1
    go_wp2_with fail
    go_end0
    exact ⟨rfl, p1, v1, HS1.out⟩
  | false =>
    go_enter Tryd.func155, Tryd.ntmps155
    go_wp2_with fail
    refine (oint_c B b p v l 0 (by omega) (by omega) w h hl).mono ?_
    rintro e w1 ⟨rfl, p1, v1, hs1⟩
    have HS1 := Lib.hid hs1
    clear hs1
    go_wp2_with fail
    go_end0
    exact ⟨rfl, p1, v1, HS1.out⟩
set_option maxRecDepth 100000 in
theorem obool_nil (x : Bool) (w : World) : Calls Tryd.prog 155 #[.pointer none, .bool x] w fun e w' => e = .returned (.tuple #[]) ∧ w = w' := by
  cases x <;> (
    go_enter Tryd.func155, Tryd.ntmps155
    go_wp2_with fail
    refine (oint_nil _ w).mono ?_
    rintro e w1 ⟨rfl, rfl⟩
    go_wp2_with fail
    go_end0
    exact ⟨rfl, rfl⟩)
def BytesQ (w : World) (B b : Nat) (p v : Value) (l : List UInt8) (e : Ending) (w' : World) : Prop := e = .returned (.string ⟨l.toArray⟩) ∧ OutS w w' B b v p v l
set_option maxRecDepth 100000 in
theorem obytes_c (B b : Nat) (p v : Value) (l : List UInt8) (w : World) (h : Hid (OutV w B b p v l)) (hl : l.length ≤ 1000000) :
    Calls Tryd.prog 84 #[.pointer (some ⟨b, 0, none⟩)] w (BytesQ w B b p v l) := by
  go_enter Tryd.func84, Tryd.ntmps84
  go_wp2_with fail
  refine (bstring_c B b p v l w h hl).mono ?_
  rintro e w1 ⟨rfl, hs1⟩
  have HS1 := Lib.hid hs1
  clear hs1
  go_wp2_with fail
  go_ret
  exact ⟨rfl, HS1.out⟩
set_option maxRecDepth 100000 in
theorem obytes_nil (w : World) : Calls Tryd.prog 84 #[.pointer none] w fun e w' => e = .returned (.string ByteArray.empty) ∧ w = w' := by
  go_enter Tryd.func84, Tryd.ntmps84
  go_wp2_with fail
  go_ret
  exact ⟨rfl, rfl⟩
end Go.Proofs.YtbningfdpibdkaaDoor
