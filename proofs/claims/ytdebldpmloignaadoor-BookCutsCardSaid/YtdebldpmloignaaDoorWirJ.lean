/-
  wire: the document's numbers, byte by byte.
-/
import Derived.Test.YtdebldpmloignaaDoorWirI
namespace Go.Proofs.YtdebldpmloignaaDoor
open Go.RowKit
set_option linter.unusedVariables false

set_option maxRecDepth 100000 in
set_option maxHeartbeats 2000000 in
theorem rint_c (n : Int) (hn1 : -9223372036854775808 ≤ n) (hn2 : n ≤ 9223372036854775807) (w : World) :
    Calls Tryd.prog 32 #[.int .i64 n] w fun e w' => e = .returned (.string ⟨(encI n).toArray⟩) ∧ Below w.heap.size w w' := by
  have HLEN := Lib.hid (encI_len hn1 hn2)
  obtain ⟨i0, hi, hz0, hz1, hz2⟩ := info_parts info_u8
  by_cases h0 : 0 ≤ n
  · obtain ⟨m, rfl⟩ : ∃ m : Nat, n = m := ⟨n.toNat, by omega⟩
    have hm : m < 9223372036854775808 := by omega
    have HZ : Hid (zig (m : Int) = 2 * m) := by show _ = _; unfold zig; rw [if_pos h0]; omega
    clear hn1 hn2
    go_enter Tryd.func32, Tryd.ntmps32
    go_wp2_with fail
    go_loopw [3, 4] (fun s3 s4 wx => ∃ (u : Nat) (acc : List UInt8) (v : Value) (wr : World), wr = wx ∧ u < 18446744073709551616 ∧ s3 = .int .u64 u ∧ Hid (encI ((m : Int)) = acc ++ encU u) ∧ s4 = v ∧ Hid (wr.ownsRow w.heap.size 5 1 v acc.length (Lib.byteCells acc)) ∧ Hid (Below w.heap.size w wr)) (fun s3 _ _ => (intOf s3).toNat)
    case atStart => exact ⟨2 * m, [], _, _, rfl, by omega, by go_num, by show _ = _; rw [List.nil_append]; unfold encI; rw [HZ.out], rfl, own_empty (Nat.le_refl _), (Below.refl _ w).alloc (Nat.le_refl _) _⟩
    case round =>
      obtain ⟨u, acc, v, wr, rfl, hu, rfl, henc, rfl, HOWN, HB⟩ := hrel
      have HAL : Hid (acc.length ≤ 9) := by
        have h1 := congrArg List.length henc.out
        have h2 := HLEN.out
        have h3 := encU_pos u
        rw [List.length_append] at h1
        show _ ≤ _
        omega
      by_cases hg : u < 128
      · have hg1 : ¬ (127 : Int) < (u : Int) := by omega
        have hE : Hid (encI ((m : Int)) = acc ++ [UInt8.ofNat u]) := by rw [← encU_small hg]; exact henc.out
        have hw : IntKind.u8.wrap (u : Int) = ((UInt8.ofNat u).toNat : Int) := by
          rw [u8_toNat (by omega)]
          simp [IntKind.wrap, IntKind.signed, IntKind.bits]; omega
        have HW := Lib.hid hw
        clear hw
        go_wp2_with (at_builtin; refine wpList_app1 rfl _ _ 27 rfl w.heap.size 5 i0 (.int .u8 0) 1 1 Tryd.underlying27 hi hz0 hz1 hz2 rfl (by decide) _ _ _ rfl HOWN.out _ _ rfl ?a0m ?a1m ?a2m ?a3m ?a4m ?a5m ?_)
        case a0m => rfl
        try (case a1m => rfl)
        case a2m => simp [Value.oneCell']
        case a3m => have := HAL.out; unfold maxLen; omega
        case a4m => have := HAL.out; omega
        case a5m => exact HB.out.size
        intro v2 w2 hown2 hg2 _
        have HB2 := Lib.hid (below_app HB.out HB.out.size (Nat.le_refl _) HOWN.out hg2)
        clear hg2
        obtain ⟨g, cap, rfl, hcap, hbg, hgl, hcell⟩ := own_open hown2 (by omega)
        have hconv := run_convert_bytes_back (P := Tryd.prog) w2 27 9 5 ⟨g, 0, none⟩ cap (acc ++ [UInt8.ofNat u]) Tryd.underlying27 Tryd.underlying5 Tryd.underlying9 (fun j hj => by
          rw [Addr.add_mid, Nat.zero_add]
          refine hcell j _ ?_
          have hb : Lib.byteCells (acc ++ [UInt8.ofNat u]) = Lib.byteCells acc ++ [.int .u8 (u : Int)] := by
            simp only [Lib.byteCells, List.map_append, List.map_cons, List.map_nil]
            rw [u8_toNat (by omega)]
          rw [← hb]
          simp only [Lib.byteCells, List.getElem?_map]
          rw [List.getElem?_eq_getElem hj]
          rfl)
        rw [List.length_append, List.length_singleton] at hconv
        clear hcell hown2
        go_wp2_with fail
        go_ret
        exact ⟨by rw [hE.out]; rfl, HB2.out⟩
      · have hg1 : (127 : Int) < (u : Int) := by omega
        have hE : Hid (encI ((m : Int)) = (acc ++ [UInt8.ofNat (u % 128 + 128)]) ++ encU (u / 128)) := by rw [List.append_assoc, List.singleton_append, ← encU_great hg]; exact henc.out
        go_wp2_with (at_builtin; refine wpList_app1 rfl _ _ 27 rfl w.heap.size 5 i0 (.int .u8 0) 1 1 Tryd.underlying27 hi hz0 hz1 hz2 rfl (by decide) _ _ _ rfl HOWN.out _ _ rfl ?bm0 ?bm1 ?bm2 ?bm3 ?bm4 ?bm5 ?_)
        case bm0 => rfl
        try (case bm1 => rfl)
        case bm2 => simp [Value.oneCell']
        case bm3 => have := HAL.out; unfold maxLen; omega
        case bm4 => have := HAL.out; omega
        case bm5 => exact HB.out.size
        intro v2 w2 hown2 hg2 _
        have HB2 := Lib.hid (below_app HB.out HB.out.size (Nat.le_refl _) HOWN.out hg2)
        clear hg2
        have HOWN2 : Hid (w2.ownsRow w.heap.size 5 1 v2 (acc ++ [UInt8.ofNat (u % 128 + 128)]).length (Lib.byteCells (acc ++ [UInt8.ofNat (u % 128 + 128)]))) := by
          show World.ownsRow _ _ _ _ _ _ _
          have hb : Lib.byteCells (acc ++ [UInt8.ofNat (u % 128 + 128)]) = Lib.byteCells acc ++ [.int .u8 ((u : Int) % 128 + 128)] := by
            simp only [Lib.byteCells, List.map_append, List.map_cons, List.map_nil]
            rw [u8_toNat (by omega)]
            rfl
          rw [hb, List.length_append, List.length_singleton]
          exact hown2
        clear hown2
        go_wp2_with fail
        go_roundw
        case rel => exact ⟨u / 128, _, _, _, rfl, by omega, by go_num, hE, rfl, HOWN2, HB2⟩
        case measure => simp [intOf]; omega
  · obtain ⟨m, rfl⟩ : ∃ m : Nat, n = -(m : Int) - 1 := ⟨(-n - 1).toNat, by omega⟩
    have hm : m < 9223372036854775808 := by omega
    have HZ : Hid (zig (-(m : Int) - 1) = 2 * m + 1) := by show _ = _; unfold zig; rw [if_neg h0]; omega
    have hneg : -(m : Int) - 1 < 0 := by omega
    clear hn1 hn2 h0
    go_enter Tryd.func32, Tryd.ntmps32
    go_wp2_with fail
    go_loopw [3, 4] (fun s3 s4 wx => ∃ (u : Nat) (acc : List UInt8) (v : Value) (wr : World), wr = wx ∧ u < 18446744073709551616 ∧ s3 = .int .u64 u ∧ Hid (encI (-(m : Int) - 1) = acc ++ encU u) ∧ s4 = v ∧ Hid (wr.ownsRow w.heap.size 5 1 v acc.length (Lib.byteCells acc)) ∧ Hid (Below w.heap.size w wr)) (fun s3 _ _ => (intOf s3).toNat)
    case atStart => exact ⟨2 * m + 1, [], _, _, rfl, by omega, by go_num, by show _ = _; rw [List.nil_append]; unfold encI; rw [HZ.out], rfl, own_empty (Nat.le_refl _), (Below.refl _ w).alloc (Nat.le_refl _) _⟩
    case round =>
      obtain ⟨u, acc, v, wr, rfl, hu, rfl, henc, rfl, HOWN, HB⟩ := hrel
      have HAL : Hid (acc.length ≤ 9) := by
        have h1 := congrArg List.length henc.out
        have h2 := HLEN.out
        have h3 := encU_pos u
        rw [List.length_append] at h1
        show _ ≤ _
        omega
      by_cases hg : u < 128
      · have hg1 : ¬ (127 : Int) < (u : Int) := by omega
        have hE : Hid (encI (-(m : Int) - 1) = acc ++ [UInt8.ofNat u]) := by rw [← encU_small hg]; exact henc.out
        have hw : IntKind.u8.wrap (u : Int) = ((UInt8.ofNat u).toNat : Int) := by
          rw [u8_toNat (by omega)]
          simp [IntKind.wrap, IntKind.signed, IntKind.bits]; omega
        have HW := Lib.hid hw
        clear hw
        go_wp2_with (at_builtin; refine wpList_app1 rfl _ _ 27 rfl w.heap.size 5 i0 (.int .u8 0) 1 1 Tryd.underlying27 hi hz0 hz1 hz2 rfl (by decide) _ _ _ rfl HOWN.out _ _ rfl ?a01 ?a11 ?a21 ?a31 ?a41 ?a51 ?_)
        case a01 => rfl
        try (case a11 => rfl)
        case a21 => simp [Value.oneCell']
        case a31 => have := HAL.out; unfold maxLen; omega
        case a41 => have := HAL.out; omega
        case a51 => exact HB.out.size
        intro v2 w2 hown2 hg2 _
        have HB2 := Lib.hid (below_app HB.out HB.out.size (Nat.le_refl _) HOWN.out hg2)
        clear hg2
        obtain ⟨g, cap, rfl, hcap, hbg, hgl, hcell⟩ := own_open hown2 (by omega)
        have hconv := run_convert_bytes_back (P := Tryd.prog) w2 27 9 5 ⟨g, 0, none⟩ cap (acc ++ [UInt8.ofNat u]) Tryd.underlying27 Tryd.underlying5 Tryd.underlying9 (fun j hj => by
          rw [Addr.add_mid, Nat.zero_add]
          refine hcell j _ ?_
          have hb : Lib.byteCells (acc ++ [UInt8.ofNat u]) = Lib.byteCells acc ++ [.int .u8 (u : Int)] := by
            simp only [Lib.byteCells, List.map_append, List.map_cons, List.map_nil]
            rw [u8_toNat (by omega)]
          rw [← hb]
          simp only [Lib.byteCells, List.getElem?_map]
          rw [List.getElem?_eq_getElem hj]
          rfl)
        rw [List.length_append, List.length_singleton] at hconv
        clear hcell hown2
        go_wp2_with fail
        go_ret
        exact ⟨by rw [hE.out]; rfl, HB2.out⟩
      · have hg1 : (127 : Int) < (u : Int) := by omega
        have hE : Hid (encI (-(m : Int) - 1) = (acc ++ [UInt8.ofNat (u % 128 + 128)]) ++ encU (u / 128)) := by rw [List.append_assoc, List.singleton_append, ← encU_great hg]; exact henc.out
        go_wp2_with (at_builtin; refine wpList_app1 rfl _ _ 27 rfl w.heap.size 5 i0 (.int .u8 0) 1 1 Tryd.underlying27 hi hz0 hz1 hz2 rfl (by decide) _ _ _ rfl HOWN.out _ _ rfl ?b10 ?b11 ?b12 ?b13 ?b14 ?b15 ?_)
        case b10 => rfl
        try (case b11 => rfl)
        case b12 => simp [Value.oneCell']
        case b13 => have := HAL.out; unfold maxLen; omega
        case b14 => have := HAL.out; omega
        case b15 => exact HB.out.size
        intro v2 w2 hown2 hg2 _
        have HB2 := Lib.hid (below_app HB.out HB.out.size (Nat.le_refl _) HOWN.out hg2)
        clear hg2
        have HOWN2 : Hid (w2.ownsRow w.heap.size 5 1 v2 (acc ++ [UInt8.ofNat (u % 128 + 128)]).length (Lib.byteCells (acc ++ [UInt8.ofNat (u % 128 + 128)]))) := by
          show World.ownsRow _ _ _ _ _ _ _
          have hb : Lib.byteCells (acc ++ [UInt8.ofNat (u % 128 + 128)]) = Lib.byteCells acc ++ [.int .u8 ((u : Int) % 128 + 128)] := by
            simp only [Lib.byteCells, List.map_append, List.map_cons, List.map_nil]
            rw [u8_toNat (by omega)]
            rfl
          rw [hb, List.length_append, List.length_singleton]
          exact hown2
        clear hown2
        go_wp2_with fail
        go_roundw
        case rel => exact ⟨u / 128, _, _, _, rfl, by omega, by go_num, hE, rfl, HOWN2, HB2⟩
        case measure => simp [intOf]; omega
end Go.Proofs.YtdebldpmloignaaDoor
