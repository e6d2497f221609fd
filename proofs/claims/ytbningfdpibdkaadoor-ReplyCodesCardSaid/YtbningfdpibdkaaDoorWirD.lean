/-
  wire: the reader: Int.
-/
import Derived.Test.YtbningfdpibdkaaDoorWirC
namespace Go.Proofs.YtbningfdpibdkaaDoor
open Go.RowKit
set_option linter.unusedVariables false
set_option linter.unusedSimpArgs false

/-- A reader's state: the next place, and the place of what was wrong first. -/
abbrev St := Nat × Option Nat
/-- Int, in plain words. -/
def rdI (s : ByteArray) (p : St) : Int × St := match p.2 with
  | some _ => (0, p)
  | none => match readI (s.data.toList.drop p.1) with
    | some (z, n) => (z, (p.1 + n, none))
    | none => (0, (s.size, some p.1))
/-- The reader's state in memory. -/
def InW (w : World) (E : Nat → Addr) (q : Nat) (s : ByteArray) (p : St) : Prop := ∃ er, InV w E q s p.1 er p.2
def ErrForm (w : World) (E : Nat → Addr) : Prop := w.cell? ⟨1, 0, none⟩ = some (erV E 3)
def IntQ (w : World) (E : Nat → Addr) (q : Nat) (s : ByteArray) (r : Int × St) (e : Ending) (w' : World) : Prop := e = .returned (.int .i64 r.1) ∧ InW w' E q s r.2 ∧ Turns (fun k => k = q) w w'
theorem xor_m1 (a : Nat) (ha : a < 9223372036854775808) : bits .xor .i64 (a : Int) (-1) = -1 - (a : Int) := by
  show IntKind.i64.wrap ((BitVec.ofInt 64 (a : Int) ^^^ BitVec.ofInt 64 (-1)).toNat : Int) = _
  have h1 : BitVec.ofInt 64 (-1) = BitVec.allOnes 64 := by decide
  rw [h1, BitVec.xor_allOnes, BitVec.toNat_not, ofInt_u64 a (by omega)]
  simp [IntKind.wrap, IntKind.bits, IntKind.signed]
  omega
theorem xor_00 (a : Nat) (ha : a < 9223372036854775808) : bits .xor .i64 (a : Int) 0 = (a : Int) := by
  show IntKind.i64.wrap ((BitVec.ofInt 64 (a : Int) ^^^ BitVec.ofInt 64 0).toNat : Int) = _
  have h1 : BitVec.ofInt 64 0 = 0#64 := by decide
  rw [h1, BitVec.xor_zero, ofInt_u64 a (by omega)]
  simp [IntKind.wrap, IntKind.bits, IntKind.signed]
  omega
theorem unzig_bits {u : Nat} (hu : u < 18446744073709551616) : bits .xor .i64 (wrap64 ((u : Int) / 2)) (wrap64 (-wrap64 (bits .and .u64 (u : Int) 1))) = unzig u := by
  have h1 : bits .and .u64 (u : Int) 1 = ((u % 2 : Nat) : Int) := by
    have := u64_and_nat u 1 hu (by decide)
    rwa [nat_mask1] at this
  have h2 : wrap64 ((u : Int) / 2) = ((u / 2 : Nat) : Int) := by
    rw [show (u : Int) / 2 = ((u / 2 : Nat) : Int) by omega]
    unfold wrap64; omega
  rw [h1, h2]
  unfold unzig
  rcases Nat.mod_two_eq_zero_or_one u with h | h
  · rw [h, if_pos rfl]
    rw [show wrap64 (-wrap64 ((0 : Nat) : Int)) = 0 by unfold wrap64; omega]
    exact xor_00 _ (by omega)
  · rw [h, if_neg (by omega)]
    rw [show wrap64 (-wrap64 ((1 : Nat) : Int)) = -1 by unfold wrap64; omega]
    rw [xor_m1 _ (by omega)]
    omega
theorem ret_i64 {a b : Int} (h : a = b) : Ending.returned (.int .i64 a) = .returned (.int .i64 b) := by rw [h]
theorem decA_lt {l : List UInt8} {x n : Nat} (h : decA l 0 0 = (x, n)) (hn : n ≠ 0) : x < 18446744073709551616 ∧ n ≤ l.length := by
  obtain ⟨v, h1, h2, h3, h4, _⟩ := decA_spec l 0 0 x n (by omega) (by simp) h hn
  refine ⟨h4, ?_⟩
  have := congrArg List.length h3
  rw [List.length_take] at this
  omega
set_option maxRecDepth 100000 in
set_option maxHeartbeats 2000000 in
theorem iint_c (E : Nat → Addr) (q : Nat) (s : ByteArray) (pos : Nat) (er : Value) (bad : Option Nat) (w : World) (h : Hid (InV w E q s pos er bad)) (hs : s.size ≤ 1000000) (hE : Hid (ErrForm w E)) :
    Calls Tryd.prog 71 #[.pointer (some ⟨q, 0, none⟩)] w (IntQ w E q s (rdI s (pos, bad))) := by
  have c2 := h.out.blk.cell 2 _ rfl
  cases bad with
  | some z =>
    obtain ⟨g, rfl, hg⟩ := h.out.er_some
    unfold faultV at c2
    have HR : Hid (IntQ w E q s (rdI s (pos, some z)) (.returned (.int .i64 0)) w) := ⟨rfl, ⟨_, h.out⟩, Turns.of_below (Below.refl _ _)⟩
    clear hg h hE
    go_enter Tryd.func71, Tryd.ntmps71
    go_wp2_with fail
    go_ret
    exact HR.out
  | none =>
    have her := h.out.er_nil
    subst her
    obtain ⟨⟨x, n⟩, hr⟩ : ∃ r, decA (s.data.toList.drop pos) 0 0 = r := ⟨_, rfl⟩
    have HRAW := Lib.hid (raw_c E q s pos .nilIface none w h hs)
    rw [hr] at HRAW
    have hlen : (s.data.toList.drop pos).length = s.size - pos := by rw [List.length_drop]; simp
    have hle := h.out.le
    by_cases hn : n = 0
    · subst hn
      have hrd : rdI s (pos, none) = (0, (s.size, some pos)) := by
        unfold rdI readI
        simp only [hr]
        rfl
      rw [hrd]
      have HE := hE
      clear hr hrd hE
      go_enter Tryd.func71, Tryd.ntmps71
      go_wp2_with fail
      refine (HRAW.out).mono ?_
      rintro e w1 ⟨rfl, hb1⟩
      have HI1 := Lib.hid (h.out.below hb1)
      have hE1 : w1.cell? ⟨1, 0, none⟩ = some (erV E 3) := (hb1.cell (World.block_lt_of_cell? w ⟨1, 0, none⟩ HE.out)).trans HE.out
      have HE1 := Lib.hid hE1
      have HB1 := Lib.hid hb1
      have c1 := HI1.out.blk.cell 1 _ rfl
      clear hb1 c2 hE1
      go_wp2_with fail
      refine (fail_c E q s pos pos .nilIface none w1 HI1 HE1.out).mono ?_
      rintro e w2 ⟨rfl, hi2, ht2⟩
      have HR : Hid (IntQ w E q s (0, (s.size, some pos)) (.returned (.int .i64 0)) w2) := ⟨rfl, hi2, (Turns.of_below HB1.out).trans ht2 (fun _ _ h => h)⟩
      clear hi2 ht2
      go_wp2_with fail
      go_ret
      exact HR.out
    · obtain ⟨hx, hnl⟩ := decA_lt hr hn
      rw [hlen] at hnl
      have hrd : rdI s (pos, none) = (unzig x, (pos + n, none)) := by
        unfold rdI readI
        simp only [hr]
        rw [if_neg hn]
      rw [hrd]
      have HX := Lib.hid hx
      have hpl : pos + n ≤ s.size := by omega
      have HPL := Lib.hid hpl
      clear hpl
      clear hr hrd hE hx hlen
      go_enter Tryd.func71, Tryd.ntmps71
      go_wp2_with fail
      refine (HRAW.out).mono ?_
      rintro e w1 ⟨rfl, hb1⟩
      have HI1 := Lib.hid (h.out.below hb1)
      have c1 := HI1.out.blk.cell 1 _ rfl
      have f1 := HI1.out.blk.free 1
      have HB1 := Lib.hid hb1
      have hn' : ¬ (n : Int) = 0 := by omega
      have hsum : (pos : Int) + (n : Int) = ((pos + n : Nat) : Int) := by omega
      have HS := Lib.hid hsum
      have hpn : (pos : Int) + (n : Int) ≤ 1000000 := by omega
      clear hb1 c2 hn hsum
      go_wp2_with fail
      go_ret
      refine ⟨?_, ⟨.nilIface, ?_, rfl, HPL.out⟩, (Turns.of_below HB1.out).trans (Turns.set (F := fun k => k = q) rfl) (fun _ _ h => h)⟩
      · exact ret_i64 (unzig_bits HX.out)
      · have := HI1.out.blk.set 1 (.int .i64 ((pos : Int) + (n : Int)))
        rw [HS.out] at this
        rw [HS.out]
        exact this
end Go.Proofs.YtbningfdpibdkaaDoor
