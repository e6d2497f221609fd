/-
  Wire: numbers as bytes: the plain law.
-/
import Derived.Test.YtbningfdpibdkaaDoorMem
import Derived.Laws.BitsAllLaws
import Derived.Laws.Bits128
namespace Go.Proofs.YtbningfdpibdkaaDoor
open Go.RowKit
set_option linter.unusedVariables false
set_option linter.unusedSimpArgs false

/-- A number without a sign. -/
def zig (n : Int) : Nat := if 0 ≤ n then (2 * n).toNat else (-2 * n - 1).toNat
def unzig (u : Nat) : Int := if u % 2 = 0 then ((u / 2 : Nat) : Int) else -((u / 2 : Nat) : Int) - 1
theorem zig_lt {n : Int} (h1 : -9223372036854775808 ≤ n) (h2 : n ≤ 9223372036854775807) : zig n < 18446744073709551616 := by
  unfold zig; split <;> omega
theorem unzig_zig (n : Int) : unzig (zig n) = n := by
  unfold unzig zig; split <;> split <;> omega
theorem zig_unzig (u : Nat) : zig (unzig u) = u := by
  unfold unzig zig; split <;> split <;> omega
/-- Its bytes. -/
def encU (u : Nat) : List UInt8 := if h : u < 128 then [UInt8.ofNat u] else UInt8.ofNat (u % 128 + 128) :: encU (u / 128)
termination_by u
decreasing_by omega
def encI (n : Int) : List UInt8 := encU (zig n)
theorem encU_small {u : Nat} (h : u < 128) : encU u = [UInt8.ofNat u] := by rw [encU, dif_pos h]
theorem encU_great {u : Nat} (h : ¬ u < 128) : encU u = UInt8.ofNat (u % 128 + 128) :: encU (u / 128) := by rw [encU, dif_neg h]
theorem encU_pos (u : Nat) : 0 < (encU u).length := by
  rw [encU]; split <;> simp
theorem encU_len (k : Nat) : ∀ u : Nat, u < 128 ^ k → 0 < k → (encU u).length ≤ k := by
  induction k with
  | zero => intro u _ h; omega
  | succ k ih =>
    intro u hu _
    by_cases h : u < 128
    · rw [encU_small h]; simp
    · rw [encU_great h, List.length_cons]
      have h2 : u / 128 < 128 ^ k := by rw [Nat.pow_succ] at hu; exact Nat.div_lt_of_lt_mul (by omega)
      have hk : 0 < k := by
        rcases Nat.eq_zero_or_pos k with h0 | h0
        · subst h0; simp at h2; omega
        · exact h0
      have := ih (u / 128) h2 hk
      omega
theorem encU_len10 {u : Nat} (h : u < 18446744073709551616) : (encU u).length ≤ 10 := encU_len 10 u (by omega) (by omega)
theorem encI_len {n : Int} (h1 : -9223372036854775808 ≤ n) (h2 : n ≤ 9223372036854775807) : (encI n).length ≤ 10 := encU_len10 (zig_lt h1 h2)
theorem encI_pos (n : Int) : 0 < (encI n).length := encU_pos _
theorem u8_toNat {x : Nat} (h : x < 256) : (UInt8.ofNat x).toNat = x := UInt8.toNat_ofNat_of_lt' h
/-! ### the bits -/
theorem xor_ones (x : Nat) (h : x < 18446744073709551616) : x ^^^ 18446744073709551615 = 18446744073709551615 - x := by
  have h1 : (BitVec.ofNat 64 x ^^^ BitVec.allOnes 64).toNat = (~~~ BitVec.ofNat 64 x).toNat := by rw [BitVec.xor_allOnes]
  rw [BitVec.toNat_xor, BitVec.toNat_not, BitVec.toNat_allOnes, BitVec.toNat_ofNat, Nat.mod_eq_of_lt h] at h1
  simpa using h1
theorem zig_pos {n : Int} (h0 : 0 ≤ n) (h2 : n ≤ 9223372036854775807) : bits .xor .u64 (n * 2) (n / 9223372036854775808) = (zig n : Int) := by
  have e : n / 9223372036854775808 = ((0 : Nat) : Int) := by omega
  obtain ⟨m, rfl⟩ : ∃ m : Nat, n = m := ⟨n.toNat, by omega⟩
  rw [e, show (m : Int) * 2 = ((m * 2 : Nat) : Int) by push_cast; rfl, u64_xor_nat _ _ (by omega) (by omega), Nat.xor_zero]
  unfold zig
  rw [if_pos (by omega)]
  omega
theorem zig_neg {n : Int} (h1 : -9223372036854775808 ≤ n) (h0 : n < 0) : bits .xor .u64 (IntKind.u64.wrap (IntKind.u64.wrap n * 2)) (IntKind.u64.wrap (n / 9223372036854775808)) = (zig n : Int) := by
  have e : n / 9223372036854775808 = -1 := by omega
  have e1 : IntKind.u64.wrap (-1) = ((18446744073709551615 : Nat) : Int) := by simp [IntKind.wrap, IntKind.signed, IntKind.bits]
  have e2 : IntKind.u64.wrap (IntKind.u64.wrap n * 2) = ((2 * n + 18446744073709551616).toNat : Int) := by simp [IntKind.wrap, IntKind.signed, IntKind.bits]; omega
  rw [e, e1, e2, u64_xor_nat _ _ (by omega) (by omega), xor_ones _ (by omega)]
  unfold zig
  rw [if_neg (by omega)]
  omega
theorem or_128 (u : Nat) : bits .or .u8 (IntKind.u8.wrap (u : Int)) 128 = ((UInt8.ofNat (u % 128 + 128)).toNat : Int) := by
  have e : IntKind.u8.wrap (u : Int) = ((u % 256 : Nat) : Int) := by simp [IntKind.wrap, IntKind.signed, IntKind.bits]
  rw [u8_toNat (by omega), e]
  rw [show (128 : Int) = ((128 : Nat) : Int) from rfl, u8_or_nat _ _ (by omega) (by omega)]
  congr 1
  have h2 : ∀ y : Fin 256, y.val ||| 128 = y.val % 128 + 128 := by decide +kernel
  have := h2 ⟨u % 256, by omega⟩
  simp only at this
  rw [this]
  omega
end Go.Proofs.YtbningfdpibdkaaDoor
