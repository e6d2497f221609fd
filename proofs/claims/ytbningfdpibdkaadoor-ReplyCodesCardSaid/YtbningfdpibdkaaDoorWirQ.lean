/-
  Wire: bytes as numbers: the plain law of reading.
-/
import Derived.Test.YtbningfdpibdkaaDoorWirP
namespace Go.Proofs.YtbningfdpibdkaaDoor
open Go.RowKit
set_option linter.unusedVariables false
set_option linter.unusedSimpArgs false

/-- A number's bytes are read: the number without its sign, and how many bytes it has (0: there is none). -/
def decA : List UInt8 → Nat → Nat → Nat × Nat
  | [], _, _ => (0, 0)
  | b :: r, k, u => if (k = 9 ∧ 1 < b.toNat) ∨ (b.toNat = 0 ∧ 0 < k) then (0, 0) else if b.toNat < 128 then (u + b.toNat * 128 ^ k, k + 1) else decA r (k + 1) (u + (b.toNat % 128) * 128 ^ k)
theorem pow9 : (128 : Nat) ^ 9 = 9223372036854775808 := by decide
theorem pow_le9 {k : Nat} (h : 9 ≤ k) : 9223372036854775808 ≤ 128 ^ k := by
  rw [← pow9]
  exact Nat.pow_le_pow_right (by omega) h
theorem split128 (v P : Nat) : (v / 128) * (P * 128) + (v % 128) * P = v * P := by
  have h := Nat.div_add_mod v 128
  calc (v / 128) * (P * 128) + (v % 128) * P = (128 * (v / 128) + v % 128) * P := by rw [Nat.add_mul, Nat.mul_comm P 128, ← Nat.mul_assoc, Nat.mul_comm (v / 128) 128]
    _ = v * P := by rw [h]
/-- What was written is read. -/
theorem decA_enc (r : List UInt8) : ∀ (v k u : Nat), v * 128 ^ k + u < 18446744073709551616 → (0 < k → 0 < v) → decA (encU v ++ r) k u = (u + v * 128 ^ k, k + (encU v).length) := by
  intro v
  induction v using Nat.strongRecOn with
  | _ v ih =>
    intro k u hv hk
    by_cases h : v < 128
    · rw [encU_small h, List.singleton_append]
      simp only [decA]
      rw [u8_toNat (by omega), if_neg, if_pos h]
      · rfl
      · rintro (⟨h1, h2⟩ | ⟨h1, h2⟩)
        · subst h1
          rw [pow9] at hv
          omega
        · have := hk h2; omega
    · rw [encU_great h, List.cons_append]
      simp only [decA]
      rw [u8_toNat (by omega), if_neg, if_neg (by omega), ih (v / 128) (by omega) (k + 1) _ ?_ (fun _ => by omega)]
      · rw [Nat.pow_succ, show (v % 128 + 128) % 128 = v % 128 by omega, List.length_cons]
        have := split128 v (128 ^ k)
        congr 1 <;> omega
      · rw [Nat.pow_succ, show (v % 128 + 128) % 128 = v % 128 by omega]
        have := split128 v (128 ^ k)
        omega
      · rintro (⟨h1, h2⟩ | ⟨h1, h2⟩)
        · subst h1
          rw [pow9] at hv
          omega
        · omega
theorem u8_ofNat_toNat (b : UInt8) : UInt8.ofNat b.toNat = b := UInt8.ofNat_toNat
/-- What is read is what was written. -/
theorem decA_spec : ∀ (l : List UInt8) (k u x n : Nat), k ≤ 9 → u < 128 ^ k → decA l k u = (x, n) → n ≠ 0 → ∃ v, x = u + v * 128 ^ k ∧ n = k + (encU v).length ∧ l.take (encU v).length = encU v ∧ x < 18446744073709551616 ∧ (0 < k → 0 < v)
  | [], k, u, x, n, _, _, h, hn => by simp only [decA] at h; cases h; exact absurd rfl hn
  | b :: r, k, u, x, n, hk, hu, h, hn => by
    have hb := b.toNat_lt
    simp only [decA] at h
    split at h
    · cases h; exact absurd rfl hn
    · rename_i hc
      have hP : 0 < 128 ^ k := Nat.pow_pos (by omega)
      split at h
      · rename_i h128
        cases h
        refine ⟨b.toNat, rfl, by rw [encU_small h128]; rfl, by rw [encU_small h128, u8_ofNat_toNat]; rfl, ?_, fun h0 => ?_⟩
        · by_cases h9 : k = 9
          · subst h9
            have : b.toNat ≤ 1 := by
              rcases Nat.lt_or_ge 1 b.toNat with h1 | h1
              · exact absurd (.inl ⟨rfl, h1⟩) hc
              · exact h1
            rw [pow9] at *
            have : b.toNat * 9223372036854775808 ≤ 1 * 9223372036854775808 := Nat.mul_le_mul_right _ this
            omega
          · have h1 : 128 ^ (k + 1) ≤ 128 ^ 9 := Nat.pow_le_pow_right (by omega) (by omega)
            rw [pow9, Nat.pow_succ] at h1
            have h2 : b.toNat * 128 ^ k ≤ 127 * 128 ^ k := Nat.mul_le_mul_right _ (by omega)
            omega
        · rcases Nat.eq_zero_or_pos b.toNat with h1 | h1
          · exact absurd (.inr ⟨h1, h0⟩) hc
          · exact h1
      · rename_i h128
        have h9 : k ≠ 9 := fun e => hc (.inl ⟨e, by omega⟩)
        have hu2 : u + (b.toNat % 128) * 128 ^ k < 128 ^ (k + 1) := by
          rw [Nat.pow_succ]
          have : (b.toNat % 128) * 128 ^ k ≤ 127 * 128 ^ k := Nat.mul_le_mul_right _ (by omega)
          omega
        obtain ⟨v, h1, h2, h3, h4, h5⟩ := decA_spec r (k + 1) _ x n (by omega) hu2 h hn
        have hv := h5 (by omega)
        refine ⟨v * 128 + b.toNat % 128, ?_, ?_, ?_, h4, fun _ => by omega⟩
        · rw [h1, Nat.pow_succ]
          have := split128 (v * 128 + b.toNat % 128) (128 ^ k)
          rw [show (v * 128 + b.toNat % 128) / 128 = v by omega, show (v * 128 + b.toNat % 128) % 128 = b.toNat % 128 by omega] at this
          omega
        · rw [encU_great (by omega), List.length_cons, show (v * 128 + b.toNat % 128) / 128 = v by omega, h2]
          omega
        · rw [encU_great (by omega), List.length_cons, show (v * 128 + b.toNat % 128) / 128 = v by omega, List.take_succ_cons, h3, show (v * 128 + b.toNat % 128) % 128 + 128 = b.toNat by omega, u8_ofNat_toNat]
/-- The next number of bytes. -/
def readI (l : List UInt8) : Option (Int × Nat) := let p := decA l 0 0; if p.2 = 0 then none else some (unzig p.1, p.2)
theorem readI_some {l : List UInt8} {z : Int} {n : Nat} (h : readI l = some (z, n)) : n = (encI z).length ∧ l.take n = encI z ∧ n ≤ l.length ∧ -9223372036854775808 ≤ z ∧ z ≤ 9223372036854775807 := by
  unfold readI at h
  simp only at h
  split at h
  · cases h
  · rename_i hn
    obtain ⟨v, h1, h2, h3, h4, _⟩ := decA_spec l 0 0 (decA l 0 0).1 (decA l 0 0).2 (by omega) (by simp) rfl hn
    have e1 : unzig (decA l 0 0).1 = z ∧ (decA l 0 0).2 = n := by simpa using h
    obtain ⟨e1, e2⟩ := e1
    simp only [Nat.pow_zero, Nat.mul_one, Nat.zero_add] at h1 h2
    rw [h1] at e1
    have hz : zig z = v := by rw [← e1, zig_unzig]
    have hlen : n = (encI z).length := by unfold encI; rw [hz, ← e2, h2]
    refine ⟨hlen, ?_, ?_, ?_⟩
    · rw [hlen]; unfold encI; rw [hz]; exact h3
    · have := congrArg List.length h3
      rw [List.length_take] at this
      rw [hlen]; unfold encI; rw [hz]; omega
    · rw [h1] at h4
      rw [← e1]
      unfold unzig
      split <;> omega
theorem readI_enc (z : Int) (r : List UInt8) (h1 : -9223372036854775808 ≤ z) (h2 : z ≤ 9223372036854775807) : readI (encI z ++ r) = some (z, (encI z).length) := by
  unfold readI encI
  have := decA_enc r (zig z) 0 0 (by have := zig_lt h1 h2; simp; omega) (by omega)
  rw [this]
  have hp := encU_pos (zig z)
  simp only [Nat.zero_add, Nat.pow_zero, Nat.mul_one]
  rw [if_neg (by omega), unzig_zig]
/-- No bytes begin another number's. -/
theorem encI_inj {y z : Int} {r s : List UInt8} (hy : -9223372036854775808 ≤ y ∧ y ≤ 9223372036854775807) (hz : -9223372036854775808 ≤ z ∧ z ≤ 9223372036854775807) (h : encI y ++ r = encI z ++ s) : y = z ∧ r = s := by
  have h1 := readI_enc y r hy.1 hy.2
  have h2 := readI_enc z s hz.1 hz.2
  rw [h, h2] at h1
  have : z = y := by simpa using (Prod.mk.inj (Option.some.inj h1)).1
  subst this
  exact ⟨rfl, List.append_cancel_left h⟩
end Go.Proofs.YtbningfdpibdkaaDoor
