/-
  Ring: the plain law: what is kept of all lines.
-/
import Derived.Test.YtkinbidpbgkaoaaDoorSeq
namespace Go.Proofs.YtkinbidpbgkaoaaDoor
open Go.RowKit
set_option linter.unusedVariables false

/-- A line's bytes, with its end. -/
def wt (s : ByteArray) : Nat := s.size + 1
def sumW : List ByteArray → Nat
  | [] => 0
  | x :: r => wt x + sumW r
theorem sumW_append (a b : List ByteArray) : sumW (a ++ b) = sumW a + sumW b := by
  induction a with
  | nil => simp [sumW]
  | cons x r ih => simp only [List.cons_append, sumW, ih]; omega
theorem sumW_one (a : ByteArray) : sumW [a] = a.size + 1 := by simp [sumW, wt]
theorem sumW_drop_le (l : List ByteArray) (j : Nat) : sumW (l.drop j) ≤ sumW l := by
  have := sumW_append (l.take j) (l.drop j)
  rw [List.take_append_drop] at this
  omega
theorem sumW_len (l : List ByteArray) : l.length ≤ sumW l := by
  induction l with
  | nil => simp [sumW]
  | cons x r ih => simp only [List.length_cons, sumW, wt]; omega
/-- The last lines that fit. -/
def trim (size : Nat) : List ByteArray → List ByteArray
  | [] => []
  | x :: r => if wt x + sumW r ≤ size then x :: r else trim size r
theorem trim_fits {size : Nat} {l : List ByteArray} (h : sumW l ≤ size) : trim size l = l := by
  cases l with
  | nil => rfl
  | cons x r =>
    simp only [trim]
    rw [if_pos (show wt x + sumW r ≤ size from h)]
theorem trim_cut {size : Nat} {x : ByteArray} {r : List ByteArray} (h : size < sumW (x :: r)) : trim size (x :: r) = trim size r := by
  simp only [trim]
  rw [if_neg (by simp only [sumW] at h; omega)]
theorem trim_le (size : Nat) (l : List ByteArray) : sumW (trim size l) ≤ size := by
  induction l with
  | nil => simp [trim, sumW]
  | cons x r ih =>
    simp only [trim]
    split
    · simpa [sumW]
    · exact ih
theorem trim_snoc (size : Nat) (l : List ByteArray) (s : ByteArray) : trim size (l ++ [s]) = trim size (trim size l ++ [s]) := by
  induction l with
  | nil => rfl
  | cons x r ih =>
    by_cases h : wt x + sumW r ≤ size
    · rw [show trim size (x :: r) = x :: r from trim_fits (by simpa [sumW])]
    · have e : trim size (x :: r) = trim size r := trim_cut (by simp only [sumW]; omega)
      rw [e, ← ih, List.cons_append]
      exact trim_cut (by simp only [sumW, sumW_append]; omega)
theorem trim_eq {size : Nat} : ∀ (j : Nat) (l : List ByteArray), j ≤ l.length → sumW (l.drop j) ≤ size → (j = 0 ∨ size < sumW (l.drop (j - 1))) → trim size l = l.drop j
  | 0, l, _, h, _ => by rw [List.drop_zero] at *; exact trim_fits h
  | j + 1, [], hj, _, _ => by simp at hj
  | j + 1, x :: r, hj, h, h2 => by
    have h3 : size < sumW ((x :: r).drop j) := by
      rcases h2 with h2 | h2
      · omega
      · simpa using h2
    rw [trim_cut (Nat.lt_of_lt_of_le h3 (sumW_drop_le _ _)), List.drop_succ_cons]
    refine trim_eq j r (by simpa using hj) (by simpa using h) ?_
    cases j with
    | zero => exact .inl rfl
    | succ i => exact .inr (by simpa using h3)
theorem trim_drop (size : Nat) (l : List ByteArray) : ∃ j, j ≤ l.length ∧ trim size l = l.drop j ∧ (j = 0 ∨ size < sumW (l.drop (j - 1))) := by
  induction l with
  | nil => exact ⟨0, by simp, rfl, .inl rfl⟩
  | cons x r ih =>
    by_cases h : wt x + sumW r ≤ size
    · exact ⟨0, by simp, by rw [trim_fits (by simpa [sumW])]; rfl, .inl rfl⟩
    · obtain ⟨j, h1, h2, h3⟩ := ih
      refine ⟨j + 1, by simpa using h1, by rw [trim_cut (by simp only [sumW]; omega), h2]; rfl, .inr ?_⟩
      rcases h3 with rfl | h3
      · simp only [Nat.zero_add, Nat.sub_self, List.drop_zero, sumW]; omega
      · cases j with
        | zero => simp only [Nat.zero_add, Nat.sub_self, List.drop_zero, sumW]; omega
        | succ i => simpa using h3
theorem trim_len (size : Nat) (l : List ByteArray) : (trim size l).length ≤ l.length := by
  obtain ⟨j, _, h, _⟩ := trim_drop size l
  rw [h, List.length_drop]; omega
/-- Behind a line that fits by itself, that line is kept. -/
theorem trim_last (size : Nat) (l : List ByteArray) (s : ByteArray) (hs : wt s ≤ size) : ∃ k, k ≤ l.length ∧ trim size (l ++ [s]) = l.drop k ++ [s] := by
  obtain ⟨j, h1, h2, h3⟩ := trim_drop size (l ++ [s])
  by_cases hj : j ≤ l.length
  · exact ⟨j, hj, by rw [h2, List.drop_append_of_le_length hj]⟩
  · rw [List.length_append, List.length_singleton] at h1
    obtain rfl : j = l.length + 1 := by omega
    rcases h3 with h3 | h3
    · omega
    · rw [Nat.add_sub_cancel, List.drop_append_of_le_length (Nat.le_refl _), List.drop_length, List.nil_append] at h3
      simp only [sumW] at h3
      omega
/-- How many of the last lines fit, counted from the end. -/
theorem keep_drop (size : Nat) (l : List ByteArray) (n : Nat) (hn : n ≤ l.length) (h1 : sumW (l.drop (l.length - n)) ≤ size) (h2 : n = l.length ∨ size < sumW (l.drop (l.length - n - 1))) : trim size l = l.drop (l.length - n) :=
  trim_eq (l.length - n) l (by omega) h1 (by rcases h2 with h2 | h2; exact .inl (by omega); exact .inr h2)
theorem drop_cons {α : Type} {l : List α} {i : Nat} {x : α} (h : l[i]? = some x) : l.drop i = x :: l.drop (i + 1) := by
  obtain ⟨hi, rfl⟩ := List.getElem?_eq_some_iff.1 h
  exact List.drop_eq_getElem_cons hi
end Go.Proofs.YtkinbidpbgkaoaaDoor
