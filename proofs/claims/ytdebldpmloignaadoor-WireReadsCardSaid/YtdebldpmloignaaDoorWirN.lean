/-
  wire: two writers side by side; what was written is read: the plain law.
-/
import Derived.Test.YtdebldpmloignaaDoorWirI
import Derived.Test.YtdebldpmloignaaDoorWirM
namespace Go.Proofs.YtdebldpmloignaaDoor
open Go.RowKit
set_option linter.unusedVariables false

/-- Two writers that share no block. -/
def Apart (b : Nat) (v : Value) (c : Nat) (u : Value) : Prop := ∀ k, OutF b v k → ¬ OutF c u k
theorem Apart.symm {b c : Nat} {v u : Value} (h : Apart b v c u) : Apart c u b v := fun k h1 h2 => h k h2 h1
theorem OutV.other {w w' : World} {B b C c : Nat} {v p' v' x u : Value} {l' m : List UInt8} (h : OutV w C c x u m) (hs : OutS w w' B b v p' v' l') (ha : Apart b v c u) : OutV w' C c x u m :=
  h.turns hs.turns (fun k hk hf => ha k hf hk)
theorem Apart.step {w w' : World} {B b C c : Nat} {v p' v' x u : Value} {l' m : List UInt8} (ha : Apart b v c u) (h : OutV w C c x u m) (hs : OutS w w' B b v p' v' l') : Apart b v' c u := fun k h1 h2 => by
  rcases h1 with h1 | h1
  · exact ha k (.inl h1) h2
  · rcases hs.own k h1 with h3 | h3
    · exact ha k (.inr h3) h2
    · rcases h2 with h2 | h2
      · have := h.blk.lt; omega
      · have := (h.row.lt k h2).2; omega
/-- The numbers of a list, the things of a list: their bytes. -/
def encN (l : List Int) : List UInt8 := l.flatMap encI
def encD (s : ByteArray) (a b c d : Int) (z : Int) : List UInt8 := encI z ++ encT s ++ encV a b c d ++ encB (decide (0 < z))
def encA (s : ByteArray) (a b c d : Int) (l : List Int) : List UInt8 := l.flatMap (encD s a b c d)
theorem encN_take {l : List Int} {k : Nat} {z : Int} (h : l[k]? = some z) : encN (l.take (k + 1)) = encN (l.take k) ++ encI z := by
  unfold encN
  rw [List.take_add_one, h]
  simp
theorem encA_take {s : ByteArray} {a b c d : Int} {l : List Int} {k : Nat} {z : Int} (h : l[k]? = some z) : encA s a b c d (l.take (k + 1)) = encA s a b c d (l.take k) ++ encD s a b c d z := by
  unfold encA
  rw [List.take_add_one, h]
  simp
theorem encA_drop {s : ByteArray} {a b c d : Int} {l : List Int} {k : Nat} {z : Int} (h : l[k]? = some z) : encA s a b c d (l.drop k) = encD s a b c d z ++ encA s a b c d (l.drop (k + 1)) := by
  unfold encA
  rw [drop_cons' h]
  simp
theorem encN_inj : ∀ {l m : List Int}, (∀ z ∈ l, I64 z) → (∀ z ∈ m, I64 z) → encN l = encN m → l = m
  | [], [], _, _, _ => rfl
  | [], z :: m, _, _, h => by
    have := congrArg List.length h
    have hp := encI_pos z
    simp [encN] at this
    omega
  | z :: l, [], _, _, h => by
    have := congrArg List.length h
    have hp := encI_pos z
    simp [encN] at this
    have h2 := this.1
    rw [h2] at hp
    simp at hp
  | y :: l, z :: m, hl, hm, h => by
    have h' : encI y ++ encN l = encI z ++ encN m := by simpa [encN] using h
    obtain ⟨rfl, h2⟩ := encI_inj (hl y (by simp)) (hm z (by simp)) h'
    rw [encN_inj (fun x hx => hl x (by simp [hx])) (fun x hx => hm x (by simp [hx])) h2]
/-- Reading in front of what was written. -/
theorem rdI_at {s : ByteArray} {pos : Nat} {z : Int} {r : List UInt8} (h : s.data.toList.drop pos = encI z ++ r) (hz : I64 z) : rdI s (pos, none) = (z, (pos + (encI z).length, none)) ∧ s.data.toList.drop (pos + (encI z).length) = r := by
  refine ⟨rd_some (by rw [h]; exact readI_enc z r hz.1 hz.2), ?_⟩
  rw [← List.drop_drop, h, List.drop_left]
theorem rdV_at {s : ByteArray} {pos : Nat} {a b c d : Int} {r : List UInt8} (h : s.data.toList.drop pos = encV a b c d ++ r) (ha : I64 a) (hb : I64 b) (hc : I64 c) (hd : I64 d) : rdV s (pos, none) = ((a, b, c, d), (pos + (encV a b c d).length, none)) ∧ s.data.toList.drop (pos + (encV a b c d).length) = r := by
  unfold encV at h ⊢
  simp only [List.append_assoc] at h
  obtain ⟨h1, g1⟩ := rdI_at h ha
  obtain ⟨h2, g2⟩ := rdI_at g1 hb
  obtain ⟨h3, g3⟩ := rdI_at g2 hc
  obtain ⟨h4, g4⟩ := rdI_at g3 hd
  unfold rdV
  simp only [h1, h2, h3, h4, vsel, List.length_append]
  simp only [Nat.add_assoc] at g4 ⊢
  exact ⟨trivial, g4⟩
theorem rdT_at {s t : ByteArray} {pos : Nat} {r : List UInt8} (h : s.data.toList.drop pos = encT t ++ r) (ht : t.size ≤ 1000) : rdT s t.size (pos, none) = (t, (pos + (encT t).length, none)) ∧ s.data.toList.drop (pos + (encT t).length) = r := by
  unfold encT at h ⊢
  rw [List.append_assoc] at h
  obtain ⟨h1, g1⟩ := rdI_at h ⟨by omega, by omega⟩
  have hlen : (s.data.toList.drop (pos + (encI t.size).length)).length = s.size - (pos + (encI t.size).length) := by rw [List.length_drop]; simp
  have hl2 := congrArg List.length g1
  rw [hlen, List.length_append] at hl2
  have hts : t.data.toList.length = t.size := by simp
  rw [List.length_append, hts, ← Nat.add_assoc]
  refine ⟨?_, by rw [← List.drop_drop, g1, ← hts, List.drop_left]⟩
  unfold rdT
  simp only [h1]
  rw [if_neg (by omega), Int.toNat_natCast]
  have : s.extract (pos + (encI t.size).length) (pos + (encI t.size).length + t.size) = t := by
    apply ByteArray.ext
    apply Array.toList_inj.1
    rw [ByteArray.data_extract, Array.toList_extract, List.extract_eq_take_drop, g1]
    rw [show pos + (encI t.size).length + t.size - (pos + (encI t.size).length) = t.data.toList.length by omega, List.take_left]
  rw [this]
theorem rdB_at {s : ByteArray} {pos : Nat} {x : Bool} {r : List UInt8} (h : s.data.toList.drop pos = encB x ++ r) : rdB s (pos, none) = (x, (pos + (encB x).length, none)) ∧ s.data.toList.drop (pos + (encB x).length) = r := by
  cases x with
  | true =>
    have h' : s.data.toList.drop pos = encI 1 ++ r := h
    obtain ⟨h1, g1⟩ := rdI_at h' ⟨by omega, by omega⟩
    refine ⟨?_, g1⟩
    unfold rdB
    simp only [h1]
    rfl
  | false =>
    have h' : s.data.toList.drop pos = encI 0 ++ r := h
    obtain ⟨h1, g1⟩ := rdI_at h' ⟨by omega, by omega⟩
    refine ⟨?_, g1⟩
    unfold rdB
    simp only [h1]
    rfl
end Go.Proofs.YtdebldpmloignaaDoor
