/-
  A slice of structs of one-cell fields that came in, laid open for a walk.
-/
import Derived.Test.YtdebldpmloignaaDoorLaid
import Derived.Test.YtdebldpmloignaaDoorSeq
import Derived.Deep.Slices
namespace Go.Proofs.YtdebldpmloignaaDoor
open Go.RowKit Go.ChangeShapes Go.WideShapes Go.ChangeAt Go.Deep
set_option linter.unusedVariables false
set_option linter.unusedSimpArgs false

theorem list_of {α : Type} {Q : Nat → α → Prop} : ∀ n, (∀ i, i < n → ∃ x, Q i x) → ∃ xs : List α, xs.length = n ∧ ∀ (i : Nat) (x : α), xs[i]? = some x → Q i x
  | 0, _ => ⟨[], rfl, fun i x h => by simp at h⟩
  | n + 1, h => by
    obtain ⟨xs, hl, hx⟩ := list_of n (fun i hi => h i (by omega))
    obtain ⟨y, hy⟩ := h n (by omega)
    refine ⟨xs ++ [y], by simp [hl], fun i x hi => ?_⟩
    by_cases hin : i < n
    · rw [List.getElem?_append_left (by omega)] at hi
      exact hx i x hi
    · have : i = n := by have := (List.getElem?_eq_some_iff.1 hi).1; simp at this; omega
      subst this
      rw [List.getElem?_append_right (by omega), hl] at hi
      simp at hi
      subst hi
      exact hy
theorem rd_of_structs {α : Type} {en : α → List Value} {k : Nat} {H : Type} {enc : TypeId × Value → H} {W : World} {A : Option Addr} {n m : Nat} {d : DataW H} {p : List MemPlace} {t e : TypeId} {fs : Array Field}
    (ht : Tryd.prog.underlying t = some (.slice e)) (he : Tryd.prog.underlying e = some (.struct fs)) (hC : Tryd.prog.cellsOf e = k) (hk : 0 < k) (hen : ∀ x, (en x).length = k) (ok : α → Prop)
    (dec : ∀ (cs : List Value) (fu : Nat), cs.length = k → (∀ (i : Nat) (f : Field), fs[i]? = some f → ∃ y, DataW.trod enc Tryd.prog W 0 (fun _ => true) true fu f.type ((cs.drop f.offset).take (Tryd.prog.cellsOf f.type)) = some y) → ∃ x, en x = cs ∧ ok x)
    (h : DataW.Trod enc Tryd.prog W 0 (fun _ => true) true t (.slice A n m) d p) :
    ∃ xs, RdRows W W.heap.size en k A n xs ∧ n ≤ m ∧ m ≤ maxLen ∧ (A = none → n = 0) ∧ ∀ x ∈ xs, ok x := by
  obtain ⟨fuel, hf⟩ := h
  rcases open_slice ht hf with ⟨hcs, _⟩ | ⟨a, len, cap, m', n', D, Pl, hcs, _, hl, hm, hmm, _, hel⟩
  · simp [Value.cells] at hcs
    obtain ⟨rfl, rfl, rfl⟩ := hcs
    exact ⟨[], ⟨rfl, fun h => absurd h (by omega)⟩, Nat.le_refl _, Nat.zero_le _, fun _ => rfl, by simp⟩
  · simp [Value.cells] at hcs
    obtain ⟨rfl, rfl, rfl⟩ := hcs
    simp only [if_true] at hmm
    subst hmm
    rw [hC] at hel
    have hex : ∀ i, i < n → ∃ x, (∀ j u, (en x)[j]? = some u → W.cell? ((a.add (i * k)).add j) = some u) ∧ ok x := fun i hi => by
      obtain ⟨cs', h1, h2⟩ := hel i (by omega)
      obtain ⟨_, hlen, hcell⟩ := World.cells?_some h1
      obtain ⟨xs, nn, _, _, _, hxl, hfl⟩ := DataW.trod_struct he h2
      obtain ⟨x, hx, hok⟩ := dec cs' nn hlen (fun i f hif => by
        have := hfl i f hif
        exact ⟨_, this.trans (List.getElem?_eq_getElem (by rw [hxl]; exact (Array.getElem?_eq_some_iff.1 hif).1))⟩)
      refine ⟨x, fun j u hu => ?_, hok⟩
      rw [hx] at hu
      rw [hcell j (by have := (List.getElem?_eq_some_iff.1 hu).1; omega)]
      exact hu
    obtain ⟨xs, hxl, hxs⟩ := list_of n hex
    refine ⟨xs, ⟨hxl, fun hn => ?_⟩, hl, hm, by simp, fun x hx => ?_⟩
    · obtain ⟨b, off, spot⟩ := a
      obtain ⟨x0, hx0⟩ : ∃ x, xs[0]? = some x := ⟨_, List.getElem?_eq_getElem (by omega)⟩
      have h0 := (hxs 0 x0 hx0).1 0 _ (List.getElem?_eq_getElem (by rw [hen]; exact hk))
      have hspot : spot = none := by
        rw [Nat.zero_mul] at h0
        simpa [Addr.add] using World.cell?_spot h0
      subst hspot
      refine ⟨b, off, rfl, ?_, fun i x hi j u hu => ?_⟩
      · have := World.block_lt_of_cell? W _ h0
        simpa [Addr.add] using this
      · have := (hxs i x hi).1 j u hu
        rw [Addr.add_mid, Addr.add_mid] at this
        exact this
    · obtain ⟨i, hi⟩ := List.getElem?_of_mem hx
      exact (hxs i x hi).2
end Go.Proofs.YtdebldpmloignaaDoor
