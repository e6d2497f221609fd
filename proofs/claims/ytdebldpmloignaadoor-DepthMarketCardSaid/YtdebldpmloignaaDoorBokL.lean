/-
  book: the plain law: the order in which orders count; what Add, Cut and Drop keep.
-/
import Derived.Test.YtdebldpmloignaaDoorBokD
namespace Go.Proofs.YtdebldpmloignaaDoor
open Go.RowKit
set_option linter.unusedVariables false
set_option linter.unusedSimpArgs false

theorem cmpO_neg (x y : Ord) : cmpO x y < 0 ↔ ((x.sell = true ∧ x.price < y.price) ∨ (x.sell = false ∧ y.price < x.price)) ∨ (x.price = y.price ∧ x.seq < y.seq) := by
  unfold cmpO orI cmpI
  cases x.sell <;> simp only [if_true, if_false, Bool.false_eq_true, Bool.true_eq_false, true_and, false_and, or_false, false_or] <;> (repeat' split) <;> omega
theorem cmpO_pos (x y : Ord) (h : x.sell = y.sell) : 0 < cmpO x y ↔ cmpO y x < 0 := by
  rw [cmpO_neg y x, ← h]
  unfold cmpO orI cmpI
  cases x.sell <;> simp only [if_true, if_false, Bool.false_eq_true, Bool.true_eq_false, true_and, false_and, or_false, false_or] <;> (repeat' split) <;> omega
theorem cmpO_zero (x y : Ord) (h : cmpO x y = 0) : x.price = y.price ∧ x.seq = y.seq := by
  unfold cmpO orI cmpI at h
  revert h
  cases x.sell <;> simp only [if_true, if_false, Bool.false_eq_true] <;> (repeat' split) <;> omega
theorem cmpO_trans {x y z : Ord} (hs : x.sell = y.sell) (h1 : cmpO x y < 0) (h2 : cmpO y z < 0) : cmpO x z < 0 := by
  rw [cmpO_neg] at h1 h2 ⊢
  rw [← hs] at h2
  cases hx : x.sell <;> simp [hx] at h1 h2 ⊢ <;> omega
/-- Where an order comes to stand. -/
def placeOf (xs : List Ord) (y : Ord) : Nat := (xs.takeWhile (fun x => decide (cmpO x y < 0))).length
theorem place_le (xs : List Ord) (y : Ord) : placeOf xs y ≤ xs.length := (List.takeWhile_prefix _).length_le
theorem place_lo (xs : List Ord) (y : Ord) (j : Nat) (x : Ord) (hj : j < placeOf xs y) (hx : xs[j]? = some x) : cmpO x y < 0 := by
  induction xs generalizing j with
  | nil => cases hx
  | cons a r ih =>
    unfold placeOf at hj
    rw [List.takeWhile_cons] at hj
    split at hj
    · rename_i hp
      cases j with
      | zero => cases hx; simpa using hp
      | succ j => exact ih j (by simpa [placeOf] using hj) (by simpa using hx)
    · simp at hj
theorem place_hi (s : Bool) (xs : List Ord) (y : Ord) (hs : xs.Pairwise (fun x y => cmpO x y < 0)) (hd : ∀ x ∈ xs, x.sell = s) (j : Nat) (x : Ord) (hj : placeOf xs y ≤ j) (hx : xs[j]? = some x) : 0 ≤ cmpO x y := by
  induction xs generalizing j with
  | nil => cases hx
  | cons a r ih =>
    unfold placeOf at hj
    rw [List.takeWhile_cons] at hj
    rw [List.pairwise_cons] at hs
    split at hj
    · rename_i hp
      cases j with
      | zero => simp at hj
      | succ j => exact ih hs.2 (fun z hz => hd z (by simp [hz])) j (by simpa [placeOf] using hj) (by simpa using hx)
    · rename_i hp
      have ha : ¬ cmpO a y < 0 := by simpa using hp
      rcases List.mem_cons.1 (List.mem_of_getElem? hx) with rfl | hm
      · omega
      · have h1 := hs.1 x hm
        rcases Int.lt_or_le (cmpO x y) 0 with h2 | h2
        · exact absurd (cmpO_trans (by rw [hd a (by simp), hd x (by simp [hm])]) h1 h2) ha
        · exact h2
/-- What the book keeps. -/
structure Inv (l : Bool → List Ord) (came : Nat) : Prop where
  sorted : ∀ s, (l s).Pairwise (fun x y => cmpO x y < 0)
  side : ∀ s, ∀ x ∈ l s, x.sell = s
  seq : ∀ s, ∀ x ∈ l s, x.seq ≤ (came : Int)
  good : ∀ s, ∀ x ∈ l s, Ord.good x = true
  ids : ((l true ++ l false).map Ord.id).Nodup
  few : (l true).length + (l false).length ≤ 32
theorem Inv.len {l : Bool → List Ord} {came : Nat} (h : Inv l came) (s : Bool) : (l s).length ≤ 32 := by
  have := h.few
  cases s <;> omega
theorem Inv.empty : Inv (fun _ => []) 0 := ⟨fun _ => List.Pairwise.nil, (fun _ x hx => by cases hx), (fun _ x hx => by cases hx), (fun _ x hx => by cases hx), List.nodup_nil, by decide⟩
theorem insAt_perm (xs : List Ord) (t : Nat) (y : Ord) : (insAt xs t y).Perm (y :: xs) := by
  unfold insAt
  have := List.perm_middle (a := y) (l₁ := xs.take t) (l₂ := xs.drop t)
  rwa [List.take_append_drop] at this
theorem Ord.good_at (o : Ord) (n : Nat) : Ord.good (o.at n) = Ord.good o := rfl
/-- The book behind an Add. -/
def addL (l : Bool → List Ord) (o : Ord) (came : Nat) : Bool → List Ord := updL l o.sell (insAt (l o.sell) (placeOf (l o.sell) (o.at (came + 1))) (o.at (came + 1)))
theorem Inv.add {l : Bool → List Ord} {came : Nat} {o : Ord} (h : Inv l came) (hk : addK l o = 0) : Inv (addL l o came) (came + 1) := by
  have hg : Ord.good o = true := by
    cases hg : Ord.good o with
    | true => rfl
    | false => unfold addK at hk; rw [if_pos hg] at hk; cases hk
  have hf : fnd l o.id = none := by
    cases hf : fnd l o.id with
    | none => rfl
    | some p => unfold addK at hk; rw [if_neg (by rw [hg]; simp), hf, if_pos (by rfl)] at hk; cases hk
  have hfull : ¬ 32 ≤ (l true).length + (l false).length := fun h1 => by
    unfold addK at hk
    rw [if_neg (by rw [hg]; simp), hf, if_neg (by simp), if_pos h1] at hk
    cases hk
  obtain ⟨y, hy⟩ : ∃ y, y = o.at (came + 1) := ⟨_, rfl⟩
  obtain ⟨t, ht⟩ : ∃ t, t = placeOf (l o.sell) y := ⟨_, rfl⟩
  have hys : y.sell = o.sell := by rw [hy]; rfl
  have hyi : y.id = o.id := by rw [hy]; rfl
  have hyq : y.seq = ((came + 1 : Nat) : Int) := by rw [hy]; rfl
  have hmem : ∀ x ∈ insAt (l o.sell) t y, x = y ∨ x ∈ l o.sell := fun x hx => by
    have := (insAt_perm (l o.sell) t y).mem_iff.1 hx
    simpa using this
  have hl : addL l o came = updL l o.sell (insAt (l o.sell) t y) := by unfold addL; rw [← hy, ← ht]
  have hcase : ∀ s, (s = o.sell ∧ addL l o came s = insAt (l o.sell) t y) ∨ (s ≠ o.sell ∧ addL l o came s = l s) := fun s => by
    rw [hl]
    by_cases e : s = o.sell
    · exact .inl ⟨e, by rw [e]; exact updL_same _ _ _⟩
    · exact .inr ⟨e, updL_other _ _ _ _ e⟩
  refine ⟨fun s => ?_, fun s x hx => ?_, fun s x hx => ?_, fun s x hx => ?_, ?_, ?_⟩
  · rcases hcase s with ⟨rfl, e⟩ | ⟨_, e⟩
    · rw [e]
      have hs := h.sorted o.sell
      unfold insAt
      rw [List.pairwise_append]
      refine ⟨hs.sublist (List.take_sublist _ _), ?_, ?_⟩
      · rw [List.pairwise_cons]
        refine ⟨fun x hx => ?_, hs.sublist (List.drop_sublist _ _)⟩
        obtain ⟨j, hj⟩ := List.getElem?_of_mem hx
        rw [List.getElem?_drop] at hj
        have hxm := List.mem_of_getElem? hj
        have h0 := place_hi o.sell (l o.sell) y hs (h.side o.sell) (t + j) x (by omega) hj
        have hne : cmpO x y ≠ 0 := fun e => by
          have h1 := (cmpO_zero x y e).2
          have h2 := h.seq o.sell x hxm
          omega
        exact (cmpO_pos x y (by rw [h.side o.sell x hxm, hys])).1 (by omega)
      · intro a ha b hb
        obtain ⟨j, hj⟩ := List.getElem?_of_mem ha
        rw [List.getElem?_take] at hj
        split at hj
        · rename_i hjt
          have h0 := place_lo (l o.sell) y j a (by omega) hj
          have ham := List.mem_of_getElem? hj
          rcases List.mem_cons.1 hb with rfl | hb
          · exact h0
          · obtain ⟨i, hi⟩ := List.getElem?_of_mem hb
            rw [List.getElem?_drop] at hi
            obtain ⟨hj1, rfl⟩ := List.getElem?_eq_some_iff.1 hj
            obtain ⟨hi1, rfl⟩ := List.getElem?_eq_some_iff.1 hi
            exact List.pairwise_iff_getElem.1 hs _ _ hj1 hi1 (by omega)
        · cases hj
    · rw [e]; exact h.sorted s
  · rcases hcase s with ⟨rfl, e⟩ | ⟨_, e⟩
    · rw [e] at hx
      rcases hmem x hx with rfl | hm
      · exact hys
      · exact h.side _ x hm
    · rw [e] at hx; exact h.side s x hx
  · rcases hcase s with ⟨rfl, e⟩ | ⟨_, e⟩
    · rw [e] at hx
      rcases hmem x hx with rfl | hm
      · omega
      · have := h.seq _ x hm; omega
    · rw [e] at hx
      have := h.seq s x hx; omega
  · rcases hcase s with ⟨rfl, e⟩ | ⟨_, e⟩
    · rw [e] at hx
      rcases hmem x hx with rfl | hm
      · rw [hy, Ord.good_at]; exact hg
      · exact h.good _ x hm
    · rw [e] at hx; exact h.good s x hx
  · have hp : (addL l o came true ++ addL l o came false).Perm (y :: (l true ++ l false)) := by
      rw [hl]
      cases o.sell
      · show ((l true) ++ insAt (l false) t y).Perm _
        exact (List.Perm.append_left _ (insAt_perm _ _ _)).trans List.perm_middle
      · show (insAt (l true) t y ++ (l false)).Perm _
        exact (insAt_perm _ _ _).append_right _
    have hp2 := hp.map Ord.id
    rw [hp2.nodup_iff, List.map_cons, List.nodup_cons]
    refine ⟨fun hm => ?_, h.ids⟩
    obtain ⟨x, hx, e⟩ := List.mem_map.1 hm
    rw [hyi] at e
    rcases List.mem_append.1 hx with hx | hx
    · exact fnd_none hf true x hx e
    · exact fnd_none hf false x hx e
  · rw [hl]
    have h1 : (insAt (l o.sell) t y).length = (l o.sell).length + 1 := (insAt_perm _ _ _).length_eq
    generalize insAt (l o.sell) t y = xs at h1
    revert h1
    cases o.sell <;> simp [updL] <;> omega
theorem Inv.fnd_of {l : Bool → List Ord} {came : Nat} (h : Inv l came) {s : Bool} {i : Nat} {x : Ord} (hx : (l s)[i]? = some x) : fnd l x.id = some (s, i) := by
  cases hf : fnd l x.id with
  | none => exact absurd rfl (fnd_none hf s x (List.mem_of_getElem? hx))
  | some p =>
    obtain ⟨s2, i2⟩ := p
    obtain ⟨x2, hx2, he⟩ := fnd_some hf
    have hn := h.ids
    rw [List.map_append, List.nodup_append] at hn
    have same : ∀ u : Bool, ((l u).map Ord.id).Nodup := fun u => by
      cases u
      · exact hn.2.1
      · exact hn.1
    have hss : s2 = s := by
      have ha : x.id ∈ (l s).map Ord.id := List.mem_map.2 ⟨x, List.mem_of_getElem? hx, rfl⟩
      have hb : x2.id ∈ (l s2).map Ord.id := List.mem_map.2 ⟨x2, List.mem_of_getElem? hx2, rfl⟩
      rw [he] at hb
      cases s <;> cases s2
      · rfl
      · exact absurd rfl (hn.2.2 _ hb _ ha)
      · exact absurd rfl (hn.2.2 _ ha _ hb)
      · rfl
    subst hss
    obtain ⟨h1, rfl⟩ := List.getElem?_eq_some_iff.1 hx
    obtain ⟨h2, rfl⟩ := List.getElem?_eq_some_iff.1 hx2
    have : i2 = i := by
      have := (List.getElem_inj (i := i2) (j := i) (h₀ := by rw [List.length_map]; exact h2) (h₁ := by rw [List.length_map]; exact h1) (same s2)).1 (by simpa using he)
      exact this
    rw [this]
theorem Inv.set {l : Bool → List Ord} {came : Nat} {s : Bool} {i : Nat} {x : Ord} {z : Int} (h : Inv l came) (hx : (l s)[i]? = some x) (hg : 1 ≤ z ∧ z ≤ 1000) : Inv (updL l s ((l s).set i { x with lots := z })) came := by
  obtain ⟨hi, hxe⟩ := List.getElem?_eq_some_iff.1 hx
  have hxm := List.mem_of_getElem? hx
  have hcase : ∀ t, (t = s ∧ updL l s ((l s).set i { x with lots := z }) t = (l s).set i { x with lots := z }) ∨ (t ≠ s ∧ updL l s ((l s).set i { x with lots := z }) t = l t) := fun t => by
    by_cases e : t = s
    · exact .inl ⟨e, by rw [e]; exact updL_same _ _ _⟩
    · exact .inr ⟨e, updL_other _ _ _ _ e⟩
  have hmem : ∀ y ∈ (l s).set i { x with lots := z }, y = { x with lots := z } ∨ y ∈ l s := fun y hy => (List.mem_or_eq_of_mem_set hy).symm
  have hmap : ((l s).set i { x with lots := z }).map Ord.id = (l s).map Ord.id := by
    rw [List.map_set]
    apply List.ext_getElem?
    intro j
    by_cases e : i = j
    · subst e
      rw [List.getElem?_set_self (by rw [List.length_map]; exact hi), List.getElem?_map, hx]
      rfl
    · rw [List.getElem?_set_ne e]
  have hgood : Ord.good { x with lots := z } = true := by
    have := h.good s x hxm
    unfold Ord.good at this ⊢
    simp at this ⊢
    omega
  refine ⟨fun t => ?_, fun t y hy => ?_, fun t y hy => ?_, fun t y hy => ?_, ?_, ?_⟩
  · rcases hcase t with ⟨rfl, e⟩ | ⟨_, e⟩
    · rw [e]
      have hs := h.sorted t
      rw [List.pairwise_iff_getElem] at hs ⊢
      intro a b ha hb hab
      rw [List.length_set] at ha hb
      have h0 := hs a b ha hb hab
      rw [List.getElem_set, List.getElem_set]
      split
      · rename_i e1
        subst e1
        split
        · omega
        · rw [hxe] at h0; exact h0
      · split
        · rename_i e1
          subst e1
          rw [hxe] at h0; exact h0
        · exact h0
    · rw [e]; exact h.sorted t
  · rcases hcase t with ⟨rfl, e⟩ | ⟨_, e⟩
    · rw [e] at hy
      rcases hmem y hy with rfl | hm
      · exact h.side t x hxm
      · exact h.side t y hm
    · rw [e] at hy; exact h.side t y hy
  · rcases hcase t with ⟨rfl, e⟩ | ⟨_, e⟩
    · rw [e] at hy
      rcases hmem y hy with rfl | hm
      · exact h.seq t x hxm
      · exact h.seq t y hm
    · rw [e] at hy; exact h.seq t y hy
  · rcases hcase t with ⟨rfl, e⟩ | ⟨_, e⟩
    · rw [e] at hy
      rcases hmem y hy with rfl | hm
      · exact hgood
      · exact h.good t y hm
    · rw [e] at hy; exact h.good t y hy
  · have hn := h.ids
    generalize (l s).set i { x with lots := z } = xs at hmap
    cases s
    · simpa [updL, hmap] using hn
    · simpa [updL, hmap] using hn
  · have hl : ((l s).set i { x with lots := z }).length = (l s).length := List.length_set ..
    have hf := h.few
    generalize (l s).set i { x with lots := z } = xs at hl
    cases s <;> simp [updL] <;> omega
theorem Inv.erase {l : Bool → List Ord} {came : Nat} {s : Bool} {i : Nat} (h : Inv l came) : Inv (updL l s ((l s).eraseIdx i)) came := by
  have hsub : ∀ t, (updL l s ((l s).eraseIdx i) t).Sublist (l t) := fun t => by
    by_cases e : t = s
    · rw [e, updL_same]; exact List.eraseIdx_sublist _ _
    · rw [updL_other _ _ _ _ e]; exact List.Sublist.refl _
  refine ⟨fun t => (h.sorted t).sublist (hsub t), fun t y hy => h.side t y ((hsub t).mem hy), fun t y hy => h.seq t y ((hsub t).mem hy), fun t y hy => h.good t y ((hsub t).mem hy), ?_, ?_⟩
  · exact h.ids.sublist (((hsub true).append (hsub false)).map _)
  · have h1 := (hsub true).length_le
    have h2 := (hsub false).length_le
    have := h.few
    omega
theorem Inv.gone {l : Bool → List Ord} {came : Nat} {s : Bool} {i : Nat} {x : Ord} (h : Inv l came) (hx : (l s)[i]? = some x) : fnd (updL l s ((l s).eraseIdx i)) x.id = none := by
  cases hf : fnd (updL l s ((l s).eraseIdx i)) x.id with
  | none => rfl
  | some p =>
    obtain ⟨t, j⟩ := p
    obtain ⟨y, hy, he⟩ := fnd_some hf
    exfalso
    have hym := List.mem_of_getElem? hy
    by_cases e : t = s
    · subst e
      rw [updL_same] at hym hy
      have hm2 : y ∈ l t := List.mem_of_mem_eraseIdx hym
      obtain ⟨k, hk⟩ := List.getElem?_of_mem hm2
      have h1 := h.fnd_of hx
      have h2 := h.fnd_of hk
      rw [he, h1] at h2
      cases h2
      rw [hx] at hk
      cases hk
      have hn := h.sorted t
      obtain ⟨hi, hxe⟩ := List.getElem?_eq_some_iff.1 hx
      rw [List.getElem?_eraseIdx] at hy
      split at hy
      · rename_i hlt
        have := h.fnd_of hy
        rw [h1] at this
        cases this
        omega
      · have := h.fnd_of hy
        rw [h1] at this
        cases this
        omega
    · rw [updL_other _ _ _ _ e] at hy
      have h1 := h.fnd_of hx
      have h2 := h.fnd_of hy
      rw [he, h1] at h2
      cases h2
      exact e rfl
end Go.Proofs.YtdebldpmloignaaDoor
