/-
  book: the document's book is one row, in the order of coming; its lists are the two sides.
-/
import Derived.Test.YtdebldpmloignaaDoorBokL
namespace Go.Proofs.YtdebldpmloignaaDoor
open Go.RowKit
set_option linter.unusedVariables false
set_option linter.unusedSimpArgs false

/-- The document's word: whether one counts ahead of another one of its side. -/
def aheadB (a b : Ord) : Bool := if a.price = b.price then decide (a.seq < b.seq) else a.sell == decide (a.price < b.price)
theorem aheadB_cmp (a b : Ord) (h : a.sell = b.sell) : aheadB a b = decide (cmpO a b < 0) := by
  rw [Bool.eq_iff_iff, decide_eq_true_iff, cmpO_neg]
  unfold aheadB
  split
  · rename_i e
    rw [decide_eq_true_iff]
    cases a.sell <;> simp [e]
  · rename_i e
    cases a.sell <;> simp [e] <;> omega
def insR (out : List Ord) (x : Ord) : List Ord := insAt out ((out.takeWhile (fun y => aheadB y x)).length) x
def listR (L : List Ord) (s : Bool) : List Ord := (L.filter (fun x => x.sell == s)).foldl insR []
theorem listR_nil (s : Bool) : listR [] s = [] := rfl
theorem listR_snoc (L : List Ord) (x : Ord) (s : Bool) : listR (L ++ [x]) s = if x.sell = s then insR (listR L s) x else listR L s := by
  unfold listR
  rw [List.filter_append, List.foldl_append]
  by_cases h : x.sell = s
  · rw [if_pos h]; simp [h]
  · rw [if_neg h]; simp [h]
theorem listR_take (L : List Ord) (s : Bool) (k : Nat) (x : Ord) (h : L[k]? = some x) : listR (L.take (k + 1)) s = if x.sell = s then insR (listR (L.take k) s) x else listR (L.take k) s := by
  obtain ⟨hk, rfl⟩ := List.getElem?_eq_some_iff.1 h
  rw [List.take_succ_eq_append_getElem hk, listR_snoc]
theorem tw_len {α : Type} (p : α → Bool) (xs : List α) (k : Nat) (hk : k ≤ xs.length) (h1 : ∀ (j : Nat) y, j < k → xs[j]? = some y → p y = true) (h2 : ∀ y, xs[k]? = some y → p y = false) : (xs.takeWhile p).length = k := by
  induction xs generalizing k with
  | nil => simp at hk; simp [hk]
  | cons a r ih =>
    rw [List.takeWhile_cons]
    cases k with
    | zero => rw [h2 a rfl]; rfl
    | succ k =>
      rw [h1 0 a (by omega) rfl, if_pos rfl, List.length_cons, ih k (by simpa using hk) (fun j y hj hy => h1 (j + 1) y (by omega) (by simpa using hy)) (fun y hy => h2 y (by simpa using hy))]
theorem foldR_mem (x : Ord) : ∀ (xs out : List Ord), x ∈ xs.foldl insR out ↔ x ∈ out ∨ x ∈ xs
  | [], out => by simp
  | a :: r, out => by
    rw [List.foldl_cons, foldR_mem x r]
    have : x ∈ insR out a ↔ x = a ∨ x ∈ out := by
      unfold insR
      rw [(insAt_perm _ _ _).mem_iff, List.mem_cons]
    rw [this, List.mem_cons]
    constructor
    · rintro ((h | h) | h)
      · exact .inr (.inl h)
      · exact .inl h
      · exact .inr (.inr h)
    · rintro (h | h | h)
      · exact .inl (.inr h)
      · exact .inl (.inl h)
      · exact .inr h
theorem listR_mem (L : List Ord) (s : Bool) (x : Ord) : x ∈ listR L s ↔ x ∈ L ∧ x.sell = s := by
  unfold listR
  rw [foldR_mem, List.mem_filter]
  simp
theorem ins_sorted (s : Bool) (xs : List Ord) (y : Ord) (hs : xs.Pairwise (fun x y => cmpO x y < 0)) (hd : ∀ x ∈ xs, x.sell = s) (hy : y.sell = s) (hne : ∀ x ∈ xs, x.seq ≠ y.seq) : (insAt xs (placeOf xs y) y).Pairwise (fun x y => cmpO x y < 0) := by
  unfold insAt
  rw [List.pairwise_append]
  refine ⟨hs.sublist (List.take_sublist _ _), ?_, ?_⟩
  · rw [List.pairwise_cons]
    refine ⟨fun x hx => ?_, hs.sublist (List.drop_sublist _ _)⟩
    obtain ⟨j, hj⟩ := List.getElem?_of_mem hx
    rw [List.getElem?_drop] at hj
    have hxm := List.mem_of_getElem? hj
    have h0 := place_hi s xs y hs hd (placeOf xs y + j) x (by omega) hj
    have hne : cmpO x y ≠ 0 := fun e => hne x hxm (cmpO_zero x y e).2
    exact (cmpO_pos x y (by rw [hd x hxm, hy])).1 (by omega)
  · intro a ha b hb
    obtain ⟨j, hj⟩ := List.getElem?_of_mem ha
    rw [List.getElem?_take] at hj
    split at hj
    · rename_i hjt
      have h0 := place_lo xs y j a (by omega) hj
      rcases List.mem_cons.1 hb with rfl | hb
      · exact h0
      · obtain ⟨i, hi⟩ := List.getElem?_of_mem hb
        rw [List.getElem?_drop] at hi
        obtain ⟨hj1, rfl⟩ := List.getElem?_eq_some_iff.1 hj
        obtain ⟨hi1, rfl⟩ := List.getElem?_eq_some_iff.1 hi
        exact List.pairwise_iff_getElem.1 hs _ _ hj1 hi1 (by omega)
    · cases hj
theorem tw_congr {α : Type} {p q : α → Bool} : ∀ {xs : List α}, (∀ x ∈ xs, p x = q x) → xs.takeWhile p = xs.takeWhile q
  | [], _ => rfl
  | a :: r, h => by
    rw [List.takeWhile_cons, List.takeWhile_cons, h a (by simp), tw_congr (fun x hx => h x (by simp [hx]))]
theorem insR_eq (s : Bool) (xs : List Ord) (y : Ord) (hd : ∀ x ∈ xs, x.sell = s) (hy : y.sell = s) : insR xs y = insAt xs (placeOf xs y) y := by
  unfold insR placeOf
  rw [tw_congr (fun x hx => aheadB_cmp x y (by rw [hd x hx, hy]))]
theorem foldR_sorted (s : Bool) : ∀ (xs out : List Ord), out.Pairwise (fun x y => cmpO x y < 0) → (∀ x ∈ out, x.sell = s) → (∀ x ∈ xs, x.sell = s) → (∀ a ∈ out, ∀ b ∈ xs, a.seq ≠ b.seq) → xs.Pairwise (fun a b => a.seq < b.seq) → (xs.foldl insR out).Pairwise (fun x y => cmpO x y < 0)
  | [], out, h, _, _, _, _ => h
  | a :: r, out, h, ho, hx, hn, hp => by
    rw [List.foldl_cons]
    rw [List.pairwise_cons] at hp
    have hm : ∀ x, x ∈ insR out a → x = a ∨ x ∈ out := fun x hx => by
      unfold insR at hx
      rw [(insAt_perm _ _ _).mem_iff, List.mem_cons] at hx
      exact hx
    refine foldR_sorted s r _ ?_ ?_ (fun x hx' => hx x (by simp [hx'])) ?_ hp.2
    · rw [insR_eq s out a ho (hx a (by simp))]
      exact ins_sorted s out a h ho (hx a (by simp)) (fun x hx' => hn x hx' a (by simp))
    · intro x hx'
      rcases hm x hx' with rfl | h'
      · exact hx x (by simp)
      · exact ho x h'
    · intro x hx' b hb
      rcases hm x hx' with rfl | h'
      · have := hp.1 b hb; omega
      · exact hn x h' b (by simp [hb])
theorem listR_sorted (L : List Ord) (s : Bool) (h : L.Pairwise (fun a b => a.seq < b.seq)) : (listR L s).Pairwise (fun x y => cmpO x y < 0) := by
  unfold listR
  refine foldR_sorted s _ _ List.Pairwise.nil (by simp) (fun x hx => by simpa using (List.mem_filter.1 hx).2) (by simp) (h.sublist List.filter_sublist)
theorem cmpO_irr (x : Ord) : ¬ cmpO x x < 0 := by rw [cmpO_neg]; omega
theorem cmpO_asym {x y : Ord} (hs : x.sell = y.sell) (h1 : cmpO x y < 0) (h2 : cmpO y x < 0) : False := cmpO_irr x (cmpO_trans hs h1 h2)
theorem sorted_unique (s : Bool) : ∀ (xs ys : List Ord), xs.Pairwise (fun x y => cmpO x y < 0) → ys.Pairwise (fun x y => cmpO x y < 0) → (∀ x ∈ xs, x.sell = s) → (∀ x, x ∈ xs ↔ x ∈ ys) → xs = ys
  | [], [], _, _, _, _ => rfl
  | [], b :: t, _, _, _, h => absurd ((h b).2 (by simp)) (by simp)
  | a :: r, [], _, _, _, h => absurd ((h a).1 (by simp)) (by simp)
  | a :: r, b :: t, hx, hy, hs, h => by
    rw [List.pairwise_cons] at hx hy
    have hab : a = b := by
      rcases List.mem_cons.1 ((h a).1 (by simp)) with e | ha
      · exact e
      · rcases List.mem_cons.1 ((h b).2 (by simp)) with e | hb
        · exact e.symm
        · exact (cmpO_asym (by rw [hs a (by simp), hs b (by simp [hb])]) (hx.1 b hb) (hy.1 a ha)).elim
    subst hab
    rw [sorted_unique s r t hx.2 hy.2 (fun x hx' => hs x (by simp [hx'])) (fun x => by
      constructor
      · intro hm
        rcases List.mem_cons.1 ((h x).1 (by simp [hm])) with rfl | h'
        · exact absurd (hx.1 _ hm) (cmpO_irr _)
        · exact h'
      · intro hm
        rcases List.mem_cons.1 ((h x).2 (by simp [hm])) with rfl | h'
        · exact absurd (hy.1 _ hm) (cmpO_irr _)
        · exact h')]
/-- The two books side by side. -/
structure Both (l : Bool → List Ord) (came : Nat) (L : List Ord) : Prop where
  inv : Inv l came
  mem : ∀ s x, x ∈ l s ↔ x ∈ L ∧ x.sell = s
  seqs : (L.map Ord.seq).Pairwise (fun a b => a < b)
  ids : (L.map Ord.id).Nodup
  len : L.length = (l true).length + (l false).length
theorem Both.list {l : Bool → List Ord} {came : Nat} {L : List Ord} (h : Both l came L) (s : Bool) : listR L s = l s :=
  (sorted_unique s _ _ (h.inv.sorted s) (listR_sorted L s (List.pairwise_map.1 h.seqs)) (h.inv.side s) (fun x => by rw [h.mem, listR_mem])).symm
theorem Both.empty : Both (fun _ => []) 0 [] := ⟨Inv.empty, fun s x => by simp, List.Pairwise.nil, List.nodup_nil, rfl⟩
theorem Both.few {l : Bool → List Ord} {came : Nat} {L : List Ord} (h : Both l came L) : L.length ≤ 32 := by rw [h.len]; exact h.inv.few
theorem Both.at_some {l : Bool → List Ord} {came : Nat} {L : List Ord} (h : Both l came L) {id : Int} {j : Nat} (hj : L.findIdx? (hasId id) = some j) : ∃ x s i, L[j]? = some x ∧ x.id = id ∧ fnd l id = some (s, i) ∧ (l s)[i]? = some x ∧ x.sell = s := by
  obtain ⟨hl, hp, _⟩ := List.findIdx?_eq_some_iff_getElem.1 hj
  have hid : L[j].id = id := by simpa [hasId] using hp
  have hm : L[j] ∈ l L[j].sell := (h.mem _ _).2 ⟨List.getElem_mem hl, rfl⟩
  obtain ⟨i, hi⟩ := List.getElem?_of_mem hm
  exact ⟨L[j], L[j].sell, i, List.getElem?_eq_getElem hl, hid, by rw [← hid]; exact h.inv.fnd_of hi, hi, rfl⟩
theorem Both.at_none {l : Bool → List Ord} {came : Nat} {L : List Ord} (h : Both l came L) {id : Int} (hj : L.findIdx? (hasId id) = none) : fnd l id = none := by
  cases hf : fnd l id with
  | none => rfl
  | some p =>
    obtain ⟨s, i⟩ := p
    obtain ⟨x, hx, he⟩ := fnd_some hf
    have := ((h.mem s x).1 (List.mem_of_getElem? hx)).1
    rw [List.findIdx?_eq_none_iff] at hj
    have := hj x this
    simp [hasId, he] at this
/-- Why an order can't come, by the document. -/
def addR (L : List Ord) (o : Ord) : Nat := if Ord.good o = false then 1 else if (L.findIdx? (hasId o.id)).isSome then 6 else if 32 ≤ L.length then 7 else 0
theorem Both.addK_eq {l : Bool → List Ord} {came : Nat} {L : List Ord} (h : Both l came L) (o : Ord) : addK l o = addR L o := by
  unfold addK addR
  rw [h.len]
  have : (fnd l o.id).isSome = (L.findIdx? (hasId o.id)).isSome := by
    cases hj : L.findIdx? (hasId o.id) with
    | none => rw [h.at_none hj]; rfl
    | some j => obtain ⟨x, s, i, _, _, hf, _, _⟩ := h.at_some hj; rw [hf]; rfl
  rw [this]
theorem nodup_snoc {L : List Int} {a : Int} (h : L.Nodup) (ha : a ∉ L) : (L ++ [a]).Nodup := by
  rw [List.nodup_append]
  refine ⟨h, by simp, fun x hx y hy => ?_⟩
  simp at hy
  subst hy
  exact fun e => ha (e ▸ hx)
theorem Both.add {l : Bool → List Ord} {came : Nat} {L : List Ord} (h : Both l came L) {o : Ord} (hk : addK l o = 0) : Both (addL l o came) (came + 1) (L ++ [o.at (came + 1)]) := by
  have hinv := h.inv.add hk
  have hf : L.findIdx? (hasId o.id) = none := by
    rw [h.addK_eq] at hk
    unfold addR at hk
    split at hk
    · cases hk
    · split at hk
      · cases hk
      · rename_i h1
        simpa using h1
  obtain ⟨y, hy⟩ : ∃ y, y = o.at (came + 1) := ⟨_, rfl⟩
  have hys : y.sell = o.sell := by rw [hy]; rfl
  have hyi : y.id = o.id := by rw [hy]; rfl
  have hyq : y.seq = ((came + 1 : Nat) : Int) := by rw [hy]; rfl
  rw [← hy]
  have hlen : ∀ s, (addL l o came s).length = (l s).length + if s = o.sell then 1 else 0 := fun s => by
    unfold addL
    by_cases e : s = o.sell
    · subst e
      rw [updL_same, insAt_len (place_le _ _), if_pos rfl]
    · rw [updL_other _ _ _ _ e, if_neg e]; rfl
  refine ⟨hinv, fun s x => ?_, ?_, ?_, ?_⟩
  · unfold addL
    rw [← hy]
    by_cases e : s = o.sell
    · subst e
      rw [updL_same, (insAt_perm _ _ _).mem_iff, List.mem_cons, h.mem, List.mem_append, List.mem_singleton]
      constructor
      · rintro (rfl | ⟨h1, h2⟩)
        · exact ⟨.inr rfl, hys⟩
        · exact ⟨.inl h1, h2⟩
      · rintro ⟨h1 | rfl, h2⟩
        · exact .inr ⟨h1, h2⟩
        · exact .inl rfl
    · rw [updL_other _ _ _ _ e, h.mem, List.mem_append, List.mem_singleton]
      constructor
      · rintro ⟨h1, h2⟩; exact ⟨.inl h1, h2⟩
      · rintro ⟨h1 | rfl, h2⟩
        · exact ⟨h1, h2⟩
        · exact absurd (h2.symm.trans hys) e
  · rw [List.map_append, List.pairwise_append]
    refine ⟨h.seqs, by simp, fun a ha b hb => ?_⟩
    simp at hb
    subst hb
    obtain ⟨x, hx, rfl⟩ := List.mem_map.1 ha
    have := h.inv.seq x.sell x ((h.mem _ _).2 ⟨hx, rfl⟩)
    omega
  · rw [List.map_append]
    refine nodup_snoc h.ids (fun hm => ?_)
    obtain ⟨x, hx, he⟩ := List.mem_map.1 hm
    rw [List.findIdx?_eq_none_iff] at hf
    have := hf x hx
    rw [hyi] at he
    simp [hasId, he] at this
  · rw [hlen, hlen, List.length_append, h.len]
    cases o.sell <;> simp <;> omega
theorem mem_erase_ids {xs : List Ord} {i : Nat} {x : Ord} (hn : (xs.map Ord.id).Nodup) (hx : xs[i]? = some x) (y : Ord) : y ∈ xs.eraseIdx i ↔ y ∈ xs ∧ y.id ≠ x.id := by
  rw [List.mem_eraseIdx_iff_getElem?, List.mem_iff_getElem?]
  constructor
  · rintro ⟨j, hj, hy⟩
    refine ⟨⟨j, hy⟩, fun e => ?_⟩
    obtain ⟨h1, rfl⟩ := List.getElem?_eq_some_iff.1 hx
    obtain ⟨h2, rfl⟩ := List.getElem?_eq_some_iff.1 hy
    exact hj ((List.getElem_inj (i := j) (j := i) (h₀ := by rw [List.length_map]; exact h2) (h₁ := by rw [List.length_map]; exact h1) hn).1 (by simpa using e))
  · rintro ⟨⟨j, hy⟩, hne⟩
    refine ⟨j, fun e => ?_, hy⟩
    subst e
    rw [hx] at hy
    cases hy
    exact hne rfl
theorem mem_set_ids {xs : List Ord} {i : Nat} {x x' : Ord} (hn : (xs.map Ord.id).Nodup) (hx : xs[i]? = some x) (y : Ord) : y ∈ xs.set i x' ↔ y = x' ∨ (y ∈ xs ∧ y.id ≠ x.id) := by
  have hi := (List.getElem?_eq_some_iff.1 hx).1
  rw [List.mem_iff_getElem?]
  constructor
  · rintro ⟨j, hj⟩
    by_cases e : i = j
    · subst e
      rw [List.getElem?_set_self hi] at hj
      exact .inl (Option.some.inj hj).symm
    · rw [List.getElem?_set_ne e] at hj
      exact .inr ((mem_erase_ids hn hx y).1 (List.mem_eraseIdx_iff_getElem?.2 ⟨j, fun h => e h.symm, hj⟩))
  · rintro (rfl | h)
    · exact ⟨i, List.getElem?_set_self hi⟩
    · obtain ⟨j, hj, hy⟩ := List.mem_eraseIdx_iff_getElem?.1 ((mem_erase_ids hn hx y).2 h)
      exact ⟨j, by rw [List.getElem?_set_ne (fun h => hj h.symm)]; exact hy⟩
theorem Inv.ids_of {l : Bool → List Ord} {came : Nat} (h : Inv l came) (s : Bool) : ((l s).map Ord.id).Nodup := by
  have hn := h.ids
  rw [List.map_append, List.nodup_append] at hn
  cases s
  · exact hn.2.1
  · exact hn.1
theorem updL_len {l : Bool → List Ord} {s : Bool} {xs : List Ord} (a : Nat) (h : xs.length + a = (l s).length) : (updL l s xs true).length + (updL l s xs false).length + a = (l true).length + (l false).length := by
  cases s
  · rw [updL_other _ _ _ _ (by simp), updL_same]; omega
  · rw [updL_same, updL_other _ _ _ _ (by simp)]; omega
theorem Both.erase {l : Bool → List Ord} {came : Nat} {L : List Ord} (h : Both l came L) {s : Bool} {i j : Nat} {x : Ord} (hx : (l s)[i]? = some x) (hj : L[j]? = some x) : Both (updL l s ((l s).eraseIdx i)) came (L.eraseIdx j) := by
  have hi := (List.getElem?_eq_some_iff.1 hx).1
  have hjl := (List.getElem?_eq_some_iff.1 hj).1
  have hxs : x.sell = s := h.inv.side s x (List.mem_of_getElem? hx)
  refine ⟨h.inv.erase, fun t y => ?_, ?_, ?_, ?_⟩
  · rw [mem_erase_ids h.ids hj]
    by_cases e : t = s
    · subst e
      rw [updL_same, mem_erase_ids (h.inv.ids_of t) hx, h.mem]
      constructor
      · rintro ⟨⟨h1, h2⟩, h3⟩; exact ⟨⟨h1, h3⟩, h2⟩
      · rintro ⟨⟨h1, h3⟩, h2⟩; exact ⟨⟨h1, h2⟩, h3⟩
    · rw [updL_other _ _ _ _ e, h.mem]
      constructor
      · rintro ⟨h1, h2⟩
        refine ⟨⟨h1, fun he => ?_⟩, h2⟩
        obtain ⟨k, hk⟩ := List.getElem?_of_mem ((h.mem t y).2 ⟨h1, h2⟩)
        have a := h.inv.fnd_of hx
        have b := h.inv.fnd_of hk
        rw [he, a] at b
        cases b
        exact e rfl
      · rintro ⟨⟨h1, _⟩, h2⟩; exact ⟨h1, h2⟩
  · exact h.seqs.sublist ((List.eraseIdx_sublist _ _).map _)
  · exact h.ids.sublist ((List.eraseIdx_sublist _ _).map _)
  · have h1 : ((l s).eraseIdx i).length + 1 = (l s).length := by rw [List.length_eraseIdx_of_lt hi]; omega
    have h2 := updL_len 1 h1
    have h3 : (L.eraseIdx j).length + 1 = L.length := by rw [List.length_eraseIdx_of_lt hjl]; omega
    have := h.len
    omega
theorem map_set_same {xs : List Ord} {i : Nat} {x x' : Ord} (f : Ord → Int) (hx : xs[i]? = some x) (he : f x' = f x) : (xs.set i x').map f = xs.map f := by
  rw [List.map_set]
  apply List.ext_getElem?
  intro k
  by_cases e : i = k
  · subst e
    rw [List.getElem?_set_self (by rw [List.length_map]; exact (List.getElem?_eq_some_iff.1 hx).1), List.getElem?_map, hx, he]
    rfl
  · rw [List.getElem?_set_ne e]
theorem Both.set {l : Bool → List Ord} {came : Nat} {L : List Ord} (h : Both l came L) {s : Bool} {i j : Nat} {x : Ord} (z : Int) (hx : (l s)[i]? = some x) (hj : L[j]? = some x) (hg : 1 ≤ z ∧ z ≤ 1000) : Both (updL l s ((l s).set i { x with lots := z })) came (L.set j { x with lots := z }) := by
  have hxs : x.sell = s := h.inv.side s x (List.mem_of_getElem? hx)
  refine ⟨h.inv.set hx hg, fun t y => ?_, ?_, ?_, ?_⟩
  · rw [mem_set_ids h.ids hj]
    by_cases e : t = s
    · subst e
      rw [updL_same, mem_set_ids (h.inv.ids_of t) hx, h.mem]
      constructor
      · rintro (rfl | ⟨⟨h1, h2⟩, h3⟩)
        · exact ⟨.inl rfl, hxs⟩
        · exact ⟨.inr ⟨h1, h3⟩, h2⟩
      · rintro ⟨rfl | ⟨h1, h3⟩, h2⟩
        · exact .inl rfl
        · exact .inr ⟨⟨h1, h2⟩, h3⟩
    · rw [updL_other _ _ _ _ e, h.mem]
      constructor
      · rintro ⟨h1, h2⟩
        refine ⟨.inr ⟨h1, fun he => ?_⟩, h2⟩
        obtain ⟨k, hk⟩ := List.getElem?_of_mem ((h.mem t y).2 ⟨h1, h2⟩)
        have a := h.inv.fnd_of hx
        have b := h.inv.fnd_of hk
        rw [he, a] at b
        cases b
        exact e rfl
      · rintro ⟨rfl | ⟨h1, _⟩, h2⟩
        · exact absurd (h2.symm.trans hxs) e
        · exact ⟨h1, h2⟩
  · have := map_set_same (x' := { x with lots := z }) Ord.seq hj rfl
    rw [this]; exact h.seqs
  · have := map_set_same (x' := { x with lots := z }) Ord.id hj rfl
    rw [this]; exact h.ids
  · have h1 : ((l s).set i { x with lots := z }).length + 0 = (l s).length := by rw [List.length_set]; rfl
    have h2 := updL_len 0 h1
    have := h.len
    rw [List.length_set]
    omega
end Go.Proofs.YtdebldpmloignaaDoor
