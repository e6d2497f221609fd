/-
  Rows of structs in a block: what the slices functions ask; copy at elements of k cells; a row with one element more, or one less.
-/
import Derived.Test.YtdebldpmloignaaDoorOff
import Derived.Laws.IdiomCopy
namespace Go.Proofs.YtdebldpmloignaaDoor
open Go.RowKit
set_option linter.unusedVariables false
set_option linter.unusedSimpArgs false

/-- The first index at which p holds; -1: none. -/
def idxOf {α : Type} (p : α → Bool) (xs : List α) : Int := match xs.findIdx? p with | some i => (i : Int) | none => -1
theorem idxOf_hit {α : Type} (p : α → Bool) (xs : List α) (k : Nat) (x : α) (hx : xs[k]? = some x) (hp : p x = true) (hb : ∀ (j : Nat) (y : α), j < k → xs[j]? = some y → p y = false) : idxOf p xs = k := by
  have : xs.findIdx? p = some k := by
    rw [List.findIdx?_eq_some_iff_getElem]
    obtain ⟨h, rfl⟩ := List.getElem?_eq_some_iff.1 hx
    exact ⟨h, hp, fun j hj => by simpa using hb j _ hj (List.getElem?_eq_getElem (by omega))⟩
  simp [idxOf, this]
theorem idxOf_miss {α : Type} (p : α → Bool) (xs : List α) (hb : ∀ (j : Nat) (y : α), xs[j]? = some y → p y = false) : idxOf p xs = -1 := by
  have : xs.findIdx? p = none := by
    rw [List.findIdx?_eq_none_iff]
    intro x hx
    obtain ⟨i, hi, rfl⟩ := List.mem_iff_getElem.1 hx
    simpa using hb i _ (List.getElem?_eq_getElem hi)
  simp [idxOf, this]
theorem idxOf_cases {α : Type} (p : α → Bool) (xs : List α) : (idxOf p xs = -1 ∧ (∀ x ∈ xs, p x = false)) ∨ ∃ (k : Nat) (x : α), idxOf p xs = (k : Int) ∧ xs[k]? = some x ∧ p x = true ∧ ∀ (j : Nat) (y : α), j < k → xs[j]? = some y → p y = false := by
  cases h : xs.findIdx? p with
  | none =>
    refine .inl ⟨by simp [idxOf, h], fun x hx => ?_⟩
    rw [List.findIdx?_eq_none_iff] at h
    simpa using h x hx
  | some k =>
    obtain ⟨hk, hp, hb⟩ := List.findIdx?_eq_some_iff_getElem.1 h
    refine .inr ⟨k, xs[k], by simp [idxOf, h], List.getElem?_eq_getElem hk, hp, fun j y hj hy => ?_⟩
    obtain ⟨h', rfl⟩ := List.getElem?_eq_some_iff.1 hy
    simpa using hb j hj
theorem flat_split {α : Type} {enc : α → List Value} {k : Nat} (hk : ∀ x, (enc x).length = k) (hk0 : 0 < k) (l : List α) (idx : Nat) (h : idx < l.length * k) : ∃ x, l[idx / k]? = some x ∧ (flatOf enc l)[idx]? = (enc x)[idx % k]? := by
  have hlt : idx / k < l.length := (Nat.div_lt_iff_lt_mul hk0).2 h
  refine ⟨l[idx / k], List.getElem?_eq_getElem hlt, ?_⟩
  have hm : idx % k < (enc l[idx / k]).length := by rw [hk]; exact Nat.mod_lt _ hk0
  have := flatOf_get hk l (idx / k) _ (List.getElem?_eq_getElem hlt) (idx % k) _ (List.getElem?_eq_getElem hm)
  rw [List.getElem?_eq_getElem hm, ← this]
  congr 1
  rw [Nat.mul_comm]
  exact (Nat.div_add_mod idx k).symm
/-- A block whose first cells are a row: an owned row. -/
theorem own_of_rows {α : Type} {enc : α → List Value} {k : Nat} (hk : ∀ x, (enc x).length = k) (hk0 : 0 < k) {w : World} {base g cap m : Nat} {e : TypeId} {cur : Array Value} {l : List α} (hb : base ≤ g) (hg : w.heap[g]? = some (.cells cur e (0, 0))) (hs : cur.size = cap * k)
    (hm : m ≤ cap) (hcap : cap ≤ maxLen) (hl : l.length = m) (hr : RowsAt w enc k g 0 l) : w.ownsRow base e k (.slice (some ⟨g, 0, none⟩) m cap) m (flatOf enc l) := by
  refine ⟨by rw [flatOf_length hk, hl], .inr ⟨g, cap, cur, rfl, hb, hg, hm, hcap, hs, ?_⟩⟩
  apply List.ext_getElem?
  intro idx
  rw [List.getElem?_take]
  by_cases h : idx < m * k
  · rw [if_pos h]
    obtain ⟨x, hx, he⟩ := flat_split hk hk0 l idx (by rw [hl]; exact h)
    rw [he]
    have hmod : idx % k < (enc x).length := by rw [hk]; exact Nat.mod_lt _ hk0
    have := hr (idx / k) x hx (idx % k) _ (List.getElem?_eq_getElem hmod)
    rw [Nat.zero_add, show idx / k * k + idx % k = idx from by rw [Nat.mul_comm]; exact Nat.div_add_mod idx k, cell_of_row w g idx cur e (0, 0) hg] at this
    rw [List.getElem?_eq_getElem hmod, ← this]
    simp
  · rw [if_neg h, List.getElem?_eq_none (by rw [flatOf_length hk, hl]; omega)]
theorem block_setCells {g : Nat} {e : TypeId} {fr : Nat × Nat} : ∀ (vs : List Value) (o : Nat) (w : World) (cur : Array Value), w.heap[g]? = some (.cells cur e fr) → ∃ cur' : Array Value, (w.setCells g o vs).heap[g]? = some (.cells cur' e fr) ∧ cur'.size = cur.size
  | [], _, _, cur, h => ⟨cur, h, rfl⟩
  | v :: vs, o, w, cur, h => by
    have h1 : ∃ cur1 : Array Value, (w.setCell ⟨g, o, none⟩ v).heap[g]? = some (.cells cur1 e fr) ∧ cur1.size = cur.size := ⟨cur.setIfInBounds o v, by
      have hlt : g < w.heap.size := (Array.getElem?_eq_some_iff.1 h).1
      simp [World.setCell, Array.getElem?_modify, h], by simp⟩
    obtain ⟨cur1, h1, hs1⟩ := h1
    obtain ⟨cur', h2, hs2⟩ := block_setCells vs (o + 1) _ cur1 h1
    exact ⟨cur', h2, by omega⟩
theorem alloc_setRow (w : World) (old new : Array Value) (t : TypeId) : (w.alloc (.cells old t)).setRow w.heap.size new = w.alloc (.cells new t) := by
  unfold World.setRow World.alloc
  congr 1
  apply Array.ext_getElem?
  intro i
  rw [Array.getElem?_modify, Array.getElem?_push, Array.getElem?_push]
  by_cases h : w.heap.size = i
  · subst h; simp
  · rw [if_neg h]
    by_cases h2 : i = w.heap.size
    · exact absurd h2.symm h
    · rw [if_neg h2, if_neg h2]
theorem mul_step {i j k : Nat} (h : i < j) : i * k + k ≤ j * k := by
  have := Nat.mul_le_mul_right k (Nat.succ_le_of_lt h)
  rwa [Nat.succ_mul] at this
theorem rows_keep {α : Type} {enc : α → List Value} {k : Nat} (hk : ∀ x, (enc x).length = k) {w : World} {g i : Nat} {fl : List α} {x : α} (hlow : RowsAt w enc k g 0 fl) (hfl : fl.length = i) (hth : w.there g (i * k) k) :
    RowsAt (w.setCells g (i * k) (enc x)) enc k g 0 (fl ++ [x]) := by
  intro t y hy
  rw [Nat.zero_add]
  by_cases h : t < i
  · rw [List.getElem?_append_left (by omega)] at hy
    have := hlow t y hy
    rw [Nat.zero_add] at this
    exact World.rangeAt_setCells_apart this g _ _ (.inr (.inl (by rw [hk]; exact mul_step h)))
  · have ht : t = i := by have := (List.getElem?_eq_some_iff.1 hy).1; simp at this; omega
    subst ht
    rw [List.getElem?_append_right (by omega), hfl] at hy
    simp at hy
    subst hy
    exact World.rangeAt_setCells_same w g _ _ (by rw [hk]; exact hth)
theorem rows_high {α : Type} {enc : α → List Value} {k : Nat} (hk : ∀ x, (enc x).length = k) {w : World} {g i j : Nat} {xs : List α} {x : α} (hh : ∀ t y, j ≤ t → xs[t]? = some y → w.rangeAt g (0 + t * k) (enc y)) (hij : i < j) :
    ∀ t y, j + 1 ≤ t → xs[t]? = some y → (w.setCells g (i * k) (enc x)).rangeAt g (0 + t * k) (enc y) := fun t y ht hy =>
  World.rangeAt_setCells_apart (hh t y (by omega) hy) g _ _ (.inr (.inr (by rw [hk, Nat.zero_add]; exact mul_step (by omega))))
theorem rows_clear {α : Type} {enc : α → List Value} {k : Nat} (hk : ∀ x, (enc x).length = k) {w : World} {g i : Nat} {fl : List α} (hlow : RowsAt w enc k g 0 fl) (hfl : fl.length = i) (vs : List Value) : RowsAt (w.setCells g (i * k) vs) enc k g 0 fl := fun t y hy => by
  have h : t < i := by have := (List.getElem?_eq_some_iff.1 hy).1; omega
  exact World.rangeAt_setCells_apart (hlow t y hy) g _ _ (.inr (.inl (by rw [hk, Nat.zero_add]; exact mul_step h)))
/-- A block of so many cells, not frozen. -/
def RBlk (w : World) (g : Nat) (e : TypeId) (m : Nat) : Prop := ∃ cur : Array Value, w.heap[g]? = some (.cells cur e (0, 0)) ∧ cur.size = m
def HBlk (w : World) (g : Nat) (e : TypeId) (m : Nat) : Prop := Hid (RBlk w g e m)
theorem HBlk.out {w : World} {g : Nat} {e : TypeId} {m : Nat} (h : HBlk w g e m) : RBlk w g e m := h
theorem HBlk.grown {w w' : World} {g : Nat} {e : TypeId} {m : Nat} {r : Option Nat} (h : HBlk w g e m) (hg : w.grownBy w' r) (hne : some g ≠ r) : HBlk w' g e m := by
  obtain ⟨cur, h1, h2⟩ := h.out
  exact ⟨cur, by rw [hg.block g (Array.getElem?_eq_some_iff.1 h1).1 hne]; exact h1, h2⟩
theorem HBlk.set {w : World} {g : Nat} {e : TypeId} {m : Nat} (h : HBlk w g e m) (vs : List Value) (o : Nat) : HBlk (w.setCells g o vs) g e m := by
  obtain ⟨cur, h1, h2⟩ := h.out
  obtain ⟨cur', h3, h4⟩ := block_setCells vs o w cur h1
  exact ⟨cur', h3, by omega⟩
theorem HBlk.there {w : World} {g : Nat} {e : TypeId} {cap k : Nat} (h : HBlk w g e (cap * k)) (i : Nat) (hi : i < cap) : w.there g (i * k) k := by
  obtain ⟨cur, h1, h2⟩ := h.out
  exact there_of_block h1 _ _ (by rw [h2]; exact mul_step hi)
theorem HBlk.there' {w : World} {g : Nat} {e : TypeId} {cap k : Nat} (h : HBlk w g e (cap * k)) (i n : Nat) (hi : i + n ≤ cap) : w.there g (i * k) (n * k) := by
  obtain ⟨cur, h1, h2⟩ := h.out
  exact there_of_block h1 _ _ (by rw [h2, ← Nat.add_mul]; exact Nat.mul_le_mul_right k hi)
theorem filter_take_succ {α : Type} (q : α → Bool) (xs : List α) (j : Nat) (x : α) (h : xs[j]? = some x) : (xs.take (j + 1)).filter q = (xs.take j).filter q ++ (if q x then [x] else []) := by
  rw [List.take_add_one, h, List.filter_append]
  congr 1
  by_cases hq : q x = true <;> simp [hq]

/-- copy(d, s): all is read before anything is written. -/
theorem run_copy_k {P : Program} (w : World) (dT sT ty elem : TypeId) (k b o dLen dCap : Nat) (a : Addr) (sLen sCap : Nat) (cs : List Value)
    (hu : P.underlying dT = some (.slice elem)) (hs : (P.info? elem).map (·.size) = some k) (hn : cs.length = Nat.min sLen dLen * k)
    (hsrc : ∀ j v, cs[j]? = some v → w.cell? (a.add j) = some v) (hth : w.there b o cs.length) (h1 : ∀ v ∈ cs, v.oneCell' = true) :
    (Builtin.copy_ #[dT, sT] ty #[.slice (some ⟨b, o, none⟩) dLen dCap, .slice (some a) sLen sCap]).run P w = .ok (goInt (Nat.min sLen dLen)) (w.setCells b o cs) := by
  have hl := run_loadCells_list (P := P) w a cs hsrc
  have hst := run_storeCells_cells (P := P) b o cs 0 w (fun j hj => by rw [Nat.add_zero]; exact (hth j hj).1) (fun j hj => by rw [Nat.add_zero]; exact (hth j hj).2) h1
  cases hq : P.info? elem with
  | none => simp [hq] at hs
  | some i =>
    have hi : i.size = k := by simpa [hq] using hs
    simp [Builtin.copy_, run_underlying hu, Builtin.lenOf, Builtin.firstCells, sizeOf, typeInfo, hq, hi, ← hn, hl, hst]
section
variable {α : Type} {enc : α → List Value} {k : Nat}
theorem range_of_rows (hk : ∀ x, (enc x).length = k) (hk0 : 0 < k) {w : World} {g o : Nat} {l : List α} (h : RowsAt w enc k g o l) : w.rangeAt g o (flatOf enc l) := fun j v hj => by
  have hlt : j < l.length * k := by have := (List.getElem?_eq_some_iff.1 hj).1; rwa [flatOf_length hk] at this
  obtain ⟨x, hx, he⟩ := flat_split hk hk0 l j hlt
  rw [he] at hj
  have := h (j / k) x hx (j % k) v hj
  rwa [show o + j / k * k + j % k = o + j by have := Nat.div_add_mod j k; rw [Nat.mul_comm] at this; omega] at this
theorem rows_of_range (hk : ∀ x, (enc x).length = k) {w : World} {g o : Nat} {l : List α} (h : w.rangeAt g o (flatOf enc l)) : RowsAt w enc k g o l := fun i x hx j v hv => by
  have := h (i * k + j) v (flatOf_get hk l i x hx j v hv)
  rwa [← Nat.add_assoc] at this
theorem rows_take {w : World} {g o : Nat} {l : List α} (h : RowsAt w enc k g o l) (i : Nat) : RowsAt w enc k g o (l.take i) := fun t y hy => by
  rw [List.getElem?_take] at hy
  split at hy
  · exact h t y hy
  · cases hy
theorem rows_drop {w : World} {g o : Nat} {l : List α} (h : RowsAt w enc k g o l) (i : Nat) : RowsAt w enc k g (o + i * k) (l.drop i) := fun t y hy => by
  rw [List.getElem?_drop] at hy
  have := h (i + t) y hy
  rwa [Nat.add_mul, ← Nat.add_assoc] at this
theorem there_sub {w : World} {g o n o' n' : Nat} (h : w.there g o n) (h1 : o ≤ o') (h2 : o' + n' ≤ o + n) : w.there g o' n' := fun j hj => by
  have := h (o' - o + j) (by omega)
  rwa [show o + (o' - o + j) = o' + j by omega] at this
theorem flat_ins (xs : List α) (i : Nat) (x : α) : flatOf enc (xs.take i ++ x :: xs.drop i) = flatOf enc (xs.take i) ++ (enc x ++ flatOf enc (xs.drop i)) := by
  rw [flatOf_append, show x :: xs.drop i = [x] ++ xs.drop i from rfl, flatOf_append, flatOf_one]
/-- One element more, in place. -/
theorem rows_insert (hk : ∀ x, (enc x).length = k) (hk0 : 0 < k) {w : World} {g i n : Nat} {xs : List α} {x : α} (hr : RowsAt w enc k g 0 xs) (hl : xs.length = n) (hi : i ≤ n) (hth : w.there g 0 ((n + 1) * k)) :
    RowsAt ((w.setCells g ((i + 1) * k) (flatOf enc (xs.drop i))).setCells g (i * k) (enc x)) enc k g 0 (xs.take i ++ x :: xs.drop i) := by
  have l1 : (flatOf enc (xs.take i)).length = i * k := by rw [flatOf_length hk, List.length_take, Nat.min_eq_left (by omega)]
  have l3 : (flatOf enc (xs.drop i)).length = (n - i) * k := by rw [flatOf_length hk, List.length_drop, hl]
  have e1 : (i + 1) * k = i * k + k := Nat.succ_mul i k
  have e2 : (n + 1) * k = (i + 1) * k + (n - i) * k := by rw [← Nat.add_mul]; congr 1; omega
  refine rows_of_range hk ?_
  rw [flat_ins]
  refine rangeAt_append ?_ (rangeAt_append ?_ ?_)
  · refine World.rangeAt_setCells_apart (World.rangeAt_setCells_apart (range_of_rows hk hk0 (rows_take hr i)) g _ _ (.inr (.inl ?_))) g _ _ (.inr (.inl ?_))
    · rw [l1]; omega
    · rw [l1]; omega
  · rw [l1, Nat.zero_add]
    exact World.rangeAt_setCells_same _ g _ _ (World.there_setCells (there_sub hth (Nat.zero_le _) (by rw [hk]; omega)) _ _ _)
  · rw [l1, hk, Nat.zero_add, ← e1]
    refine World.rangeAt_setCells_apart (World.rangeAt_setCells_same _ g _ _ (there_sub hth (Nat.zero_le _) (by rw [l3]; omega))) g _ _ (.inr (.inr ?_))
    rw [hk]; omega
/-- The same in a new row. -/
theorem rows_insert2 (hk : ∀ x, (enc x).length = k) (hk0 : 0 < k) {w : World} {g i n : Nat} {xs : List α} {x : α} (hr : w.rangeAt g 0 (flatOf enc (xs.take i))) (hl : xs.length = n) (hi : i ≤ n) (hth : w.there g 0 ((n + 1) * k)) :
    RowsAt ((w.setCells g (i * k) (enc x)).setCells g ((i + 1) * k) (flatOf enc (xs.drop i))) enc k g 0 (xs.take i ++ x :: xs.drop i) := by
  have l1 : (flatOf enc (xs.take i)).length = i * k := by rw [flatOf_length hk, List.length_take, Nat.min_eq_left (by omega)]
  have l3 : (flatOf enc (xs.drop i)).length = (n - i) * k := by rw [flatOf_length hk, List.length_drop, hl]
  have e1 : (i + 1) * k = i * k + k := Nat.succ_mul i k
  have e2 : (n + 1) * k = (i + 1) * k + (n - i) * k := by rw [← Nat.add_mul]; congr 1; omega
  refine rows_of_range hk ?_
  rw [flat_ins]
  refine rangeAt_append ?_ (rangeAt_append ?_ ?_)
  · refine World.rangeAt_setCells_apart (World.rangeAt_setCells_apart hr g _ _ (.inr (.inl ?_))) g _ _ (.inr (.inl ?_))
    · rw [l1]; omega
    · rw [l1]; omega
  · rw [l1, Nat.zero_add]
    refine World.rangeAt_setCells_apart (World.rangeAt_setCells_same _ g _ _ (there_sub hth (Nat.zero_le _) (by rw [hk]; omega))) g _ _ (.inr (.inl ?_))
    rw [hk]; omega
  · rw [l1, hk, Nat.zero_add, ← e1]
    exact World.rangeAt_setCells_same _ g _ _ (World.there_setCells (there_sub hth (Nat.zero_le _) (by rw [l3]; omega)) _ _ _)
/-- One element less. -/
theorem rows_delete (hk : ∀ x, (enc x).length = k) (hk0 : 0 < k) {w : World} {g i n : Nat} {xs : List α} (hr : RowsAt w enc k g 0 xs) (hl : xs.length = n) (hi : i < n) (hth : w.there g 0 (n * k)) :
    RowsAt (w.setCells g (i * k) (flatOf enc (xs.drop (i + 1)))) enc k g 0 (xs.eraseIdx i) := by
  have l1 : (flatOf enc (xs.take i)).length = i * k := by rw [flatOf_length hk, List.length_take, Nat.min_eq_left (by omega)]
  have l3 : (flatOf enc (xs.drop (i + 1))).length = (n - (i + 1)) * k := by rw [flatOf_length hk, List.length_drop, hl]
  have e2 : n * k = i * k + k + (n - (i + 1)) * k := by rw [← Nat.succ_mul, ← Nat.add_mul]; congr 1; omega
  rw [List.eraseIdx_eq_take_drop_succ]
  refine rows_of_range hk ?_
  rw [flatOf_append]
  refine rangeAt_append ?_ ?_
  · refine World.rangeAt_setCells_apart (range_of_rows hk hk0 (rows_take hr i)) g _ _ (.inr (.inl ?_))
    rw [l1]; omega
  · rw [l1, Nat.zero_add]
    exact World.rangeAt_setCells_same _ g _ _ (there_sub hth (Nat.zero_le _) (by rw [l3]; omega))
end
end Go.Proofs.YtdebldpmloignaaDoor
