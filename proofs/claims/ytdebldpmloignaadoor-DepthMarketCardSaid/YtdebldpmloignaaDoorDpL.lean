/-
  DepthMarket: the plain law: what a side costs and what its fills come to.
-/
import Derived.Test.YtdebldpmloignaaDoorDpB
import Derived.Test.YtdebldpmloignaaDoorDlG
namespace Go.Proofs.YtdebldpmloignaaDoor
open Go.RowKit
set_option linter.unusedVariables false
set_option linter.unusedSimpArgs false

def minZ (z : Int) (x : Ord) : Int := if z < x.lots then z else x.lots
/-- Cost and lots of z lots taken from the best on. -/
def takeR : Int → List Ord → Int × Int
  | _, [] => (0, 0)
  | z, x :: r => (minZ z x * x.price + (takeR (z - minZ z x) r).1, minZ z x + (takeR (z - minZ z x) r).2)
theorem takeO_minZ (L d : Int) (x : Ord) : takeO L d x = minZ (L - d) x := rfl
theorem fold_take (L : Int) (xs : List Ord) : ∀ c d : Int, xs.foldl (costStep L) (c, d) = (c + (takeR (L - d) xs).1, d + (takeR (L - d) xs).2) := by
  induction xs with
  | nil => intro c d; simp [takeR]
  | cons x r ih =>
    intro c d
    rw [List.foldl_cons]
    show List.foldl (costStep L) (c + takeO L d x * x.price, d + takeO L d x) r = _
    rw [ih, takeO_minZ]
    have e : L - (d + minZ (L - d) x) = L - d - minZ (L - d) x := by omega
    rw [e]
    simp only [takeR, Int.add_assoc]
theorem costF_take {xs : List Ord} {z : Int} (hs : side xs = true) (hz : 0 ≤ z) : costF' xs z = takeR z xs := by
  unfold costF'
  rw [if_pos hs, fold_take]
  have e : topL z = z := by unfold topL; rw [if_neg (by omega)]
  rw [e]
  simp
theorem takeR_zero (xs : List Ord) (h : ∀ o ∈ xs, OkO o) : takeR 0 xs = (0, 0) := by
  induction xs with
  | nil => rfl
  | cons x r ih =>
    have hx := h x (by simp)
    unfold OkO at hx
    have e : minZ 0 x = 0 := by unfold minZ; split <;> omega
    simp only [takeR, e]
    rw [show (0 : Int) - 0 = 0 from rfl, ih (fun o ho => h o (by simp [ho]))]
    simp
theorem takeR_lots (xs : List Ord) (h : ∀ o ∈ xs, OkO o) : ∀ z : Int, 0 ≤ z → (takeR z xs).2 = min z (lotsL xs) ∧ 0 ≤ lotsL xs := by
  induction xs with
  | nil => intro z hz; simp only [takeR, lotsL, List.map_nil, List.sum_nil]; omega
  | cons x r ih =>
    intro z hz
    have hx := h x (by simp)
    unfold OkO at hx
    have hl : lotsL (x :: r) = x.lots + lotsL r := by simp [lotsL]
    have hm : minZ z x ≤ z ∧ 0 ≤ minZ z x ∧ minZ z x ≤ x.lots ∧ (minZ z x = z ∨ minZ z x = x.lots) := by unfold minZ; split <;> omega
    have hi := ih (fun o ho => h o (by simp [ho])) (z - minZ z x) (by omega)
    simp only [takeR]
    rw [hl, hi.1]
    omega
theorem takeR_mono (xs : List Ord) (h : ∀ o ∈ xs, OkO o) : ∀ z y : Int, 0 ≤ z → z ≤ y → (takeR z xs).1 ≤ (takeR y xs).1 ∧ (takeR z xs).2 ≤ (takeR y xs).2 := by
  induction xs with
  | nil => intro z y _ _; exact ⟨Int.le_refl _, Int.le_refl _⟩
  | cons x r ih =>
    intro z y hz hy
    have hx := h x (by simp)
    unfold OkO at hx
    have hm : minZ z x ≤ minZ y x ∧ minZ z x ≤ z ∧ z - minZ z x ≤ y - minZ y x := by
      unfold minZ
      split <;> split <;> omega
    have hi := ih (fun o ho => h o (by simp [ho])) (z - minZ z x) (y - minZ y x) (by omega) (by omega)
    have hp : minZ z x * x.price ≤ minZ y x * x.price := Int.mul_le_mul_of_nonneg_right hm.1 (by omega)
    simp only [takeR]
    exact ⟨by omega, by omega⟩
/-- The taker of the law. -/
def takO (n : Int) : Ord := ⟨1000, 0, false, 1000000, n, 0⟩
theorem worthF_cons' (f : Fill) (fs : List Fill) : worthF (f :: fs) = costF f + worthF fs := by unfold worthF; simp
theorem lotsF_cons' (f : Fill) (fs : List Fill) : lotsF (f :: fs) = f.lots + lotsF fs := by unfold lotsF; simp
theorem takO_meets (n : Int) {x : Ord} (h : OkO x) : meetsO (takO n) x = true := by
  unfold OkO at h
  unfold meetsO takO
  simp
  omega
theorem match_take (n : Int) (xs : List Ord) (h : ∀ o ∈ xs, OkO o) : ∀ z : Int, 0 ≤ z → worthF (matchS (takO n) z xs).1 = (takeR z xs).1 ∧ lotsF (matchS (takO n) z xs).1 = (takeR z xs).2 := by
  induction xs with
  | nil => intro z _; exact ⟨rfl, rfl⟩
  | cons x r ih =>
    intro z hz
    have hx := h x (by simp)
    have hr : ∀ o ∈ r, OkO o := fun o ho => h o (by simp [ho])
    by_cases h0 : z = 0
    · subst h0
      rw [matchS_zero, takeR_zero (x :: r) h]
      exact ⟨rfl, rfl⟩
    · have hn : nextOk (takO n) z (x :: r) = true := by unfold nextOk; simp only [if_neg h0]; exact takO_meets n hx
      have hc : ∀ k, costF (fillO (takO n) x k) = k * x.price := fun k => by unfold costF; rw [fillO_price, fillO_lots]; exact Int.mul_comm _ _
      by_cases hz : z < x.lots
      · rw [matchS_part hn hz]
        have e : minZ z x = z := by unfold minZ; rw [if_pos hz]
        simp only [takeR, e, worthF_cons', lotsF_cons', hc, fillO_lots]
        rw [show z - z = 0 by omega, takeR_zero r hr]
        exact ⟨rfl, rfl⟩
      · rw [matchS_gone hn hz]
        have e : minZ z x = x.lots := by unfold minZ; rw [if_neg hz]
        have hi := ih hr (z - x.lots) (by omega)
        simp only [takeR, e, worthF_cons', lotsF_cons', hc, fillO_lots]
        rw [hi.1, hi.2]
        exact ⟨rfl, rfl⟩
theorem Inv.okO {l : Bool → List Ord} {came : Nat} (h : Inv l came) (s : Bool) : ∀ o ∈ l s, OkO o := fun x hx => by
  have h2 := h.good s x hx
  unfold Ord.good at h2
  simp at h2
  unfold OkO
  omega
theorem sideT {l : Bool → List Ord} {came : Nat} (h : Inv l came) : side (l true) = true := by
  rw [side_all]
  · have := h.len true
    simp
    omega
  · intro k x hx
    have hg := h.good true x (List.mem_of_getElem? hx)
    have hs := h.side true x (List.mem_of_getElem? hx)
    obtain ⟨hk, rfl⟩ := List.getElem?_eq_some_iff.1 hx
    have hh : ((l true).headD (l true)[k]).sell = true := by
      have hm : ∀ (ys : List Ord) (a : Ord), ys ≠ [] → ys.headD a ∈ ys := fun ys a hy => by
        cases ys with
        | nil => exact absurd rfl hy
        | cons y r => simp
      exact h.side true _ (hm _ _ (fun e => by rw [e] at hk; simp at hk))
    unfold okAt
    rw [hg, hs, hh]
    simp only [beq_self_eq_true, Bool.true_and, if_true]
    by_cases h0 : k = 0
    · simp [h0]
    · have hp := List.pairwise_iff_getElem.1 (h.sorted true) (k - 1) k (by omega) hk (by omega)
      have hs' := h.side true (l true)[k - 1] (List.getElem_mem _)
      rw [cmpO_neg, hs'] at hp
      have hd : ((l true).getD (k - 1) (l true)[k]) = (l true)[k - 1]'(by omega) := by
        rw [List.getD_eq_getElem?_getD, List.getElem?_eq_getElem (by omega)]
        rfl
      rw [hd]
      simp at hp
      simp [h0]
      omega
/-- The last of the steps tells all lots. -/
theorem steps_sum (xs : List Ord) : ∀ (ss : List Stp) (t : Int), (ss ≠ [] → ∃ y, ss.getLast? = some y ∧ y.sum = t) → ((xs.foldl stepsStep (ss, t)).2 = t + lotsL xs) ∧ ((ss ≠ [] ∨ xs ≠ []) → ∃ i y, (xs.foldl stepsStep (ss, t)).1 = i ++ [y] ∧ y.sum = t + lotsL xs) := by
  induction xs with
  | nil =>
    intro ss t h
    refine ⟨by simp [lotsL], fun h1 => ?_⟩
    rcases h1 with h1 | h1
    · obtain ⟨y, hy, hs⟩ := h h1
      rcases List.eq_nil_or_concat ss with h2 | ⟨i, z, h2⟩
      · exact absurd h2 h1
      · have h2 : ss = i ++ [z] := by simpa using h2
        subst h2
        rw [List.getLast?_append, List.getLast?_singleton] at hy
        simp at hy
        subst hy
        exact ⟨i, z, rfl, by rw [hs]; simp [lotsL]⟩
    · exact absurd rfl h1
  | cons x r ih =>
    intro ss t h
    have hl : lotsL (x :: r) = x.lots + lotsL r := by simp [lotsL]
    rw [List.foldl_cons, hl]
    have hq : ∃ i y, stepsStep (ss, t) x = (i ++ [y], t + x.lots) ∧ y.sum = t + x.lots := by
      unfold stepsStep
      cases hg : ss.getLast? with
      | none => exact ⟨[], _, rfl, rfl⟩
      | some y =>
        by_cases hp : y.price = x.price
        · exact ⟨ss.dropLast, ⟨y.price, y.lots + x.lots, y.orders + 1, t + x.lots⟩, by simp only [if_pos hp], rfl⟩
        · exact ⟨ss, ⟨x.price, x.lots, 1, t + x.lots⟩, by simp only [if_neg hp], rfl⟩
    obtain ⟨i, y, hq, hy⟩ := hq
    rw [hq]
    obtain ⟨h1, h2⟩ := ih (i ++ [y]) (t + x.lots) (fun _ => ⟨y, by simp, hy⟩)
    refine ⟨by rw [h1]; omega, fun _ => ?_⟩
    obtain ⟨i2, y2, e1, e2⟩ := h2 (.inl (by simp))
    exact ⟨i2, y2, e1, by rw [e2]; omega⟩
theorem stepsO_last {xs : List Ord} (h : xs ≠ []) : ∃ i y, stepsO xs = i ++ [y] ∧ y.sum = lotsL xs := by
  obtain ⟨i, y, e, hs⟩ := (steps_sum xs [] 0 (fun h => absurd rfl h)).2 (.inr h)
  exact ⟨i, y, e, by rw [hs]; omega⟩
/-- The range of fills. -/
theorem lo_le (xs : List Fill) : ∀ a, xs.foldl loStep a ≤ a ∧ ∀ f ∈ xs, xs.foldl loStep a ≤ f.price := by
  induction xs with
  | nil => intro a; exact ⟨Int.le_refl _, fun f hf => by cases hf⟩
  | cons x r ih =>
    intro a
    obtain ⟨h1, h2⟩ := ih (loStep a x)
    have hs : loStep a x ≤ a ∧ loStep a x ≤ x.price := by unfold loStep; split <;> omega
    rw [List.foldl_cons]
    refine ⟨by omega, fun f hf => ?_⟩
    rcases List.mem_cons.1 hf with rfl | hf
    · omega
    · exact h2 f hf
theorem le_hi (xs : List Fill) : ∀ a, a ≤ xs.foldl hiStep a ∧ ∀ f ∈ xs, f.price ≤ xs.foldl hiStep a := by
  induction xs with
  | nil => intro a; exact ⟨Int.le_refl _, fun f hf => by cases hf⟩
  | cons x r ih =>
    intro a
    obtain ⟨h1, h2⟩ := ih (hiStep a x)
    have hs : a ≤ hiStep a x ∧ x.price ≤ hiStep a x := by unfold hiStep; split <;> omega
    rw [List.foldl_cons]
    refine ⟨by omega, fun f hf => ?_⟩
    rcases List.mem_cons.1 hf with rfl | hf
    · omega
    · exact h2 f hf
theorem range_all (xs : List Fill) : ∀ f ∈ xs, (rangeF xs).1 ≤ f.price ∧ f.price ≤ (rangeF xs).2 := by
  intro f hf
  cases xs with
  | nil => cases hf
  | cons x r => exact ⟨(lo_le (x :: r) x.price).2 f hf, (le_hi (x :: r) x.price).2 f hf⟩
theorem worth_between (lo hi : Int) (xs : List Fill) (h : ∀ f ∈ xs, OkF f ∧ lo ≤ f.price ∧ f.price ≤ hi) : lo * lotsF xs ≤ worthF xs ∧ worthF xs ≤ hi * lotsF xs ∧ 0 ≤ worthF xs := by
  induction xs with
  | nil => simp [lotsF, worthF]
  | cons f r ih =>
    obtain ⟨a, b, c⟩ := ih (fun g hg => h g (by simp [hg]))
    obtain ⟨⟨p0, p1, l0, l1⟩, p2, p3⟩ := h f (by simp)
    rw [worthF_cons', lotsF_cons']
    have h1 : lo * f.lots ≤ f.price * f.lots := Int.mul_le_mul_of_nonneg_right p2 l0
    have h2 : f.price * f.lots ≤ hi * f.lots := Int.mul_le_mul_of_nonneg_right p3 l0
    have h3 : 0 ≤ f.price * f.lots := Int.mul_nonneg p0 l0
    unfold costF
    rw [Int.mul_add, Int.mul_add]
    exact ⟨by omega, by omega, by omega⟩
/-- The mean of fills with lots. -/
theorem mean_law {xs : List Fill} (h : ∀ f ∈ xs, OkF f ∧ f.lots ≠ 0) (hne : xs ≠ []) : (rangeF xs).1 ≤ (worthF xs).tdiv (lotsF xs) ∧ (worthF xs).tdiv (lotsF xs) ≤ (rangeF xs).2 ∧ (worthF xs).tdiv (lotsF xs) * lotsF xs + (worthF xs).tmod (lotsF xs) = worthF xs ∧ (worthF xs).tmod (lotsF xs) < lotsF xs ∧ 0 < lotsF xs := by
  have hp := sum_pos h hne
  obtain ⟨a, b, c⟩ := worth_between (rangeF xs).1 (rangeF xs).2 xs (fun f hf => ⟨(h f hf).1, range_all xs f hf⟩)
  rw [Int.tdiv_eq_ediv_of_nonneg c, Int.tmod_eq_emod_of_nonneg c]
  refine ⟨Int.le_ediv_of_mul_le hp a, ?_, ?_, Int.emod_lt_of_pos _ hp, hp⟩
  · exact Int.ediv_le_of_le_mul hp b
  · have := Int.mul_ediv_add_emod (worthF xs) (lotsF xs)
    rw [Int.mul_comm] at this
    exact this
theorem kept_all {xs : List Fill} (hl : xs.length ≤ 1000) (h : ∀ f ∈ xs, OkF f ∧ f.lots ≠ 0) : keptF xs = xs := by
  have hg : goodF xs = true := by
    unfold goodF
    simp only [Bool.and_eq_true, decide_eq_true_eq, Bool.not_eq_true', List.any_eq_false]
    refine ⟨hl, fun f hf => ?_⟩
    have := (h f hf).1
    unfold OkF at this
    unfold Fill.bad
    simp
    omega
  unfold keptF
  rw [if_pos hg, List.filter_eq_self]
  intro f hf
  have := (h f hf).2
  unfold Fill.none
  simpa using this
theorem takO_ok {l : Bool → List Ord} {came : Nat} {n : Int} (hI : Inv l came) (hn : 1 ≤ n ∧ n ≤ 1000) (hid : ∀ s, ∀ x ∈ l s, x.id ≤ 25) (hl : (l true).length + (l false).length ≤ 25) : addK l (takO n) = 0 := by
  have hg : Ord.good (takO n) = true := by unfold Ord.good takO; simp; omega
  have hf : fnd l (takO n).id = none := fnd_none_iff fun s x hx e => by have := hid s x hx; unfold takO at e; simp only at e; omega
  unfold addK
  rw [hg, if_neg (by simp), hf, if_neg (by simp), if_neg (by omega)]
theorem takO_fills {l : Bool → List Ord} {came : Nat} {n : Int} (hI : Inv l came) (hn : 1 ≤ n ∧ n ≤ 1000) : (dealF l (takO n)).length ≤ 1000 ∧ (∀ f ∈ dealF l (takO n), OkF f ∧ f.lots ≠ 0) ∧ worthF (dealF l (takO n)) = (takeR n (l true)).1 ∧ lotsF (dealF l (takO n)) = (takeR n (l true)).2 := by
  have hg : Ord.good (takO n) = true := by unfold Ord.good takO; simp; omega
  obtain ⟨h1, h2⟩ := fills_ok hI hg
  have h3 : dealF l (takO n) = (matchS (takO n) n (l true)).1 := rfl
  obtain ⟨h4, h5⟩ := match_take n (l true) (hI.okO true) n (by omega)
  refine ⟨h1, fun f hf => ⟨h2 f hf, ?_⟩, by rw [h3]; exact h4, by rw [h3]; exact h5⟩
  obtain ⟨i, hi⟩ := List.getElem?_of_mem hf
  obtain ⟨x, hx, he, g1, g2, _, _⟩ := match_fills (o := takO n) (z := n) (by omega) (fun x hx => (hI.lotsR true x hx).1) i f hi
  omega
end Go.Proofs.YtdebldpmloignaaDoor
