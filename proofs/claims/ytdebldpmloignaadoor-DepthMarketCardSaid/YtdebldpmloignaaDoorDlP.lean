/-
  deal: the plain law: what changes hands is fair.
-/
import Derived.Test.YtdebldpmloignaaDoorDlE
namespace Go.Proofs.YtdebldpmloignaaDoor
open Go.RowKit
set_option linter.unusedVariables false
set_option linter.unusedSimpArgs false

def lotsFs (fs : List Fill) : Int := (fs.map Fill.lots).sum
theorem lotsFs_take (xs : List Fill) (k : Nat) (x : Fill) (h : xs[k]? = some x) : lotsFs (xs.take (k + 1)) = lotsFs (xs.take k) + x.lots := by
  obtain ⟨hk, rfl⟩ := List.getElem?_eq_some_iff.1 h
  unfold lotsFs
  rw [List.take_succ_eq_append_getElem hk, List.map_append, List.sum_append]
  simp
theorem fillO_lots (o x : Ord) (n : Int) : (fillO o x n).lots = n := by unfold fillO; split <;> rfl
theorem fillO_price (o x : Ord) (n : Int) : (fillO o x n).price = x.price := by unfold fillO; split <;> rfl
/-- Each fill is of the order that stood at its place. -/
theorem match_fills {o : Ord} : ∀ {z : Int} {S : List Ord}, 0 ≤ z → (∀ x ∈ S, 1 ≤ x.lots) → ∀ (k : Nat) (f : Fill), (matchS o z S).1[k]? = some f → ∃ x, S[k]? = some x ∧ f = fillO o x f.lots ∧ 1 ≤ f.lots ∧ f.lots ≤ x.lots ∧ (k + 1 < (matchS o z S).1.length → f.lots = x.lots) ∧ meetsO o x = true := by
  intro z S hz hS
  induction S generalizing z with
  | nil => intro k f h; simp [matchS] at h
  | cons x r ih =>
    intro k f h
    cases hn : nextOk o z (x :: r) with
    | false => rw [matchS_stop hn] at h; simp at h
    | true =>
      obtain ⟨hz0, x', r', he, hm⟩ := nextOk_cons hn
      cases he
      have hx := hS x (by simp)
      by_cases hlt : z < x.lots
      · rw [matchS_part hn hlt] at h ⊢
        cases k with
        | zero =>
          simp at h
          subst h
          rw [fillO_lots]
          exact ⟨x, rfl, rfl, by omega, by omega, by simp, hm⟩
        | succ k => simp at h
      · rw [matchS_gone hn hlt] at h ⊢
        cases k with
        | zero =>
          simp at h
          subst h
          rw [fillO_lots]
          exact ⟨x, rfl, rfl, by omega, by omega, fun _ => rfl, hm⟩
        | succ k =>
          simp at h
          obtain ⟨y, h1, h2, h3, h4, h5, h6⟩ := ih (by omega) (fun y hy => hS y (by simp [hy])) k f h
          exact ⟨y, by simpa using h1, h2, h3, h4, fun hk => h5 (by simpa using hk), h6⟩
theorem match_len {o : Ord} {z : Int} {S : List Ord} (hz : 0 ≤ z) (hS : ∀ x ∈ S, 1 ≤ x.lots) : (matchS o z S).1.length ≤ S.length := by
  rcases Nat.lt_or_ge S.length (matchS o z S).1.length with h | h
  · obtain ⟨x, hx, _⟩ := match_fills hz hS S.length _ (List.getElem?_eq_getElem h)
    have := (List.getElem?_eq_some_iff.1 hx).1
    omega
  · exact h
theorem match_sum {o : Ord} : ∀ {z : Int} {S : List Ord}, 0 ≤ z → (∀ x ∈ S, 1 ≤ x.lots) → lotsFs (matchS o z S).1 + (matchS o z S).2.1 = z ∧ lotsL (matchS o z S).2.2 = lotsL S - lotsFs (matchS o z S).1 ∧ 0 ≤ (matchS o z S).2.1 := by
  intro z S hz hS
  induction S generalizing z with
  | nil => simp [matchS, lotsFs, lotsL]; exact hz
  | cons x r ih =>
    cases hn : nextOk o z (x :: r) with
    | false => rw [matchS_stop hn]; simp [lotsFs]; exact hz
    | true =>
      have hx := hS x (by simp)
      by_cases hlt : z < x.lots
      · rw [matchS_part hn hlt]
        simp [lotsFs, lotsL, fillO_lots]
        omega
      · rw [matchS_gone hn hlt]
        have := ih (z := z - x.lots) (by omega) (fun y hy => hS y (by simp [hy]))
        simp only [lotsFs, lotsL, List.map_cons, List.sum_cons, fillO_lots] at this ⊢
        omega
theorem match_stops {o : Ord} : ∀ {z : Int} {S : List Ord}, nextOk o (matchS o z S).2.1 (matchS o z S).2.2 = false := by
  intro z S
  induction S generalizing z with
  | nil => rfl
  | cons x r ih =>
    cases hn : nextOk o z (x :: r) with
    | false => rw [matchS_stop hn]; exact hn
    | true =>
      by_cases hlt : z < x.lots
      · rw [matchS_part hn hlt]; simp [nextOk]
      · rw [matchS_gone hn hlt]; exact ih
theorem match_prices {o : Ord} : ∀ {z : Int} {S : List Ord} {y : Ord}, y ∈ (matchS o z S).2.2 → ∃ x ∈ S, x.price = y.price ∧ x.id = y.id := by
  intro z S
  induction S generalizing z with
  | nil => intro y h; simp [matchS] at h
  | cons x r ih =>
    intro y h
    cases hn : nextOk o z (x :: r) with
    | false => rw [matchS_stop hn] at h; exact ⟨y, h, rfl, rfl⟩
    | true =>
      by_cases hlt : z < x.lots
      · rw [matchS_part hn hlt] at h
        rcases List.mem_cons.1 h with rfl | h
        · exact ⟨x, by simp, rfl, rfl⟩
        · exact ⟨y, by simp [h], rfl, rfl⟩
      · rw [matchS_gone hn hlt] at h
        obtain ⟨a, ha, h2⟩ := ih h
        exact ⟨a, by simp [ha], h2⟩
/-- How Match's end state comes: the state of its last round. -/
theorem ML.last {o : Ord} {l : Bool → List Ord} {came : Nat} : ∀ {fs : List Fill} {z : Int} {S : List Ord}, ML o l came fs z S → ∃ fs', ML o l came fs' (matchS o z S).2.1 (matchS o z S).2.2 ∧ nextOk o (matchS o z S).2.1 (matchS o z S).2.2 = false := by
  intro fs z S h
  have key : ∀ (n : Nat) (fs : List Fill) (z : Int) (S : List Ord), z.toNat = n → ML o l came fs z S → ∃ fs', ML o l came fs' (matchS o z S).2.1 (matchS o z S).2.2 := by
    intro n
    induction n using Nat.strongRecOn with
    | ind n ih =>
      intro fs z S hn h
      cases hk : nextOk o z S with
      | false => rw [matchS_stop hk]; exact ⟨fs, h⟩
      | true =>
        obtain ⟨hz0, x, r, rfl, _⟩ := nextOk_cons hk
        obtain ⟨h1, h2, h3, h4, h5⟩ := h.step hk
        obtain ⟨fs', h6⟩ := ih (cutZ z (x :: r)).toNat (by have := h.z0; omega) _ _ _ rfl h1
        rw [matchS_step hk]
        exact ⟨fs', h6⟩
  obtain ⟨fs', h1⟩ := key _ fs z S rfl h
  exact ⟨fs', h1, match_stops⟩
theorem deal_last {l : Bool → List Ord} {o : Ord} {came : Nat} (h : Inv l came) (hk : addK l o = 0) : ∃ fs, ML o l came fs (dealZ l o) (dealS l o) ∧ nextOk o (dealZ l o) (dealS l o) = false := by
  have hg := (addK_parts hk).1
  have : 0 ≤ o.lots := by unfold Ord.good at hg; simp at hg; omega
  exact (ML.start h this).last
theorem Inv.deal {l : Bool → List Ord} {o : Ord} {came : Nat} (h : Inv l came) (hk : addK l o = 0) : Inv (dealL l o came) (dealC l o came) := by
  obtain ⟨fs, hm, _⟩ := deal_last h hk
  unfold dealL dealC
  split
  · exact hm.inv
  · rename_i hz
    exact hm.inv.add (hm.addK hk hz)
theorem dealL_side {l : Bool → List Ord} {o : Ord} {came : Nat} : dealL l o came (!o.sell) = dealS l o := by
  unfold dealL
  split
  · exact updL_same _ _ _
  · unfold addL
    rw [updL_other _ _ _ _ (by cases o.sell <;> simp)]
    exact updL_same _ _ _
/-- No two orders of the book meet. -/
def Unx (l : Bool → List Ord) : Prop := ∀ a ∈ l true, ∀ b ∈ l false, b.price < a.price
theorem nomets {o : Ord} {z : Int} {S : List Ord} {l : Bool → List Ord} {came : Nat} {fs : List Fill} (h : ML o l came fs z S) (hz : z ≠ 0) (hn : nextOk o z S = false) : ∀ y ∈ S, meetsO o y = false := by
  cases S with
  | nil => intro y hy; cases hy
  | cons x r =>
    have hx : meetsO o x = false := by
      unfold nextOk at hn
      simp only [if_neg hz] at hn
      exact hn
    intro y hy
    rcases List.mem_cons.1 hy with rfl | hy
    · exact hx
    · have hs := h.inv.sorted (!o.sell)
      have hd := h.inv.side (!o.sell)
      rw [updL_same] at hs hd
      have h1 := (List.pairwise_cons.1 hs).1 y hy
      rw [cmpO_neg] at h1
      have hxs := hd x (by simp)
      unfold meetsO at hx ⊢
      cases ho : o.sell with
      | true =>
        rw [ho] at hx hxs
        simp at hx hxs ⊢
        rw [hxs] at h1
        simp at h1
        omega
      | false =>
        rw [ho] at hx hxs
        simp at hx hxs ⊢
        rw [hxs] at h1
        simp at h1
        omega
theorem Unx.deal {l : Bool → List Ord} {o : Ord} {came : Nat} (hu : Unx l) (h : Inv l came) (hk : addK l o = 0) : Unx (dealL l o came) := by
  obtain ⟨fs, hm, hn⟩ := deal_last h hk
  have hp : ∀ y ∈ dealS l o, ∃ x ∈ l (!o.sell), x.price = y.price := fun y hy => by
    obtain ⟨x, h1, h2, _⟩ := match_prices hy
    exact ⟨x, h1, h2⟩
  have hold : ∀ a ∈ updL l (!o.sell) (dealS l o) true, ∀ b ∈ updL l (!o.sell) (dealS l o) false, b.price < a.price := by
    intro a ha b hb
    cases ho : o.sell with
    | true =>
      rw [ho] at ha hb hp
      rw [updL_other _ _ _ _ (by simp)] at ha
      rw [show (!true) = false from rfl, updL_same] at hb
      obtain ⟨x, h1, h2⟩ := hp b hb
      have := hu a ha x h1
      omega
    | false =>
      rw [ho] at ha hb hp
      rw [show (!false) = true from rfl, updL_same] at ha
      rw [updL_other _ _ _ _ (by simp)] at hb
      obtain ⟨x, h1, h2⟩ := hp a ha
      have := hu x h1 b hb
      omega
  unfold dealL
  split
  · exact hold
  · rename_i hz
    have hno := nomets hm hz hn
    have hmem : ∀ y, y ∈ addL (updL l (!o.sell) (dealS l o)) { o with lots := dealZ l o } came o.sell → y.price = o.price ∨ y ∈ updL l (!o.sell) (dealS l o) o.sell := fun y hy => by
      unfold addL at hy
      rw [updL_same] at hy
      rcases List.mem_cons.1 ((insAt_perm _ _ _).mem_iff.1 hy) with rfl | h1
      · exact .inl rfl
      · exact .inr h1
    have hoth : addL (updL l (!o.sell) (dealS l o)) { o with lots := dealZ l o } came (!o.sell) = dealS l o := by
      unfold addL
      rw [updL_other _ _ _ _ (by cases o.sell <;> simp)]
      exact updL_same _ _ _
    intro a ha b hb
    cases ho : o.sell with
    | true =>
      rw [ho] at hmem hoth hold ha hb
      rw [show (!true) = false from rfl] at hoth
      rw [show (!true) = false from rfl] at hb
      rw [hoth] at hb
      rcases hmem a ha with e | h1
      · have := hno b hb
        unfold meetsO at this
        rw [ho] at this
        simp at this
        omega
      · exact hold a h1 b (by rw [show (!true) = false from rfl, updL_same]; exact hb)
    | false =>
      rw [ho] at hmem hoth hold ha hb
      rw [show (!false) = true from rfl] at hoth
      rw [show (!false) = true from rfl] at ha
      rw [hoth] at ha
      rcases hmem b hb with e | h1
      · have := hno a ha
        unfold meetsO at this
        rw [ho] at this
        simp at this
        omega
      · exact hold a (by rw [show (!false) = true from rfl, updL_same]; exact ha) b h1
end Go.Proofs.YtdebldpmloignaaDoor
