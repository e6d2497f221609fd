/-
  deal: the plain law: an order in two parts.
-/
import Derived.Test.YtdebldpmloignaaDoorDlP
namespace Go.Proofs.YtdebldpmloignaaDoor
open Go.RowKit
set_option linter.unusedVariables false
set_option linter.unusedSimpArgs false

theorem meetsO_congr {o p x : Ord} (h1 : p.sell = o.sell) (h2 : p.price = o.price) : meetsO p x = meetsO o x := by unfold meetsO; rw [h1, h2]
theorem nextOk_congr {o p : Ord} (h1 : p.sell = o.sell) (h2 : p.price = o.price) (z : Int) (S : List Ord) : nextOk p z S = nextOk o z S := by
  cases S with
  | nil => rfl
  | cons x r => unfold nextOk; simp only [meetsO_congr h1 h2]
theorem costF_fillO (o x : Ord) (n : Int) : costF (fillO o x n) = x.price * n := by unfold costF; rw [fillO_price, fillO_lots]
theorem worthF_cons (f : Fill) (fs : List Fill) : worthF (f :: fs) = costF f + worthF fs := by unfold worthF; simp
/-- What is taken does not hang on the numbers of who takes. -/
theorem match_congr {o p : Ord} (h1 : p.sell = o.sell) (h2 : p.price = o.price) : ∀ (S : List Ord) (z : Int), (matchS p z S).2 = (matchS o z S).2 ∧ worthF (matchS p z S).1 = worthF (matchS o z S).1 := by
  intro S
  induction S with
  | nil => intro z; exact ⟨rfl, rfl⟩
  | cons x r ih =>
    intro z
    cases hn : nextOk o z (x :: r) with
    | false => rw [matchS_stop hn, matchS_stop (by rw [nextOk_congr h1 h2]; exact hn)]; exact ⟨rfl, rfl⟩
    | true =>
      have hn' : nextOk p z (x :: r) = true := by rw [nextOk_congr h1 h2]; exact hn
      by_cases hlt : z < x.lots
      · rw [matchS_part hn hlt, matchS_part hn' hlt]
        exact ⟨rfl, by rw [worthF_cons, worthF_cons, costF_fillO, costF_fillO]⟩
      · rw [matchS_gone hn hlt, matchS_gone hn' hlt]
        obtain ⟨a, b⟩ := ih (z - x.lots)
        exact ⟨a, by rw [worthF_cons, worthF_cons, costF_fillO, costF_fillO, b]⟩
theorem nextOk_pos {o x : Ord} {z : Int} {r : List Ord} (hm : meetsO o x = true) (hz : z ≠ 0) : nextOk o z (x :: r) = true := by unfold nextOk; simp only [if_neg hz]; exact hm
theorem nextOk_not {o x : Ord} {z : Int} {r : List Ord} (hm : meetsO o x = false) : nextOk o z (x :: r) = false := by unfold nextOk; simp only [hm]; split <;> rfl
/-- Two parts, one behind the other, take what the whole takes. -/
theorem match_split {o p q : Ord} (hp1 : p.sell = o.sell) (hp2 : p.price = o.price) (hq1 : q.sell = o.sell) (hq2 : q.price = o.price) : ∀ (S : List Ord) (k m : Int), 0 ≤ k → 0 ≤ m → (∀ x ∈ S, 1 ≤ x.lots) →
    (matchS q m (matchS p k S).2.2).2.2 = (matchS o (k + m) S).2.2 ∧ (matchS p k S).2.1 + (matchS q m (matchS p k S).2.2).2.1 = (matchS o (k + m) S).2.1 ∧ worthF (matchS p k S).1 + worthF (matchS q m (matchS p k S).2.2).1 = worthF (matchS o (k + m) S).1 := by
  intro S
  induction S with
  | nil => intro k m hk hm hS; simp [matchS, worthF]
  | cons x r ih =>
    intro k m hk hm hS
    have hx := hS x (by simp)
    cases hmt : meetsO o x with
    | false =>
      rw [matchS_stop (nextOk_not (z := k + m) (r := r) hmt), matchS_stop (nextOk_not (o := p) (z := k) (r := r) (by rw [meetsO_congr hp1 hp2]; exact hmt))]
      simp only
      rw [matchS_stop (nextOk_not (o := q) (z := m) (r := r) (by rw [meetsO_congr hq1 hq2]; exact hmt))]
      simp [worthF]
    | true =>
      have hmp : meetsO p x = true := by rw [meetsO_congr hp1 hp2]; exact hmt
      have hmq : ∀ y : Ord, y.price = x.price → meetsO q y = true := fun y hy => by
        unfold meetsO at hmt ⊢
        rw [hq1, hq2, hy]
        exact hmt
      by_cases hk0 : k = 0
      · subst hk0
        rw [matchS_zero]
        simp only [Int.zero_add]
        obtain ⟨a, b⟩ := match_congr hq1 hq2 (x :: r) m
        rw [a, b]
        simp [worthF]
      · by_cases hkx : k < x.lots
        · rw [matchS_part (nextOk_pos hmp hk0) hkx]
          simp only
          by_cases hm0 : m = 0
          · subst hm0
            rw [matchS_zero, Int.add_zero, matchS_part (nextOk_pos hmt hk0) hkx]
            simp [worthF, costF_fillO]
          · have hq' : nextOk q m ({ x with lots := x.lots - k } :: r) = true := nextOk_pos (hmq _ rfl) hm0
            by_cases hmx : m < x.lots - k
            · rw [matchS_part hq' hmx, matchS_part (nextOk_pos hmt (by omega)) (by omega)]
              refine ⟨?_, by simp, ?_⟩
              · simp only [List.cons.injEq, and_true, Ord.mk.injEq, true_and]
                omega
              · simp only [worthF_cons, costF_fillO]
                simp [worthF, Int.mul_add]
            · rw [matchS_gone hq' hmx, matchS_gone (nextOk_pos hmt (by omega)) (by omega)]
              obtain ⟨a, b⟩ := match_congr hq1 hq2 r (m - (x.lots - k))
              have e : k + m - x.lots = m - (x.lots - k) := by omega
              simp only
              rw [a, e]
              refine ⟨rfl, by simp, ?_⟩
              simp only [worthF_cons, costF_fillO]
              rw [b]
              have : x.price * k + x.price * (x.lots - k) = x.price * x.lots := by rw [← Int.mul_add]; congr 1; omega
              simp [worthF] at *
              omega
        · rw [matchS_gone (nextOk_pos hmp hk0) hkx, matchS_gone (nextOk_pos hmt (by omega)) (by omega)]
          simp only
          have e : k + m - x.lots = (k - x.lots) + m := by omega
          rw [e]
          obtain ⟨a, b, c⟩ := ih (k - x.lots) m (by omega) hm (fun y hy => hS y (by simp [hy]))
          refine ⟨a, b, ?_⟩
          simp only [worthF_cons, costF_fillO]
          omega
end Go.Proofs.YtdebldpmloignaaDoor
