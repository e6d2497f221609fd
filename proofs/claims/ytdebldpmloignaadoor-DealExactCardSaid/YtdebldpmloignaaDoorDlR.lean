/-
  deal: DealExact: lot by lot comes to the same as fill by fill.
-/
import Derived.Test.YtdebldpmloignaaDoorDlP
namespace Go.Proofs.YtdebldpmloignaaDoor
open Go.RowKit
set_option linter.unusedVariables false
set_option linter.unusedSimpArgs false

/-- A fill put behind the others: joined to the last where both numbers agree. -/
def putF (out : List Fill) (f : Fill) : List Fill := match out.getLast? with
  | none => out ++ [f]
  | some g => if g.ask = f.ask ∧ g.bid = f.bid then out.dropLast ++ [{ g with lots := g.lots + f.lots }] else out ++ [f]
def joinF (out : List Fill) : List Fill → List Fill
  | [] => out
  | f :: r => putF out f ++ r
theorem putF_nil (f : Fill) : putF [] f = [f] := rfl
theorem putF_join {i : List Fill} {g f : Fill} (h1 : g.ask = f.ask) (h2 : g.bid = f.bid) : putF (i ++ [g]) f = i ++ [{ g with lots := g.lots + f.lots }] := by
  unfold putF
  simp [h1, h2]
theorem putF_new {i : List Fill} {g f : Fill} (h : ¬ (g.ask = f.ask ∧ g.bid = f.bid)) : putF (i ++ [g]) f = i ++ [g] ++ [f] := by
  unfold putF
  simp only [List.getLast?_append, List.getLast?_singleton, Option.some_or, if_neg h]
theorem snoc_cases (out : List Fill) : out = [] ∨ ∃ i g, out = i ++ [g] := by
  rcases List.eq_nil_or_concat out with h | ⟨i, g, h⟩
  · exact .inl h
  · exact .inr ⟨i, g, by simpa using h⟩
theorem putF_last (out : List Fill) (f : Fill) : ∃ i g, putF out f = i ++ [g] ∧ g.ask = f.ask ∧ g.bid = f.bid := by
  rcases snoc_cases out with rfl | ⟨i, g, rfl⟩
  · exact ⟨[], f, rfl, rfl, rfl⟩
  · by_cases h : g.ask = f.ask ∧ g.bid = f.bid
    · exact ⟨i, _, putF_join h.1 h.2, h.1, h.2⟩
    · exact ⟨i ++ [g], f, putF_new h, rfl, rfl⟩
theorem putF_putF {out : List Fill} {f h : Fill} (h1 : f.ask = h.ask) (h2 : f.bid = h.bid) : putF (putF out f) h = putF out { f with lots := f.lots + h.lots } := by
  rcases snoc_cases out with rfl | ⟨i, g, rfl⟩
  · exact putF_join (i := []) h1 h2
  · by_cases hg : g.ask = f.ask ∧ g.bid = f.bid
    · rw [putF_join hg.1 hg.2, putF_join (by exact hg.1.trans h1) (by exact hg.2.trans h2), putF_join (by exact hg.1) (by exact hg.2)]
      simp only [Int.add_assoc]
    · rw [putF_new hg, putF_join h1 h2, putF_new (f := { f with lots := f.lots + h.lots }) hg]
theorem joinF_far {out : List Fill} {f : Fill} {r : List Fill} (h : ∀ g ∈ r, ¬ (f.ask = g.ask ∧ f.bid = g.bid)) : joinF (putF out f) r = putF out f ++ r := by
  cases r with
  | nil => simp [joinF]
  | cons g r =>
    obtain ⟨i, y, he, h1, h2⟩ := putF_last out f
    have hn : ¬ (y.ask = g.ask ∧ y.bid = g.bid) := by rw [h1, h2]; exact h g (by simp)
    show putF (putF out f) g ++ r = _
    rw [he, putF_new hn]
    simp
theorem fillO_set (o x : Ord) (n k : Int) : fillO o { x with lots := k } n = fillO o x n := rfl
theorem fillO_ids {o x y : Ord} {n k : Int} (h : x.id ≠ y.id) : ¬ ((fillO o x n).ask = (fillO o y k).ask ∧ (fillO o x n).bid = (fillO o y k).bid) := by
  unfold fillO
  split
  · exact fun e => h e.2
  · exact fun e => h e.1
theorem fillO_add (o x : Ord) (n k : Int) : { fillO o x n with lots := (fillO o x n).lots + k } = fillO o x (n + k) := by
  unfold fillO
  split <;> rfl
theorem putF_two (out : List Fill) (o x : Ord) (n k : Int) : putF (putF out (fillO o x n)) (fillO o x k) = putF out (fillO o x (n + k)) := by
  rw [putF_putF (by unfold fillO; split <;> rfl) (by unfold fillO; split <;> rfl), fillO_lots o x k, fillO_add]
/-- One lot more. -/
theorem lot_step {o x : Ord} {z : Int} {r : List Ord} {out : List Fill} (hn : nextOk o z (x :: r) = true) (hz : 1 ≤ z) (hx : 1 ≤ x.lots) (hr : ∀ y ∈ r, 1 ≤ y.lots) (hid : ∀ y ∈ r, x.id ≠ y.id) :
    joinF (putF out (fillO o x 1)) (matchS o (z - 1) (cutS 1 (x :: r))).1 = joinF out (matchS o z (x :: r)).1 ∧ (matchS o (z - 1) (cutS 1 (x :: r))).2 = (matchS o z (x :: r)).2 := by
  have hm : meetsO o x = true := by
    obtain ⟨_, x', r', he, h⟩ := nextOk_cons hn
    cases he
    exact h
  by_cases h1 : 1 < x.lots
  · have hc : cutS 1 (x :: r) = { x with lots := x.lots - 1 } :: r := by simp only [cutS, if_pos h1]
    rw [hc]
    by_cases hz1 : z = 1
    · subst hz1
      rw [matchS_part hn h1]
      rw [show (1 : Int) - 1 = 0 from rfl, matchS_zero]
      exact ⟨by simp [joinF], rfl⟩
    · have hn' : nextOk o (z - 1) ({ x with lots := x.lots - 1 } :: r) = true := by
        unfold nextOk
        simp only
        rw [if_neg (by omega)]
        exact hm
      by_cases hlt : z < x.lots
      · rw [matchS_part hn hlt, matchS_part hn' (by show z - 1 < x.lots - 1; omega)]
        refine ⟨?_, ?_⟩
        · simp only [joinF, List.append_nil]
          show putF (putF out (fillO o x 1)) (fillO o x (z - 1)) = _
          rw [putF_two, show 1 + (z - 1) = z by omega]
        · simp only
          congr 3
          omega
      · rw [matchS_gone hn hlt, matchS_gone hn' (by show ¬ z - 1 < x.lots - 1; omega)]
        have e : z - 1 - (x.lots - 1) = z - x.lots := by omega
        simp only [e]
        refine ⟨?_, trivial⟩
        simp only [joinF]
        show putF (putF out (fillO o x 1)) (fillO o x (x.lots - 1)) ++ _ = _
        rw [putF_two, show 1 + (x.lots - 1) = x.lots by omega]
  · have hx1 : x.lots = 1 := by omega
    have hc : cutS 1 (x :: r) = r := by simp only [cutS, if_neg h1]
    rw [hc, matchS_gone hn (by omega), hx1]
    refine ⟨?_, rfl⟩
    rw [joinF_far (fun g hg => ?_)]
    · rfl
    · obtain ⟨i, hi⟩ := List.getElem?_of_mem hg
      obtain ⟨y, hy, he, _⟩ := match_fills (by omega) hr i g hi
      rw [he]
      exact fillO_ids (hid y (List.mem_of_getElem? hy))
end Go.Proofs.YtdebldpmloignaaDoor
