/-
  deal: the plain law: what an order takes of the other side.
-/
import Derived.Test.YtdebldpmloignaaDoorBkc
import Derived.Test.YtdebldpmloignaaDoorDepAB
namespace Go.Proofs.YtdebldpmloignaaDoor
open Go.RowKit
set_option linter.unusedVariables false
set_option linter.unusedSimpArgs false

def meetsO (o x : Ord) : Bool := if o.sell then decide (o.price ≤ x.price) else decide (x.price ≤ o.price)
def fillO (o x : Ord) (n : Int) : Fill := if o.sell then ⟨o.id, x.id, o.tenant, x.tenant, x.price, n⟩ else ⟨x.id, o.id, x.tenant, o.tenant, x.price, n⟩
/-- What comes of an order with z lots left: the fills, the lots that are left, what stands then. -/
def matchS (o : Ord) : Int → List Ord → List Fill × Int × List Ord
  | z, [] => ([], z, [])
  | z, x :: r => if z = 0 ∨ meetsO o x = false then ([], z, x :: r)
    else if z < x.lots then ([fillO o x z], 0, { x with lots := x.lots - z } :: r)
    else (fillO o x x.lots :: (matchS o (z - x.lots) r).1, (matchS o (z - x.lots) r).2)
/-- Whether something changes hands next. -/
def nextOk (o : Ord) (z : Int) (S : List Ord) : Bool := match S with
  | [] => false
  | x :: _ => if z = 0 then false else meetsO o x
theorem matchS_stop {o : Ord} {z : Int} {S : List Ord} (h : nextOk o z S = false) : matchS o z S = ([], z, S) := by
  cases S with
  | nil => rfl
  | cons x r =>
    unfold nextOk at h
    simp only at h
    unfold matchS
    rw [if_pos]
    split at h
    · exact .inl (by assumption)
    · exact .inr h
theorem matchS_part {o x : Ord} {z : Int} {r : List Ord} (h : nextOk o z (x :: r) = true) (hz : z < x.lots) : matchS o z (x :: r) = ([fillO o x z], 0, { x with lots := x.lots - z } :: r) := by
  unfold nextOk at h
  simp only at h
  unfold matchS
  split at h
  · cases h
  · rename_i h0
    rw [if_neg (by rw [h]; simp [h0]), if_pos hz]
theorem matchS_gone {o x : Ord} {z : Int} {r : List Ord} (h : nextOk o z (x :: r) = true) (hz : ¬ z < x.lots) : matchS o z (x :: r) = (fillO o x x.lots :: (matchS o (z - x.lots) r).1, (matchS o (z - x.lots) r).2) := by
  unfold nextOk at h
  simp only at h
  rw [matchS]
  split at h
  · cases h
  · rename_i h0
    rw [if_neg (by rw [h]; simp [h0]), if_neg hz]
theorem matchS_zero {o : Ord} {S : List Ord} : matchS o 0 S = ([], 0, S) := matchS_stop (by cases S <;> simp [nextOk])
theorem nextOk_cons {o : Ord} {z : Int} {S : List Ord} (h : nextOk o z S = true) : z ≠ 0 ∧ ∃ x r, S = x :: r ∧ meetsO o x = true := by
  cases S with
  | nil => cases h
  | cons x r =>
    unfold nextOk at h
    simp only at h
    split at h
    · cases h
    · exact ⟨by assumption, x, r, rfl, h⟩
/-- What one fill leaves. -/
def cutS (z : Int) : List Ord → List Ord
  | [] => []
  | x :: r => if z < x.lots then { x with lots := x.lots - z } :: r else r
def cutZ (z : Int) : List Ord → Int
  | [] => z
  | x :: _ => if z < x.lots then 0 else z - x.lots
def minL (z : Int) (x : Ord) : Int := if z < x.lots then z else x.lots
theorem matchS_step {o x : Ord} {z : Int} {r : List Ord} (h : nextOk o z (x :: r) = true) : matchS o z (x :: r) = (fillO o x (minL z x) :: (matchS o (cutZ z (x :: r)) (cutS z (x :: r))).1, (matchS o (cutZ z (x :: r)) (cutS z (x :: r))).2) := by
  unfold cutZ cutS minL
  by_cases hz : z < x.lots
  · simp only [if_pos hz]
    rw [matchS_part h hz, matchS_zero]
  · simp only [if_neg hz]
    exact matchS_gone h hz
theorem updL_self (l : Bool → List Ord) (s : Bool) : updL l s (l s) = l := by
  funext t
  unfold updL
  split
  · rename_i e; rw [e]
  · rfl
end Go.Proofs.YtdebldpmloignaaDoor
