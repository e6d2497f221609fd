/-
  deal: the document's Match: the plain state of a lot, and the first order of the other side less one lot.
-/
import Derived.Test.YtdebldpmloignaaDoorDlR
import Derived.Test.YtdebldpmloignaaDoorDlV
namespace Go.Proofs.YtdebldpmloignaaDoor
open Go.RowKit
set_option linter.unusedVariables false
set_option linter.unusedSimpArgs false

/-- The plain state of a lot. -/
structure MR (o : Ord) (l : Bool → List Ord) (came : Nat) (out : List Fill) (z : Int) (S : List Ord) : Prop where
  inv : Inv (updL l (!o.sell) S) came
  eq1 : joinF out (matchS o z S).1 = dealF l o
  eq2 : (matchS o z S).2 = (matchS o o.lots (l (!o.sell))).2
  z0 : 0 ≤ z
  z1 : (out.length : Int) + z ≤ o.lots
  few : S.length ≤ (l (!o.sell)).length
  ids : ∀ x ∈ S, ∃ y ∈ l (!o.sell), y.id = x.id
  lots : ∀ g ∈ out, 0 ≤ g.lots ∧ g.lots + z ≤ o.lots
theorem joinF_empty (xs : List Fill) : joinF [] xs = xs := by cases xs <;> rfl
theorem putF_length (out : List Fill) (f : Fill) : (putF out f).length ≤ out.length + 1 := by
  rcases snoc_cases out with rfl | ⟨i, g, rfl⟩
  · simp [putF_nil]
  · by_cases h : g.ask = f.ask ∧ g.bid = f.bid
    · rw [putF_join h.1 h.2]; simp
    · rw [putF_new h]; simp
theorem MR.start {o : Ord} {l : Bool → List Ord} {came : Nat} (h : Inv l came) (hz : 0 ≤ o.lots) : MR o l came [] o.lots (l (!o.sell)) :=
  ⟨by rw [updL_self]; exact h, joinF_empty _, rfl, hz, by simp, Nat.le_refl _, fun x hx => ⟨x, hx, rfl⟩, fun g hg => by cases hg⟩
theorem putF_lots {out : List Fill} {f : Fill} {N z : Int} (h : ∀ g ∈ out, 0 ≤ g.lots ∧ g.lots + z ≤ N) (hf : f.lots = 1) (hz : z ≤ N) : ∀ g ∈ putF out f, 0 ≤ g.lots ∧ g.lots + (z - 1) ≤ N := by
  intro g hg
  rcases snoc_cases out with rfl | ⟨i, y, rfl⟩
  · rw [putF_nil] at hg
    rcases List.mem_singleton.1 hg with rfl
    omega
  · by_cases he : y.ask = f.ask ∧ y.bid = f.bid
    · rw [putF_join he.1 he.2] at hg
      rcases List.mem_append.1 hg with hg | hg
      · have := h g (by simp [hg])
        omega
      · rcases List.mem_singleton.1 hg with rfl
        have := h y (by simp)
        simp only
        omega
    · rw [putF_new he] at hg
      rcases List.mem_append.1 hg with hg | hg
      · have := h g hg
        omega
      · rcases List.mem_singleton.1 hg with rfl
        omega
section
variable {o x : Ord} {l : Bool → List Ord} {came : Nat} {out : List Fill} {z : Int} {r S : List Ord}
theorem MR.mem (h : MR o l came out z (x :: r)) {y : Ord} (hy : y ∈ x :: r) : 1 ≤ y.lots ∧ y.lots ≤ 1000 := by
  have hm : y ∈ updL l (!o.sell) (x :: r) (!o.sell) := by rw [updL_same]; exact hy
  have h2 := h.inv.good _ y hm
  unfold Ord.good at h2
  simp at h2
  omega
theorem MR.hd (h : MR o l came out z (x :: r)) : (updL l (!o.sell) (x :: r) (!o.sell))[0]? = some x := by rw [updL_same]; rfl
theorem MR.fnd (h : MR o l came out z (x :: r)) : fnd (updL l (!o.sell) (x :: r)) x.id = some (!o.sell, 0) := h.inv.fnd_of h.hd
theorem MR.far (h : MR o l came out z (x :: r)) : ∀ y ∈ r, x.id ≠ y.id := by
  intro y hy e
  obtain ⟨i, hi⟩ := List.getElem?_of_mem hy
  have h1 : (updL l (!o.sell) (x :: r) (!o.sell))[i + 1]? = some y := by rw [updL_same]; exact hi
  have h2 := h.inv.fnd_of h1
  rw [← e, h.fnd] at h2
  simp at h2
theorem MR.step (h : MR o l came out z (x :: r)) (hn : nextOk o z (x :: r) = true) : MR o l came (putF out (fillO o x 1)) (z - 1) (cutS 1 (x :: r)) := by
  have hz := (nextOk_cons hn).1
  have h0 := h.z0
  have h1 := h.z1
  have hx := h.mem (y := x) (by simp)
  obtain ⟨s1, s2⟩ := lot_step (out := out) hn (by omega) hx.1 (fun y hy => (h.mem (by simp [hy])).1) h.far
  refine ⟨?_, s1.trans h.eq1, s2.trans h.eq2, by omega, ?_, ?_, ?_, putF_lots h.lots (fillO_lots o x 1) (by omega)⟩
  · unfold cutS
    simp only
    split
    · have := h.inv.set (z := x.lots - 1) h.hd ⟨by omega, by omega⟩
      rw [updL_same, updL_updL] at this
      exact this
    · have := h.inv.erase (s := !o.sell) (i := 0)
      rw [updL_same, updL_updL] at this
      exact this
  · have := putF_length out (fillO o x 1)
    omega
  · have := h.few
    unfold cutS
    simp only
    split <;> simp at this ⊢ <;> omega
  · intro y hy
    unfold cutS at hy
    simp only at hy
    split at hy
    · rcases List.mem_cons.1 hy with rfl | hy
      · exact h.ids x (by simp)
      · exact h.ids y (by simp [hy])
    · exact h.ids y (by simp [hy])
theorem MR.stop (h : MR o l came out z S) (hn : nextOk o z S = false) : out = dealF l o ∧ z = dealZ l o ∧ S = dealS l o := by
  have h1 := h.eq1
  have h2 := h.eq2
  rw [matchS_stop hn] at h1 h2
  refine ⟨h1, ?_, ?_⟩
  · unfold dealZ; rw [← h2]
  · unfold dealS; rw [← h2]
theorem MR.addK (h : MR o l came out z S) (hk : addK l o = 0) (hz : z ≠ 0) : addK (updL l (!o.sell) S) { o with lots := z } = 0 := by
  obtain ⟨hg, hf, hn⟩ := addK_parts hk
  have h0 := h.z0
  have h1 := h.z1
  have h2 := h.few
  have hg2 : Ord.good { o with lots := z } = true := by
    unfold Ord.good at hg ⊢
    simp at hg ⊢
    omega
  have hf2 : Go.Proofs.YtdebldpmloignaaDoor.fnd (updL l (!o.sell) S) o.id = none := by
    refine fnd_none_iff fun s x hx => ?_
    by_cases e : s = !o.sell
    · subst e
      rw [updL_same] at hx
      obtain ⟨y, hy, he⟩ := h.ids x hx
      rw [← he]
      exact fnd_none hf _ y hy
    · rw [updL_other _ _ _ _ e] at hx
      exact fnd_none hf s x hx
  have hn2 : ¬ 32 ≤ (updL l (!o.sell) S true).length + (updL l (!o.sell) S false).length := by
    cases hs : o.sell
    · rw [hs] at h2
      simp [updL] at h2 ⊢
      omega
    · rw [hs] at h2
      simp [updL] at h2 ⊢
      omega
  unfold Go.Proofs.YtdebldpmloignaaDoor.addK
  rw [hg2, if_neg (by simp), if_neg (by rw [hf2]; simp), if_neg hn2]
theorem MR.cut (h : MR o l came out z (x :: r)) : cutK (updL l (!o.sell) (x :: r)) x.id 1 = 0 ∧ cutL (updL l (!o.sell) (x :: r)) x.id 1 = updL l (!o.sell) (cutS 1 (x :: r)) := by
  have hx := h.mem (y := x) (by simp)
  have hk : cutK (updL l (!o.sell) (x :: r)) x.id 1 = 0 := by
    rw [cutK_some h.fnd h.hd, if_neg (by omega)]
  refine ⟨hk, ?_⟩
  rw [cutL_ok h.fnd h.hd hk]
  unfold cutS
  simp only
  by_cases h1 : 1 < x.lots
  · rw [if_neg (by omega), if_pos h1, updL_same, updL_updL]
    rfl
  · rw [if_pos (by omega), if_neg h1, updL_same, updL_updL]
    rfl
end
theorem rcut_head (o x : Ord) (l : Bool → List Ord) (came : Nat) (out : List Fill) (z : Int) (r : List Ord) (B u : Nat) (L : List Ord) (v : Value) (w : World) (hm : MR o l came out z (x :: r)) (hB : B ≤ w.heap.size) (h : Hid (RV w B u L v came)) (hb : Both (updL l (!o.sell) (x :: r)) came L) :
    Calls Tryd.prog 57 #[.pointer (some ⟨u, 0, none⟩), .int .i64 x.id, .int .i64 1] w fun e w' => e = .returned (.int .i64 0) ∧ ∃ L' v', RV w' B u L' v' came ∧ Both (updL l (!o.sell) (cutS 1 (x :: r))) came L' ∧ RTo w w' B u v v' := by
  have := rcut_any2 B u _ L v came x.id 1 w hB h hb
  rw [hm.cut.1, hm.cut.2] at this
  exact this
end Go.Proofs.YtdebldpmloignaaDoor
