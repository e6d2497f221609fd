/-
  deal: DealParts: two books side by side; what three orders leave.
-/
import Derived.Test.YtdebldpmloignaaDoorDlQ
namespace Go.Proofs.YtdebldpmloignaaDoor
open Go.RowKit
set_option linter.unusedVariables false
set_option linter.unusedSimpArgs false

theorem lotsL_perm {xs ys : List Ord} (h : xs.Perm ys) : lotsL xs = lotsL ys := by
  unfold lotsL
  induction h with
  | nil => rfl
  | cons x _ ih => simp only [List.map_cons, List.sum_cons, ih]
  | swap x y l => simp only [List.map_cons, List.sum_cons]; omega
  | trans _ _ ih1 ih2 => rw [ih1, ih2]
theorem lotsL_cons (x : Ord) (xs : List Ord) : lotsL (x :: xs) = x.lots + lotsL xs := by unfold lotsL; simp
theorem dealL_own {l : Bool → List Ord} {o : Ord} {came : Nat} : lotsL (dealL l o came o.sell) = lotsL (l o.sell) + dealZ l o := by
  unfold dealL
  split
  · rename_i hz
    rw [updL_other _ _ _ _ (by cases o.sell <;> simp), hz]
    omega
  · unfold addL
    rw [updL_same, lotsL_perm (insAt_perm _ _ _), lotsL_cons, updL_other _ _ _ _ (by cases o.sell <;> simp)]
    show dealZ l o + lotsL (l o.sell) = _
    omega
/-- Where an order's part and its rest lead. -/
theorem parts_plain {l : Bool → List Ord} {o p q : Ord} {came c2 c3 : Nat} (hI : Inv l came) (hp1 : p.sell = o.sell) (hp2 : p.price = o.price) (hq1 : q.sell = o.sell) (hq2 : q.price = o.price) (hk : 0 ≤ p.lots) (hm : 0 ≤ q.lots) (hs : p.lots + q.lots = o.lots) :
    dealZ l o = dealZ l p + dealZ (dealL l p came) q ∧ worthF (dealF l o) = worthF (dealF l p) + worthF (dealF (dealL l p came) q) ∧ ∀ s, lotsL (dealL l o c2 s) = lotsL (dealL (dealL l p came) q c3 s) := by
  have hside : dealL l p came (!q.sell) = dealS l p := by rw [hq1, ← hp1]; exact dealL_side
  obtain ⟨a, b, c⟩ := match_split hp1 hp2 hq1 hq2 (l (!o.sell)) p.lots q.lots hk hm (fun x hx => (hI.lotsR _ x hx).1)
  rw [hs] at a b c
  have ep : matchS p p.lots (l (!o.sell)) = matchS p p.lots (l (!p.sell)) := by rw [hp1]
  rw [ep] at a b c
  have eZ : dealZ (dealL l p came) q = (matchS q q.lots (matchS p p.lots (l (!p.sell))).2.2).2.1 := by unfold dealZ; rw [hside]; rfl
  have eF : dealF (dealL l p came) q = (matchS q q.lots (matchS p p.lots (l (!p.sell))).2.2).1 := by unfold dealF; rw [hside]; rfl
  have eS : dealS (dealL l p came) q = (matchS q q.lots (matchS p p.lots (l (!p.sell))).2.2).2.2 := by unfold dealS; rw [hside]; rfl
  have h1 : dealZ l o = dealZ l p + dealZ (dealL l p came) q := by rw [eZ]; exact b.symm
  have h3 : dealS (dealL l p came) q = dealS l o := by rw [eS]; exact a
  refine ⟨h1, by rw [eF]; exact c.symm, fun s => ?_⟩
  by_cases e : s = o.sell
  · subst e
    rw [dealL_own]
    have h4 := dealL_own (l := dealL l p came) (o := q) (came := c3)
    rw [hq1] at h4
    rw [h4]
    have h5 := dealL_own (l := l) (o := p) (came := came)
    rw [hp1] at h5
    rw [h5, h1]
    omega
  · have e' : s = !o.sell := by cases s <;> cases ho : o.sell <;> simp_all
    subst e'
    rw [dealL_side]
    have h4 := dealL_side (l := dealL l p came) (o := q) (came := c3)
    rw [hq1] at h4
    rw [h4, h3]
theorem good_lots {o : Ord} {z : Int} (h : Ord.good o = true) (h1 : 1 ≤ z) (h2 : z ≤ o.lots) : Ord.good { o with lots := z } = true := by
  unfold Ord.good at h ⊢
  simp at h ⊢
  omega
theorem addK_zero {l : Bool → List Ord} {o : Ord} (hg : Ord.good o = true) (hid : ∀ s, ∀ x ∈ l s, x.id ≠ o.id) (hn : (l true).length + (l false).length < 32) : addK l o = 0 := by
  unfold addK
  rw [hg, if_neg (by simp), if_neg (by rw [fnd_none_iff hid]; simp), if_neg (by omega)]
/-- What stands behind an order: no number but those that stood and its own; one more at most. -/
theorem dealL_ids {l : Bool → List Ord} {o : Ord} {came : Nat} (hI : Inv l came) (hk : addK l o = 0) : (∀ s, ∀ y ∈ dealL l o came s, y.id = o.id ∨ ∃ t, ∃ x ∈ l t, x.id = y.id) ∧ (dealL l o came true).length + (dealL l o came false).length ≤ (l true).length + (l false).length + 1 := by
  obtain ⟨fs, hm, _⟩ := deal_last hI hk
  have hu : ∀ s, ∀ y ∈ updL l (!o.sell) (dealS l o) s, ∃ t, ∃ x ∈ l t, x.id = y.id := fun s y hy => by
    by_cases e : s = !o.sell
    · subst e
      rw [updL_same] at hy
      obtain ⟨x, h1, h2⟩ := hm.ids y hy
      exact ⟨_, x, h1, h2⟩
    · rw [updL_other _ _ _ _ e] at hy
      exact ⟨s, y, hy, rfl⟩
  have hlen : (updL l (!o.sell) (dealS l o) true).length + (updL l (!o.sell) (dealS l o) false).length ≤ (l true).length + (l false).length := by
    have := hm.few
    cases ho : o.sell
    · rw [ho] at this
      simp [updL] at this ⊢
      omega
    · rw [ho] at this
      simp [updL] at this ⊢
      omega
  unfold dealL
  split
  · exact ⟨fun s y hy => .inr (hu s y hy), by omega⟩
  · refine ⟨fun s y hy => ?_, ?_⟩
    · unfold addL at hy
      by_cases e : s = o.sell
      · subst e
        rw [show ({ o with lots := dealZ l o } : Ord).sell = o.sell from rfl, updL_same] at hy
        rcases List.mem_cons.1 ((insAt_perm _ _ _).mem_iff.1 hy) with rfl | h1
        · exact .inl rfl
        · exact .inr (hu _ y h1)
      · rw [updL_other _ _ _ _ e] at hy
        exact .inr (hu s y hy)
    · have := updL_len (l := updL l (!o.sell) (dealS l o)) (s := o.sell) (xs := insAt (updL l (!o.sell) (dealS l o) o.sell) (placeOf (updL l (!o.sell) (dealS l o) o.sell) (Ord.at { o with lots := dealZ l o } (came + 1))) (Ord.at { o with lots := dealZ l o } (came + 1))) 0
      unfold addL
      have h2 := (insAt_perm (updL l (!o.sell) (dealS l o) o.sell) (placeOf (updL l (!o.sell) (dealS l o) o.sell) (Ord.at { o with lots := dealZ l o } (came + 1))) (Ord.at { o with lots := dealZ l o } (came + 1))).length_eq
      rw [List.length_cons] at h2
      simp only
      generalize insAt (updL l (!o.sell) (dealS l o) o.sell) (placeOf (updL l (!o.sell) (dealS l o) o.sell) (Ord.at { o with lots := dealZ l o } (came + 1))) (Ord.at { o with lots := dealZ l o } (came + 1)) = X at h2 ⊢
      clear this
      generalize updL l (!o.sell) (dealS l o) = u at hlen h2 ⊢
      cases ho : o.sell
      · rw [ho] at h2
        simp [updL]
        omega
      · rw [ho] at h2
        simp [updL]
        omega
/-- Two books side by side. -/
structure Two (W : World) (qa qb X : Nat) (l : Bool → List Ord) (va vb : Bool → Value) (ca : Nat) (l' : Bool → List Ord) (cb : Nat) (o : Ord) : Prop where
  a : BV W qa qa l va ca
  b : BV W qb qb l' vb cb
  ap : ∀ k, BF qa va k → ¬ BF qb vb k
  ob : Blk W X o.cells.toArray 67
  awa : Away qa va X
  awb : Away qb vb X
section
variable {W W' : World} {qa qb X ca cb c1 : Nat} {l l' l1 : Bool → List Ord} {va vb v1 : Bool → Value} {o : Ord}
theorem Two.below (h : Two W qa qb X l va vb ca l' cb o) (hb : Below W.heap.size W W') : Two W' qa qb X l va vb ca l' cb o := ⟨h.a.below hb, h.b.below hb, h.ap, h.ob.below hb, h.awa, h.awb⟩
theorem Two.stepA (h : Two W qa qb X l va vb ca l' cb o) (hs : BS W W' qa qa va l1 v1 c1) : Two W' qa qb X l1 v1 vb c1 l' cb o := by
  refine ⟨hs.out, h.b.turns hs.turns (fun k hk hf => h.ap k hf hk), fun k hk hb => ?_, hs.keep h.ob h.awa, hs.away h.ob.lt h.awa, h.awb⟩
  rcases hk with rfl | ⟨s, hs'⟩
  · exact h.ap _ (.inl rfl) hb
  · rcases hs.own s k hs' with ⟨t, ht⟩ | h2
    · exact h.ap k (.inr ⟨t, ht⟩) hb
    · have := (h.b.low_not k hb).2; omega
theorem Two.stepB (h : Two W qa qb X l va vb ca l' cb o) (hs : BS W W' qb qb vb l1 v1 c1) : Two W' qa qb X l va v1 ca l1 c1 o := by
  refine ⟨h.a.turns hs.turns (fun k hk hf => h.ap k hk hf), hs.out, fun k hk hb => ?_, hs.keep h.ob h.awb, h.awa, hs.away h.ob.lt h.awb⟩
  rcases hb with rfl | ⟨s, hs'⟩
  · exact h.ap _ hk (.inl rfl)
  · rcases hs.own s k hs' with ⟨t, ht⟩ | h2
    · exact h.ap k hk (.inr ⟨t, ht⟩)
    · have := (h.a.low_not k hk).2; omega
end
end Go.Proofs.YtdebldpmloignaaDoor
