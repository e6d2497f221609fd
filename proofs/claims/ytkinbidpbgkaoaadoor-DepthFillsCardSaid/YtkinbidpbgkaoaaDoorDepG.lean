/-
  DepthFills: the plain law: what the document's Sum gives.
-/
import Derived.Test.YtkinbidpbgkaoaaDoorDepB
namespace Go.Proofs.YtkinbidpbgkaoaaDoor
set_option linter.unusedVariables false

theorem worthF_snoc (l : List Fill) (f : Fill) : worthF (l ++ [f]) = worthF l + f.price * f.lots := by simp [worthF, costF]
theorem lotsF_snoc (l : List Fill) (f : Fill) : lotsF (l ++ [f]) = lotsF l + f.lots := by simp [lotsF]
theorem rangeF_snoc (l : List Fill) (f : Fill) : rangeF (l ++ [f]) = if l = [] then (f.price, f.price) else (loStep (rangeF l).1 f, hiStep (rangeF l).2 f) := by
  cases l with
  | nil => simp [rangeF, loStep, hiStep]
  | cons a r =>
    rw [if_neg (by simp)]
    simp only [rangeF, List.cons_append]
    rw [← List.cons_append, List.foldl_append, List.foldl_append]
    rfl
theorem sum_spec (xs : List Fill) (h : ∀ f ∈ xs, OkF f) : sumF xs = (worthF (xs.filter (fun f => !Fill.none f)), lotsF (xs.filter (fun f => !Fill.none f)), (rangeF (xs.filter (fun f => !Fill.none f))).1, (rangeF (xs.filter (fun f => !Fill.none f))).2) := by
  have key : ∀ n, n = xs.length → sumF xs = (worthF (xs.filter (fun f => !Fill.none f)), lotsF (xs.filter (fun f => !Fill.none f)), (rangeF (xs.filter (fun f => !Fill.none f))).1, (rangeF (xs.filter (fun f => !Fill.none f))).2) := by
    intro n
    induction n generalizing xs with
    | zero =>
      intro hn
      obtain rfl := List.eq_nil_of_length_eq_zero hn.symm
      simp [sumF, worthF, lotsF, rangeF]
    | succ n ih =>
      intro hn
      rcases List.eq_nil_or_concat xs with rfl | ⟨ys, f, rfl⟩
      · simp at hn
      · rw [List.concat_eq_append] at *
        have ih' := ih ys (fun g hg => h g (by simp [hg])) (by simp at hn; omega)
        have hok : ∀ g ∈ ys.filter (fun f => !Fill.none f), OkF g ∧ g.lots ≠ 0 := fun g hg => by
          rw [List.mem_filter] at hg
          exact ⟨h g (by simp [hg.1]), by simpa [Fill.none] using hg.2⟩
        have hs : sumF (ys ++ [f]) = sumStep (sumF ys) f := by simp [sumF]
        have hf : (ys ++ [f]).filter (fun f => !Fill.none f) = ys.filter (fun f => !Fill.none f) ++ (if f.lots = 0 then [] else [f]) := by
          rw [List.filter_append]
          congr 1
          by_cases h0 : f.lots = 0 <;> simp [Fill.none, h0]
        rw [hs, ih', hf]
        clear ih' hs hf ih
        generalize ys.filter (fun f => !Fill.none f) = k at hok ⊢
        by_cases h0 : f.lots = 0
        · simp [sumStep, h0]
        · rw [if_neg h0, worthF_snoc, lotsF_snoc, rangeF_snoc]
          by_cases hk : k = []
          · subst hk
            simp [sumStep, h0, lotsF, worthF, rangeF]
          · have hp := sum_pos hok hk
            have hp0 : ¬ lotsF k = 0 := by omega
            simp [sumStep, h0, hk, hp0, loStep, hiStep]
  exact key _ rfl
end Go.Proofs.YtkinbidpbgkaoaaDoor
