/-
  QueueBands: the plain law: the queue's order.
-/
import Derived.Test.YtkinbidpbgkaoaaDoorQueE
namespace Go.Proofs.YtkinbidpbgkaoaaDoor
set_option linter.unusedVariables false

def ub (z : Int) : Int := (IntKind.u64.wrap z).tmod 3
theorem ub_range (z : Int) : 0 ≤ ub z ∧ ub z < 3 := by
  have h0 : 0 ≤ IntKind.u64.wrap z := by simp [IntKind.wrap, IntKind.signed, IntKind.bits]; omega
  unfold ub
  rw [Int.tmod_eq_emod_of_nonneg h0]
  exact ⟨Int.emod_nonneg _ (by omega), Int.emod_lt_of_pos _ (by omega)⟩
def tskN (i : Nat) : Tsk := ⟨(i : Int), -(i : Int)⟩
def bz (zs : List Int) (i : Nat) : Nat := (ub (zs.getD i 0)).toNat
theorem bz_lt (zs : List Int) (i : Nat) : bz zs i < 3 := by
  have := ub_range (zs.getD i 0)
  unfold bz
  omega
theorem bz_cast (zs : List Int) (i : Nat) : ((bz zs i : Nat) : Int) = ub (zs.getD i 0) := by
  have := ub_range (zs.getD i 0)
  unfold bz
  omega
/-- The rows behind k pushes. -/
def lN (zs : List Int) (k : Nat) : Nat → List Tsk := fun b => ((List.range k).filter (fun i => bz zs i == b)).map tskN
theorem lN_succ (zs : List Int) (k : Nat) : lN zs (k + 1) = upd (lN zs k) (bz zs k) (lN zs k (bz zs k) ++ [tskN k]) := by
  funext b
  unfold lN upd
  rw [List.range_succ, List.filter_append, List.map_append]
  by_cases h : b = bz zs k
  · subst h; simp
  · have : (bz zs k == b) = false := by simpa using fun e => h e.symm
    simp [h, this]
theorem lN_mem {zs : List Int} {k b : Nat} {x : Tsk} (h : x ∈ lN zs k b) : ∃ i, i < k ∧ bz zs i = b ∧ x = tskN i := by
  unfold lN at h
  rw [List.mem_map] at h
  obtain ⟨i, hi, rfl⟩ := h
  rw [List.mem_filter] at hi
  exact ⟨i, by simpa using hi.1, by simpa using hi.2, rfl⟩
theorem catT3 (l : Nat → List Tsk) : catT l 3 = l 0 ++ l 1 ++ l 2 := by simp [catT]
theorem cat_mem {zs : List Int} {k : Nat} {x : Tsk} (h : x ∈ catT (lN zs k) 3) : ∃ i, i < k ∧ x = tskN i := by
  rw [catT3, List.mem_append, List.mem_append] at h
  rcases h with (h | h) | h <;> (obtain ⟨i, h1, _, h3⟩ := lN_mem h; exact ⟨i, h1, h3⟩)
theorem cat_new (zs : List Int) (k : Nat) : (catT (lN zs k) 3).any (Tsk.beq (tskN k)) = false := by
  rw [List.any_eq_false]
  intro x hx
  obtain ⟨i, hi, rfl⟩ := cat_mem hx
  simp [Tsk.beq, tskN]
  intro h
  omega
theorem cat_upd (l : Nat → List Tsk) (b : Nat) (hb : b < 3) (x : Tsk) : (catT (upd l b (l b ++ [x])) 3).length = (catT l 3).length + 1 := by
  rw [catT3, catT3]
  simp only [List.length_append]
  match b, hb with
  | 0, _ => simp [upd]; omega
  | 1, _ => simp [upd]; omega
  | 2, _ => simp [upd]; omega
theorem cat_len (zs : List Int) : ∀ k, (catT (lN zs k) 3).length = k
  | 0 => by rw [catT3]; simp [lN]
  | k + 1 => by rw [lN_succ, cat_upd _ _ (bz_lt zs k), cat_len zs k]
def Ahead (zs : List Int) (x y : Tsk) : Prop := ∃ i j : Nat, x = tskN i ∧ y = tskN j ∧ (bz zs i < bz zs j ∨ bz zs i = bz zs j ∧ i < j)
theorem lN_pair (zs : List Int) (k b : Nat) : (lN zs k b).Pairwise (Ahead zs) := by
  unfold lN
  rw [List.pairwise_map]
  refine List.Pairwise.imp_of_mem ?_ (List.Pairwise.filter _ List.pairwise_lt_range)
  intro i j hi hj hij
  rw [List.mem_filter] at hi hj
  have h1 : bz zs i = b := by simpa using hi.2
  have h2 : bz zs j = b := by simpa using hj.2
  exact ⟨i, j, rfl, rfl, .inr ⟨by omega, hij⟩⟩
theorem cat_pair (zs : List Int) (k : Nat) : (catT (lN zs k) 3).Pairwise (Ahead zs) := by
  have cross : ∀ a b, a < b → ∀ x ∈ lN zs k a, ∀ y ∈ lN zs k b, Ahead zs x y := fun a b hab x hx y hy => by
    obtain ⟨i, _, h2, rfl⟩ := lN_mem hx
    obtain ⟨j, _, h4, rfl⟩ := lN_mem hy
    exact ⟨i, j, rfl, rfl, .inl (by omega)⟩
  rw [catT3, List.pairwise_append, List.pairwise_append]
  refine ⟨⟨lN_pair zs k 0, lN_pair zs k 1, cross 0 1 (by omega)⟩, lN_pair zs k 2, fun x hx y hy => ?_⟩
  rw [List.mem_append] at hx
  rcases hx with hx | hx
  · exact cross 0 2 (by omega) x hx y hy
  · exact cross 1 2 (by omega) x hx y hy
/-- Two neighbours in the row. -/
theorem cat_next {zs : List Int} {k p : Nat} (hp : p + 1 < k) : ∃ i j : Nat, (catT (lN zs k) 3)[p]? = some (tskN i) ∧ (catT (lN zs k) 3)[p + 1]? = some (tskN j) ∧ i < k ∧ j < k ∧ (bz zs i < bz zs j ∨ bz zs i = bz zs j ∧ i < j) := by
  have hl := cat_len zs k
  have hp1 : p < (catT (lN zs k) 3).length := by omega
  have hp2 : p + 1 < (catT (lN zs k) 3).length := by omega
  obtain ⟨i, j, hi, hj, hr⟩ := List.pairwise_iff_getElem.1 (cat_pair zs k) p (p + 1) hp1 hp2 (by omega)
  obtain ⟨i', hi', e1⟩ := cat_mem (List.getElem_mem hp1)
  obtain ⟨j', hj', e2⟩ := cat_mem (List.getElem_mem hp2)
  have inj : ∀ a b, tskN a = tskN b → a = b := fun a b h => by
    have h2 := congrArg Tsk.job h
    simp only [tskN] at h2
    omega
  have h1 : i = i' := inj _ _ (hi.symm.trans e1)
  have h2 : j = j' := inj _ _ (hj.symm.trans e2)
  exact ⟨i, j, by rw [List.getElem?_eq_getElem hp1, hi], by rw [List.getElem?_eq_getElem hp2, hj], by omega, by omega, hr⟩
end Go.Proofs.YtkinbidpbgkaoaaDoor
