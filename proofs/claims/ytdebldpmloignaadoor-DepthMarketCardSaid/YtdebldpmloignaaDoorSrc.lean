/-
  A part of a slice appended onto a row that the call owns.
-/
import Derived.Test.YtdebldpmloignaaDoorMem
import Derived.Test.YtdebldpmloignaaDoorSlG
import Derived.Laws.AppendOwnNone
namespace Go.Proofs.YtdebldpmloignaaDoor
open Go.RowKit
set_option linter.unusedVariables false
set_option linter.unusedSimpArgs false

/-- A slice value that reads as ys. -/
def SrcV {α : Type} (w : World) (enc : α → List Value) (k : Nat) (v : Value) (m : Nat) (ys : List α) : Prop :=
  ys.length = m ∧ ((v = .slice none 0 0 ∧ m = 0) ∨ ∃ ad c, v = .slice (some ad) m c ∧ ∀ i x, ys[i]? = some x → ∀ j u, (enc x)[j]? = some u → w.cell? (ad.add (i * k + j)) = some u)
theorem Addr.add_add (a : Addr) (i j : Nat) (h : a.spot = none) : (a.add i).add j = a.add (i + j) := by
  obtain ⟨b, o, s⟩ := a
  simp only at h
  subst h
  simp only [Addr.add_mid, Nat.add_assoc]
/-- An owned row, laid open. -/
theorem own_form {α : Type} {enc : α → List Value} {k : Nat} (hk : ∀ x, (enc x).length = k) {w : World} {base : Nat} {e : TypeId} {v : Value} {l : List α} (h : w.ownsRow base e k v l.length (flatOf enc l)) :
    ∃ A c, v = .slice A l.length c ∧ l.length ≤ c ∧ (A = none → c = 0) ∧ RdRows w w.heap.size enc k A l.length l := by
  obtain ⟨A, cap, hv, hc, hrd⟩ := own_rows hk h rfl
  refine ⟨A, cap, hv, ?_, fun hA => ?_, hrd⟩
  · rcases h.2 with ⟨h1, h2⟩ | ⟨g, cap', cur, h1, _, _, h2, _⟩
    · rw [h2]; exact Nat.zero_le _
    · rw [hv] at h1; rw [(Value.slice.inj h1).2.2]; exact h2
  · subst hA
    rcases h.2 with ⟨h1, _⟩ | ⟨g, cap', cur, h1, _⟩
    · rw [hv] at h1; exact (Value.slice.inj h1).2.2
    · rw [hv] at h1; cases (Value.slice.inj h1).1
section
variable {P : Program} {ops : Array Oper} {rest : List Oper} {o : Oper} {a : Act} {w : World} {Q : Exit → Act → World → Prop} {K : Act → World → Prop}
theorem src_take {α : Type} {enc : α → List Value} {k B n c m : Nat} {A : Option Addr} {l : List α} (hr : RdRows w B enc k A n l) (hA : A = none → c = 0) (hm : m ≤ n) (hn : n ≤ c) : SrcV w enc k (Go.sliced A 0 m c k) m (l.take m) := by
  refine ⟨by rw [List.length_take, hr.1]; omega, ?_⟩
  cases A with
  | none =>
    have hc := hA rfl
    subst hc
    obtain rfl : m = 0 := by omega
    exact .inl ⟨by simp [Go.sliced], rfl⟩
  | some ad =>
    by_cases hn0 : 0 < n
    · obtain ⟨b, off, e, hb, hx⟩ := hr.2 hn0
      cases e
      refine .inr ⟨⟨b, off, none⟩, c, ?_, fun i x hi j u hj => ?_⟩
      · unfold Go.sliced
        split <;> simp [Addr.add_mid]
      · rw [List.getElem?_take] at hi
        split at hi
        · rw [Addr.add_mid, ← Nat.add_assoc]
          exact hx i x hi j u hj
        · cases hi
    · obtain rfl : m = 0 := by omega
      refine .inr ⟨if c = 0 then ad else ad.add (0 * k), c, ?_, fun i x hi j u hj => by simp at hi⟩
      unfold Go.sliced
      split <;> simp
theorem src_drop {α : Type} {enc : α → List Value} {k B n c g : Nat} {A : Option Addr} {l : List α} (hr : RdRows w B enc k A n l) (hA : A = none → c = 0) (hg : g ≤ n) (hn : n ≤ c) : SrcV w enc k (Go.sliced A g n c k) (n - g) (l.drop g) := by
  refine ⟨by rw [List.length_drop, hr.1], ?_⟩
  cases A with
  | none =>
    have hc := hA rfl
    subst hc
    obtain rfl : n = 0 := by omega
    obtain rfl : g = 0 := by omega
    exact .inl ⟨by simp [Go.sliced], rfl⟩
  | some ad =>
    by_cases hn0 : 0 < n - g
    · obtain ⟨b, off, e, hb, hx⟩ := hr.2 (by omega)
      cases e
      refine .inr ⟨⟨b, off + g * k, none⟩, c - g, ?_, fun i x hi j u hj => ?_⟩
      · unfold Go.sliced
        rw [if_neg (by omega)]
        simp [Addr.add_mid]
      · rw [List.getElem?_drop] at hi
        have := hx (g + i) x hi j u hj
        rw [Nat.add_mul] at this
        rw [Addr.add_mid]
        rw [show off + g * k + (i * k + j) = off + (g * k + i * k) + j by omega]
        exact this
    · have h0 : n - g = 0 := by omega
      have hd : l.drop g = [] := List.drop_eq_nil_of_le (by rw [hr.1]; omega)
      rw [h0, hd]
      refine .inr ⟨if c = g then ad else ad.add (g * k), c - g, ?_, fun i x hi j u hj => by simp at hi⟩
      unfold Go.sliced
      rw [h0]
      split <;> simp
theorem run_cutV {α : Type} {enc : α → List Value} (t e : TypeId) (i : TypeInfo) (ht : P.underlying t = some (.slice e)) (hi : P.info? e = some i) (k : Nat) (hk : i.size = k)
    (A : Option Addr) (n c g : Nat) (kl : IntKind) (hg : g ≤ n) (w' : World) : (Instr.slice t (.slice A n c) (some (.int kl g)) none none).run P w' = .ok (Go.sliced A g n c k) w' := by
  have he := elem_of ht
  have ht' : P.underlying t = some (.slice (P.elem t)) := by rw [he]; exact ht
  have hs : (sizeOf (P.elem t)).run P w' = .ok k w' := by simp [he, sizeOf, typeInfo, hi, hk]
  rw [run_slice_l w' t A n c ht' kl (g : Int) (by omega) (by omega), hs]
  simp only [Result.andThen, Int.toNat_natCast]
theorem run_cutV_h {α : Type} {enc : α → List Value} (t e : TypeId) (i : TypeInfo) (ht : P.underlying t = some (.slice e)) (hi : P.info? e = some i) (k : Nat) (hk : i.size = k)
    (A : Option Addr) (n c m : Nat) (kl : IntKind) (hm : m ≤ c) (w' : World) : (Instr.slice t (.slice A n c) none (some (.int kl m)) none).run P w' = .ok (Go.sliced A 0 m c k) w' := by
  have he := elem_of ht
  have ht' : P.underlying t = some (.slice (P.elem t)) := by rw [he]; exact ht
  have hs : (sizeOf (P.elem t)).run P w' = .ok k w' := by simp [he, sizeOf, typeInfo, hi, hk]
  rw [run_slice_h w' t A n c ht' kl (m : Int) (by omega) (by omega), hs]
  simp only [Result.andThen, Int.toNat_natCast]
/-- s[g:], at a list of operations. -/
theorem wpList_cutV {α : Type} {enc : α → List Value} (hgd : o.guard = none) (t : TypeId) (x y : Operand) (ho : o.op = .slice t x (some y) none none) (e : TypeId) (i : TypeInfo) (ht : P.underlying t = some (.slice e)) (hi : P.info? e = some i) (k : Nat) (hk : i.size = k)
    (A : Option Addr) (n c : Nat) (hx : a.eval x = .slice A n c) (g : Nat) (kl : IntKind) (hy : a.eval y = .int kl g) (hg : g ≤ n) (hn : n ≤ c) (hA : A = none → c = 0) (B : Nat) (l : List α) (hr : RdRows w B enc k A n l)
    (h : ∀ v', SrcV w enc k v' (n - g) (l.drop g) → wpList P ops Q rest (a.put o.dst v') w) : wpList P ops Q (o :: rest) a w := by
  refine wpList_plain hgd fun K hK => ?_
  have he := elem_of ht
  have ht' : P.underlying t = some (.slice (P.elem t)) := by rw [he]; exact ht
  have hrun : (Instr.sliceAt t (.slice A n c) (some (.int kl g)) none none).run P w = .ok (Go.sliced A g n c k) w := by
    rw [run_sliceAt_slice w t _ _ _ _ ht', run_cutV (enc := enc) t e i ht hi k hk A n c g kl hg w]
  unfold Oper.wp
  simp [execOp, ho, hx, hy, hrun, Result.andThen]
  exact hK _ _ (h _ (src_drop hr hA hg hn))
/-- s[:m], at a list of operations. -/
theorem wpList_cutV_h {α : Type} {enc : α → List Value} (hgd : o.guard = none) (t : TypeId) (x y : Operand) (ho : o.op = .slice t x none (some y) none) (e : TypeId) (i : TypeInfo) (ht : P.underlying t = some (.slice e)) (hi : P.info? e = some i) (k : Nat) (hk : i.size = k)
    (A : Option Addr) (n c : Nat) (hx : a.eval x = .slice A n c) (m : Nat) (kl : IntKind) (hy : a.eval y = .int kl m) (hg : m ≤ n) (hn : n ≤ c) (hA : A = none → c = 0) (B : Nat) (l : List α) (hr : RdRows w B enc k A n l)
    (h : ∀ v', SrcV w enc k v' m (l.take m) → wpList P ops Q rest (a.put o.dst v') w) : wpList P ops Q (o :: rest) a w := by
  refine wpList_plain hgd fun K hK => ?_
  have he := elem_of ht
  have ht' : P.underlying t = some (.slice (P.elem t)) := by rw [he]; exact ht
  have hrun : (Instr.sliceAt t (.slice A n c) none (some (.int kl m)) none).run P w = .ok (Go.sliced A 0 m c k) w := by
    rw [run_sliceAt_slice w t _ _ _ _ ht', run_cutV_h (enc := enc) t e i ht hi k hk A n c m kl (by omega) w]
  unfold Oper.wp
  simp [execOp, ho, hx, hy, hrun, Result.andThen]
  exact hK _ _ (h _ (src_take hr hA hg hn))
/-- append(own, part...), at a list of operations. -/
theorem wpList_append_src {α : Type} {enc : α → List Value} (hgd : o.guard = none) (s x : Operand) (t : TypeId)
    (ho : o.op = .call { callee := .builtin .append, args := #[s, x], argTypes := #[t, t] })
    (base : Nat) (e : TypeId) (i : TypeInfo) (z : Value) (size bytes : Nat) (ht : P.underlying t = some (.slice e)) (hi : P.info? e = some i) (hz : i.zero = some z)
    (hsize : i.size = size) (hby : i.bytes = bytes) (hzs : z.cells.size = size) (hsz : 0 < size) (hen : ∀ x, (enc x).length = size) (hone : ∀ x, ∀ u ∈ enc x, u.oneCell' = true)
    (v : Value) (xs : List α) (hs : a.eval s = v) (hown : w.ownsRow base e size v xs.length (flatOf enc xs)) (v2 : Value) (m : Nat) (ys : List α) (hx : a.eval x = v2) (hsrc : SrcV w enc size v2 m ys)
    (h63 : xs.length + m ≤ maxLen) (hbytes : (xs.length + m) * bytes ≤ 140737488355328) (hbase : base ≤ w.heap.size)
    (h : ∀ v' w', w'.ownsRow base e size v' (xs ++ ys).length (flatOf enc (xs ++ ys)) → w.grownBy w' v.ownBlock → wpList P ops Q rest (a.put o.dst v') w') : wpList P ops Q (o :: rest) a w := by
  rcases hsrc.2 with ⟨rfl, rfl⟩ | ⟨ad, c, rfl, hcell⟩
  · obtain rfl : ys = [] := List.eq_nil_of_length_eq_zero hsrc.1
    refine wpList_append_own_none hgd s x t ho base e i size ht hi v _ _ hs hown hx (h v w ?_ ⟨rfl, rfl, rfl, Nat.le_refl _, fun _ _ _ => rfl⟩)
    rw [List.append_nil]
    exact hown
  · have hl := hsrc.1
    subst hl
    refine wpList_append_own w hgd s x t ho base e i z size bytes ht hi hz hsize hby hzs hsz v _ _ hs hown ad _ c (flatOf enc ys) hx (flatOf_length hen ys) ?_ (flatOf_mem hone ys) h63 hbytes hbase ?_
    · intro j u hj
      have hj2 : j < ys.length * size := by
        have := (List.getElem?_eq_some_iff.1 hj).1
        rwa [flatOf_length hen] at this
      obtain ⟨x', hx', he'⟩ := flat_split hen hsz ys j hj2
      have := hcell (j / size) x' hx' (j % size) u (by rw [← he']; exact hj)
      rwa [Nat.mul_comm, Nat.div_add_mod] at this
    · intro v' w' ho' hg _
      refine h v' w' ?_ hg
      rw [List.length_append, flatOf_append]
      exact ho'
end
end Go.Proofs.YtdebldpmloignaaDoor
