/-
  A slice that begins in the midst of a row that the call owns: append of one element onto it.
-/
import Derived.Test.YtbningfdpibdkaaDoorSeq
import Derived.ArgAppend
import Derived.Deep.Upon
import Derived.Deep.AppendLies
namespace Go.Proofs.YtbningfdpibdkaaDoor
open Go.RowKit
set_option linter.unusedVariables false
set_option linter.unusedSimpArgs false

theorem there_of_blk {w w' : World} {b o n : Nat} (h : w.there b o n) (hb : w'.heap[b]? = w.heap[b]?) : w'.there b o n := fun j hj => by
  obtain ⟨h1, h2⟩ := h j hj
  exact ⟨by rw [World.cell?_of_block (w := w) (a := ⟨b, o + j, none⟩) hb]; exact h1, by rw [World.frozen?_of_block (w := w) (a := ⟨b, o + j, none⟩) hb]; exact h2⟩
theorem rangeAt_of_block' {w w' : World} {b o : Nat} {cs : List Value} (h : w.rangeAt b o cs) (hb : w'.heap[b]? = w.heap[b]?) : w'.rangeAt b o cs := fun j v hv => by
  rw [World.cell?_of_block (w := w) (a := ⟨b, o + j, none⟩) hb]; exact h j v hv
theorem rangeAt_append {w : World} {b o : Nat} {xs ys : List Value} (h : w.rangeAt b o xs) (k : w.rangeAt b (o + xs.length) ys) : w.rangeAt b o (xs ++ ys) := fun j v hv => by
  by_cases hj : j < xs.length
  · rw [List.getElem?_append_left hj] at hv
    exact h j v hv
  · rw [List.getElem?_append_right (by omega)] at hv
    have := k (j - xs.length) v hv
    rwa [show o + xs.length + (j - xs.length) = o + j by omega] at this
theorem there_of_known {w : World} {g : Nat} {cur : Array Value} {e : TypeId} (hg : w.heap[g]? = some (.cells cur e (0, 0))) (o n : Nat) (h : o + n ≤ cur.size) : w.there g o n := fun j hj => by
  refine ⟨?_, ?_⟩
  · rw [cell_of_row w g _ cur e (0, 0) hg, Array.getElem?_eq_getElem (by omega)]; rfl
  · simp [World.frozen?, hg]
/-- A slice value with n elements of k cells each, whose cells and spare cells lie in a block from base on. -/
def OffRow (w : World) (base k : Nat) (v : Value) (n : Nat) (xs : List Value) : Prop :=
  xs.length = n * k ∧ ((v = .slice none 0 0 ∧ n = 0) ∨
    ∃ g off cap, v = .slice (some ⟨g, off, none⟩) n cap ∧ base ≤ g ∧ g < w.heap.size ∧ n ≤ cap ∧ cap ≤ maxLen ∧ w.there g off (cap * k) ∧ w.rangeAt g off xs)
theorem OffRow.kept {w w' : World} {base k n : Nat} {v : Value} {xs : List Value} {row : Option Nat} (h : OffRow w base k v n xs) (hg : w.grownBy w' row) (hne : v.ownBlock = none ∨ v.ownBlock ≠ row) : OffRow w' base k v n xs := by
  refine ⟨h.1, ?_⟩
  rcases h.2 with hn | ⟨g, off, cap, rfl, hb, hlt, h1, h2, h3, h4⟩
  · exact .inl hn
  · have hb2 := hg.block g hlt (by simpa [Value.ownBlock] using hne)
    exact .inr ⟨g, off, cap, rfl, hb, Nat.lt_of_lt_of_le hlt hg.size, h1, h2, there_of_blk h3 hb2, rangeAt_of_block' h4 hb2⟩
theorem OffRow.below {w w' : World} {base k n : Nat} {v : Value} {xs : List Value} (h : OffRow w base k v n xs) (hb : Below w.heap.size w w') : OffRow w' base k v n xs :=
  h.kept (grown_of_below hb none) (by cases v.ownBlock <;> simp)
theorem OffRow.of_owns {w : World} {base k n : Nat} {e : TypeId} {v : Value} {xs : List Value} (h : w.ownsRow base e k v n xs) : OffRow w base k v n xs := by
  refine ⟨h.1, ?_⟩
  rcases h.2 with hn | ⟨g, cap, cur, rfl, hb, hg, h1, h2, h3, h4⟩
  · exact .inl hn
  · refine .inr ⟨g, 0, cap, rfl, hb, (Array.getElem?_eq_some_iff.1 hg).1, h1, h2, Go.Proofs.YtbningfdpibdkaaDoor.there_of_known hg 0 _ (by omega), fun j u hu => ?_⟩
    rw [Nat.zero_add, cell_of_row w g _ cur e (0, 0) hg]
    rw [← h4, List.getElem?_take] at hu
    split at hu
    · simpa using hu
    · cases hu
theorem OffRow.mono {w : World} {base base' k n : Nat} {v : Value} {xs : List Value} (h : OffRow w base k v n xs) (hb : base' ≤ base) : OffRow w base' k v n xs :=
  ⟨h.1, h.2.imp id fun ⟨g, off, cap, h1, h2, h3⟩ => ⟨g, off, cap, h1, Nat.le_trans hb h2, h3⟩⟩
theorem OffRow.lt {w : World} {base k n : Nat} {v : Value} {xs : List Value} (h : OffRow w base k v n xs) : ∀ g, v.ownBlock = some g → base ≤ g ∧ g < w.heap.size := by
  intro g hg
  rcases h.2 with ⟨rfl, _⟩ | ⟨g', off, cap, rfl, h1, h2, _⟩
  · simp [Value.ownBlock] at hg
  · simp [Value.ownBlock] at hg
    subst hg
    exact ⟨h1, h2⟩
/-- Laid open. -/
theorem OffRow.form {w : World} {base k n : Nat} {v : Value} {xs : List Value} (h : OffRow w base k v n xs) (hn : 0 < n) :
    ∃ g off cap, v = .slice (some ⟨g, off, none⟩) n cap ∧ base ≤ g ∧ g < w.heap.size ∧ n ≤ cap ∧ cap ≤ maxLen ∧ w.there g off (cap * k) ∧ w.rangeAt g off xs := by
  rcases h.2 with ⟨_, h0⟩ | h
  · omega
  · exact h
theorem OffRow.len {w : World} {base k n : Nat} {v : Value} {xs : List Value} (h : OffRow w base k v n xs) : ∃ a c, v = .slice a n c ∧ n ≤ c ∧ c ≤ maxLen := by
  rcases h.2 with ⟨h0, h1⟩ | ⟨g, off, cap, rfl, _, _, h1, h2, _⟩
  · exact ⟨none, 0, by rw [h0, h1], by omega, by unfold maxLen; omega⟩
  · exact ⟨_, _, rfl, h1, h2⟩
/-- Its first element cut off. -/
theorem OffRow.tail {w : World} {base k n g off cap : Nat} {x xs : List Value} (h : OffRow w base k (.slice (some ⟨g, off, none⟩) (n + 1) cap) (n + 1) (x ++ xs)) (hx : x.length = k) (o' : Nat) (ho : (cap = 1 ∧ o' = off) ∨ o' = off + k) :
    OffRow w base k (.slice (some ⟨g, o', none⟩) n (cap - 1)) n xs := by
  have hl := h.1
  rw [List.length_append, hx, Nat.succ_mul] at hl
  refine ⟨by omega, .inr ?_⟩
  obtain ⟨g', off', cap', e, hb, hlt, h1, h2, h3, h4⟩ := h.form (by omega)
  cases e
  refine ⟨g, o', cap - 1, rfl, hb, hlt, by omega, by omega, ?_, ?_⟩
  · obtain ⟨c, rfl⟩ : ∃ c, cap = c + 1 := ⟨cap - 1, by omega⟩
    intro j hj
    rw [Nat.add_sub_cancel] at hj
    rcases ho with ⟨hc, rfl⟩ | rfl
    · obtain rfl : c = 0 := by omega
      simp at hj
    · have := h3 (k + j) (by rw [Nat.succ_mul]; omega)
      rwa [← Nat.add_assoc] at this
  · intro j v hv
    rcases ho with ⟨hc, rfl⟩ | rfl
    · obtain rfl : n = 0 := by omega
      have hx0 : xs = [] := List.eq_nil_of_length_eq_zero (by omega)
      subst hx0
      simp at hv
    · have := h4 (k + j) v (by rw [List.getElem?_append_right (by omega), hx]; simpa using hv)
      rwa [← Nat.add_assoc] at this
/-- append(out, x), x laid in a new block of its own. -/
theorem wpList_app_off {P : Program} {wr : World} {ops : Array Oper} {rest : List Oper} {o : Oper} {a : Act} {Q : Exit → Act → World → Prop} (hgd : o.guard = none) (s x : Operand) (t : TypeId)
    (ho : o.op = .call { callee := .builtin .append, args := #[s, x], argTypes := #[t, t] })
    (base : Nat) (e : TypeId) (i : TypeInfo) (z : Value) (size bytes : Nat) (ht : P.underlying t = some (.slice e)) (hi : P.info? e = some i) (hz : i.zero = some z)
    (hsize : i.size = size) (hby : i.bytes = bytes) (hzs : z.cells.size = size) (hsz : 0 < size)
    (v : Value) (n : Nat) (xs : List Value) (hs : a.eval s = v) (hown : OffRow wr base size v n xs) (news : List Value) (g : Nat)
    (hx : a.eval x = .slice (some ⟨g, 0, none⟩) 1 1) (hge : g = wr.heap.size) (hl : news.length = size) (h1 : ∀ u ∈ news, u.oneCell' = true)
    (h63 : n + 1 ≤ maxLen) (hbytes : (n + 1) * bytes ≤ 140737488355328) (hbase : base ≤ wr.heap.size)
    (h : ∀ v' w', OffRow w' base size v' (n + 1) (xs ++ news) → wr.grownBy w' v.ownBlock → (v'.ownBlock = v.ownBlock ∨ ∃ g, v'.ownBlock = some g ∧ wr.heap.size ≤ g) → wpList P ops Q rest (a.put o.dst v') w') :
    wpList P ops Q (o :: rest) a (wr.alloc (.cells news.toArray e)) := by
  subst hge
  have hcell : ∀ j u, news[j]? = some u → (wr.alloc (.cells news.toArray e)).cell? ((⟨wr.heap.size, 0, none⟩ : Addr).add j) = some u := by
    intro j u hj
    have hadd : (⟨wr.heap.size, 0, none⟩ : Addr).add j = ⟨wr.heap.size, j, none⟩ := by unfold Addr.add; split <;> simp_all
    rw [hadd, cell_of_row (wr.alloc (.cells news.toArray e)) wr.heap.size j news.toArray e (0, 0) (heap_alloc_new wr _)]
    simpa using hj
  have ha := fun row => World.grownBy_alloc wr (.cells news.toArray e) row
  have hback : ∀ {w' : World} {row : Option Nat}, (wr.alloc (.cells news.toArray e)).grownBy w' row → wr.grownBy w' row := fun {w' row} hg => grownBy_trans (ha row) hg
  rcases hown.2 with ⟨rfl, rfl⟩ | ⟨b, off, cap, rfl, hb, hlt, hn, hc, hth, hra⟩
  · have hx0 : xs = [] := List.eq_nil_of_length_eq_zero (by rw [hown.1]; simp)
    subst hx0
    refine wpList_append_own (w := wr.alloc (.cells news.toArray e)) hgd s x t ho wr.heap.size e i z size bytes ht hi hz hsize hby hzs hsz _ 0 [] hs (World.ownsRow_nil _ _ _ _) ⟨wr.heap.size, 0, none⟩ 1 1 news hx (by rw [hl]; omega) hcell h1 h63 hbytes (by simp) ?_
    intro v' w' ho' hg hv
    refine h v' w' ((OffRow.of_owns ho').mono hbase) (hback hg) (.inr ?_)
    rcases ho'.2 with ⟨hvn, _⟩ | ⟨g, _, _, rfl, hbg, _⟩
    · have := (hv.1 hvn).2
      omega
    · exact ⟨g, rfl, hbg⟩
  · have hth' := World.there_alloc hth (.cells news.toArray e)
    have hra' := World.rangeAt_alloc hra (.cells news.toArray e)
    have hlen := hown.1
    refine wpList_append_arg (wr.alloc (.cells news.toArray e)) hgd s x t ho e i z size bytes ht hi hz hsize hby hzs hsz b off n cap xs hs hlen hra' ⟨wr.heap.size, 0, none⟩ 1 1 news hx (by rw [hl]; omega) hcell h1 ?_ h63 hbytes ?_ ?_
    · intro hroom j hj
      have hm : (n + 1) * size ≤ cap * size := Nat.mul_le_mul_right _ hroom
      rw [Nat.succ_mul] at hm
      have := hth' (n * size + j) (by omega)
      rwa [← Nat.add_assoc] at this
    · intro hroom
      have hm : (n + 1) * size ≤ cap * size := Nat.mul_le_mul_right _ hroom
      rw [Nat.succ_mul] at hm
      have hlt2 : b < (wr.alloc (.cells news.toArray e)).heap.size := by simp; omega
      have hgs := grownBy_setCells b news (off + n * size) (wr.alloc (.cells news.toArray e))
      refine h _ _ ⟨by rw [List.length_append, hlen, hl, Nat.succ_mul], .inr ⟨b, off, cap, rfl, hb, Nat.lt_of_lt_of_le hlt2 hgs.size, hroom, hc, World.there_setCells hth' _ _ _, ?_⟩⟩ (hback hgs) (.inl rfl)
      refine rangeAt_append (World.rangeAt_setCells_apart hra' _ _ _ (.inr (.inl (by omega)))) ?_
      rw [hlen]
      refine World.rangeAt_setCells_same _ _ _ _ (fun j hj => ?_)
      have := hth' (n * size + j) (by omega)
      rwa [← Nat.add_assoc] at this
    · intro _ v' w' ho' hg
      refine h v' w' (((OffRow.of_owns ho').mono (by simp)).mono hbase) (hback (grown_but hg _)) (.inr ?_)
      obtain ⟨g, _, rfl, hbg, _⟩ := ho'.form (by omega)
      exact ⟨g, rfl, by have : (wr.alloc (.cells news.toArray e)).heap.size = wr.heap.size + 1 := by simp
                        omega⟩
end Go.Proofs.YtbningfdpibdkaaDoor
