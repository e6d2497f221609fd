/-
  Memory in short words: a block known whole, and what a step may turn.
-/
import Derived.Test.YtbningfdpibdkaaDoorOff
import Derived.Laws.StructEq
import Derived.StillTailTactics
namespace Go.Proofs.YtbningfdpibdkaaDoor
open Go.RowKit
set_option linter.unusedVariables false
set_option linter.unusedSimpArgs false

/-- Block q is a row of cells of type T, none of them frozen. -/
def Blk (w : World) (q : Nat) (cs : Array Value) (T : TypeId) : Prop := w.heap[q]? = some (.cells cs T (0, 0))
section
variable {w w' : World} {q : Nat} {cs : Array Value} {T : TypeId}
theorem Blk.lt (h : Blk w q cs T) : q < w.heap.size := (Array.getElem?_eq_some_iff.1 h).1
theorem Blk.cell (h : Blk w q cs T) (i : Nat) (v : Value) (hi : cs[i]? = some v) : w.cell? ⟨q, i, none⟩ = some v := by
  rw [cell_of_row w q i _ _ _ h]; exact hi
theorem Blk.free (h : Blk w q cs T) (i : Nat) : w.frozen? ⟨q, i, none⟩ = false := by
  have h' : w.heap[q]? = some (.cells cs T (0, 0)) := h
  simp [World.frozen?, h']
theorem Blk.of (h : Blk w q cs T) (hb : w'.heap[q]? = w.heap[q]?) : Blk w' q cs T := hb.trans h
theorem Blk.set (h : Blk w q cs T) (i : Nat) (x : Value) : Blk (w.setCell ⟨q, i, none⟩ x) q (cs.setIfInBounds i x) T := by
  have h' : w.heap[q]? = some (.cells cs T (0, 0)) := h
  show (w.setCell ⟨q, i, none⟩ x).heap[q]? = _
  simp only [World.setCell, Array.getElem?_modify, h']
  simp
theorem Blk.new (w : World) (cs : Array Value) (T : TypeId) : Blk (w.alloc (.cells cs T)) w.heap.size cs T := heap_alloc_new w _
theorem Blk.drew (h : Blk w q cs T) : Blk w.drew q cs T := h
theorem Blk.there (h : Blk w q cs T) (o n : Nat) (hn : o + n ≤ cs.size) : w.there q o n := there_of_known h o n hn
end
/-- From w to w' at most the old blocks of F have turned; new ones may be there. -/
structure Turns (F : Nat → Prop) (w w' : World) : Prop where
  os : w'.os = w.os
  tape : w'.tape = w.tape
  output : w'.output = w.output
  size : w.heap.size ≤ w'.heap.size
  block : ∀ k, k < w.heap.size → ¬ F k → w'.heap[k]? = w.heap[k]?
section
variable {F G : Nat → Prop} {a b c w w' : World}
theorem Turns.refl (F : Nat → Prop) (w : World) : Turns F w w := ⟨rfl, rfl, rfl, Nat.le_refl _, fun _ _ _ => rfl⟩
theorem Turns.trans (h : Turns F a b) (k : Turns G b c) (hFG : ∀ k, k < a.heap.size → G k → F k) : Turns F a c :=
  ⟨k.os.trans h.os, k.tape.trans h.tape, k.output.trans h.output, Nat.le_trans h.size k.size, fun i hi hn => (k.block i (Nat.lt_of_lt_of_le hi h.size) fun hg => hn (hFG i hi hg)).trans (h.block i hi hn)⟩
theorem Turns.mono (h : Turns F a b) (hFG : ∀ k, k < a.heap.size → F k → G k) : Turns G a b := ⟨h.os, h.tape, h.output, h.size, fun i hi hn => h.block i hi fun hf => hn (hFG i hi hf)⟩
theorem Turns.of_below (h : Below w.heap.size w w') : Turns F w w' := ⟨h.os, h.tape, h.output, h.size, fun k hk _ => h.block k hk⟩
theorem Turns.of_grown {r : Option Nat} (h : w.grownBy w' r) : Turns (fun k => r = some k) w w' := ⟨h.os, h.tape, h.output, h.size, fun k hk hn => h.block k hk fun e => hn e.symm⟩
theorem Turns.below {B : Nat} (h : Turns F w w') (hB : B ≤ w.heap.size) (hF : ∀ k, F k → B ≤ k) : Below B w w' :=
  ⟨h.os, h.tape, h.output, h.size, fun k hk => h.block k (Nat.lt_of_lt_of_le hk hB) fun hf => by have := hF k hf; omega⟩
theorem Turns.set {q i : Nat} {x : Value} (hF : F q) : Turns F w (w.setCell ⟨q, i, none⟩ x) :=
  ⟨rfl, rfl, rfl, by simp [World.setCell], fun k hk hn => Below.heap_setCell w _ x k (fun e => hn (by rw [e]; exact hF))⟩
theorem Turns.drew (h : Turns F a w) : Turns F a w.drew := ⟨h.os, h.tape, h.output, h.size, h.block⟩
theorem Turns.undrew (h : Turns F a.drew w) : Turns F a w := ⟨h.os, h.tape, h.output, h.size, h.block⟩
theorem Turns.alloc (o : Obj) : Turns F w (w.alloc o) := .of_below ((Below.refl _ w).alloc (Nat.le_refl _) o)
theorem Turns.blk {q : Nat} {cs : Array Value} {T : TypeId} (h : Turns F w w') (hb : Blk w q cs T) (hn : ¬ F q) : Blk w' q cs T := hb.of (h.block q hb.lt hn)
theorem Turns.owns {base : Nat} {e : TypeId} {size n : Nat} {v : Value} {xs : List Value} (h : Turns F w w') (ho : w.ownsRow base e size v n xs) (hn : ∀ g, v.ownBlock = some g → ¬ F g) : w'.ownsRow base e size v n xs := by
  refine ⟨ho.1, ho.2.imp id ?_⟩
  rintro ⟨g, cap, cur, hv, hb, hc, hr⟩
  have hg : v.ownBlock = some g := by rw [hv]; rfl
  exact ⟨g, cap, cur, hv, hb, by rw [h.block g (ho.lt g hg).2 (hn g hg)]; exact hc, hr⟩
theorem Turns.offs {base size n : Nat} {v : Value} {xs : List Value} (h : Turns F w w') (ho : OffRow w base size v n xs) (hn : ∀ g, v.ownBlock = some g → ¬ F g) : OffRow w' base size v n xs := by
  refine ⟨ho.1, ho.2.imp id ?_⟩
  rintro ⟨g, off, cap, hv, hb, hlt, h1, h2, h3, h4⟩
  have hg : v.ownBlock = some g := by rw [hv]; rfl
  have hbk := h.block g hlt (hn g hg)
  exact ⟨g, off, cap, hv, hb, Nat.lt_of_lt_of_le hlt h.size, h1, h2, there_of_blk h3 hbk, rangeAt_of_block' h4 hbk⟩
theorem Turns.rows {α : Type} {enc : α → List Value} {k n : Nat} {A : Option Addr} {xs : List α} (h : Turns F w w') (hr : RdRows w w.heap.size enc k A n xs) (hn : ∀ b o, 0 < n → A = some ⟨b, o, none⟩ → ¬ F b) : RdRows w' w'.heap.size enc k A n xs :=
  ⟨hr.1, fun hp => let ⟨b, off, hA, hlt, hx⟩ := hr.2 hp; ⟨b, off, hA, Nat.lt_of_lt_of_le hlt h.size, fun i x hi => rangeAt_of_block' (hx i x hi) (h.block b hlt (hn b off hp hA))⟩⟩
end
theorem Blk.below {w w' : World} {q : Nat} {cs : Array Value} {T : TypeId} (h : Blk w q cs T) (hb : Below w.heap.size w w') : Blk w' q cs T := h.of (hb.block q h.lt)
/-- A row that the call owns, at an offset, laid open for reading. -/
theorem OffRow.rows {α : Type} {enc : α → List Value} {k : Nat} (hk : ∀ x, (enc x).length = k) {w : World} {base n : Nat} {v : Value} {l : List α} (h : OffRow w base k v n (flatOf enc l)) (hl : l.length = n) :
    ∃ A cap, v = .slice A n cap ∧ n ≤ cap ∧ cap ≤ maxLen ∧ (A = none → cap = 0) ∧ RdRows w w.heap.size enc k A n l := by
  rcases h.2 with ⟨rfl, rfl⟩ | ⟨g, off, cap, rfl, _, hlt, h1, h2, _, hr⟩
  · exact ⟨none, 0, rfl, Nat.le_refl _, Nat.zero_le _, fun _ => rfl, hl, fun h => absurd h (by omega)⟩
  · refine ⟨_, cap, rfl, h1, h2, fun e => (by cases e), hl, fun _ => ⟨g, off, rfl, hlt, fun i x hi j u hu => ?_⟩⟩
    rw [Nat.add_assoc]
    exact hr _ _ (flatOf_get hk l i x hi j u hu)
theorem below_dN {B : Nat} {a w : World} {q : Nat} (h : Below B a w) : Below B a (w.drewN q) := ⟨h.os, h.tape, h.output, h.size, h.block⟩
/-- A slice cut from its g-th element on. -/
theorem RdRows.drop {α : Type} {enc : α → List Value} {k : Nat} {w : World} {B n g a : Nat} {A : Option Addr} {l : List α} (h : RdRows w B enc k A n l) (ha : a = g * k) : RdRows w B enc k (A.map (fun x => x.add a)) (n - g) (l.drop g) := by
  refine ⟨by rw [List.length_drop, h.1], fun hp => ?_⟩
  obtain ⟨b, off, rfl, hb, hr⟩ := h.2 (by omega)
  refine ⟨b, off + a, by simp [Addr.add_mid], hb, fun i x hi j u hu => ?_⟩
  rw [List.getElem?_drop] at hi
  have := hr _ x hi j u hu
  rw [Nat.add_mul] at this
  rw [ha]
  rwa [Nat.add_assoc off]
/-- A slice cut behind its first m elements. -/
theorem RdRows.take {α : Type} {enc : α → List Value} {k : Nat} {w : World} {B n m : Nat} {A : Option Addr} {l : List α} (h : RdRows w B enc k A n l) (hm : m ≤ n) : RdRows w B enc k A m (l.take m) := by
  refine ⟨by rw [List.length_take, h.1]; omega, fun hp => ?_⟩
  obtain ⟨b, off, rfl, hb, hr⟩ := h.2 (by omega)
  refine ⟨b, off, rfl, hb, fun i x hi j u hu => ?_⟩
  rw [List.getElem?_take] at hi
  split at hi
  · exact hr _ x hi j u hu
  · cases hi
theorem elem_of {P : Program} {t e : TypeId} (h : P.underlying t = some (.slice e)) : P.elem t = e := by simp [Program.elem, h]
/-- A cut from g on, as the model's value has it. -/
theorem RdRows.sliced_low {α : Type} {enc : α → List Value} {k : Nat} {w : World} {B n c g : Nat} {A : Option Addr} {l : List α} (h : RdRows w B enc k A n l) (hg : g ≤ n) (hn : n ≤ c) : ∃ A', Go.sliced A g n c k = .slice A' (n - g) (c - g) ∧ RdRows w B enc k A' (n - g) (l.drop g) := by
  refine ⟨_, rfl, ?_⟩
  split
  · refine ⟨by rw [List.length_drop, h.1], fun hp => by omega⟩
  · exact h.drop rfl
theorem RdRows.sliced_high {α : Type} {enc : α → List Value} {k : Nat} {w : World} {B n c m : Nat} {A : Option Addr} {l : List α} (h : RdRows w B enc k A n l) (hm : m ≤ n) : ∃ A', Go.sliced A 0 m c k = .slice A' m c ∧ RdRows w B enc k A' m (l.take m) := by
  refine ⟨_, rfl, ?_⟩
  split
  · exact h.take hm
  · have := (h.take hm).drop (g := 0) (a := 0 * k) (by omega)
    simpa using this
/-- The cuts' runs. -/
theorem run_cut {P : Program} {α : Type} {enc : α → List Value} (t e : TypeId) (i : TypeInfo) (ht : P.underlying t = some (.slice e)) (hi : P.info? e = some i) (k : Nat) (hk : i.size = k)
    (A : Option Addr) (n c g : Nat) (kl : IntKind) (hg : g ≤ n) (hn : n ≤ c) (w : World) (B : Nat) (l : List α) (hr : RdRows w B enc k A n l) :
    ∃ A', RdRows w B enc k A' (n - g) (l.drop g) ∧ ∀ w', (Instr.slice t (.slice A n c) (some (.int kl g)) none none).run P w' = .ok (.slice A' (n - g) (c - g)) w' := by
  obtain ⟨A', h1, h2⟩ := hr.sliced_low hg hn
  refine ⟨A', h2, fun w' => ?_⟩
  have he := elem_of ht
  have ht' : P.underlying t = some (.slice (P.elem t)) := by rw [he]; exact ht
  have hs : (sizeOf (P.elem t)).run P w' = .ok k w' := by simp [he, sizeOf, typeInfo, hi, hk]
  rw [run_slice_l w' t A n c ht' kl (g : Int) (by omega) (by omega), hs]
  simp only [Result.andThen, Int.toNat_natCast]
  rw [h1]
theorem run_cut_h {P : Program} {α : Type} {enc : α → List Value} (t e : TypeId) (i : TypeInfo) (ht : P.underlying t = some (.slice e)) (hi : P.info? e = some i) (k : Nat) (hk : i.size = k)
    (A : Option Addr) (n c m : Nat) (kl : IntKind) (hm : m ≤ n) (hn : n ≤ c) (w : World) (B : Nat) (l : List α) (hr : RdRows w B enc k A n l) :
    ∃ A', RdRows w B enc k A' m (l.take m) ∧ ∀ w', (Instr.slice t (.slice A n c) none (some (.int kl m)) none).run P w' = .ok (.slice A' m c) w' := by
  obtain ⟨A', h1, h2⟩ := hr.sliced_high (c := c) hm
  refine ⟨A', h2, fun w' => ?_⟩
  have he := elem_of ht
  have ht' : P.underlying t = some (.slice (P.elem t)) := by rw [he]; exact ht
  have hs : (sizeOf (P.elem t)).run P w' = .ok k w' := by simp [he, sizeOf, typeInfo, hi, hk]
  rw [run_slice_h w' t A n c ht' kl (m : Int) (by omega) (by omega), hs]
  simp only [Result.andThen, Int.toNat_natCast]
  rw [h1]
section
variable {P : Program} {ops : Array Oper} {rest : List Oper} {o : Oper} {a : Act} {w : World} {Q : Exit → Act → World → Prop}
/-- s[g:], read. -/
theorem wpList_cut {α : Type} {enc : α → List Value} (hgd : o.guard = none) (t : TypeId) (x y : Operand) (ho : o.op = .slice t x (some y) none none) (e : TypeId) (i : TypeInfo) (ht : P.underlying t = some (.slice e)) (hi : P.info? e = some i) (k : Nat) (hk : i.size = k)
    (A : Option Addr) (n c : Nat) (hx : a.eval x = .slice A n c) (g : Nat) (kl : IntKind) (hy : a.eval y = .int kl g) (hg : g ≤ n) (hn : n ≤ c) (B : Nat) (l : List α) (hr : RdRows w B enc k A n l)
    (h : ∀ A', RdRows w B enc k A' (n - g) (l.drop g) → wpList P ops Q rest (a.put o.dst (.slice A' (n - g) (c - g))) w) : wpList P ops Q (o :: rest) a w := by
  refine wpList_plain hgd fun K hK => ?_
  obtain ⟨A', h1, h2⟩ := hr.sliced_low hg hn
  have he := elem_of ht
  have ht' : P.underlying t = some (.slice (P.elem t)) := by rw [he]; exact ht
  have hs : (sizeOf (P.elem t)).run P w = .ok k w := by simp [he, sizeOf, typeInfo, hi, hk]
  have hrun : (Instr.sliceAt t (.slice A n c) (some (.int kl g)) none none).run P w = .ok (.slice A' (n - g) (c - g)) w := by
    rw [run_sliceAt_slice w t _ _ _ _ ht', run_slice_l w t A n c ht' kl (g : Int) (by omega) (by omega), hs]
    simp only [Result.andThen, Int.toNat_natCast]
    rw [h1]
  unfold Oper.wp
  simp [execOp, ho, hx, hy, hrun, Result.andThen]
  exact hK _ _ (h A' h2)
/-- s[:m], read. -/
theorem wpList_cut_h {α : Type} {enc : α → List Value} (hgd : o.guard = none) (t : TypeId) (x y : Operand) (ho : o.op = .slice t x none (some y) none) (e : TypeId) (i : TypeInfo) (ht : P.underlying t = some (.slice e)) (hi : P.info? e = some i) (k : Nat) (hk : i.size = k)
    (A : Option Addr) (n c : Nat) (hx : a.eval x = .slice A n c) (m : Nat) (kl : IntKind) (hy : a.eval y = .int kl m) (hg : m ≤ n) (hn : n ≤ c) (B : Nat) (l : List α) (hr : RdRows w B enc k A n l)
    (h : ∀ A', RdRows w B enc k A' m (l.take m) → wpList P ops Q rest (a.put o.dst (.slice A' m c)) w) : wpList P ops Q (o :: rest) a w := by
  refine wpList_plain hgd fun K hK => ?_
  obtain ⟨A', h1, h2⟩ := hr.sliced_high (c := c) hg
  have he := elem_of ht
  have ht' : P.underlying t = some (.slice (P.elem t)) := by rw [he]; exact ht
  have hs : (sizeOf (P.elem t)).run P w = .ok k w := by simp [he, sizeOf, typeInfo, hi, hk]
  have hrun : (Instr.sliceAt t (.slice A n c) none (some (.int kl m)) none).run P w = .ok (.slice A' m c) w := by
    rw [run_sliceAt_slice w t _ _ _ _ ht', run_slice_h w t A n c ht' kl (m : Int) (by omega) (by omega), hs]
    simp only [Result.andThen, Int.toNat_natCast]
    rw [h1]
  unfold Oper.wp
  simp [execOp, ho, hx, hy, hrun, Result.andThen]
  exact hK _ _ (h A' h2)
end
/-- Strings compared, as the walk spells it. -/
theorem str_beq (x y : ByteArray) : (x.toList == y.toList) = decide (x = y) := by
  rw [ByteArray.toList_eq, ByteArray.toList_eq, Bool.eq_iff_iff, beq_iff_eq, decide_eq_true_iff]
  constructor
  · intro h
    cases x; cases y
    simp only at h
    exact congrArg ByteArray.mk ((show ∀ a b : Array UInt8, a.toList = b.toList → a = b from fun a b e => by cases a; cases b; simpa using e) _ _ h)
  · intro h
    rw [h]
/-- A region that draws its order: reads, and then a tail in one forced order. -/
theorem wp_region_tail {P : Program} {id : Nat} {Q : Exit → Act → World → Prop} {a : Act} {w : World} {l : List Oper} (n : Nat) (hm : P.follows .mixedOrders = true) (hB : Region.lexTailB .any l.toArray n = true)
    (h : wpStill P l.toArray w.drew (fun a' => wpList P l.toArray Q (l.drop n) a' w.drew) (l.take n) a) : (Code.region id l.toArray true).wp P Q a w :=
  wp_region_still_tail n hm hB h
/-- Strings, as cells. -/
def strC (s : ByteArray) : List Value := [.string s]
theorem strC_k (s : ByteArray) : (strC s).length = 1 := rfl
theorem strC_flat (l : List ByteArray) : flatOf strC l = l.map Value.string := by
  induction l with
  | nil => rfl
  | cons x r ih => unfold flatOf at *; rw [List.flatMap_cons, ih]; rfl
theorem strC_at {w : World} {b off : Nat} {xs : List ByteArray} (h : RowsAt w strC 1 b off xs) (i : Nat) (s : ByteArray) (hi : xs[i]? = some s) : w.cell? ⟨b, off + i, none⟩ = some (.string s) := by
  have := h i s hi 0 _ rfl
  simpa using this
end Go.Proofs.YtbningfdpibdkaaDoor
