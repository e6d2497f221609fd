/-
  Rows of structs: read, written, cleared; sums over lists. No program in sight.
-/
import Derived.Test.YtbningfdpibdkaaDoorKit
import Derived.Deep.MidRow
import Derived.Deep.RegionHeld3
import Derived.Deep.LoopGhost
import Derived.Shelf.Abstract
import Derived.Lib.SliceRun
import Derived.BigQuiet
import Derived.BigRegion
import Derived.Deep.QuietTactic
import Derived.RegionTactic
namespace Go.Proofs.YtbningfdpibdkaaDoor
open Go.RowKit
set_option linter.unusedVariables false
set_option linter.unusedSimpArgs false

theorem rangeAt_grown {w w' : World} {b o : Nat} {cs : List Value} {r : Option Nat} (h : w.rangeAt b o cs) (hg : w.grownBy w' r) (hne : some b ≠ r) : w'.rangeAt b o cs :=
  fun j v hv => hg.cell (h j v hv) (by simpa using hne)
theorem rangeAt_below {B : Nat} {w w' : World} {b o : Nat} {cs : List Value} (h : w.rangeAt b o cs) (hb : Below B w w') (hlt : b < B) : w'.rangeAt b o cs :=
  fun j v hv => (hb.cell (p := ⟨b, o + j, none⟩) hlt).trans (h j v hv)
theorem there_below {B : Nat} {w w' : World} {b o n : Nat} (h : w.there b o n) (hb : Below B w w') (hlt : b < B) : w'.there b o n := fun j hj => by
  obtain ⟨h1, h2⟩ := h j hj
  exact ⟨by rw [hb.cell (p := ⟨b, o + j, none⟩) hlt]; exact h1, by rw [hb.frozen hlt]; exact h2⟩
theorem grownBy_redrew {w w' : World} {r : Option Nat} (h : w.grownBy w' r) : w.grownBy w'.drew r := ⟨h.os, h.tape, h.output, h.size, h.block⟩
theorem grownBy_undrew {w w' : World} {r : Option Nat} (h : w.drew.grownBy w' r) : w.grownBy w' r := ⟨h.os, h.tape, h.output, h.size, h.block⟩
theorem grownBy_trans {a b c : World} {r : Option Nat} (h : a.grownBy b r) (k : b.grownBy c r) : a.grownBy c r :=
  ⟨k.os.trans h.os, k.tape.trans h.tape, k.output.trans h.output, Nat.le_trans h.size k.size, fun i hi hne => (k.block i (Nat.lt_of_lt_of_le hi h.size) hne).trans (h.block i hi hne)⟩
theorem grown_of_below {w w' : World} (h : Below w.heap.size w w') (r : Option Nat) : w.grownBy w' r := ⟨h.os, h.tape, h.output, h.size, fun k hk _ => h.block k hk⟩
theorem grown_but {w w' : World} (h : w.grownBy w' none) (r : Option Nat) : w.grownBy w' r := ⟨h.os, h.tape, h.output, h.size, fun k hk _ => h.block k hk (by simp)⟩
/-- The elements of a row of structs, each of k cells, from offset off of block b on. -/
def RowsAt {α : Type} (w : World) (enc : α → List Value) (k b off : Nat) (xs : List α) : Prop := ∀ i x, xs[i]? = some x → w.rangeAt b (off + i * k) (enc x)
theorem RowsAt.below {α : Type} {B : Nat} {w w' : World} {enc : α → List Value} {k b off : Nat} {xs : List α} (h : RowsAt w enc k b off xs) (hb : Below B w w') (hlt : b < B) : RowsAt w' enc k b off xs := fun i x hx => rangeAt_below (h i x hx) hb hlt
theorem RowsAt.grown {α : Type} {w w' : World} {enc : α → List Value} {k b off : Nat} {xs : List α} {r : Option Nat} (h : RowsAt w enc k b off xs) (hg : w.grownBy w' r) (hne : some b ≠ r) : RowsAt w' enc k b off xs := fun i x hx => rangeAt_grown (h i x hx) hg hne
/-- A slice of structs: its address, its elements; its block lies below B. -/
def RdRows {α : Type} (w : World) (B : Nat) (enc : α → List Value) (k : Nat) (A : Option Addr) (n : Nat) (xs : List α) : Prop :=
  xs.length = n ∧ (0 < n → ∃ b off, A = some ⟨b, off, none⟩ ∧ b < B ∧ RowsAt w enc k b off xs)
theorem RdRows.below {α : Type} {B C : Nat} {w w' : World} {enc : α → List Value} {k : Nat} {A : Option Addr} {n : Nat} {xs : List α} (h : RdRows w B enc k A n xs) (hb : Below C w w') (hBC : B ≤ C) : RdRows w' B enc k A n xs :=
  ⟨h.1, fun hn => let ⟨b, off, hA, hlt, hr⟩ := h.2 hn; ⟨b, off, hA, hlt, hr.below hb (Nat.lt_of_lt_of_le hlt hBC)⟩⟩
theorem RdRows.mono {α : Type} {B C : Nat} {w : World} {enc : α → List Value} {k : Nat} {A : Option Addr} {n : Nat} {xs : List α} (h : RdRows w B enc k A n xs) (hBC : B ≤ C) : RdRows w C enc k A n xs :=
  ⟨h.1, fun hn => let ⟨b, off, hA, hlt, hr⟩ := h.2 hn; ⟨b, off, hA, Nat.lt_of_lt_of_le hlt hBC, hr⟩⟩
/-- The flat cells of a row. -/
def flatOf {α : Type} (enc : α → List Value) (l : List α) : List Value := l.flatMap enc
theorem flatOf_append {α : Type} (enc : α → List Value) (a b : List α) : flatOf enc (a ++ b) = flatOf enc a ++ flatOf enc b := by unfold flatOf; rw [List.flatMap_append]
theorem flatOf_one {α : Type} (enc : α → List Value) (a : α) : flatOf enc [a] = enc a := by unfold flatOf; simp
theorem flatOf_length {α : Type} {enc : α → List Value} {k : Nat} (hk : ∀ x, (enc x).length = k) (l : List α) : (flatOf enc l).length = l.length * k := by
  induction l with
  | nil => simp [flatOf]
  | cons c r ih => unfold flatOf at *; rw [List.flatMap_cons, List.length_append, ih, hk, List.length_cons, Nat.succ_mul]; omega
theorem flatOf_get {α : Type} {enc : α → List Value} {k : Nat} (hk : ∀ x, (enc x).length = k) (l : List α) (i : Nat) (x : α) (hi : l[i]? = some x) (j : Nat) (v : Value) (hv : (enc x)[j]? = some v) : (flatOf enc l)[i * k + j]? = some v := by
  have hj : j < k := by have := (List.getElem?_eq_some_iff.1 hv).1; rw [hk] at this; exact this
  induction l generalizing i with
  | nil => simp at hi
  | cons c r ih =>
    cases i with
    | zero =>
      simp at hi
      subst hi
      unfold flatOf; rw [List.flatMap_cons, List.getElem?_append_left (by rw [hk]; omega)]; simpa using hv
    | succ i =>
      unfold flatOf
      rw [List.flatMap_cons, List.getElem?_append_right (by rw [hk, Nat.succ_mul]; omega), hk, show (i + 1) * k + j - k = i * k + j by rw [Nat.succ_mul]; omega]
      exact ih i (by simpa using hi)
theorem flatOf_mem {α : Type} {enc : α → List Value} (h1 : ∀ x, ∀ u ∈ enc x, u.oneCell' = true) (l : List α) : ∀ u ∈ flatOf enc l, u.oneCell' = true := by
  intro u hu
  unfold flatOf at hu
  rw [List.mem_flatMap] at hu
  obtain ⟨x, _, hx⟩ := hu
  exact h1 x u hx
/-- An owned row, laid open. -/
theorem own_rows {α : Type} {enc : α → List Value} {k : Nat} (hk : ∀ x, (enc x).length = k) {w : World} {base : Nat} {e : TypeId} {v : Value} {l : List α} {n : Nat} (h : w.ownsRow base e k v n (flatOf enc l)) (hl : l.length = n) :
    ∃ A cap, v = .slice A n cap ∧ n ≤ cap ∧ RdRows w w.heap.size enc k A n l := by
  by_cases hn : 0 < n
  · obtain ⟨g, cap, rfl, hc, hb, hg, hcell⟩ := own_open h hn
    exact ⟨_, cap, rfl, hc, hl, fun _ => ⟨g, 0, rfl, hg, fun i x hi j u hu => by rw [Nat.zero_add]; exact hcell _ _ (flatOf_get hk l i x hi j u hu)⟩⟩
  · have h0 : n = 0 := by omega
    subst h0
    rcases h.2 with ⟨rfl, _⟩ | ⟨g, cap, cur, rfl, _, _, hnc, _⟩
    · exact ⟨none, 0, rfl, Nat.le_refl _, hl, fun h => absurd h (by omega)⟩
    · exact ⟨_, cap, rfl, hnc, hl, fun h => absurd h (by omega)⟩
/-- The same, and its block. -/
theorem own_rows' {α : Type} {enc : α → List Value} {k : Nat} (hk : ∀ x, (enc x).length = k) {w : World} {base : Nat} {e : TypeId} {v : Value} {l : List α} {n : Nat} (h : w.ownsRow base e k v n (flatOf enc l)) (hl : l.length = n) (hn : 0 < n) :
    ∃ g cap cur, v = .slice (some ⟨g, 0, none⟩) n cap ∧ n ≤ cap ∧ cap ≤ maxLen ∧ base ≤ g ∧ w.heap[g]? = some (.cells cur e (0, 0)) ∧ cur.size = cap * k ∧ RowsAt w enc k g 0 l := by
  rcases h.2 with ⟨_, h0⟩ | ⟨g, cap, cur, rfl, hb, hg, hnc, hm, hs, htake⟩
  · omega
  · refine ⟨g, cap, cur, rfl, hnc, hm, hb, hg, hs, fun i x hi j u hu => ?_⟩
    rw [Nat.zero_add, cell_of_row w g _ cur e (0, 0) hg]
    have hu' := flatOf_get hk l i x hi j u hu
    rw [← htake, List.getElem?_take] at hu'
    split at hu'
    · simpa using hu'
    · cases hu'
/-- A block that is known whole: its cells are there and may be written. -/
theorem there_of_block {w : World} {g : Nat} {cur : Array Value} {e : TypeId} (hg : w.heap[g]? = some (.cells cur e (0, 0))) (o n : Nat) (h : o + n ≤ cur.size) : w.there g o n := fun j hj => by
  refine ⟨?_, ?_⟩
  · rw [cell_of_row w g _ cur e (0, 0) hg, Array.getElem?_eq_getElem (by omega)]; rfl
  · simp [World.frozen?, hg]
theorem grownBy_setCell (w : World) (b o : Nat) (u : Value) : w.grownBy (w.setCell ⟨b, o, none⟩ u) (some b) :=
  ⟨rfl, rfl, rfl, by simp [World.setCell], fun k _ hne => Below.heap_setCell w _ u k (fun e => hne (by rw [e]))⟩
theorem grownBy_setCells (b : Nat) : ∀ (vs : List Value) (o : Nat) (w : World), w.grownBy (w.setCells b o vs) (some b)
  | [], _, w => World.grownBy.refl w _
  | v :: vs, o, w => grownBy_trans (grownBy_setCell w b o v) (grownBy_setCells b vs (o + 1) (w.setCell ⟨b, o, none⟩ v))
/-- clear of a slice of structs. -/
theorem run_clear_rows {P : Program} (w : World) (t e : TypeId) (z : Value) (k : Nat) (ht : P.underlying t = some (.slice e)) (hv : ∀ w, (zeroValue e).run P w = .ok z w) (hz : z.cells.size = k) (hk : 0 < k) (h1 : ∀ u ∈ z.cells.toList, u.oneCell' = true) (b o n c : Nat)
    (hc : w.there b o (n * k)) : ∃ vs, vs.length = n * k ∧ ∀ ty, (Builtin.clear_ #[t] ty #[.slice (some ⟨b, o, none⟩) n c]).run P w = .ok (.tuple #[]) (w.setCells b o vs) := by
  have hzl : (Builtin.zeroCells z.cells n).toList.length = n * k := by simp [Builtin.zeroCells, hz]
  refine ⟨(Builtin.zeroCells z.cells n).toList, hzl, fun ty => ?_⟩
  have hst := run_storeCells_cells (P := P) b o (Builtin.zeroCells z.cells n).toList 0 w (fun j hj => by simpa using (hc j (by rw [← hzl]; exact hj)).1) (fun j hj => by simpa using (hc j (by rw [← hzl]; exact hj)).2) (fun v hv' => by
    simp only [Builtin.zeroCells, Array.toList_map, List.mem_map] at hv'
    obtain ⟨i, _, rfl⟩ := hv'
    have hlt : i % z.cells.size < z.cells.size := Nat.mod_lt _ (by omega)
    rw [getElem!_pos z.cells _ hlt]
    exact h1 _ (by simp [Array.getElem_mem]))
  simp only [Nat.add_zero] at hst
  cases n with
  | zero =>
    have hnil : (Builtin.zeroCells z.cells 0).toList = [] := List.eq_nil_of_length_eq_zero (by rw [hzl]; omega)
    rw [hnil]
    simp [Builtin.clear_, run_underlying ht, World.setCells]
  | succ m => simp [Builtin.clear_, run_underlying ht, hv, hst]
/-! ### sums -/
def sumTo {α : Type} (f : α → Int) (xs : List α) (k : Nat) : Int := ((xs.take k).map f).sum
theorem sumTo_zero {α : Type} (f : α → Int) (xs : List α) : sumTo f xs 0 = 0 := by simp [sumTo]
theorem sumTo_succ {α : Type} (f : α → Int) (xs : List α) (k : Nat) (x : α) (h : xs[k]? = some x) : sumTo f xs (k + 1) = sumTo f xs k + f x := by
  unfold sumTo
  rw [List.take_add_one, h]
  simp
theorem sumTo_all {α : Type} (f : α → Int) (xs : List α) : sumTo f xs xs.length = (xs.map f).sum := by simp [sumTo]
theorem sumTo_range {α : Type} (f : α → Int) (M : Int) (xs : List α) (h : ∀ x ∈ xs, 0 ≤ f x ∧ f x ≤ M) (k : Nat) (hk : k ≤ xs.length) : 0 ≤ sumTo f xs k ∧ sumTo f xs k ≤ k * M := by
  induction k with
  | zero => simp [sumTo]
  | succ k ih =>
    have hx := List.getElem?_eq_getElem (l := xs) (i := k) (by omega)
    rw [sumTo_succ f xs k _ hx]
    obtain ⟨a, b⟩ := ih (by omega)
    obtain ⟨c, d⟩ := h _ (List.getElem_mem (l := xs) (n := k) (by omega))
    push_cast
    rw [Int.add_mul]
    omega
end Go.Proofs.YtbningfdpibdkaaDoor
