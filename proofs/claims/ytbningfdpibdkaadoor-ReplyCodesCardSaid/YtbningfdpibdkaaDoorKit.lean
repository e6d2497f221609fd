/-
  Small words of this claim's own over the guide's laws: returned values, and append of one element to a row that the call owns.
-/
import Derived.Test.YtbningfdpibdkaaDoorErr
import Derived.WalkKit
import Derived.OwnWalk
import Derived.Lib.Hide
import Derived.Deep.Draws
import Derived.Laws.Rows
import Derived.Laws.Tables
import Derived.Deep.Cut
import Derived.OneCell
namespace Go.Proofs.YtbningfdpibdkaaDoor
open Go.RowKit

/-- An error of a kind: nil, or the sentinel of that kind. -/
def erV (E : Nat → Addr) (k : Nat) : Value := if k = 0 then .nilIface else .iface 104 (.pointer (some (E k)))
theorem erV_nil (E : Nat → Addr) : erV E 0 = .nilIface := rfl
theorem erV_some (E : Nat → Addr) (k : Nat) (h : k ≠ 0) : erV E k = .iface 104 (.pointer (some (E k))) := if_neg h

theorem ret_bool {a b : Bool} (h : a = b) : Ending.returned (.bool a) = .returned (.bool b) := by rw [h]
theorem ret_int {k : IntKind} {a b : Int} (h : a = b) : Ending.returned (.int k a) = .returned (.int k b) := by rw [h]
theorem below_drewN {B : Nat} {a w : World} (h : Below B a w) (n : Nat) : Below B a (w.drewN n) := ⟨h.os, h.tape, h.output, h.size, h.block⟩
theorem below_of_drewN {B : Nat} {w w' : World} (h : ∃ n, w' = w.drewN n) : Below B w w' := by
  obtain ⟨n, rfl⟩ := h
  exact below_drewN (Below.refl _ _) n

/-- A function whose one result is a struct or an array in a variable: its row known whole. -/
theorem bodyPost_cell {P : Program} {fn : Func} {R : Ending → World → Prop} {a : Act} {w : World} {p : Tmp} {ty : TypeId} (h : fn.results = #[.cell p ty]) (hd0 : a.defers = []) (g : Nat) (hp : a.tmps.getD p undef = .pointer (some ⟨g, 0, none⟩))
    (t : TypeId) (cs : Array Value) (fr : Nat × Nat) (d : TypeDesc) (hg : w.heap[g]? = some (.cells cs t fr)) (hd : (match d with | .struct _ | .array _ _ => true | _ => false) = true) (hu : P.underlying ty = some d) (hi : (P.info? ty).map (·.size) = some cs.size)
    (hR : R (.returned (.agg cs)) w) : bodyPost P fn R .ret a w := by
  refine bodyPost_ret (v := .agg cs) ?_ hd0 hR
  have hl := run_loadVar_row (P := P) w g t ty cs fr d hg hu (by cases d <;> first | rfl | exact hd) hi
  simp only [results, h]
  simp only [Array.getD_eq_getD_getElem?] at hp
  simp [hp, asAddr, hl]

theorem alloc_new' {w : World} {o : Obj} {k : Nat} (h : k = w.heap.size) : (w.alloc o).heap[k]? = some o := by
  subst h
  exact heap_alloc_new w o
theorem alloc_old' {w : World} {o : Obj} {k : Nat} (h : k < w.heap.size) : (w.alloc o).heap[k]? = w.heap[k]? := heap_alloc_old w o h
theorem drew_get (w : World) (k : Nat) : w.drew.heap[k]? = w.heap[k]? := rfl
theorem drewN_get (w : World) (n k : Nat) : (w.drewN n).heap[k]? = w.heap[k]? := rfl
/-- The same where the row's size is given as a number. -/
theorem bodyPost_row {P : Program} {fn : Func} {R : Ending → World → Prop} {a : Act} {W : World} {p : Tmp} {ty : TypeId} (h : fn.results = #[.cell p ty]) (hd0 : a.defers = []) (g : Nat) (hp : a.tmps.getD p undef = .pointer (some ⟨g, 0, none⟩))
    (cs : Array Value) (t : TypeId) (fr : Nat × Nat) (hg : W.heap[g]? = some (.cells cs t fr)) (d : TypeDesc) (hu : P.underlying ty = some d) (hd : (match d with | .struct _ | .array _ _ => true | _ => false) = true) (n : Nat) (hi : (P.info? ty).map (·.size) = some n) (hn : cs.size = n)
    (hR : R (.returned (.agg cs)) W) : bodyPost P fn R .ret a W := by
  exact bodyPost_cell h hd0 g hp t cs fr d hg (by cases d <;> first | rfl | exact hd) hu (by rw [hi, hn]) hR
/-- The same where that variable is the last block of the world. -/
theorem bodyPost_last {P : Program} {fn : Func} {R : Ending → World → Prop} {a : Act} {W : World} {cs : Array Value} {t : TypeId} {p : Tmp} {ty : TypeId} (h : fn.results = #[.cell p ty]) (hd0 : a.defers = []) (g : Nat) (hp : a.tmps.getD p undef = .pointer (some ⟨g, 0, none⟩))
    (hge : g = W.heap.size) (d : TypeDesc) (hu : P.underlying ty = some d) (hd : (match d with | .struct _ | .array _ _ => true | _ => false) = true) (n : Nat) (hi : (P.info? ty).map (·.size) = some n) (hn : cs.size = n)
    (hR : R (.returned (.agg cs)) (W.alloc (.cells cs t))) : bodyPost P fn R .ret a (W.alloc (.cells cs t)) := by
  subst hge
  exact bodyPost_cell h hd0 W.heap.size hp t cs (0, 0) d (heap_alloc_new W _) (by cases d <;> first | rfl | exact hd) hu (by rw [hi, hn]) hR

/-- append(out, x), x laid in a new block of its own, onto a row that the call owns. -/
theorem wpList_app1 {P : Program} {wr : World} {ops : Array Oper} {rest : List Oper} {o : Oper} {a : Act} {Q : Exit → Act → World → Prop} (hgd : o.guard = none) (s x : Operand) (t : TypeId)
    (ho : o.op = .call { callee := .builtin .append, args := #[s, x], argTypes := #[t, t] })
    (base : Nat) (e : TypeId) (i : TypeInfo) (z : Value) (size bytes : Nat) (ht : P.underlying t = some (.slice e)) (hi : P.info? e = some i) (hz : i.zero = some z)
    (hsize : i.size = size) (hby : i.bytes = bytes) (hzs : z.cells.size = size) (hsz : 0 < size)
    (v : Value) (n : Nat) (xs : List Value) (hs : a.eval s = v) (hown : wr.ownsRow base e size v n xs) (news : List Value) (g : Nat)
    (hx : a.eval x = .slice (some ⟨g, 0, none⟩) 1 1) (hge : g = wr.heap.size) (hl : news.length = size) (h1 : ∀ u ∈ news, u.oneCell' = true)
    (h63 : n + 1 ≤ maxLen) (hbytes : (n + 1) * bytes ≤ 140737488355328) (hbase : base ≤ wr.heap.size)
    (h : ∀ v' w', w'.ownsRow base e size v' (n + 1) (xs ++ news) → wr.grownBy w' v.ownBlock → v' ≠ .slice none 0 0 → wpList P ops Q rest (a.put o.dst v') w') :
    wpList P ops Q (o :: rest) a (wr.alloc (.cells news.toArray e)) := by
  subst hge
  refine wpList_append_own (w := wr.alloc (.cells news.toArray e)) hgd s x t ho base e i z size bytes ht hi hz hsize hby hzs hsz v n xs hs (hown.alloc _) ⟨wr.heap.size, 0, none⟩ 1 1 news hx (by rw [hl]; omega) ?_ h1 h63 hbytes (by simp; omega) ?_
  · intro j u hj
    have hadd : (⟨wr.heap.size, 0, none⟩ : Addr).add j = ⟨wr.heap.size, j, none⟩ := by unfold Addr.add; split <;> simp_all
    rw [hadd, cell_of_row (wr.alloc (.cells news.toArray e)) wr.heap.size j news.toArray e (0, 0) (heap_alloc_new wr _)]
    simpa using hj
  · intro v' w' ho' hg hv
    refine h v' w' ho' ?_ (fun e => by have := hv.1 e; omega)
    have ha := World.grownBy_alloc wr (.cells news.toArray e) v.ownBlock
    exact ⟨hg.os.trans ha.os, hg.tape.trans ha.tape, hg.output.trans ha.output, Nat.le_trans ha.size hg.size, fun k hk hne => (hg.block k (Nat.lt_of_lt_of_le hk ha.size) hne).trans (ha.block k hk hne)⟩

/-- The frame behind such an append: below the base nothing has turned. -/
theorem below_app {B base : Nat} {w wr w' : World} {e : TypeId} {size n : Nat} {v : Value} {xs : List Value} (h : Below B w wr) (hB : B ≤ wr.heap.size) (hb : B ≤ base)
    (hown : wr.ownsRow base e size v n xs) (hg : wr.grownBy w' v.ownBlock) : Below B w w' :=
  h.grown hg hB fun k hk => Nat.le_trans hb (hown.lt k hk).1
/-- A slice value of length 0 over a block of its own that holds nothing. -/
theorem own_empty {w : World} {base : Nat} {e : TypeId} {size : Nat} (hb : base ≤ w.heap.size) : (w.alloc (.cells #[] e)).ownsRow base e size (.slice (some ⟨w.heap.size, 0, none⟩) 0 0) 0 [] :=
  World.ownsRow_made w #[] 0 hb (Nat.zero_le _) (by simp)
/-- A row that the call owns and that is not empty, laid open: its address, and its cells. -/
theorem own_open {w : World} {base : Nat} {e : TypeId} {size n : Nat} {v : Value} {xs : List Value} (h : w.ownsRow base e size v n xs) (hn : 0 < n) :
    ∃ g cap, v = .slice (some ⟨g, 0, none⟩) n cap ∧ n ≤ cap ∧ base ≤ g ∧ g < w.heap.size ∧ ∀ j u, xs[j]? = some u → w.cell? ⟨g, j, none⟩ = some u := by
  rcases h.2 with ⟨_, h0⟩ | ⟨g, cap, cur, rfl, hb, hg, hnc, _, _, htake⟩
  · omega
  · refine ⟨g, cap, rfl, hnc, hb, (Array.getElem?_eq_some_iff.1 hg).1, fun j u hu => ?_⟩
    rw [cell_of_row w g j cur e (0, 0) hg]
    rw [← htake, List.getElem?_take] at hu
    split at hu
    · simpa using hu
    · cases hu
/-- A slice value's length. -/
theorem own_len {w : World} {base : Nat} {e : TypeId} {size n : Nat} {v : Value} {xs : List Value} (h : w.ownsRow base e size v n xs) : ∃ a c, v = .slice a n c := by
  rcases h.2 with ⟨h0, h1⟩ | ⟨g, cap, cur, rfl, _⟩
  · exact ⟨none, 0, by rw [h0, h1]⟩
  · exact ⟨_, _, rfl⟩
/-- A slice of whole numbers that came in: its elements, in blocks below B. -/
def RdInts (w : World) (B : Nat) (A : Option Addr) (len : Nat) (zs : List Int) : Prop :=
  zs.length = len ∧ (0 < len → ∃ b off, A = some ⟨b, off, none⟩ ∧ b < B ∧ ∀ i, i < len → w.cell? ⟨b, off + i, none⟩ = some (.int .i64 (zs.getD i 0)))
theorem umod_range (x m : Int) (hm : 0 < m) (hm2 : m ≤ 4611686018427387904) : 0 ≤ wrap64 ((IntKind.u64.wrap x).tmod m) ∧ wrap64 ((IntKind.u64.wrap x).tmod m) < m := by
  have h0 : 0 ≤ IntKind.u64.wrap x := by simp [IntKind.wrap, IntKind.signed, IntKind.bits]; omega
  rw [Int.tmod_eq_emod_of_nonneg h0]
  have h1 : 0 ≤ (IntKind.u64.wrap x) % m := Int.emod_nonneg _ (by omega)
  have h2 : (IntKind.u64.wrap x) % m < m := Int.emod_lt_of_pos _ hm
  unfold wrap64
  omega
theorem map_range_succ {α : Type} (f : Nat → α) (k : Nat) : (List.range (k + 1)).map f = (List.range k).map f ++ [f k] := by
  rw [List.range_succ, List.map_append]; rfl
end Go.Proofs.YtbningfdpibdkaaDoor
