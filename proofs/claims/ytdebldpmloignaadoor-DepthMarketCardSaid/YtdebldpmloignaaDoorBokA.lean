/-
  book: the state; New, find, Len, List, Best, Of.
-/
import Derived.Test.YtdebldpmloignaaDoorSlOrdB
import Derived.Test.YtdebldpmloignaaDoorSlOrdC
import Derived.Test.YtdebldpmloignaaDoorSlDel
import Derived.Test.YtdebldpmloignaaDoorMem
import Derived.Test.YtdebldpmloignaaDoorIs
namespace Go.Proofs.YtdebldpmloignaaDoor
open Go.RowKit
set_option linter.unusedVariables false
set_option linter.unusedSimpArgs false

/-- Two results, the first a struct in a variable. -/
theorem bodyPost_pair {P : Program} {fn : Func} {R : Ending → World → Prop} {a : Act} {W : World} {p q : Tmp} {ty : TypeId} (h : fn.results = #[.cell p ty, .tmp q]) (hd0 : a.defers = []) (g : Nat) (hp : a.tmps.getD p undef = .pointer (some ⟨g, 0, none⟩))
    (cs : Array Value) (t : TypeId) (fr : Nat × Nat) (hg : W.heap[g]? = some (.cells cs t fr)) (d : TypeDesc) (hu : P.underlying ty = some d) (hd : (match d with | .struct _ | .array _ _ => true | _ => false) = true) (n : Nat) (hi : (P.info? ty).map (·.size) = some n) (hn : cs.size = n)
    (u : Value) (hq : a.tmps.getD q undef = u)
    (hR : R (.returned (.tuple #[.agg cs, u])) W) : bodyPost P fn R .ret a W := by
  refine bodyPost_ret (v := .tuple #[.agg cs, u]) ?_ hd0 hR
  have hl := run_loadVar_row (P := P) W g t ty cs fr d hg hu (by cases d <;> first | rfl | exact hd) (by rw [hi, hn])
  simp only [results, h]
  simp only [Array.getD_eq_getD_getElem?] at hp hq
  simp [hp, hq, asAddr, hl]
theorem below_setRow' {B g : Nat} {w0 w : World} (hb : Below B w0 w) (hBg : B ≤ g) (cs : Array Value) : Below B w0 (w.setRow g cs) :=
  hb.trans ⟨rfl, rfl, rfl, by simp [World.setRow], fun k hk => setRow_other w g k cs (by omega)⟩
theorem ord_szA (o : Ord) : (Tryd.prog.info? 67).map (·.size) = some o.cells.toArray.size := by rw [List.size_toArray, Ord.k6]; exact size_ord
theorem ord_szL (o : Ord) : (Tryd.prog.info? 67).map (·.size) = some o.cells.length := by rw [Ord.k6]; exact size_ord
theorem ord_h6 (o : Ord) : 6 = o.cells.toArray.size := by rw [List.size_toArray, Ord.k6]
theorem ord_oneA (o : Ord) : o.cells.toArray.all (·.oneCell') = true := by rw [Array.all_eq_true_iff_forall_mem]; intro u hu; exact Ord.one o u (by simpa using hu)
def offS (s : Bool) : Nat := if s then 0 else 1
/-- A book in block q: its two sides' orders. -/
structure BV (w : World) (B q : Nat) (l : Bool → List Ord) (v : Bool → Value) (came : Nat) : Prop where
  low : B ≤ q
  blk : Blk w q #[v true, v false, .int .i64 came] 143
  row : ∀ s, w.ownsRow B 67 6 (v s) (l s).length (flatOf Ord.cells (l s))
  notq : ∀ s, (v s).ownBlock ≠ some q
  apart : (v true).ownBlock = none ∨ (v true).ownBlock ≠ (v false).ownBlock
def BF (q : Nat) (v : Bool → Value) (k : Nat) : Prop := k = q ∨ ∃ s, (v s).ownBlock = some k
theorem BV.lt {w : World} {B q : Nat} {l : Bool → List Ord} {v : Bool → Value} {came : Nat} (h : BV w B q l v came) : q < w.heap.size := h.blk.lt
theorem BV.turns {F : Nat → Prop} {w w' : World} {B q : Nat} {l : Bool → List Ord} {v : Bool → Value} {came : Nat} (h : BV w B q l v came) (ht : Turns F w w') (hn : ∀ k, BF q v k → ¬ F k) : BV w' B q l v came :=
  ⟨h.low, ht.blk h.blk (hn q (.inl rfl)), fun s => ht.owns (h.row s) (fun g hg => hn g (.inr ⟨s, hg⟩)), h.notq, h.apart⟩
theorem BV.below {w w' : World} {B q : Nat} {l : Bool → List Ord} {v : Bool → Value} {came : Nat} (h : BV w B q l v came) (hb : Below w.heap.size w w') : BV w' B q l v came :=
  h.turns (Turns.of_below (F := fun _ => False) hb) (fun _ _ h => h)
theorem BV.drew {w : World} {B q : Nat} {l : Bool → List Ord} {v : Bool → Value} {came : Nat} (h : BV w B q l v came) : BV w.drew B q l v came := ⟨h.low, h.blk, h.row, h.notq, h.apart⟩
theorem BV.low_not {w : World} {B q : Nat} {l : Bool → List Ord} {v : Bool → Value} {came : Nat} (h : BV w B q l v came) : ∀ k, BF q v k → B ≤ k ∧ k < w.heap.size := fun k hk => by
  rcases hk with rfl | ⟨s, hs⟩
  · exact ⟨h.low, h.lt⟩
  · exact (h.row s).lt k hs
def sA (v : Value) : Option Addr := match v with | .slice a _ _ => a | _ => none
def sC (v : Value) : Nat := match v with | .slice _ _ c => c | _ => 0
theorem BV.form {w : World} {B q : Nat} {l : Bool → List Ord} {v : Bool → Value} {came : Nat} (h : BV w B q l v came) (s : Bool) : v s = .slice (sA (v s)) (l s).length (sC (v s)) ∧ RdRows w w.heap.size Ord.cells 6 (sA (v s)) (l s).length (l s) ∧ (sA (v s) = none → (l s).length = 0) := by
  obtain ⟨A, cap, hv, _, hrd⟩ := own_rows Ord.k6 (h.row s) rfl
  rw [hv]
  refine ⟨rfl, hrd, fun hA => ?_⟩
  have hA' : A = none := hA
  subst hA'
  rcases (h.row s).2 with ⟨_, h0⟩ | ⟨g, cap', cur, hv', _⟩
  · exact h0
  · rw [hv] at hv'; simp at hv'
theorem BV.cell {w : World} {B q : Nat} {l : Bool → List Ord} {v : Bool → Value} {came : Nat} (h : BV w B q l v came) (s : Bool) : w.cell? ⟨q, offS s, none⟩ = some (v s) := by
  cases s
  · exact h.blk.cell 1 _ rfl
  · exact h.blk.cell 0 _ rfl
set_option maxRecDepth 100000 in
theorem bnew_c (w : World) : Calls Tryd.prog 40 #[] w fun e w' => e = .returned (.pointer (some ⟨w.heap.size, 0, none⟩)) ∧ BV w' w.heap.size w.heap.size (fun _ => []) (fun _ => .slice none 0 0) 0 ∧ Below w.heap.size w w' := by
  go_enter Tryd.func40, Tryd.ntmps40
  go_wp2_with fail
  go_ret
  exact ⟨rfl, ⟨Nat.le_refl _, Blk.new w _ _, fun s => ⟨rfl, .inl ⟨rfl, rfl⟩⟩, fun s => by simp [Value.ownBlock], .inl rfl⟩, (Below.refl _ w).alloc (Nat.le_refl _) _⟩
set_option maxRecDepth 100000 in
theorem side_c (q : Nat) (s : Bool) (w : World) : Calls Tryd.prog 82 #[.pointer (some ⟨q, 0, none⟩), .bool s] w fun e w' => e = .returned (.pointer (some ⟨q, offS s, none⟩)) ∧ w = w' := by
  cases s with
  | true =>
    go_enter Tryd.func82, Tryd.ntmps82
    go_wp2_with fail
    go_ret
    exact ⟨rfl, rfl⟩
  | false =>
    go_enter Tryd.func82, Tryd.ntmps82
    go_wp2_with fail
    go_ret
    exact ⟨rfl, rfl⟩
def hasId (id : Int) (o : Ord) : Bool := o.id == id
set_option maxRecDepth 100000 in
theorem hasId_c0 (id : Int) (X : Nat) (o : Ord) (w : World) (hX : w.cell? ⟨X, 0, none⟩ = some (.int .i64 id)) : Calls Tryd.prog 99 #[.agg o.cells.toArray, .pointer (some ⟨X, 0, none⟩)] w fun e w' => e = .returned (.bool (hasId id o)) ∧ Below w.heap.size w w' := by
  obtain ⟨oid, tenant, sell, price, lots, seq⟩ := o
  have hX' : (w.alloc (.cells #[.int .i64 oid, .int .i64 tenant, .bool sell, .int .i64 price, .int .i64 lots, .int .i64 seq] 67)).cell? ⟨X, 0, none⟩ = some (.int .i64 id) := Lib.cell?_alloc_some _ hX
  clear hX
  simp only [Ord.cells]
  go_enter Tryd.func99, Tryd.ntmps99
  go_wp2_with fail
  go_ret
  exact ⟨rfl, (Below.refl _ w).alloc (Nat.le_refl _) _⟩
theorem hasId_c (id : Int) (X : Nat) (o : Ord) (w : World) (hX : w.cell? ⟨X, 0, none⟩ = some (.int .i64 id)) : Calls Tryd.prog 99 (#[.agg o.cells.toArray] ++ #[.pointer (some ⟨X, 0, none⟩)]) w fun e w' => e = .returned (.bool (hasId id o)) ∧ Below w.heap.size w w' := hasId_c0 id X o w hX
/-- Where an order with that number lies. -/
def fnd (l : Bool → List Ord) (id : Int) : Option (Bool × Nat) := match (l true).findIdx? (hasId id) with
  | some i => some (true, i)
  | none => match (l false).findIdx? (hasId id) with
    | some i => some (false, i)
    | none => none
theorem fnd_some {l : Bool → List Ord} {id : Int} {s : Bool} {i : Nat} (h : fnd l id = some (s, i)) : ∃ x, (l s)[i]? = some x ∧ x.id = id := by
  have key : ∀ (xs : List Ord) (i : Nat), xs.findIdx? (hasId id) = some i → ∃ x, xs[i]? = some x ∧ x.id = id := fun xs i h => by
    obtain ⟨hi, hp, _⟩ := List.findIdx?_eq_some_iff_getElem.1 h
    exact ⟨xs[i], List.getElem?_eq_getElem hi, by simpa [hasId] using hp⟩
  unfold fnd at h
  split at h
  · rename_i j hj; cases h; exact key _ _ hj
  · split at h
    · rename_i j hj; cases h; exact key _ _ hj
    · cases h
theorem fnd_none {l : Bool → List Ord} {id : Int} (h : fnd l id = none) (s : Bool) : ∀ x ∈ l s, x.id ≠ id := by
  unfold fnd at h
  split at h
  · cases h
  · rename_i h1
    split at h
    · cases h
    · rename_i h2
      intro x hx e
      have key : ∀ xs : List Ord, xs.findIdx? (hasId id) = none → x ∈ xs → False := fun xs hn hx => by
        rw [List.findIdx?_eq_none_iff] at hn
        have := hn x hx
        simp [hasId, e] at this
      cases s
      · exact key _ h2 hx
      · exact key _ h1 hx
def fndV (q : Nat) : Option (Bool × Nat) → Value
  | none => .tuple #[.pointer none, .int .i64 0]
  | some (s, i) => .tuple #[.pointer (some ⟨q, offS s, none⟩), .int .i64 i]
def FindQ (w : World) (q : Nat) (r : Option (Bool × Nat)) (e : Ending) (w' : World) : Prop := e = .returned (fndV q r) ∧ Below w.heap.size w w'
theorem idx_some {p : Ord → Bool} {xs : List Ord} {i : Nat} (h : xs.findIdx? p = some i) : idxOf p xs = i := by simp [idxOf, h]
theorem idx_none {p : Ord → Bool} {xs : List Ord} (h : xs.findIdx? p = none) : idxOf p xs = -1 := by simp [idxOf, h]
theorem egFind : ∀ (args : Array Value) (w : World), (callFunc 99 args).run Tryd.prog w = .ok (.enter 99 args) w := enters_of Tryd.func99 (by kernel_rfl) rfl
set_option maxRecDepth 100000 in
set_option maxHeartbeats 4000000 in
theorem find_c (B q : Nat) (l : Bool → List Ord) (v : Bool → Value) (came : Nat) (id : Int) (w : World) (h : Hid (BV w B q l v came)) (hN : ∀ s, (l s).length ≤ 1000000) :
    Calls Tryd.prog 81 #[.pointer (some ⟨q, 0, none⟩), .int .i64 id] w (FindQ w q (fnd l id)) := by
  have hqlt := h.out.lt
  obtain ⟨w2, hw2⟩ : ∃ w2, w2 = ((w.alloc (.cells #[.int .i64 id] 3)).alloc (.cells #[.pointer (some ⟨q, 0, none⟩), .pointer (some ⟨q, 1, none⟩)] 144)).drew := ⟨_, rfl⟩
  have hb2 : Below w.heap.size w w2 := by rw [hw2]; exact (((Below.refl _ w).alloc (Nat.le_refl _) _).alloc (by simp) _).drew
  have h2 := Lib.hid (h.out.below hb2)
  have hX : w2.cell? ⟨w.heap.size, 0, none⟩ = some (.int .i64 id) := by
    rw [hw2]
    exact Lib.cell?_alloc_some _ ((Blk.new w #[.int .i64 id] 3).cell 0 _ rfl)
  have hY : Blk w2 (w.heap.size + 1) #[.pointer (some ⟨q, 0, none⟩), .pointer (some ⟨q, 1, none⟩)] 144 := by
    rw [hw2]
    have := Blk.new (w.alloc (.cells #[.int .i64 id] 3)) #[.pointer (some ⟨q, 0, none⟩), .pointer (some ⟨q, 1, none⟩)] 144
    simp only [World.size_alloc] at this
    exact this
  have HI : Hid (∀ W W' : World, W.cell? ⟨w.heap.size, 0, none⟩ = some (.int .i64 id) → W.grownBy W' none → W'.cell? ⟨w.heap.size, 0, none⟩ = some (.int .i64 id)) := fun W W' hc hg => hg.cell hc (by simp)
  have HPX : Hid (∀ (W : World) (x : Ord), W.cell? ⟨w.heap.size, 0, none⟩ = some (.int .i64 id) → Calls Tryd.prog 99 (#[.agg x.cells.toArray] ++ #[.pointer (some ⟨w.heap.size, 0, none⟩)]) W fun e w' => e = .returned (.bool (hasId id x)) ∧ Below W.heap.size W w') := fun W x hc => hasId_c id w.heap.size x W hc
  have ht := h2.out.form true
  have hf := h2.out.form false
  have ct : w2.cell? ⟨q, 0, none⟩ = some (.slice (sA (v true)) (l true).length (sC (v true))) := by
    have := h2.out.cell true
    rw [ht.1] at this
    exact this
  have cf : w2.cell? ⟨q, 1, none⟩ = some (.slice (sA (v false)) (l false).length (sC (v false))) := by
    have := h2.out.cell false
    rw [hf.1] at this
    exact this
  have y0 := hY.cell 0 _ rfl
  have y1 := hY.cell 1 _ rfl
  have HT : Hid (Calls Tryd.prog 98 #[.slice (sA (v true)) (l true).length (sC (v true)), .func (.func 99) #[] #[.pointer (some ⟨w.heap.size, 0, none⟩)]] w2 fun e w' => e = .returned (.int .i64 (idxOf (hasId id) (l true))) ∧ Below w2.heap.size w2 w' ∧ w'.cell? ⟨w.heap.size, 0, none⟩ = some (.int .i64 id)) :=
    indexFunc_ord Ord.cells Ord.k6 (hasId id) 99 #[.pointer (some ⟨w.heap.size, 0, none⟩)] egFind (fun W => W.cell? ⟨w.heap.size, 0, none⟩ = some (.int .i64 id)) (sA (v true)) (l true).length (sC (v true)) (l true) w2 ht.2.1 (by have := hN true; omega) HI hX HPX
  have HF : Hid (∀ w3, Below w2.heap.size w2 w3 → w3.cell? ⟨w.heap.size, 0, none⟩ = some (.int .i64 id) → Calls Tryd.prog 98 #[.slice (sA (v false)) (l false).length (sC (v false)), .func (.func 99) #[] #[.pointer (some ⟨w.heap.size, 0, none⟩)]] w3 fun e w' => e = .returned (.int .i64 (idxOf (hasId id) (l false))) ∧ Below w3.heap.size w3 w' ∧ w'.cell? ⟨w.heap.size, 0, none⟩ = some (.int .i64 id)) := fun w3 hb3 hc3 =>
    indexFunc_ord Ord.cells Ord.k6 (hasId id) 99 #[.pointer (some ⟨w.heap.size, 0, none⟩)] egFind (fun W => W.cell? ⟨w.heap.size, 0, none⟩ = some (.int .i64 id)) (sA (v false)) (l false).length (sC (v false)) (l false) w3 ((h2.out.below hb3).form false).2.1 (by have := hN false; omega) HI hc3 HPX
  have hYlt : w.heap.size + 1 < w2.heap.size := hY.lt
  have hqlt2 : q < w2.heap.size := h2.out.lt
  have HB2 := Lib.hid hb2
  have HX := Lib.hid hX
  obtain ⟨A1, hA1⟩ : ∃ A, A = sA (v false) := ⟨_, rfl⟩
  obtain ⟨c1, hc1⟩ : ∃ c, c = sC (v false) := ⟨_, rfl⟩
  obtain ⟨A0, hA0⟩ : ∃ A, A = sA (v true) := ⟨_, rfl⟩
  obtain ⟨c0, hc0⟩ : ∃ c, c = sC (v true) := ⟨_, rfl⟩
  rw [← hA1, ← hc1] at cf HF
  rw [← hA0, ← hc0] at ct HT
  have HW2 := Lib.hid hw2
  cases h1 : (l true).findIdx? (hasId id) with
  | some i =>
    have HR : Hid (fnd l id = some (true, i)) := by show _ = _; unfold fnd; rw [h1]
    have HR2 : Hid (∀ w', Below w.heap.size w w' → FindQ w q (fnd l id) (.returned (.tuple #[.pointer (some ⟨q, 0, none⟩), .int .i64 i])) w') := fun w' hb => by rw [HR.out]; exact ⟨rfl, hb⟩
    rw [idx_some h1] at HT
    clear ht hf h1 hY hw2 hb2 hA1 hc1 hA0 hc0 hX h2 HI HPX HR hN
    go_enter Tryd.func81, Tryd.ntmps81
    go_wp2_with fail
    refine wp_region_noPanic ?_
    refine wp_region_held_drew (S := (fun _ => True)) (by kernel_rfl) trivial (fun hHeld => ?_)
    refine wpAnyH_take (i := 0) (v := ?_) rfl (by kernel_rfl) (by kernel_rfl) (by kernel_rfl) (fun _ _ _ h => h) (Or.inl ⟨by rfl, ?_⟩) hHeld ?_
    rotate_left
    focus
      intro w hSw
      clear hSw
      go_simp
      try with_reducible rfl
    try simp only [Act.put, List.getElem_toArray, List.getElem_cons_zero, List.getElem_cons_succ, List.setIfInBounds_toArray, List.set_cons_zero, List.set_cons_succ]
    refine wpAnyH_take (i := 1) (v := ?_) rfl (by kernel_rfl) (by kernel_rfl) (by kernel_rfl) (fun _ _ _ h => h) (Or.inl ⟨by rfl, ?_⟩) hHeld ?_
    rotate_left
    focus
      intro w hSw
      clear hSw
      go_simp
      try with_reducible rfl
    try simp only [Act.put, List.getElem_toArray, List.getElem_cons_zero, List.getElem_cons_succ, List.setIfInBounds_toArray, List.set_cons_zero, List.set_cons_succ]
    refine wpAnyH_take (i := 2) (v := ?_) rfl (by kernel_rfl) (by kernel_rfl) (by kernel_rfl) (fun _ _ _ h => h) (Or.inl ⟨by rfl, ?_⟩) hHeld ?_
    rotate_left
    focus
      intro w hSw
      clear hSw
      go_simp
      try with_reducible rfl
    try simp only [Act.put, List.getElem_toArray, List.getElem_cons_zero, List.getElem_cons_succ, List.setIfInBounds_toArray, List.set_cons_zero, List.set_cons_succ]
    refine wpAnyH_take (i := 3) (v := ?_) rfl (by kernel_rfl) (by kernel_rfl) (by kernel_rfl) (fun _ _ _ h => h) (Or.inl ⟨by rfl, ?_⟩) hHeld ?_
    rotate_left
    focus
      intro w hSw
      clear hSw
      go_simp
      try with_reducible rfl
    try simp only [Act.put, List.getElem_toArray, List.getElem_cons_zero, List.getElem_cons_succ, List.setIfInBounds_toArray, List.set_cons_zero, List.set_cons_succ]
    refine wpAnyH_take (i := 4) (v := ?_) rfl (by kernel_rfl) (by kernel_rfl) (by kernel_rfl) (fun _ _ _ h => h) (Or.inl ⟨by rfl, ?_⟩) hHeld ?_
    rotate_left
    focus
      intro w hSw
      clear hSw
      go_simp
      try with_reducible rfl
    try simp only [Act.put, List.getElem_toArray, List.getElem_cons_zero, List.getElem_cons_succ, List.setIfInBounds_toArray, List.set_cons_zero, List.set_cons_succ]
    refine wpAnyH_take (i := 5) (v := ?_) rfl (by kernel_rfl) (by kernel_rfl) (by kernel_rfl) (fun _ _ _ h => h) (Or.inl ⟨by rfl, ?_⟩) hHeld ?_
    rotate_left
    focus
      intro w hSw
      clear hSw
      go_simp
      try with_reducible rfl
    try simp only [Act.put, List.getElem_toArray, List.getElem_cons_zero, List.getElem_cons_succ, List.setIfInBounds_toArray, List.set_cons_zero, List.set_cons_succ]
    refine wpAnyH_take (i := 8) (v := ?_) rfl (by kernel_rfl) (by kernel_rfl) (by kernel_rfl) (fun _ _ _ h => h) (Or.inl ⟨by rfl, ?_⟩) hHeld ?_
    rotate_left
    focus
      intro w hSw
      clear hSw
      go_simp
      try with_reducible rfl
    try simp only [Act.put, List.getElem_toArray, List.getElem_cons_zero, List.getElem_cons_succ, List.setIfInBounds_toArray, List.set_cons_zero, List.set_cons_succ]
    refine wpAnyH_ready (rs := [6]) (by kernel_rfl) (by simp) ?_
    refine AllReadyH.cons rfl (fun K hK => ?_) AllReadyH.nil
    go_simp
    refine hK.out _ _ trivial (fun hHeld => ?_)
    clear hK K
    try simp only [Act.put, List.getElem_toArray, List.getElem_cons_zero, List.getElem_cons_succ, List.setIfInBounds_toArray, List.set_cons_zero, List.set_cons_succ]
    refine wpAnyH_take (i := 7) (v := ?_) rfl (by kernel_rfl) (by kernel_rfl) (by kernel_rfl) (fun _ _ _ h => h) (Or.inl ⟨by rfl, ?_⟩) hHeld ?_
    rotate_left
    focus
      intro w hSw
      clear hSw
      go_simp
      try with_reducible rfl
    try simp only [Act.put, List.getElem_toArray, List.getElem_cons_zero, List.getElem_cons_succ, List.setIfInBounds_toArray, List.set_cons_zero, List.set_cons_succ]
    refine wpAnyH_done (by kernel_rfl) ?_ _
    refine NoPanic.normal ?_
    go_wp2_with fail
    rw [← HW2.out]
    refine wp_loop_rounds 3 ?_
    rw [rounds_succ]
    go_wp2_with fail
    refine HT.out.mono ?_
    rintro e w3 ⟨rfl, hb3, hX3⟩
    have HB3 := Lib.hid (HB2.out.trans (hb3.mono HB2.out.size))
    clear hb3 hX3
    go_wp2_with fail
    go_ret2
    exact HR2.out _ HB3.out
  | none =>
    rw [idx_none h1] at HT
    cases h3 : (l false).findIdx? (hasId id) with
    | some i =>
      have HR : Hid (fnd l id = some (false, i)) := by show _ = _; unfold fnd; rw [h1]; simp only [h3]
      have HR2 : Hid (∀ w', Below w.heap.size w w' → FindQ w q (fnd l id) (.returned (.tuple #[.pointer (some ⟨q, 1, none⟩), .int .i64 i])) w') := fun w' hb => by rw [HR.out]; exact ⟨rfl, hb⟩
      rw [idx_some h3] at HF
      clear ht hf h1 h3 hY hw2 hb2 hA1 hc1 hA0 hc0 hX h2 HI HPX HR hN
      go_enter Tryd.func81, Tryd.ntmps81
      go_wp2_with fail
      refine wp_region_noPanic ?_
      refine wp_region_held_drew (S := (fun _ => True)) (by kernel_rfl) trivial (fun hHeld => ?_)
      refine wpAnyH_take (i := 0) (v := ?_) rfl (by kernel_rfl) (by kernel_rfl) (by kernel_rfl) (fun _ _ _ h => h) (Or.inl ⟨by rfl, ?_⟩) hHeld ?_
      rotate_left
      focus
        intro w hSw
        clear hSw
        go_simp
        try with_reducible rfl
      try simp only [Act.put, List.getElem_toArray, List.getElem_cons_zero, List.getElem_cons_succ, List.setIfInBounds_toArray, List.set_cons_zero, List.set_cons_succ]
      refine wpAnyH_take (i := 1) (v := ?_) rfl (by kernel_rfl) (by kernel_rfl) (by kernel_rfl) (fun _ _ _ h => h) (Or.inl ⟨by rfl, ?_⟩) hHeld ?_
      rotate_left
      focus
        intro w hSw
        clear hSw
        go_simp
        try with_reducible rfl
      try simp only [Act.put, List.getElem_toArray, List.getElem_cons_zero, List.getElem_cons_succ, List.setIfInBounds_toArray, List.set_cons_zero, List.set_cons_succ]
      refine wpAnyH_take (i := 2) (v := ?_) rfl (by kernel_rfl) (by kernel_rfl) (by kernel_rfl) (fun _ _ _ h => h) (Or.inl ⟨by rfl, ?_⟩) hHeld ?_
      rotate_left
      focus
        intro w hSw
        clear hSw
        go_simp
        try with_reducible rfl
      try simp only [Act.put, List.getElem_toArray, List.getElem_cons_zero, List.getElem_cons_succ, List.setIfInBounds_toArray, List.set_cons_zero, List.set_cons_succ]
      refine wpAnyH_take (i := 3) (v := ?_) rfl (by kernel_rfl) (by kernel_rfl) (by kernel_rfl) (fun _ _ _ h => h) (Or.inl ⟨by rfl, ?_⟩) hHeld ?_
      rotate_left
      focus
        intro w hSw
        clear hSw
        go_simp
        try with_reducible rfl
      try simp only [Act.put, List.getElem_toArray, List.getElem_cons_zero, List.getElem_cons_succ, List.setIfInBounds_toArray, List.set_cons_zero, List.set_cons_succ]
      refine wpAnyH_take (i := 4) (v := ?_) rfl (by kernel_rfl) (by kernel_rfl) (by kernel_rfl) (fun _ _ _ h => h) (Or.inl ⟨by rfl, ?_⟩) hHeld ?_
      rotate_left
      focus
        intro w hSw
        clear hSw
        go_simp
        try with_reducible rfl
      try simp only [Act.put, List.getElem_toArray, List.getElem_cons_zero, List.getElem_cons_succ, List.setIfInBounds_toArray, List.set_cons_zero, List.set_cons_succ]
      refine wpAnyH_take (i := 5) (v := ?_) rfl (by kernel_rfl) (by kernel_rfl) (by kernel_rfl) (fun _ _ _ h => h) (Or.inl ⟨by rfl, ?_⟩) hHeld ?_
      rotate_left
      focus
        intro w hSw
        clear hSw
        go_simp
        try with_reducible rfl
      try simp only [Act.put, List.getElem_toArray, List.getElem_cons_zero, List.getElem_cons_succ, List.setIfInBounds_toArray, List.set_cons_zero, List.set_cons_succ]
      refine wpAnyH_take (i := 8) (v := ?_) rfl (by kernel_rfl) (by kernel_rfl) (by kernel_rfl) (fun _ _ _ h => h) (Or.inl ⟨by rfl, ?_⟩) hHeld ?_
      rotate_left
      focus
        intro w hSw
        clear hSw
        go_simp
        try with_reducible rfl
      try simp only [Act.put, List.getElem_toArray, List.getElem_cons_zero, List.getElem_cons_succ, List.setIfInBounds_toArray, List.set_cons_zero, List.set_cons_succ]
      refine wpAnyH_ready (rs := [6]) (by kernel_rfl) (by simp) ?_
      refine AllReadyH.cons rfl (fun K hK => ?_) AllReadyH.nil
      go_simp
      refine hK.out _ _ trivial (fun hHeld => ?_)
      clear hK K
      try simp only [Act.put, List.getElem_toArray, List.getElem_cons_zero, List.getElem_cons_succ, List.setIfInBounds_toArray, List.set_cons_zero, List.set_cons_succ]
      refine wpAnyH_take (i := 7) (v := ?_) rfl (by kernel_rfl) (by kernel_rfl) (by kernel_rfl) (fun _ _ _ h => h) (Or.inl ⟨by rfl, ?_⟩) hHeld ?_
      rotate_left
      focus
        intro w hSw
        clear hSw
        go_simp
        try with_reducible rfl
      try simp only [Act.put, List.getElem_toArray, List.getElem_cons_zero, List.getElem_cons_succ, List.setIfInBounds_toArray, List.set_cons_zero, List.set_cons_succ]
      refine wpAnyH_done (by kernel_rfl) ?_ _
      refine NoPanic.normal ?_
      go_wp2_with fail
      rw [← HW2.out]
      refine wp_loop_rounds 3 ?_
      rw [rounds_succ]
      go_wp2_with fail
      refine HT.out.mono ?_
      rintro e w3 ⟨rfl, hb3, hX3⟩
      have HB3 := Lib.hid (HB2.out.trans (hb3.mono HB2.out.size))
      have HF3 := Lib.hid (HF.out w3 hb3 hX3)
      have y1 := (hb3.cell (p := ⟨w.heap.size + 1, 1, none⟩) hYlt).trans y1
      have cf := (hb3.cell (p := ⟨q, 1, none⟩) hqlt2).trans cf
      clear hb3 hX3
      go_wp2_with fail
      rw [rounds_succ]
      go_wp2_with fail
      refine HF3.out.mono ?_
      rintro e w4 ⟨rfl, hb4, hX4⟩
      have HB4 := Lib.hid (HB3.out.trans (hb4.mono HB3.out.size))
      clear hb4 hX4
      go_wp2_with fail
      go_ret2
      exact HR2.out _ HB4.out
    | none =>
      have HR : Hid (fnd l id = none) := by show _ = _; unfold fnd; rw [h1]; simp only [h3]
      have HR2 : Hid (∀ w', Below w.heap.size w w' → FindQ w q (fnd l id) (.returned (.tuple #[.pointer none, .int .i64 0])) w') := fun w' hb => by rw [HR.out]; exact ⟨rfl, hb⟩
      rw [idx_none h3] at HF
      clear ht hf h1 h3 hY hw2 hb2 hA1 hc1 hA0 hc0 hX h2 HI HPX HR hN
      go_enter Tryd.func81, Tryd.ntmps81
      go_wp2_with fail
      refine wp_region_noPanic ?_
      refine wp_region_held_drew (S := (fun _ => True)) (by kernel_rfl) trivial (fun hHeld => ?_)
      refine wpAnyH_take (i := 0) (v := ?_) rfl (by kernel_rfl) (by kernel_rfl) (by kernel_rfl) (fun _ _ _ h => h) (Or.inl ⟨by rfl, ?_⟩) hHeld ?_
      rotate_left
      focus
        intro w hSw
        clear hSw
        go_simp
        try with_reducible rfl
      try simp only [Act.put, List.getElem_toArray, List.getElem_cons_zero, List.getElem_cons_succ, List.setIfInBounds_toArray, List.set_cons_zero, List.set_cons_succ]
      refine wpAnyH_take (i := 1) (v := ?_) rfl (by kernel_rfl) (by kernel_rfl) (by kernel_rfl) (fun _ _ _ h => h) (Or.inl ⟨by rfl, ?_⟩) hHeld ?_
      rotate_left
      focus
        intro w hSw
        clear hSw
        go_simp
        try with_reducible rfl
      try simp only [Act.put, List.getElem_toArray, List.getElem_cons_zero, List.getElem_cons_succ, List.setIfInBounds_toArray, List.set_cons_zero, List.set_cons_succ]
      refine wpAnyH_take (i := 2) (v := ?_) rfl (by kernel_rfl) (by kernel_rfl) (by kernel_rfl) (fun _ _ _ h => h) (Or.inl ⟨by rfl, ?_⟩) hHeld ?_
      rotate_left
      focus
        intro w hSw
        clear hSw
        go_simp
        try with_reducible rfl
      try simp only [Act.put, List.getElem_toArray, List.getElem_cons_zero, List.getElem_cons_succ, List.setIfInBounds_toArray, List.set_cons_zero, List.set_cons_succ]
      refine wpAnyH_take (i := 3) (v := ?_) rfl (by kernel_rfl) (by kernel_rfl) (by kernel_rfl) (fun _ _ _ h => h) (Or.inl ⟨by rfl, ?_⟩) hHeld ?_
      rotate_left
      focus
        intro w hSw
        clear hSw
        go_simp
        try with_reducible rfl
      try simp only [Act.put, List.getElem_toArray, List.getElem_cons_zero, List.getElem_cons_succ, List.setIfInBounds_toArray, List.set_cons_zero, List.set_cons_succ]
      refine wpAnyH_take (i := 4) (v := ?_) rfl (by kernel_rfl) (by kernel_rfl) (by kernel_rfl) (fun _ _ _ h => h) (Or.inl ⟨by rfl, ?_⟩) hHeld ?_
      rotate_left
      focus
        intro w hSw
        clear hSw
        go_simp
        try with_reducible rfl
      try simp only [Act.put, List.getElem_toArray, List.getElem_cons_zero, List.getElem_cons_succ, List.setIfInBounds_toArray, List.set_cons_zero, List.set_cons_succ]
      refine wpAnyH_take (i := 5) (v := ?_) rfl (by kernel_rfl) (by kernel_rfl) (by kernel_rfl) (fun _ _ _ h => h) (Or.inl ⟨by rfl, ?_⟩) hHeld ?_
      rotate_left
      focus
        intro w hSw
        clear hSw
        go_simp
        try with_reducible rfl
      try simp only [Act.put, List.getElem_toArray, List.getElem_cons_zero, List.getElem_cons_succ, List.setIfInBounds_toArray, List.set_cons_zero, List.set_cons_succ]
      refine wpAnyH_take (i := 8) (v := ?_) rfl (by kernel_rfl) (by kernel_rfl) (by kernel_rfl) (fun _ _ _ h => h) (Or.inl ⟨by rfl, ?_⟩) hHeld ?_
      rotate_left
      focus
        intro w hSw
        clear hSw
        go_simp
        try with_reducible rfl
      try simp only [Act.put, List.getElem_toArray, List.getElem_cons_zero, List.getElem_cons_succ, List.setIfInBounds_toArray, List.set_cons_zero, List.set_cons_succ]
      refine wpAnyH_ready (rs := [6]) (by kernel_rfl) (by simp) ?_
      refine AllReadyH.cons rfl (fun K hK => ?_) AllReadyH.nil
      go_simp
      refine hK.out _ _ trivial (fun hHeld => ?_)
      clear hK K
      try simp only [Act.put, List.getElem_toArray, List.getElem_cons_zero, List.getElem_cons_succ, List.setIfInBounds_toArray, List.set_cons_zero, List.set_cons_succ]
      refine wpAnyH_take (i := 7) (v := ?_) rfl (by kernel_rfl) (by kernel_rfl) (by kernel_rfl) (fun _ _ _ h => h) (Or.inl ⟨by rfl, ?_⟩) hHeld ?_
      rotate_left
      focus
        intro w hSw
        clear hSw
        go_simp
        try with_reducible rfl
      try simp only [Act.put, List.getElem_toArray, List.getElem_cons_zero, List.getElem_cons_succ, List.setIfInBounds_toArray, List.set_cons_zero, List.set_cons_succ]
      refine wpAnyH_done (by kernel_rfl) ?_ _
      refine NoPanic.normal ?_
      go_wp2_with fail
      rw [← HW2.out]
      refine wp_loop_rounds 3 ?_
      rw [rounds_succ]
      go_wp2_with fail
      refine HT.out.mono ?_
      rintro e w3 ⟨rfl, hb3, hX3⟩
      have HB3 := Lib.hid (HB2.out.trans (hb3.mono HB2.out.size))
      have HF3 := Lib.hid (HF.out w3 hb3 hX3)
      have y1 := (hb3.cell (p := ⟨w.heap.size + 1, 1, none⟩) hYlt).trans y1
      have cf := (hb3.cell (p := ⟨q, 1, none⟩) hqlt2).trans cf
      clear hb3 hX3
      go_wp2_with fail
      rw [rounds_succ]
      go_wp2_with fail
      refine HF3.out.mono ?_
      rintro e w4 ⟨rfl, hb4, hX4⟩
      have HB4 := Lib.hid (HB3.out.trans (hb4.mono HB3.out.size))
      clear hb4 hX4
      go_wp2_with fail
      rw [rounds_succ]
      go_wp2_with fail
      go_ret2
      exact HR2.out _ HB4.out
end Go.Proofs.YtdebldpmloignaaDoor
