/-
  deal: the document's Match: its variables.
-/
import Derived.Test.YtdebldpmloignaaDoorDlN
namespace Go.Proofs.YtdebldpmloignaaDoor
open Go.RowKit
set_option linter.unusedVariables false
set_option linter.unusedSimpArgs false

theorem info_rft : (Tryd.prog.info? 111).map (fun i => (i.zero, i.size, i.bytes)) = some (some (.agg #[.int .i64 0, .int .i64 0, .int .i64 0, .int .i64 0, .int .i64 0, .int .i64 0]), 6, 48) := by kernel_rfl
theorem size_rft : (Tryd.prog.info? 111).map (·.size) = some 6 := by kernel_rfl
theorem src_all {α : Type} {enc : α → List Value} {k B n c : Nat} {A : Option Addr} {l : List α} {w : World} (hr : RdRows w B enc k A n l) (hA : A = none → c = 0) (hn : n ≤ c) : SrcV w enc k (.slice A n c) n l := by
  refine ⟨hr.1, ?_⟩
  cases A with
  | none =>
    have hc := hA rfl
    subst hc
    obtain rfl : n = 0 := by omega
    exact .inl ⟨rfl, rfl⟩
  | some ad =>
    refine .inr ⟨ad, c, rfl, fun i x hi j u hj => ?_⟩
    have hn0 : 0 < n := by have := (List.getElem?_eq_some_iff.1 hi).1; have := hr.1; omega
    obtain ⟨b, off, e, hb, hx⟩ := hr.2 hn0
    cases e
    rw [Addr.add_mid, ← Nat.add_assoc]
    exact hx i x hi j u hj
theorem wp_append_src {P : Program} {o : Oper} {a : Act} {w : World} {K : Act → World → Prop} {Q : Exit → Act → World → Prop} {α : Type} {enc : α → List Value} (s x : Operand) (t : TypeId)
    (ho : o.op = .call { callee := .builtin .append, args := #[s, x], argTypes := #[t, t] })
    (base : Nat) (e : TypeId) (i : TypeInfo) (z : Value) (size bytes : Nat) (ht : P.underlying t = some (.slice e)) (hi : P.info? e = some i) (hz : i.zero = some z)
    (hsize : i.size = size) (hby : i.bytes = bytes) (hzs : z.cells.size = size) (hsz : 0 < size) (hen : ∀ x, (enc x).length = size) (hone : ∀ x, ∀ u ∈ enc x, u.oneCell' = true)
    (v : Value) (xs : List α) (hs : a.eval s = v) (hown : w.ownsRow base e size v xs.length (flatOf enc xs)) (v2 : Value) (m : Nat) (ys : List α) (hx : a.eval x = v2) (hsrc : SrcV w enc size v2 m ys)
    (h63 : xs.length + m ≤ maxLen) (hbytes : (xs.length + m) * bytes ≤ 140737488355328) (hbase : base ≤ w.heap.size)
    (h : ∀ v' w', w'.ownsRow base e size v' (xs ++ ys).length (flatOf enc (xs ++ ys)) → w.grownBy w' v.ownBlock → K (a.put o.dst v') w') : o.wp P a w K Q := by
  rcases hsrc.2 with ⟨rfl, rfl⟩ | ⟨ad, c, rfl, hcell⟩
  · obtain rfl : ys = [] := List.eq_nil_of_length_eq_zero hsrc.1
    have hrun := run_append_owned_none (P := P) (w := w) base t o.type e i size ht hi v _ _ hown
    unfold Oper.wp
    simp [execOp, ho, resolve, invoke, builtin, hs, hx, hrun, Result.andThen]
    refine h v w ?_ ⟨rfl, rfl, rfl, Nat.le_refl _, fun _ _ _ => rfl⟩
    rw [List.append_nil]
    exact hown
  · have hl := hsrc.1
    subst hl
    refine wp_append_own w s x t ho base e i z size bytes ht hi hz hsize hby hzs hsz v _ _ hs hown ad _ c (flatOf enc ys) hx (flatOf_length hen ys) ?_ (flatOf_mem hone ys) h63 hbytes hbase ?_
    · intro j u hj
      have hj2 : j < ys.length * size := by
        have := (List.getElem?_eq_some_iff.1 hj).1
        rwa [flatOf_length hen] at this
      obtain ⟨x', hx', he'⟩ := flat_split hen hsz ys j hj2
      have := hcell (j / size) x' hx' (j % size) u (by rw [← he']; exact hj)
      rwa [Nat.mul_comm, Nat.div_add_mod] at this
    · intro v' w' ho' hg _
      refine h v' w' ?_ hg
      rw [List.length_append, flatOf_append]
      exact ho'
theorem rown_setF {w : World} {base g n cap i : Nat} {xs : List Fill} {x : Fill} (z : Int) (h : w.ownsRow base 111 6 (.slice (some ⟨g, 0, none⟩) n cap) n (flatOf Fill.cells xs)) (hl : xs.length = n) (hx : xs[i]? = some x) :
    (w.setCell ⟨g, i * 6 + 5, none⟩ (.int .i64 z)).ownsRow base 111 6 (.slice (some ⟨g, 0, none⟩) n cap) n (flatOf Fill.cells (xs.set i { x with lots := z })) := by
  have hi : i < xs.length := (List.getElem?_eq_some_iff.1 hx).1
  obtain ⟨g', cap', cur, hv, hnc, hcm, hbg, hblk, hcs, hrows⟩ := own_rows' Fill.k6 h hl (by omega)
  cases hv
  have hb2 : (w.setCell ⟨g, i * 6 + 5, none⟩ (.int .i64 z)).heap[g]? = some (.cells (cur.setIfInBounds (i * 6 + 5) (.int .i64 z)) 111 (0, 0)) := Blk.set (w := w) (cs := cur) hblk (i * 6 + 5) (.int .i64 z)
  refine own_of_rows Fill.k6 (by decide) hbg hb2 (by simp [hcs]) hnc hcm (by rw [List.length_set, hl]) ?_
  intro t u hu j val hj
  have hjl : j < 6 := by have := (List.getElem?_eq_some_iff.1 hj).1; rwa [Fill.k6] at this
  rw [Nat.zero_add, cell_of_row _ g (t * 6 + j) _ 111 (0, 0) hb2]
  by_cases ht : t = i
  · subst ht
    rw [List.getElem?_set_self hi] at hu
    cases hu
    have ho := hrows t x hx
    match j, hjl, hj with
    | 5, _, hj =>
      have hj' : Value.int .i64 z = val := by simpa [Fill.cells] using hj
      subst hj'
      rw [Array.getElem?_setIfInBounds_self]
      have hsz : t * 6 + 5 < cur.size := by omega
      simp [hsz]
    | 0, _, hj => exact (by
        rw [Array.getElem?_setIfInBounds_ne (by omega)]
        have := ho 0 val hj
        rwa [Nat.zero_add, cell_of_row w g (t * 6 + 0) cur 111 (0, 0) hblk] at this)
    | 1, _, hj => exact (by
        rw [Array.getElem?_setIfInBounds_ne (by omega)]
        have := ho 1 val hj
        rwa [Nat.zero_add, cell_of_row w g (t * 6 + 1) cur 111 (0, 0) hblk] at this)
    | 2, _, hj => exact (by
        rw [Array.getElem?_setIfInBounds_ne (by omega)]
        have := ho 2 val hj
        rwa [Nat.zero_add, cell_of_row w g (t * 6 + 2) cur 111 (0, 0) hblk] at this)
    | 3, _, hj => exact (by
        rw [Array.getElem?_setIfInBounds_ne (by omega)]
        have := ho 3 val hj
        rwa [Nat.zero_add, cell_of_row w g (t * 6 + 3) cur 111 (0, 0) hblk] at this)
    | 4, _, hj => exact (by
        rw [Array.getElem?_setIfInBounds_ne (by omega)]
        have := ho 4 val hj
        rwa [Nat.zero_add, cell_of_row w g (t * 6 + 4) cur 111 (0, 0) hblk] at this)
  · rw [List.getElem?_set_ne (by omega)] at hu
    rw [Array.getElem?_setIfInBounds_ne (by omega)]
    have := hrows t u hu j val hj
    rwa [Nat.zero_add, cell_of_row w g (t * 6 + j) cur 111 (0, 0) hblk] at this
theorem RTo.new {F : Nat → Prop} {w W W' : World} {B u : Nat} {v v' : Value} (h : RTo w W B u v v') (ht : Turns F W W') (hF : ∀ k, F k → w.heap.size ≤ k) (hB : B ≤ w.heap.size) : RTo w W' B u v v' :=
  ⟨⟨h.old.below.trans (ht.below (Nat.le_trans hB h.old.size) (fun k hk => Nat.le_trans hB (hF k hk))), Nat.le_trans h.old.size ht.size, fun k c t hk h1 h2 => (ht.block k (Nat.lt_of_lt_of_le hk.lt h.old.size) (fun e => by have := hF k e; have := hk.lt; omega)).trans (h.old.block k c t hk h1 h2)⟩,
    h.turns.trans ht (fun k hk e => by have := hF k e; omega), h.own⟩
/-- Match's variables: the book, the order, the fills. -/
structure MD (w W : World) (B u : Nat) (L : List Ord) (v0 v : Value) (came : Nat) (oc : Ord) (s9 : Value) (out : List Fill) : Prop where
  rv : RV W B u L v came
  st : RTo w W B u v0 v
  ob : Blk W w.heap.size oc.cells.toArray 97
  ux : u < w.heap.size
  vx : v.ownBlock ≠ some w.heap.size
  own : W.ownsRow w.heap.size 111 6 s9 out.length (flatOf Fill.cells out)
section
variable {w W W' : World} {B u came : Nat} {L L' : List Ord} {v0 v v' : Value} {oc : Ord} {s9 s9' : Value} {out out' : List Fill}
theorem MD.sz (h : MD w W B u L v0 v came oc s9 out) : w.heap.size ≤ W.heap.size := h.st.old.size
theorem MD.lt (h : MD w W B u L v0 v came oc s9 out) : w.heap.size < W.heap.size := h.ob.lt
theorem MD.hB (h : MD w W B u L v0 v came oc s9 out) : B ≤ w.heap.size := Nat.le_trans h.rv.low (Nat.le_of_lt h.ux)
theorem MD.hBW (h : MD w W B u L v0 v came oc s9 out) : B ≤ W.heap.size := Nat.le_trans h.hB h.sz
theorem MD.rx (h : MD w W B u L v0 v came oc s9 out) : W.rangeAt w.heap.size 0 oc.cells := rangeAt_blk h.ob
theorem MD.k0 (h : MD w W B u L v0 v came oc s9 out) : W.cell? ⟨w.heap.size, 0, none⟩ = some (.int .i64 oc.id) := h.ob.cell 0 _ rfl
theorem MD.k1 (h : MD w W B u L v0 v came oc s9 out) : W.cell? ⟨w.heap.size, 1, none⟩ = some (.int .i64 oc.tenant) := h.ob.cell 1 _ rfl
theorem MD.k2 (h : MD w W B u L v0 v came oc s9 out) : W.cell? ⟨w.heap.size, 2, none⟩ = some (.bool oc.sell) := h.ob.cell 2 _ rfl
theorem MD.k3 (h : MD w W B u L v0 v came oc s9 out) : W.cell? ⟨w.heap.size, 3, none⟩ = some (.int .i64 oc.price) := h.ob.cell 3 _ rfl
theorem MD.k4 (h : MD w W B u L v0 v came oc s9 out) : W.cell? ⟨w.heap.size, 4, none⟩ = some (.int .i64 oc.lots) := h.ob.cell 4 _ rfl
theorem MD.f4 (h : MD w W B u L v0 v came oc s9 out) : W.frozen? ⟨w.heap.size, 4, none⟩ = false := h.ob.free 4
theorem MD.ofar (h : MD w W B u L v0 v came oc s9 out) : ∀ g, s9.ownBlock = some g → g ≠ u ∧ v.ownBlock ≠ some g ∧ g ≠ w.heap.size := fun g hg => by
  obtain ⟨cur, hc⟩ := own_type h.own hg
  refine ⟨fun e => ?_, fun e => ?_, fun e => ?_⟩
  · subst e; exact absurd (h.rv.blk.type_eq hc) (by decide)
  · obtain ⟨cur2, hc2⟩ := own_type h.rv.row e
    exact absurd (hc2.type_eq hc) (by decide)
  · subst e; exact absurd (h.ob.type_eq hc) (by decide)
theorem MD.below (h : MD w W B u L v0 v came oc s9 out) (hb : Below W.heap.size W W') : MD w W' B u L v0 v came oc s9 out :=
  ⟨h.rv.below hb, h.st.trans (RTo.ofBelow h.hBW hb), h.ob.below hb, h.ux, h.vx, (Turns.of_below (F := fun _ => False) hb).owns h.own (fun _ _ h => h)⟩
theorem MD.book {c' : Nat} (h : MD w W B u L v0 v came oc s9 out) (hr : RV W' B u L' v' c') (hs : RTo W W' B u v v') : MD w W' B u L' v0 v' c' oc s9 out := by
  refine ⟨hr, h.st.trans hs, hs.turns.blk h.ob (fun e => ?_), h.ux, fun e => ?_, hs.old.owns h.own (by decide) (by decide)⟩
  · rcases e with e | e
    · have := h.ux; omega
    · exact h.vx e
  · rcases hs.own _ e with e | e
    · exact h.vx e
    · have := h.lt; omega
theorem MD.turn {F : Nat → Prop} (h : MD w W B u L v0 v came oc s9 out) (ht : Turns F W W') (hF : ∀ k, F k → w.heap.size < k ∧ k ≠ u ∧ v.ownBlock ≠ some k) (ho : W'.ownsRow w.heap.size 111 6 s9' out'.length (flatOf Fill.cells out')) : MD w W' B u L v0 v came oc s9' out' :=
  ⟨⟨h.rv.low, ht.blk h.rv.blk (fun e => (hF _ e).2.1 rfl), ht.owns h.rv.row (fun g hg e => (hF _ e).2.2 hg)⟩, h.st.new ht (fun k hk => Nat.le_of_lt (hF k hk).1) h.hB, ht.blk h.ob (fun e => by have := (hF _ e).1; omega), h.ux, h.vx, ho⟩
theorem MD.ownF (h : MD w W B u L v0 v came oc s9 out) : ∀ k, s9.ownBlock = some k → w.heap.size < k ∧ k ≠ u ∧ v.ownBlock ≠ some k := fun k hk => by
  obtain ⟨a, b, c⟩ := h.ofar k hk
  have := (h.own.lt k hk).1
  exact ⟨by omega, a, b⟩
theorem MD.app (h : MD w W B u L v0 v came oc s9 out) (hg : W.grownBy W' s9.ownBlock) (ho : W'.ownsRow w.heap.size 111 6 s9' out'.length (flatOf Fill.cells out')) : MD w W' B u L v0 v came oc s9' out' :=
  h.turn (Turns.of_grown hg) (fun k hk => h.ownF k hk) ho
theorem MD.setF {g cap i : Nat} {f : Fill} (z : Int) (h : MD w W B u L v0 v came oc (.slice (some ⟨g, 0, none⟩) out.length cap) out) (hf : out[i]? = some f) : MD w (W.setCell ⟨g, i * 6 + 5, none⟩ (.int .i64 z)) B u L v0 v came oc (.slice (some ⟨g, 0, none⟩) out.length cap) (out.set i { f with lots := z }) := by
  have hset : Turns (fun k => k = g) W (W.setCell ⟨g, i * 6 + 5, none⟩ (.int .i64 z)) := Turns.set (F := fun k => k = g) rfl
  refine h.turn hset (fun k hk => by subst hk; exact h.ownF _ rfl) ?_
  rw [List.length_set]
  exact rown_setF z h.own rfl hf
theorem MD.setl (z : Int) (h : MD w W B u L v0 v came oc s9 out) : MD w (W.setCell ⟨w.heap.size, 4, none⟩ (.int .i64 z)) B u L v0 v came { oc with lots := z } s9 out := by
  have hset : Turns (fun k => k = w.heap.size) W (W.setCell ⟨w.heap.size, 4, none⟩ (.int .i64 z)) := Turns.set (F := fun k => k = w.heap.size) rfl
  exact ⟨h.rv.setNew (by have := h.ux; omega) h.vx, h.st.new hset (fun k hk => by omega) h.hB, h.ob.set 4 (.int .i64 z), h.ux, h.vx, hset.owns h.own (fun g hg e => (h.ofar g hg).2.2 e)⟩
theorem MD.row {g : Nat} {cs ds : Array Value} (h : MD w W B u L v0 v came oc s9 out) (hb : Blk W g cs 111) (hg : w.heap.size ≤ g) (hne : s9.ownBlock ≠ some g) : MD w (W.setRow g ds) B u L v0 v came oc s9 out := by
  have ht := rturns_setRow W g ds
  refine h.turn ht (fun k hk => ?_) (ht.owns h.own (fun k hk e => hne (by rw [hk, e])))
  rw [show k = g from hk]
  refine ⟨?_, fun e => ?_, fun e => ?_⟩
  · rcases Nat.lt_or_eq_of_le hg with h1 | h1
    · exact h1
    · subst h1; exact absurd (h.ob.type_eq hb) (by decide)
  · subst e; exact absurd (h.rv.blk.type_eq hb) (by decide)
  · obtain ⟨cur, hc⟩ := own_type h.rv.row e
    exact absurd (hc.type_eq hb) (by decide)
end
/-- What the document's Match leaves. -/
def RMatchQ (w : World) (B u : Nat) (v : Value) (l : Bool → List Ord) (o : Ord) (came : Nat) (e : Ending) (w' : World) : Prop :=
  ∃ s9 L' v', e = .returned (.tuple #[s9, .int .i64 (dealZ l o), .int .i64 0]) ∧ w'.ownsRow w.heap.size 111 6 s9 (dealF l o).length (flatOf Fill.cells (dealF l o)) ∧ RV w' B u L' v' (dealC l o came) ∧ Both (dealL l o came) (dealC l o came) L' ∧ RStep w w' B
theorem rmatch_done0 {w W : World} {B u came : Nat} {L : List Ord} {v0 v : Value} {o : Ord} {s9 : Value} {out : List Fill} {l : Bool → List Ord} {z : Int} {S : List Ord} (hm : MD w W B u L v0 v came { o with lots := z } s9 out) (hr : MR o l came out z S) (hb : Both (updL l (!o.sell) S) came L) (hn : nextOk o z S = false) (hz : z = 0) : RMatchQ w B u v0 l o came (.returned (.tuple #[s9, .int .i64 0, .int .i64 0])) W := by
  obtain ⟨e1, e2, e3⟩ := hr.stop hn
  have hz0 : dealZ l o = 0 := by rw [← e2]; exact hz
  unfold RMatchQ dealL dealC
  rw [if_pos hz0, if_pos hz0, hz0, ← e1, ← e3]
  exact ⟨s9, L, v, rfl, hm.own, hm.rv, hb, hm.st.old⟩
theorem rmatch_done1 {w W : World} {B u came : Nat} {L : List Ord} {v0 v : Value} {o : Ord} {s9 : Value} {out : List Fill} {l : Bool → List Ord} {z : Int} {S : List Ord} (hr : MR o l came out z S) (hn : nextOk o z S = false) (hz : z ≠ 0) (hown : W.ownsRow w.heap.size 111 6 s9 out.length (flatOf Fill.cells out)) (hrv : RV W B u L v (came + 1)) (hb : Both (addL (updL l (!o.sell) S) { o with lots := z } came) (came + 1) L) (hs : RStep w W B) : RMatchQ w B u v0 l o came (.returned (.tuple #[s9, .int .i64 z, .int .i64 0])) W := by
  obtain ⟨e1, e2, e3⟩ := hr.stop hn
  have hz0 : ¬ dealZ l o = 0 := by rw [← e2]; exact hz
  unfold RMatchQ dealL dealC
  rw [if_neg hz0, if_neg hz0, ← e2, ← e1, ← e3]
  exact ⟨s9, L, v, rfl, hown, hrv, hb, hs⟩
end Go.Proofs.YtdebldpmloignaaDoor
