/-
  book: the document's book: its state; Good, At, ahead.
-/
import Derived.Test.YtdebldpmloignaaDoorBokR
import Derived.Laws.AppendOwnNone
namespace Go.Proofs.YtdebldpmloignaaDoor
open Go.RowKit
set_option linter.unusedVariables false
set_option linter.unusedSimpArgs false

theorem info_ror : (Tryd.prog.info? 97).map (fun i => (i.zero, i.size, i.bytes)) = some (some (.agg #[.int .i64 0, .int .i64 0, .bool false, .int .i64 0, .int .i64 0, .int .i64 0]), 6, 48) := by kernel_rfl
theorem size_ror : (Tryd.prog.info? 97).map (·.size) = some 6 := by kernel_rfl
theorem ror_szL (o : Ord) : (Tryd.prog.info? 97).map (·.size) = some o.cells.length := by rw [Ord.k6]; exact size_ror
theorem ror_szA (o : Ord) : (Tryd.prog.info? 97).map (·.size) = some o.cells.toArray.size := by rw [List.size_toArray, Ord.k6]; exact size_ror
/-- The document's book in block u. -/
structure RV (w : World) (B u : Nat) (L : List Ord) (v : Value) (came : Nat) : Prop where
  low : B ≤ u
  blk : Blk w u #[v, .int .i64 came] 94
  row : w.ownsRow B 97 6 v L.length (flatOf Ord.cells L)
theorem RV.lt {w : World} {B u came : Nat} {L : List Ord} {v : Value} (h : RV w B u L v came) : u < w.heap.size := h.blk.lt
theorem own_type {w : World} {base : Nat} {e : TypeId} {size n : Nat} {v : Value} {xs : List Value} {g : Nat} (h : w.ownsRow base e size v n xs) (hg : v.ownBlock = some g) : ∃ cur : Array Value, Blk w g cur e := by
  rcases h.2 with ⟨rfl, _⟩ | ⟨g', cap, cur, rfl, _, hc, _⟩
  · cases hg
  · have : g' = g := by simpa [Value.ownBlock] using hg
    subst this
    exact ⟨cur, hc⟩
theorem Blk.type_eq {w : World} {q : Nat} {a b : Array Value} {s t : TypeId} (h : Blk w q a s) (k : Blk w q b t) : s = t := by
  have h' : w.heap[q]? = some (.cells a s (0, 0)) := h
  rw [show w.heap[q]? = some (.cells b t (0, 0)) from k] at h'
  simp at h'
  exact h'.2.symm
theorem RV.notu {w : World} {B u came : Nat} {L : List Ord} {v : Value} (h : RV w B u L v came) : v.ownBlock ≠ some u := fun e => by
  obtain ⟨cur, hc⟩ := own_type h.row e
  exact absurd (h.blk.type_eq hc) (by decide)
theorem RV.grown {w w' : World} {B u came : Nat} {L : List Ord} {v : Value} (h : RV w B u L v came) (hg : w.grownBy w' none) : RV w' B u L v came :=
  ⟨h.low, h.blk.of (hg.block u h.lt (by simp)), h.row.kept hg (by cases v.ownBlock <;> simp)⟩
theorem RV.below {w w' : World} {B u came : Nat} {L : List Ord} {v : Value} (h : RV w B u L v came) (hb : Below w.heap.size w w') : RV w' B u L v came := h.grown (grown_of_below hb none)
theorem RV.form {w : World} {B u came : Nat} {L : List Ord} {v : Value} (h : RV w B u L v came) : ∃ A c, v = .slice A L.length c ∧ RdRows w w.heap.size Ord.cells 6 A L.length L ∧ w.cell? ⟨u, 0, none⟩ = some (.slice A L.length c) ∧ (A = none → c = 0) ∧ L.length ≤ c := by
  obtain ⟨A, cap, hv, hc, hrd⟩ := own_rows Ord.k6 h.row rfl
  refine ⟨A, cap, hv, hrd, by rw [← hv]; exact h.blk.cell 0 _ rfl, fun hA => ?_, ?_⟩
  · subst hA
    rcases h.row.2 with ⟨h1, _⟩ | ⟨g, cap', cur, h1, _⟩
    · rw [hv] at h1; exact (Value.slice.inj h1).2.2
    · rw [hv] at h1; cases (Value.slice.inj h1).1
  · rcases h.row.2 with ⟨h1, h2⟩ | ⟨g, cap', cur, h1, _, _, h2, _⟩
    · rw [h2]; exact Nat.zero_le _
    · rw [hv] at h1; rw [(Value.slice.inj h1).2.2]; exact h2
/-- A step of the document's book: no block of another type turns. -/
structure RStep (w w' : World) (B : Nat) : Prop where
  below : Below B w w'
  size : w.heap.size ≤ w'.heap.size
  block : ∀ (k : Nat) (c : Array Value) (t : TypeId), Blk w k c t → t ≠ 97 → t ≠ 94 → w'.heap[k]? = w.heap[k]?
theorem RStep.ofBelow {w w' : World} {B : Nat} (hB : B ≤ w.heap.size) (h : Below w.heap.size w w') : RStep w w' B :=
  ⟨h.mono hB, h.size, fun k _ _ hk _ _ => h.block k hk.lt⟩
theorem RStep.trans {a b c : World} {B : Nat} (h : RStep a b B) (k : RStep b c B) : RStep a c B :=
  ⟨h.below.trans k.below, Nat.le_trans h.size k.size, fun n cs t hn h1 h2 => (k.block n cs t (hn.of (h.block n cs t hn h1 h2)) h1 h2).trans (h.block n cs t hn h1 h2)⟩
/-- A new row of the document's book. -/
theorem RV.put {w w2 : World} {B u came : Nat} {L L2 : List Ord} {v nv : Value} (h : RV w B u L v came) (hg : w.grownBy w2 v.ownBlock) (hown : w2.ownsRow B 97 6 nv L2.length (flatOf Ord.cells L2)) :
    RV (w2.setCell ⟨u, 0, none⟩ nv) B u L2 nv came ∧ RStep w (w2.setCell ⟨u, 0, none⟩ nv) B := by
  have hub : Blk w2 u #[v, .int .i64 came] 94 := h.blk.of (hg.block u h.lt (fun e => h.notu e.symm))
  have hset : Turns (fun k => k = u) w2 (w2.setCell ⟨u, 0, none⟩ nv) := Turns.set (F := fun k => k = u) rfl
  have hnu : nv.ownBlock ≠ some u := fun e => by
    obtain ⟨cur, hc⟩ := own_type hown e
    exact absurd (hub.type_eq hc) (by decide)
  refine ⟨⟨h.low, hub.set 0 nv, hset.owns hown (fun g hg e => hnu (by rw [hg, e]))⟩, ?_, ?_, ?_⟩
  · have h1 : Turns (fun k => v.ownBlock = some k ∨ k = u) w (w2.setCell ⟨u, 0, none⟩ nv) := ((Turns.of_grown hg).mono (fun k _ hk => .inl hk)).trans hset (fun k _ hk => .inr hk)
    exact h1.below (by have := h.lt; have := h.low; omega) (fun k hk => by
      rcases hk with e | rfl
      · exact (h.row.lt k e).1
      · exact h.low)
  · exact Nat.le_trans hg.size hset.size
  · intro k c t hk h1 h2
    have hku : k ≠ u := fun e => by subst e; exact h2 (hk.type_eq h.blk)
    have hkv : some k ≠ v.ownBlock := fun e => by
      obtain ⟨cur, hc⟩ := own_type h.row e.symm
      exact h1 (hk.type_eq hc)
    rw [hset.block k (Nat.lt_of_lt_of_le hk.lt hg.size) hku]
    exact hg.block k hk.lt hkv
set_option maxRecDepth 100000 in
set_option maxHeartbeats 1000000 in
theorem rgood_c (o : Ord) (w : World) : Calls Tryd.prog 60 #[.agg o.cells.toArray] w fun e w' => e = .returned (.bool (Ord.good o)) ∧ Below w.heap.size w w' := by
  obtain ⟨id, tenant, sell, price, lots, seq⟩ := o
  simp only [Ord.cells]
  by_cases c0 : 1 ≤ id
  rotate_left
  · have e : Ord.good ⟨id, tenant, sell, price, lots, seq⟩ = false := by simp [Ord.good]; omega
    rw [e]
    have d0 : decide (1 ≤ id) = false := by simpa using c0
    clear c0
    go_enter Tryd.func60, Tryd.ntmps60
    go_wp2_with fail
    go_ret
    exact ⟨rfl, (Below.refl _ w).alloc (Nat.le_refl _) _⟩
  by_cases c1 : id ≤ 1073741824
  rotate_left
  · have e : Ord.good ⟨id, tenant, sell, price, lots, seq⟩ = false := by simp [Ord.good]; omega
    rw [e]
    have d0 : decide (1 ≤ id) = true := by simpa using c0
    have d1 : decide (id ≤ 1073741824) = false := by simpa using c1
    clear c0 c1
    go_enter Tryd.func60, Tryd.ntmps60
    go_wp2_with fail
    go_ret
    exact ⟨rfl, (Below.refl _ w).alloc (Nat.le_refl _) _⟩
  by_cases c2 : 1 ≤ price
  rotate_left
  · have e : Ord.good ⟨id, tenant, sell, price, lots, seq⟩ = false := by simp [Ord.good]; omega
    rw [e]
    have d0 : decide (1 ≤ id) = true := by simpa using c0
    have d1 : decide (id ≤ 1073741824) = true := by simpa using c1
    have d2 : decide (1 ≤ price) = false := by simpa using c2
    clear c0 c1 c2
    go_enter Tryd.func60, Tryd.ntmps60
    go_wp2_with fail
    go_ret
    exact ⟨rfl, (Below.refl _ w).alloc (Nat.le_refl _) _⟩
  by_cases c3 : price ≤ 1000000
  rotate_left
  · have e : Ord.good ⟨id, tenant, sell, price, lots, seq⟩ = false := by simp [Ord.good]; omega
    rw [e]
    have d0 : decide (1 ≤ id) = true := by simpa using c0
    have d1 : decide (id ≤ 1073741824) = true := by simpa using c1
    have d2 : decide (1 ≤ price) = true := by simpa using c2
    have d3 : decide (price ≤ 1000000) = false := by simpa using c3
    clear c0 c1 c2 c3
    go_enter Tryd.func60, Tryd.ntmps60
    go_wp2_with fail
    go_ret
    exact ⟨rfl, (Below.refl _ w).alloc (Nat.le_refl _) _⟩
  by_cases c4 : 1 ≤ lots
  rotate_left
  · have e : Ord.good ⟨id, tenant, sell, price, lots, seq⟩ = false := by simp [Ord.good]; omega
    rw [e]
    have d0 : decide (1 ≤ id) = true := by simpa using c0
    have d1 : decide (id ≤ 1073741824) = true := by simpa using c1
    have d2 : decide (1 ≤ price) = true := by simpa using c2
    have d3 : decide (price ≤ 1000000) = true := by simpa using c3
    have d4 : decide (1 ≤ lots) = false := by simpa using c4
    clear c0 c1 c2 c3 c4
    go_enter Tryd.func60, Tryd.ntmps60
    go_wp2_with fail
    go_ret
    exact ⟨rfl, (Below.refl _ w).alloc (Nat.le_refl _) _⟩
  by_cases c5 : lots ≤ 1000
  rotate_left
  · have e : Ord.good ⟨id, tenant, sell, price, lots, seq⟩ = false := by simp [Ord.good]; omega
    rw [e]
    have d0 : decide (1 ≤ id) = true := by simpa using c0
    have d1 : decide (id ≤ 1073741824) = true := by simpa using c1
    have d2 : decide (1 ≤ price) = true := by simpa using c2
    have d3 : decide (price ≤ 1000000) = true := by simpa using c3
    have d4 : decide (1 ≤ lots) = true := by simpa using c4
    have d5 : decide (lots ≤ 1000) = false := by simpa using c5
    clear c0 c1 c2 c3 c4 c5
    go_enter Tryd.func60, Tryd.ntmps60
    go_wp2_with fail
    go_ret
    exact ⟨rfl, (Below.refl _ w).alloc (Nat.le_refl _) _⟩
  have e : Ord.good ⟨id, tenant, sell, price, lots, seq⟩ = true := by simp [Ord.good]; omega
  rw [e]
  have d0 : decide (1 ≤ id) = true := by simpa using c0
  have d1 : decide (id ≤ 1073741824) = true := by simpa using c1
  have d2 : decide (1 ≤ price) = true := by simpa using c2
  have d3 : decide (price ≤ 1000000) = true := by simpa using c3
  have d4 : decide (1 ≤ lots) = true := by simpa using c4
  have d5 : decide (lots ≤ 1000) = true := by simpa using c5
  clear c0 c1 c2 c3 c4 c5
  go_enter Tryd.func60, Tryd.ntmps60
  go_wp2_with fail
  go_ret
  exact ⟨rfl, (Below.refl _ w).alloc (Nat.le_refl _) _⟩
set_option maxRecDepth 100000 in
theorem rat_c (B u : Nat) (L : List Ord) (v : Value) (came : Nat) (id : Int) (w : World) (h : Hid (RV w B u L v came)) (hN : L.length ≤ 1000000) :
    Calls Tryd.prog 59 #[.pointer (some ⟨u, 0, none⟩), .int .i64 id] w fun e w' => e = .returned (.int .i64 (idxOf (hasId id) L)) ∧ w = w' := by
  obtain ⟨A, c, rfl, hrd, cq, _, _⟩ := h.out.form
  have HR := Lib.hid hrd
  have HID : Hid (∀ x : Ord, hasId id x = (x.id == id)) := fun x => rfl
  clear hrd h
  go_enter Tryd.func59, Tryd.ntmps59
  go_wp2_with fail
  go_loop [5] (fun s5 => ∃ kk : Nat, kk ≤ L.length ∧ s5 = .int .i64 kk ∧ Hid (∀ (j : Nat) (y : Ord), j < kk → L[j]? = some y → hasId id y = false)) (fun s5 => L.length - (intOf s5).toNat)
  case atStart => exact ⟨0, Nat.zero_le _, rfl, fun j y hj => absurd hj (Nat.not_lt_zero _)⟩
  case round =>
    obtain ⟨kk, hkk, rfl, hno⟩ := hrel
    by_cases hlt : kk < L.length
    · obtain ⟨b, off, rfl, hb, hrows⟩ := HR.out.2 (by omega)
      obtain ⟨x, hx⟩ : ∃ x, L[kk]? = some x := ⟨_, List.getElem?_eq_getElem (by omega)⟩
      have c0 : w.cell? ⟨b, off + kk * 6, none⟩ = some (.int .i64 x.id) := hrows kk x hx 0 _ rfl
      have HX := Lib.hid hx
      have HQ := HID.out x
      cases hq : hasId id x with
      | true =>
        have HQ' := Lib.hid hq
        rw [hq] at HQ
        have hh : (x.id == id) = true := HQ.symm
        clear hrows hx HQ hq
        go_wp2_with fail
        go_ret
        exact ⟨ret_int (idxOf_hit _ _ kk x HX.out HQ'.out (fun j y hj hy => hno.out j y hj hy)).symm, rfl⟩
      | false =>
        have HQ' := Lib.hid hq
        rw [hq] at HQ
        have hh : (x.id == id) = false := HQ.symm
        clear hrows hx HQ hq
        go_wp2_with fail
        go_round
        case rel =>
          refine ⟨kk + 1, by omega, by go_num, (show Hid _ from fun j y hj hy => ?_)⟩
          by_cases e : j = kk
          · subst e
            rw [HX.out] at hy
            cases hy
            exact HQ'.out
          · exact hno.out j y (by omega) hy
        case measure => simp [intOf]; omega
    · have hk : kk = L.length := by omega
      subst hk
      go_wp2_with fail
      go_ret
      exact ⟨ret_int (idxOf_miss _ _ (fun j y hy => hno.out j y (List.getElem?_eq_some_iff.1 hy).1 hy)).symm, rfl⟩
set_option maxRecDepth 100000 in
theorem rahead_c (x y : Ord) (w : World) :
    Calls Tryd.prog 90 #[.agg x.cells.toArray, .agg y.cells.toArray] w fun e w' => e = .returned (.bool (aheadB x y)) ∧ Below w.heap.size w w' := by
  obtain ⟨i1, t1, s1, p1, l1, q1⟩ := x
  obtain ⟨i2, t2, s2, p2, l2, q2⟩ := y
  have HB : Hid (∀ a b c d : Array Value, ∀ t : TypeId, Below w.heap.size w ((w.alloc (.cells a t)).alloc (.cells b t))) := fun a b _ _ t => ((Below.refl _ w).alloc (Nat.le_refl _) _).alloc (by simp) _
  simp only [Ord.cells]
  by_cases hp : p1 = p2
  · have hE : Hid (aheadB ⟨i1, t1, s1, p1, l1, q1⟩ ⟨i2, t2, s2, p2, l2, q2⟩ = decide (q1 < q2)) := by show _ = _; unfold aheadB; rw [if_pos hp]
    rw [hE.out]
    have hd : (p1 != p2) = false := by simp [hp]
    clear hp
    go_enter Tryd.func90, Tryd.ntmps90
    go_wp2_with fail
    go_ret
    exact ⟨rfl, HB.out _ _ #[] #[] _⟩
  · have hE : Hid (aheadB ⟨i1, t1, s1, p1, l1, q1⟩ ⟨i2, t2, s2, p2, l2, q2⟩ = (s1 == decide (p1 < p2))) := by show _ = _; unfold aheadB; rw [if_neg hp]
    rw [hE.out]
    have hd : (p1 != p2) = true := by simp [hp]
    clear hp
    go_enter Tryd.func90, Tryd.ntmps90
    go_wp2_with fail
    go_ret
    exact ⟨rfl, HB.out _ _ #[] #[] _⟩
end Go.Proofs.YtdebldpmloignaaDoor
