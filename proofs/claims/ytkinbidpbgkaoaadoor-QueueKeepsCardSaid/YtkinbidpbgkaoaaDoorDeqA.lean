/-
  DepthExact: forms; the reference's Good and Side.
-/
import Derived.Test.YtkinbidpbgkaoaaDoorDepE
namespace Go.Proofs.YtkinbidpbgkaoaaDoor
open Go.RowKit
set_option linter.unusedVariables false

theorem wp_app1 {P : Program} {wr : World} {o : Oper} {a : Act} {K : Act → World → Prop} {Q : Exit → Act → World → Prop} (s x : Operand) (t : TypeId)
    (ho : o.op = .call { callee := .builtin .append, args := #[s, x], argTypes := #[t, t] })
    (base : Nat) (e : TypeId) (i : TypeInfo) (z : Value) (size bytes : Nat) (ht : P.underlying t = some (.slice e)) (hi : P.info? e = some i) (hz : i.zero = some z)
    (hsize : i.size = size) (hby : i.bytes = bytes) (hzs : z.cells.size = size) (hsz : 0 < size)
    (v : Value) (n : Nat) (xs : List Value) (hs : a.eval s = v) (hown : wr.ownsRow base e size v n xs) (news : List Value) (g : Nat)
    (hx : a.eval x = .slice (some ⟨g, 0, none⟩) 1 1) (hge : g = wr.heap.size) (hl : news.length = size) (h1 : ∀ u ∈ news, u.oneCell' = true)
    (h63 : n + 1 ≤ maxLen) (hbytes : (n + 1) * bytes ≤ 140737488355328) (hbase : base ≤ wr.heap.size)
    (h : ∀ v' w', w'.ownsRow base e size v' (n + 1) (xs ++ news) → wr.grownBy w' v.ownBlock → K (a.put o.dst v') w') :
    o.wp P a (wr.alloc (.cells news.toArray e)) K Q := by
  subst hge
  refine wp_append_own (wr.alloc (.cells news.toArray e)) s x t ho base e i z size bytes ht hi hz hsize hby hzs hsz v n xs hs (hown.alloc _) ⟨wr.heap.size, 0, none⟩ 1 1 news hx (by rw [hl]; omega) ?_ h1 h63 hbytes (by simp; omega) ?_
  · intro j u hj
    have hadd : (⟨wr.heap.size, 0, none⟩ : Addr).add j = ⟨wr.heap.size, j, none⟩ := by unfold Addr.add; split <;> simp_all
    rw [hadd, cell_of_row (wr.alloc (.cells news.toArray e)) wr.heap.size j news.toArray e (0, 0) (heap_alloc_new wr _)]
    simpa using hj
  · intro v' w' ho' hg hv
    refine h v' w' ho' ?_
    have ha := World.grownBy_alloc wr (.cells news.toArray e) v.ownBlock
    exact ⟨hg.os.trans ha.os, hg.tape.trans ha.tape, hg.output.trans ha.output, Nat.le_trans ha.size hg.size, fun k hk hne => (hg.block k (Nat.lt_of_lt_of_le hk ha.size) hne).trans (ha.block k hk hne)⟩
theorem info_rord : (Tryd.prog.info? 115).map (fun i => (i.zero, i.size, i.bytes)) = some (some (.agg #[.int .i64 0, .int .i64 0, .bool false, .int .i64 0, .int .i64 0, .int .i64 0]), 6, 48) := by kernel_rfl
theorem size_rord : (Tryd.prog.info? 115).map (·.size) = some 6 := by kernel_rfl
theorem take_snoc' {α : Type} (xs : List α) (k : Nat) (x : α) (h : xs[k]? = some x) : xs.take (k + 1) = xs.take k ++ [x] := by rw [List.take_add_one, h]; rfl
set_option maxRecDepth 100000 in
set_option maxHeartbeats 2000000 in
theorem forms_c (A : Option Addr) (n c : Nat) (xs : List Ord) (w : World) (hr : Hid (RdRows w w.heap.size Ord.cells 6 A n xs)) (hn : n ≤ 1000) :
    Calls Tryd.prog 38 #[.slice A n c] w fun e w' => ∃ v, e = .returned v ∧ w'.ownsRow w.heap.size 115 6 v n (flatOf Ord.cells xs) ∧ Below w.heap.size w w' := by
  have hl := hr.out.1
  obtain ⟨i0, hi, hz0, hz1, hz2⟩ := info_parts info_rord
  go_enter Tryd.func38, Tryd.ntmps38
  go_wp2_with fail
  go_loopw [3, 4] (fun s3 s4 wr => ∃ (kk : Nat) (v : Value), kk ≤ n ∧ v = s3 ∧ s4 = .int .i64 kk ∧ wr.ownsRow w.heap.size 115 6 v kk (flatOf Ord.cells (xs.take kk)) ∧ Below w.heap.size w wr) (fun _ s4 _ => n - (intOf s4).toNat)
  case atStart => exact ⟨0, _, Nat.zero_le _, rfl, rfl, by simpa [flatOf] using World.ownsRow_made w #[] 0 (Nat.le_refl _) (Nat.zero_le _) (by simp), below_grow w _⟩
  case round =>
    obtain ⟨kk, s3, hkk, rfl, rfl, hown, hbl⟩ := hrel
    by_cases hlt : kk < n
    · obtain ⟨b, off, rfl, hb, hrows⟩ := hr.out.2 (by omega)
      obtain ⟨x, hx⟩ : ∃ x, xs[kk]? = some x := ⟨_, List.getElem?_eq_getElem (by omega)⟩
      have r1 := rangeAt_below (hrows kk x hx) hbl hb
      have htk := Lib.hid (take_snoc' xs kk x hx)
      have hszr := hbl.size
      have hownD : wr.drew.ownsRow w.heap.size 115 6 s3 kk (flatOf Ord.cells (xs.take kk)) := hown
      clear hrows hx
      obtain ⟨id, tenant, sell, price, lots, seq⟩ := x
      have c0 : wr.cell? ⟨b, off + kk * 6, none⟩ = some (.int .i64 id) := r1 0 _ rfl
      have c1 : wr.cell? ⟨b, off + kk * 6 + 1, none⟩ = some (.int .i64 tenant) := r1 1 _ rfl
      have c2 : wr.cell? ⟨b, off + kk * 6 + 2, none⟩ = some (.bool sell) := r1 2 _ rfl
      have c3 : wr.cell? ⟨b, off + kk * 6 + 3, none⟩ = some (.int .i64 price) := r1 3 _ rfl
      have c4 : wr.cell? ⟨b, off + kk * 6 + 4, none⟩ = some (.int .i64 lots) := r1 4 _ rfl
      have c5 : wr.cell? ⟨b, off + kk * 6 + 5, none⟩ = some (.int .i64 seq) := r1 5 _ rfl
      clear r1
      go_wp2_with fail
      refine wp_region_noPanic ?_
      refine wp_region_held_drew (S := (fun w' => w'.cell? ⟨b, off + kk * 6, none⟩ = some (.int .i64 id) ∧ w'.cell? ⟨b, off + kk * 6 + 1, none⟩ = some (.int .i64 tenant) ∧ w'.cell? ⟨b, off + kk * 6 + 2, none⟩ = some (.bool sell) ∧ w'.cell? ⟨b, off + kk * 6 + 3, none⟩ = some (.int .i64 price) ∧ w'.cell? ⟨b, off + kk * 6 + 4, none⟩ = some (.int .i64 lots) ∧ w'.cell? ⟨b, off + kk * 6 + 5, none⟩ = some (.int .i64 seq))) (by kernel_rfl) ⟨c0, c1, c2, c3, c4, c5⟩ (fun hHeld => ?_)
      refine wpAnyH_take (i := 0) (v := ?_) rfl (by kernel_rfl) (by kernel_rfl) (by kernel_rfl) (fun _ _ _ h => h) (Or.inl ⟨by rfl, ?_⟩) hHeld ?_
      rotate_left
      focus
        intro w hSw
        clear hSw
        go_simp
        try with_reducible rfl
      try simp only [Act.put, List.getElem_toArray, List.getElem_cons_zero, List.getElem_cons_succ, List.setIfInBounds_toArray, List.set_cons_zero, List.set_cons_succ]
      refine wpAnyH_take (i := 1) (v := ?_) rfl (by kernel_rfl) (by kernel_rfl) (by kernel_rfl) (fun _ _ _ h => h) (Or.inl ⟨by rfl, ?_⟩) hHeld ?_
      rotate_left
      focus
        intro w hSw
        clear hSw
        go_simp
        try with_reducible rfl
      try simp only [Act.put, List.getElem_toArray, List.getElem_cons_zero, List.getElem_cons_succ, List.setIfInBounds_toArray, List.set_cons_zero, List.set_cons_succ]
      refine wpAnyH_take (i := 2) (v := ?_) rfl (by kernel_rfl) (by kernel_rfl) (by kernel_rfl) (fun _ _ _ h => h) (Or.inl ⟨by rfl, ?_⟩) hHeld ?_
      rotate_left
      focus
        intro w hSw
        clear hSw
        go_simp
        try with_reducible rfl
      try simp only [Act.put, List.getElem_toArray, List.getElem_cons_zero, List.getElem_cons_succ, List.setIfInBounds_toArray, List.set_cons_zero, List.set_cons_succ]
      refine wpAnyH_take (i := 3) (v := ?_) rfl (by kernel_rfl) (by kernel_rfl) (by kernel_rfl) (fun _ _ _ h => h) (Or.inl ⟨by rfl, ?_⟩) hHeld ?_
      rotate_left
      focus
        intro w hSw
        clear hSw
        go_simp
        try with_reducible rfl
      try simp only [Act.put, List.getElem_toArray, List.getElem_cons_zero, List.getElem_cons_succ, List.setIfInBounds_toArray, List.set_cons_zero, List.set_cons_succ]
      refine wpAnyH_take (i := 4) (v := ?_) rfl (by kernel_rfl) (by kernel_rfl) (by kernel_rfl) (fun _ _ _ h => h) (Or.inl ⟨by rfl, ?_⟩) hHeld ?_
      rotate_left
      focus
        intro w hSw
        clear hSw
        go_simp
        try with_reducible rfl
      try simp only [Act.put, List.getElem_toArray, List.getElem_cons_zero, List.getElem_cons_succ, List.setIfInBounds_toArray, List.set_cons_zero, List.set_cons_succ]
      refine wpAnyH_take (i := 5) (v := ?_) rfl (by kernel_rfl) (by kernel_rfl) (by kernel_rfl) (fun _ _ _ h => h) (Or.inl ⟨by rfl, ?_⟩) hHeld ?_
      rotate_left
      focus
        intro w hSw
        (try dsimp only at hSw)
        go_simp
        try with_reducible rfl
      try simp only [Act.put, List.getElem_toArray, List.getElem_cons_zero, List.getElem_cons_succ, List.setIfInBounds_toArray, List.set_cons_zero, List.set_cons_succ]
      refine wpAnyH_take (i := 6) (v := ?_) rfl (by kernel_rfl) (by kernel_rfl) (by kernel_rfl) (fun _ _ _ h => h) (Or.inl ⟨by rfl, ?_⟩) hHeld ?_
      rotate_left
      focus
        intro w hSw
        clear hSw
        go_simp
        try with_reducible rfl
      try simp only [Act.put, List.getElem_toArray, List.getElem_cons_zero, List.getElem_cons_succ, List.setIfInBounds_toArray, List.set_cons_zero, List.set_cons_succ]
      refine wpAnyH_take (i := 7) (v := ?_) rfl (by kernel_rfl) (by kernel_rfl) (by kernel_rfl) (fun _ _ _ h => h) (Or.inl ⟨by rfl, ?_⟩) hHeld ?_
      rotate_left
      focus
        intro w hSw
        clear hSw
        go_simp
        try with_reducible rfl
      try simp only [Act.put, List.getElem_toArray, List.getElem_cons_zero, List.getElem_cons_succ, List.setIfInBounds_toArray, List.set_cons_zero, List.set_cons_succ]
      refine wpAnyH_take (i := 8) (v := ?_) rfl (by kernel_rfl) (by kernel_rfl) (by kernel_rfl) (fun _ _ _ h => h) (Or.inl ⟨by rfl, ?_⟩) hHeld ?_
      rotate_left
      focus
        intro w hSw
        clear hSw
        go_simp
        try with_reducible rfl
      try simp only [Act.put, List.getElem_toArray, List.getElem_cons_zero, List.getElem_cons_succ, List.setIfInBounds_toArray, List.set_cons_zero, List.set_cons_succ]
      refine wpAnyH_take (i := 9) (v := ?_) rfl (by kernel_rfl) (by kernel_rfl) (by kernel_rfl) (fun _ _ _ h => h) (Or.inl ⟨by rfl, ?_⟩) hHeld ?_
      rotate_left
      focus
        intro w hSw
        clear hSw
        go_simp
        try with_reducible rfl
      try simp only [Act.put, List.getElem_toArray, List.getElem_cons_zero, List.getElem_cons_succ, List.setIfInBounds_toArray, List.set_cons_zero, List.set_cons_succ]
      refine wpAnyH_take (i := 10) (v := ?_) rfl (by kernel_rfl) (by kernel_rfl) (by kernel_rfl) (fun _ _ _ h => h) (Or.inl ⟨by rfl, ?_⟩) hHeld ?_
      rotate_left
      focus
        intro w hSw
        (try dsimp only at hSw)
        go_simp
        try with_reducible rfl
      try simp only [Act.put, List.getElem_toArray, List.getElem_cons_zero, List.getElem_cons_succ, List.setIfInBounds_toArray, List.set_cons_zero, List.set_cons_succ]
      refine wpAnyH_take (i := 11) (v := ?_) rfl (by kernel_rfl) (by kernel_rfl) (by kernel_rfl) (fun _ _ _ h => h) (Or.inl ⟨by rfl, ?_⟩) hHeld ?_
      rotate_left
      focus
        intro w hSw
        clear hSw
        go_simp
        try with_reducible rfl
      try simp only [Act.put, List.getElem_toArray, List.getElem_cons_zero, List.getElem_cons_succ, List.setIfInBounds_toArray, List.set_cons_zero, List.set_cons_succ]
      refine wpAnyH_take (i := 12) (v := ?_) rfl (by kernel_rfl) (by kernel_rfl) (by kernel_rfl) (fun _ _ _ h => h) (Or.inl ⟨by rfl, ?_⟩) hHeld ?_
      rotate_left
      focus
        intro w hSw
        clear hSw
        go_simp
        try with_reducible rfl
      try simp only [Act.put, List.getElem_toArray, List.getElem_cons_zero, List.getElem_cons_succ, List.setIfInBounds_toArray, List.set_cons_zero, List.set_cons_succ]
      refine wpAnyH_take (i := 13) (v := ?_) rfl (by kernel_rfl) (by kernel_rfl) (by kernel_rfl) (fun _ _ _ h => h) (Or.inl ⟨by rfl, ?_⟩) hHeld ?_
      rotate_left
      focus
        intro w hSw
        clear hSw
        go_simp
        try with_reducible rfl
      try simp only [Act.put, List.getElem_toArray, List.getElem_cons_zero, List.getElem_cons_succ, List.setIfInBounds_toArray, List.set_cons_zero, List.set_cons_succ]
      refine wpAnyH_take (i := 14) (v := ?_) rfl (by kernel_rfl) (by kernel_rfl) (by kernel_rfl) (fun _ _ _ h => h) (Or.inl ⟨by rfl, ?_⟩) hHeld ?_
      rotate_left
      focus
        intro w hSw
        clear hSw
        go_simp
        try with_reducible rfl
      try simp only [Act.put, List.getElem_toArray, List.getElem_cons_zero, List.getElem_cons_succ, List.setIfInBounds_toArray, List.set_cons_zero, List.set_cons_succ]
      refine wpAnyH_take (i := 15) (v := ?_) rfl (by kernel_rfl) (by kernel_rfl) (by kernel_rfl) (fun _ _ _ h => h) (Or.inl ⟨by rfl, ?_⟩) hHeld ?_
      rotate_left
      focus
        intro w hSw
        (try dsimp only at hSw)
        go_simp
        try with_reducible rfl
      try simp only [Act.put, List.getElem_toArray, List.getElem_cons_zero, List.getElem_cons_succ, List.setIfInBounds_toArray, List.set_cons_zero, List.set_cons_succ]
      refine wpAnyH_take (i := 16) (v := ?_) rfl (by kernel_rfl) (by kernel_rfl) (by kernel_rfl) (fun _ _ _ h => h) (Or.inl ⟨by rfl, ?_⟩) hHeld ?_
      rotate_left
      focus
        intro w hSw
        clear hSw
        go_simp
        try with_reducible rfl
      try simp only [Act.put, List.getElem_toArray, List.getElem_cons_zero, List.getElem_cons_succ, List.setIfInBounds_toArray, List.set_cons_zero, List.set_cons_succ]
      refine wpAnyH_take (i := 17) (v := ?_) rfl (by kernel_rfl) (by kernel_rfl) (by kernel_rfl) (fun _ _ _ h => h) (Or.inl ⟨by rfl, ?_⟩) hHeld ?_
      rotate_left
      focus
        intro w hSw
        clear hSw
        go_simp
        try with_reducible rfl
      try simp only [Act.put, List.getElem_toArray, List.getElem_cons_zero, List.getElem_cons_succ, List.setIfInBounds_toArray, List.set_cons_zero, List.set_cons_succ]
      refine wpAnyH_take (i := 18) (v := ?_) rfl (by kernel_rfl) (by kernel_rfl) (by kernel_rfl) (fun _ _ _ h => h) (Or.inl ⟨by rfl, ?_⟩) hHeld ?_
      rotate_left
      focus
        intro w hSw
        clear hSw
        go_simp
        try with_reducible rfl
      try simp only [Act.put, List.getElem_toArray, List.getElem_cons_zero, List.getElem_cons_succ, List.setIfInBounds_toArray, List.set_cons_zero, List.set_cons_succ]
      refine wpAnyH_take (i := 19) (v := ?_) rfl (by kernel_rfl) (by kernel_rfl) (by kernel_rfl) (fun _ _ _ h => h) (Or.inl ⟨by rfl, ?_⟩) hHeld ?_
      rotate_left
      focus
        intro w hSw
        clear hSw
        go_simp
        try with_reducible rfl
      try simp only [Act.put, List.getElem_toArray, List.getElem_cons_zero, List.getElem_cons_succ, List.setIfInBounds_toArray, List.set_cons_zero, List.set_cons_succ]
      refine wpAnyH_take (i := 20) (v := ?_) rfl (by kernel_rfl) (by kernel_rfl) (by kernel_rfl) (fun _ _ _ h => h) (Or.inl ⟨by rfl, ?_⟩) hHeld ?_
      rotate_left
      focus
        intro w hSw
        (try dsimp only at hSw)
        go_simp
        try with_reducible rfl
      try simp only [Act.put, List.getElem_toArray, List.getElem_cons_zero, List.getElem_cons_succ, List.setIfInBounds_toArray, List.set_cons_zero, List.set_cons_succ]
      refine wpAnyH_take (i := 21) (v := ?_) rfl (by kernel_rfl) (by kernel_rfl) (by kernel_rfl) (fun _ _ _ h => h) (Or.inl ⟨by rfl, ?_⟩) hHeld ?_
      rotate_left
      focus
        intro w hSw
        clear hSw
        go_simp
        try with_reducible rfl
      try simp only [Act.put, List.getElem_toArray, List.getElem_cons_zero, List.getElem_cons_succ, List.setIfInBounds_toArray, List.set_cons_zero, List.set_cons_succ]
      refine wpAnyH_take (i := 22) (v := ?_) rfl (by kernel_rfl) (by kernel_rfl) (by kernel_rfl) (fun _ _ _ h => h) (Or.inl ⟨by rfl, ?_⟩) hHeld ?_
      rotate_left
      focus
        intro w hSw
        clear hSw
        go_simp
        try with_reducible rfl
      try simp only [Act.put, List.getElem_toArray, List.getElem_cons_zero, List.getElem_cons_succ, List.setIfInBounds_toArray, List.set_cons_zero, List.set_cons_succ]
      refine wpAnyH_take (i := 23) (v := ?_) rfl (by kernel_rfl) (by kernel_rfl) (by kernel_rfl) (fun _ _ _ h => h) (Or.inl ⟨by rfl, ?_⟩) hHeld ?_
      rotate_left
      focus
        intro w hSw
        clear hSw
        go_simp
        try with_reducible rfl
      try simp only [Act.put, List.getElem_toArray, List.getElem_cons_zero, List.getElem_cons_succ, List.setIfInBounds_toArray, List.set_cons_zero, List.set_cons_succ]
      refine wpAnyH_take (i := 24) (v := ?_) rfl (by kernel_rfl) (by kernel_rfl) (by kernel_rfl) (fun _ _ _ h => h) (Or.inl ⟨by rfl, ?_⟩) hHeld ?_
      rotate_left
      focus
        intro w hSw
        clear hSw
        go_simp
        try with_reducible rfl
      try simp only [Act.put, List.getElem_toArray, List.getElem_cons_zero, List.getElem_cons_succ, List.setIfInBounds_toArray, List.set_cons_zero, List.set_cons_succ]
      refine wpAnyH_take (i := 25) (v := ?_) rfl (by kernel_rfl) (by kernel_rfl) (by kernel_rfl) (fun _ _ _ h => h) (Or.inl ⟨by rfl, ?_⟩) hHeld ?_
      rotate_left
      focus
        intro w hSw
        (try dsimp only at hSw)
        go_simp
        try with_reducible rfl
      try simp only [Act.put, List.getElem_toArray, List.getElem_cons_zero, List.getElem_cons_succ, List.setIfInBounds_toArray, List.set_cons_zero, List.set_cons_succ]
      refine wpAnyH_take (i := 26) (v := ?_) rfl (by kernel_rfl) (by kernel_rfl) (by kernel_rfl) (fun _ _ _ h => h) (Or.inl ⟨by rfl, ?_⟩) hHeld ?_
      rotate_left
      focus
        intro w hSw
        clear hSw
        go_simp
        try with_reducible rfl
      try simp only [Act.put, List.getElem_toArray, List.getElem_cons_zero, List.getElem_cons_succ, List.setIfInBounds_toArray, List.set_cons_zero, List.set_cons_succ]
      refine wpAnyH_take (i := 27) (v := ?_) rfl (by kernel_rfl) (by kernel_rfl) (by kernel_rfl) (fun _ _ _ h => h) (Or.inl ⟨by rfl, ?_⟩) hHeld ?_
      rotate_left
      focus
        intro w hSw
        clear hSw
        go_simp
        try with_reducible rfl
      try simp only [Act.put, List.getElem_toArray, List.getElem_cons_zero, List.getElem_cons_succ, List.setIfInBounds_toArray, List.set_cons_zero, List.set_cons_succ]
      refine wpAnyH_take (i := 28) (v := ?_) rfl (by kernel_rfl) (by kernel_rfl) (by kernel_rfl) (fun _ _ _ h => h) (Or.inl ⟨by rfl, ?_⟩) hHeld ?_
      rotate_left
      focus
        intro w hSw
        clear hSw
        go_simp
        try with_reducible rfl
      try simp only [Act.put, List.getElem_toArray, List.getElem_cons_zero, List.getElem_cons_succ, List.setIfInBounds_toArray, List.set_cons_zero, List.set_cons_succ]
      refine wpAnyH_take (i := 29) (v := ?_) rfl (by kernel_rfl) (by kernel_rfl) (by kernel_rfl) (fun _ _ _ h => h) (Or.inl ⟨by rfl, ?_⟩) hHeld ?_
      rotate_left
      focus
        intro w hSw
        clear hSw
        go_simp
        try with_reducible rfl
      try simp only [Act.put, List.getElem_toArray, List.getElem_cons_zero, List.getElem_cons_succ, List.setIfInBounds_toArray, List.set_cons_zero, List.set_cons_succ]
      refine wpAnyH_take (i := 30) (v := ?_) rfl (by kernel_rfl) (by kernel_rfl) (by kernel_rfl) (fun _ _ _ h => h) (Or.inl ⟨by rfl, ?_⟩) hHeld ?_
      rotate_left
      focus
        intro w hSw
        (try dsimp only at hSw)
        go_simp
        try with_reducible rfl
      try simp only [Act.put, List.getElem_toArray, List.getElem_cons_zero, List.getElem_cons_succ, List.setIfInBounds_toArray, List.set_cons_zero, List.set_cons_succ]
      refine wpAnyH_take (i := 31) (v := ?_) rfl (by kernel_rfl) (by kernel_rfl) (by kernel_rfl) (fun _ _ _ h => h) (Or.inl ⟨by rfl, ?_⟩) hHeld ?_
      rotate_left
      focus
        intro w hSw
        clear hSw
        go_simp
        try with_reducible rfl
      try simp only [Act.put, List.getElem_toArray, List.getElem_cons_zero, List.getElem_cons_succ, List.setIfInBounds_toArray, List.set_cons_zero, List.set_cons_succ]
      refine wpAnyH_ready (rs := [32]) (by kernel_rfl) (by simp) ?_
      refine AllReadyH.cons rfl (fun K hK => ?_) AllReadyH.nil
      go_simp
      refine hK.out _ _ ⟨Lib.cell?_alloc_some _ c0, Lib.cell?_alloc_some _ c1, Lib.cell?_alloc_some _ c2, Lib.cell?_alloc_some _ c3, Lib.cell?_alloc_some _ c4, Lib.cell?_alloc_some _ c5⟩ (fun hHeld => ?_)
      clear hK K
      try simp only [Act.put, List.getElem_toArray, List.getElem_cons_zero, List.getElem_cons_succ, List.setIfInBounds_toArray, List.set_cons_zero, List.set_cons_succ]
      refine wpAnyH_ready (rs := [33]) (by kernel_rfl) (by simp) ?_
      refine AllReadyH.cons rfl (fun K hK => ?_) AllReadyH.nil
      rw [if_pos (by rfl)]
      refine wp_app1 _ _ 76 rfl w.heap.size 115 i0 (.agg #[.int .i64 0, .int .i64 0, .bool false, .int .i64 0, .int .i64 0, .int .i64 0]) 6 48 Tryd.underlying76 hi hz0 hz1 hz2 rfl (by decide) s3 kk (flatOf Ord.cells (xs.take kk)) rfl hownD [.int .i64 id, .int .i64 tenant, .bool sell, .int .i64 price, .int .i64 lots, .int .i64 seq] _ rfl rfl rfl (by simp [Value.oneCell']) (by unfold maxLen; omega) (by omega) hszr ?_
      intro v' w4 hown' hg4
      have hg4 := grownBy_undrew hg4
      have hneb : some b ≠ s3.ownBlock := fun h => by have := (hown.lt _ h.symm).1; omega
      have hbl4 := below_app hbl hszr (Nat.le_refl _) hown hg4
      refine hK.out _ _ ⟨hg4.cell c0 hneb, hg4.cell c1 hneb, hg4.cell c2 hneb, hg4.cell c3 hneb, hg4.cell c4 hneb, hg4.cell c5 hneb⟩ (fun hHeld => ?_)
      clear hK K
      try simp only [Act.put, List.getElem_toArray, List.getElem_cons_zero, List.getElem_cons_succ, List.setIfInBounds_toArray, List.set_cons_zero, List.set_cons_succ]
      refine wpAnyH_take (i := 34) (v := ?_) rfl (by kernel_rfl) (by kernel_rfl) (by kernel_rfl) (fun _ _ _ h => h) (Or.inl ⟨by rfl, ?_⟩) hHeld ?_
      rotate_left
      focus
        intro w hSw
        clear hSw
        go_simp
        try with_reducible rfl
      try simp only [Act.put, List.getElem_toArray, List.getElem_cons_zero, List.getElem_cons_succ, List.setIfInBounds_toArray, List.set_cons_zero, List.set_cons_succ]
      refine wpAnyH_done (by kernel_rfl) ?_ _
      refine NoPanic.normal ?_
      go_wp2_with fail
      go_roundw
      case rel => exact ⟨kk + 1, _, by omega, rfl, by go_num, by rw [htk.out, flatOf_append, flatOf_one]; exact hown', hbl4⟩
      case measure => simp [intOf]; omega
    · obtain rfl : kk = n := by omega
      have htk : xs.take kk = xs := List.take_of_length_le (by omega)
      rw [htk] at hown
      go_wp2_with fail
      go_ret
      exact ⟨_, rfl, hown, hbl⟩
set_option maxRecDepth 100000 in
theorem rgood_c (o : Ord) (w : World) : Calls Tryd.prog 58 #[.agg o.cells.toArray] w fun e w' => e = .returned (.bool (Ord.good o)) ∧ Below w.heap.size w w' := by
  obtain ⟨id, tenant, sell, price, lots, seq⟩ := o
  simp only [Ord.cells]
  by_cases c0 : 1 ≤ id
  rotate_left
  · have e : Ord.good ⟨id, tenant, sell, price, lots, seq⟩ = false := by simp [Ord.good]; omega
    rw [e]
    have d0 : decide (1 ≤ id) = false := by simpa using c0
    clear c0
    go_enter Tryd.func58, Tryd.ntmps58
    go_wp2_with fail
    go_ret
    exact ⟨rfl, (Below.refl _ w).alloc (Nat.le_refl _) _⟩
  by_cases c1 : id ≤ 1073741824
  rotate_left
  · have e : Ord.good ⟨id, tenant, sell, price, lots, seq⟩ = false := by simp [Ord.good]; omega
    rw [e]
    have d0 : decide (1 ≤ id) = true := by simpa using c0
    have d1 : decide (id ≤ 1073741824) = false := by simpa using c1
    clear c0 c1
    go_enter Tryd.func58, Tryd.ntmps58
    go_wp2_with fail
    go_ret
    exact ⟨rfl, (Below.refl _ w).alloc (Nat.le_refl _) _⟩
  by_cases c2 : 1 ≤ price
  rotate_left
  · have e : Ord.good ⟨id, tenant, sell, price, lots, seq⟩ = false := by simp [Ord.good]; omega
    rw [e]
    have d0 : decide (1 ≤ id) = true := by simpa using c0
    have d1 : decide (id ≤ 1073741824) = true := by simpa using c1
    have d2 : decide (1 ≤ price) = false := by simpa using c2
    clear c0 c1 c2
    go_enter Tryd.func58, Tryd.ntmps58
    go_wp2_with fail
    go_ret
    exact ⟨rfl, (Below.refl _ w).alloc (Nat.le_refl _) _⟩
  by_cases c3 : price ≤ 1000000
  rotate_left
  · have e : Ord.good ⟨id, tenant, sell, price, lots, seq⟩ = false := by simp [Ord.good]; omega
    rw [e]
    have d0 : decide (1 ≤ id) = true := by simpa using c0
    have d1 : decide (id ≤ 1073741824) = true := by simpa using c1
    have d2 : decide (1 ≤ price) = true := by simpa using c2
    have d3 : decide (price ≤ 1000000) = false := by simpa using c3
    clear c0 c1 c2 c3
    go_enter Tryd.func58, Tryd.ntmps58
    go_wp2_with fail
    go_ret
    exact ⟨rfl, (Below.refl _ w).alloc (Nat.le_refl _) _⟩
  by_cases c4 : 1 ≤ lots
  rotate_left
  · have e : Ord.good ⟨id, tenant, sell, price, lots, seq⟩ = false := by simp [Ord.good]; omega
    rw [e]
    have d0 : decide (1 ≤ id) = true := by simpa using c0
    have d1 : decide (id ≤ 1073741824) = true := by simpa using c1
    have d2 : decide (1 ≤ price) = true := by simpa using c2
    have d3 : decide (price ≤ 1000000) = true := by simpa using c3
    have d4 : decide (1 ≤ lots) = false := by simpa using c4
    clear c0 c1 c2 c3 c4
    go_enter Tryd.func58, Tryd.ntmps58
    go_wp2_with fail
    go_ret
    exact ⟨rfl, (Below.refl _ w).alloc (Nat.le_refl _) _⟩
  by_cases c5 : lots ≤ 1000
  rotate_left
  · have e : Ord.good ⟨id, tenant, sell, price, lots, seq⟩ = false := by simp [Ord.good]; omega
    rw [e]
    have d0 : decide (1 ≤ id) = true := by simpa using c0
    have d1 : decide (id ≤ 1073741824) = true := by simpa using c1
    have d2 : decide (1 ≤ price) = true := by simpa using c2
    have d3 : decide (price ≤ 1000000) = true := by simpa using c3
    have d4 : decide (1 ≤ lots) = true := by simpa using c4
    have d5 : decide (lots ≤ 1000) = false := by simpa using c5
    clear c0 c1 c2 c3 c4 c5
    go_enter Tryd.func58, Tryd.ntmps58
    go_wp2_with fail
    go_ret
    exact ⟨rfl, (Below.refl _ w).alloc (Nat.le_refl _) _⟩
  have e : Ord.good ⟨id, tenant, sell, price, lots, seq⟩ = true := by simp [Ord.good]; omega
  rw [e]
  have d0 : decide (1 ≤ id) = true := by simpa using c0
  have d1 : decide (id ≤ 1073741824) = true := by simpa using c1
  have d2 : decide (1 ≤ price) = true := by simpa using c2
  have d3 : decide (price ≤ 1000000) = true := by simpa using c3
  have d4 : decide (1 ≤ lots) = true := by simpa using c4
  have d5 : decide (lots ≤ 1000) = true := by simpa using c5
  clear c0 c1 c2 c3 c4 c5
  go_enter Tryd.func58, Tryd.ntmps58
  go_wp2_with fail
  go_ret
  exact ⟨rfl, (Below.refl _ w).alloc (Nat.le_refl _) _⟩
set_option maxRecDepth 100000 in
set_option maxHeartbeats 2000000 in
theorem rside_c (A : Option Addr) (n c : Nat) (xs : List Ord) (w : World) (hr : Hid (RdRows w w.heap.size Ord.cells 6 A n xs)) (hn : n ≤ maxLen) :
    Calls Tryd.prog 42 #[.slice A n c] w fun e w' => e = .returned (.bool (side xs)) ∧ Below w.heap.size w w' := by
  have hl := hr.out.1
  go_enter Tryd.func42, Tryd.ntmps42
  go_wp2_with fail
  go_loopw [3] (fun s3 wr => ∃ kk : Nat, kk ≤ n ∧ s3 = .int .i64 kk ∧ Below w.heap.size w wr ∧ Hid (∀ (j : Nat) (y : Ord), j < kk → xs[j]? = some y → okAt xs j y = true)) (fun s3 _ => n - (intOf s3).toNat)
  case atStart => exact ⟨0, Nat.zero_le _, rfl, Below.refl _ w, fun j y hj => absurd hj (Nat.not_lt_zero _)⟩
  case round =>
    obtain ⟨kk, hkk, rfl, hbl, hno⟩ := hrel
    have hn63 : n ≤ 9223372036854775807 := hn
    by_cases hlt : kk < n
    · obtain ⟨b, off, rfl, hb, hrows⟩ := hr.out.2 (by omega)
      obtain ⟨x, hx⟩ : ∃ x, xs[kk]? = some x := ⟨_, List.getElem?_eq_getElem (by omega)⟩
      have HX := Lib.hid hx
      have r1 := rangeAt_below (hrows kk x hx) hbl hb
      have hbW : b < wr.heap.size := by have := hbl.size; omega
      have hn0 : (0 : Int) < n := by omega
      have hn0n : 0 < n := by omega
      have hf0 : xs[0]? = some (xs.headD x) := by cases xs with | nil => simp at hl; omega | cons a r => rfl
      have cf : wr.cell? ⟨b, off + 2, none⟩ = some (.bool (xs.headD x).sell) := by
        have := rangeAt_below (hrows 0 _ hf0) hbl hb 2 (.bool (xs.headD x).sell) rfl
        simpa using this
      have HCP : Hid (0 < kk → wr.cell? ⟨b, off + (kk - 1) * 6 + 3, none⟩ = some (.int .i64 (xs.getD (kk - 1) x).price)) := fun h => by
        have hp : xs[kk - 1]? = some (xs.getD (kk - 1) x) := by rw [List.getD_eq_getElem?_getD, List.getElem?_eq_getElem (by omega)]; rfl
        exact rangeAt_below (hrows (kk - 1) _ hp) hbl hb 3 _ rfl
      have hok : okAt xs kk x = (x.good && (x.sell == (xs.headD x).sell) && (decide (kk = 0) || !(if x.sell then decide (x.price < (xs.getD (kk - 1) x).price) else decide ((xs.getD (kk - 1) x).price < x.price)))) := rfl
      generalize (xs.headD x).sell = fs at cf hok
      generalize (xs.getD (kk - 1) x).price = pp at HCP hok
      have HOK := Lib.hid hok
      clear hrows hx hok hf0
      obtain ⟨id, tenant, sell, price, lots, seq⟩ := x
      simp only at HOK
      have c0 : wr.cell? ⟨b, off + kk * 6, none⟩ = some (.int .i64 id) := r1 0 _ rfl
      have c1 : wr.cell? ⟨b, off + kk * 6 + 1, none⟩ = some (.int .i64 tenant) := r1 1 _ rfl
      have c2 : wr.cell? ⟨b, off + kk * 6 + 2, none⟩ = some (.bool sell) := r1 2 _ rfl
      have c3 : wr.cell? ⟨b, off + kk * 6 + 3, none⟩ = some (.int .i64 price) := r1 3 _ rfl
      have c4 : wr.cell? ⟨b, off + kk * 6 + 4, none⟩ = some (.int .i64 lots) := r1 4 _ rfl
      have c5 : wr.cell? ⟨b, off + kk * 6 + 5, none⟩ = some (.int .i64 seq) := r1 5 _ rfl
      clear r1
      cases hgd : Ord.good ⟨id, tenant, sell, price, lots, seq⟩ with
      | false =>
        rw [hgd] at HOK
        have hgc : ∀ W0, Calls Tryd.prog 58 #[.agg #[.int .i64 id, .int .i64 tenant, .bool sell, .int .i64 price, .int .i64 lots, .int .i64 seq]] W0 fun e w' => e = .returned (.bool false) ∧ Below W0.heap.size W0 w' := fun W0 => by rw [← hgd]; exact rgood_c ⟨id, tenant, sell, price, lots, seq⟩ W0
        have HGC := Lib.hid hgc
        clear hgc hgd
        go_wp2_with fail
        refine wp_region_noPanic ?_
        refine wp_region_held_drew (S := (fun w' => w'.cell? ⟨b, off + kk * 6, none⟩ = some (.int .i64 id) ∧ w'.cell? ⟨b, off + kk * 6 + 1, none⟩ = some (.int .i64 tenant) ∧ w'.cell? ⟨b, off + kk * 6 + 2, none⟩ = some (.bool sell) ∧ w'.cell? ⟨b, off + kk * 6 + 3, none⟩ = some (.int .i64 price) ∧ w'.cell? ⟨b, off + kk * 6 + 4, none⟩ = some (.int .i64 lots) ∧ w'.cell? ⟨b, off + kk * 6 + 5, none⟩ = some (.int .i64 seq) ∧ w'.cell? ⟨b, off + 2, none⟩ = some (.bool fs))) (by kernel_rfl) ⟨c0, c1, c2, c3, c4, c5, cf⟩ (fun hHeld => ?_)
        refine wpAnyH_take (i := 0) (v := ?_) rfl (by kernel_rfl) (by kernel_rfl) (by kernel_rfl) (fun _ _ _ h => h) (Or.inl ⟨by rfl, ?_⟩) hHeld ?_
        rotate_left
        focus
          intro w hSw
          clear hSw
          go_simp
          try with_reducible rfl
        try simp only [Act.put, List.getElem_toArray, List.getElem_cons_zero, List.getElem_cons_succ, List.setIfInBounds_toArray, List.set_cons_zero, List.set_cons_succ]
        refine wpAnyH_take (i := 1) (v := ?_) rfl (by kernel_rfl) (by kernel_rfl) (by kernel_rfl) (fun _ _ _ h => h) (Or.inl ⟨by rfl, ?_⟩) hHeld ?_
        rotate_left
        focus
          intro w hSw
          clear hSw
          go_simp
          try with_reducible rfl
        try simp only [Act.put, List.getElem_toArray, List.getElem_cons_zero, List.getElem_cons_succ, List.setIfInBounds_toArray, List.set_cons_zero, List.set_cons_succ]
        refine wpAnyH_take (i := 2) (v := ?_) rfl (by kernel_rfl) (by kernel_rfl) (by kernel_rfl) (fun _ _ _ h => h) (Or.inl ⟨by rfl, ?_⟩) hHeld ?_
        rotate_left
        focus
          intro w hSw
          clear hSw
          go_simp
          try with_reducible rfl
        try simp only [Act.put, List.getElem_toArray, List.getElem_cons_zero, List.getElem_cons_succ, List.setIfInBounds_toArray, List.set_cons_zero, List.set_cons_succ]
        refine wpAnyH_take (i := 3) (v := ?_) rfl (by kernel_rfl) (by kernel_rfl) (by kernel_rfl) (fun _ _ _ h => h) (Or.inl ⟨by rfl, ?_⟩) hHeld ?_
        rotate_left
        focus
          intro w hSw
          (try dsimp only at hSw)
          go_simp
          try with_reducible rfl
        try simp only [Act.put, List.getElem_toArray, List.getElem_cons_zero, List.getElem_cons_succ, List.setIfInBounds_toArray, List.set_cons_zero, List.set_cons_succ]
        refine wpAnyH_ready (rs := [4]) (by kernel_rfl) (by simp) ?_
        refine AllReadyH.cons rfl (fun K hK => ?_) AllReadyH.nil
        go_simp
        refine (HGC.out _).mono ?_
        rintro e W2 ⟨rfl, hb2⟩
        have hb2 := below_undrew hb2
        have c0 := (hb2.cell (p := ⟨b, off + kk * 6, none⟩) hbW).trans c0
        have c1 := (hb2.cell (p := ⟨b, off + kk * 6 + 1, none⟩) hbW).trans c1
        have c2 := (hb2.cell (p := ⟨b, off + kk * 6 + 2, none⟩) hbW).trans c2
        have c3 := (hb2.cell (p := ⟨b, off + kk * 6 + 3, none⟩) hbW).trans c3
        have c4 := (hb2.cell (p := ⟨b, off + kk * 6 + 4, none⟩) hbW).trans c4
        have c5 := (hb2.cell (p := ⟨b, off + kk * 6 + 5, none⟩) hbW).trans c5
        have cf := (hb2.cell (p := ⟨b, off + 2, none⟩) hbW).trans cf
        refine hK.out _ _ ⟨c0, c1, c2, c3, c4, c5, cf⟩ (fun hHeld => ?_)
        clear hK K
        try simp only [Act.put, List.getElem_toArray, List.getElem_cons_zero, List.getElem_cons_succ, List.setIfInBounds_toArray, List.set_cons_zero, List.set_cons_succ]
        refine wpAnyH_take (i := 5) (v := ?_) rfl (by kernel_rfl) (by kernel_rfl) (by kernel_rfl) (fun _ _ _ h => h) (Or.inl ⟨by rfl, ?_⟩) hHeld ?_
        rotate_left
        focus
          intro w hSw
          clear hSw
          go_simp
          try with_reducible rfl
        try simp only [Act.put, List.getElem_toArray, List.getElem_cons_zero, List.getElem_cons_succ, List.setIfInBounds_toArray, List.set_cons_zero, List.set_cons_succ]
        refine wpAnyH_take (i := 6) (v := ?_) rfl (by kernel_rfl) (by kernel_rfl) (by kernel_rfl) (fun _ _ _ h => h) (Or.inl ⟨by rfl, ?_⟩) hHeld ?_
        rotate_left
        focus
          intro w hSw
          clear hSw
          go_simp
          try with_reducible rfl
        try simp only [Act.put, List.getElem_toArray, List.getElem_cons_zero, List.getElem_cons_succ, List.setIfInBounds_toArray, List.set_cons_zero, List.set_cons_succ]
        refine wpAnyH_take (i := 7) (v := undef) rfl (by kernel_rfl) (by kernel_rfl) (by kernel_rfl) (fun _ _ _ h => h) (Or.inr ⟨by rfl, rfl⟩) hHeld ?_
        try simp only [Act.put, List.getElem_toArray, List.getElem_cons_zero, List.getElem_cons_succ, List.setIfInBounds_toArray, List.set_cons_zero, List.set_cons_succ]
        refine wpAnyH_take (i := 8) (v := undef) rfl (by kernel_rfl) (by kernel_rfl) (by kernel_rfl) (fun _ _ _ h => h) (Or.inr ⟨by rfl, rfl⟩) hHeld ?_
        try simp only [Act.put, List.getElem_toArray, List.getElem_cons_zero, List.getElem_cons_succ, List.setIfInBounds_toArray, List.set_cons_zero, List.set_cons_succ]
        refine wpAnyH_take (i := 9) (v := undef) rfl (by kernel_rfl) (by kernel_rfl) (by kernel_rfl) (fun _ _ _ h => h) (Or.inr ⟨by rfl, rfl⟩) hHeld ?_
        try simp only [Act.put, List.getElem_toArray, List.getElem_cons_zero, List.getElem_cons_succ, List.setIfInBounds_toArray, List.set_cons_zero, List.set_cons_succ]
        refine wpAnyH_take (i := 10) (v := undef) rfl (by kernel_rfl) (by kernel_rfl) (by kernel_rfl) (fun _ _ _ h => h) (Or.inr ⟨by rfl, rfl⟩) hHeld ?_
        try simp only [Act.put, List.getElem_toArray, List.getElem_cons_zero, List.getElem_cons_succ, List.setIfInBounds_toArray, List.set_cons_zero, List.set_cons_succ]
        refine wpAnyH_take (i := 11) (v := undef) rfl (by kernel_rfl) (by kernel_rfl) (by kernel_rfl) (fun _ _ _ h => h) (Or.inr ⟨by rfl, rfl⟩) hHeld ?_
        try simp only [Act.put, List.getElem_toArray, List.getElem_cons_zero, List.getElem_cons_succ, List.setIfInBounds_toArray, List.set_cons_zero, List.set_cons_succ]
        refine wpAnyH_take (i := 12) (v := undef) rfl (by kernel_rfl) (by kernel_rfl) (by kernel_rfl) (fun _ _ _ h => h) (Or.inr ⟨by rfl, rfl⟩) hHeld ?_
        try simp only [Act.put, List.getElem_toArray, List.getElem_cons_zero, List.getElem_cons_succ, List.setIfInBounds_toArray, List.set_cons_zero, List.set_cons_succ]
        refine wpAnyH_take (i := 13) (v := undef) rfl (by kernel_rfl) (by kernel_rfl) (by kernel_rfl) (fun _ _ _ h => h) (Or.inr ⟨by rfl, rfl⟩) hHeld ?_
        try simp only [Act.put, List.getElem_toArray, List.getElem_cons_zero, List.getElem_cons_succ, List.setIfInBounds_toArray, List.set_cons_zero, List.set_cons_succ]
        refine wpAnyH_take (i := 14) (v := undef) rfl (by kernel_rfl) (by kernel_rfl) (by kernel_rfl) (fun _ _ _ h => h) (Or.inr ⟨by rfl, rfl⟩) hHeld ?_
        try simp only [Act.put, List.getElem_toArray, List.getElem_cons_zero, List.getElem_cons_succ, List.setIfInBounds_toArray, List.set_cons_zero, List.set_cons_succ]
        refine wpAnyH_take (i := 15) (v := undef) rfl (by kernel_rfl) (by kernel_rfl) (by kernel_rfl) (fun _ _ _ h => h) (Or.inr ⟨by rfl, rfl⟩) hHeld ?_
        try simp only [Act.put, List.getElem_toArray, List.getElem_cons_zero, List.getElem_cons_succ, List.setIfInBounds_toArray, List.set_cons_zero, List.set_cons_succ]
        refine wpAnyH_take (i := 16) (v := undef) rfl (by kernel_rfl) (by kernel_rfl) (by kernel_rfl) (fun _ _ _ h => h) (Or.inr ⟨by rfl, rfl⟩) hHeld ?_
        try simp only [Act.put, List.getElem_toArray, List.getElem_cons_zero, List.getElem_cons_succ, List.setIfInBounds_toArray, List.set_cons_zero, List.set_cons_succ]
        refine wpAnyH_take (i := 17) (v := ?_) rfl (by kernel_rfl) (by kernel_rfl) (by kernel_rfl) (fun _ _ _ h => h) (Or.inl ⟨by rfl, ?_⟩) hHeld ?_
        rotate_left
        focus
          intro w hSw
          clear hSw
          go_simp
          try with_reducible rfl
        try simp only [Act.put, List.getElem_toArray, List.getElem_cons_zero, List.getElem_cons_succ, List.setIfInBounds_toArray, List.set_cons_zero, List.set_cons_succ]
        refine wpAnyH_done (by kernel_rfl) ?_ _
        refine NoPanic.normal ?_
        have hbl2 : Below w.heap.size w W2 := hbl.trans (hb2.mono hbl.size)
        go_wp2_with fail
        go_ret
        exact ⟨by rw [side_false HX.out (by rw [HOK.out]; simp)]; rfl, hbl2⟩
      | true =>
        rw [hgd] at HOK
        by_cases hs : sell = fs
        · subst hs
          have hgc : ∀ W0, Calls Tryd.prog 58 #[.agg #[.int .i64 id, .int .i64 tenant, .bool sell, .int .i64 price, .int .i64 lots, .int .i64 seq]] W0 fun e w' => e = .returned (.bool true) ∧ Below W0.heap.size W0 w' := fun W0 => by rw [← hgd]; exact rgood_c ⟨id, tenant, sell, price, lots, seq⟩ W0
          have HGC := Lib.hid hgc
          clear hgc hgd
          go_wp2_with fail
          go_region_held3 (fun w' => w'.cell? ⟨b, off + kk * 6, none⟩ = some (.int .i64 id) ∧ w'.cell? ⟨b, off + kk * 6 + 1, none⟩ = some (.int .i64 tenant) ∧ w'.cell? ⟨b, off + kk * 6 + 2, none⟩ = some (.bool sell) ∧ w'.cell? ⟨b, off + kk * 6 + 3, none⟩ = some (.int .i64 price) ∧ w'.cell? ⟨b, off + kk * 6 + 4, none⟩ = some (.int .i64 lots) ∧ w'.cell? ⟨b, off + kk * 6 + 5, none⟩ = some (.int .i64 seq) ∧ w'.cell? ⟨b, off + 2, none⟩ = some (.bool sell)) (exact ⟨c0, c1, c2, c3, c4, c5, cf⟩) (first | (go_at_call 58; refine (HGC.out _).mono ?_; rintro e W2 ⟨rfl, hb2⟩; have hb2 := below_undrew hb2; have c0 := (hb2.cell (p := ⟨b, off + kk * 6, none⟩) hbW).trans c0; have c1 := (hb2.cell (p := ⟨b, off + kk * 6 + 1, none⟩) hbW).trans c1; have c2 := (hb2.cell (p := ⟨b, off + kk * 6 + 2, none⟩) hbW).trans c2; have c3 := (hb2.cell (p := ⟨b, off + kk * 6 + 3, none⟩) hbW).trans c3; have c4 := (hb2.cell (p := ⟨b, off + kk * 6 + 4, none⟩) hbW).trans c4; have c5 := (hb2.cell (p := ⟨b, off + kk * 6 + 5, none⟩) hbW).trans c5; have cf := (hb2.cell (p := ⟨b, off + 2, none⟩) hbW).trans cf))
          have hbl2 : Below w.heap.size w W2 := hbl.trans (hb2.mono hbl.size)
          clear c0 c1 c4 c5 cf
          rcases Nat.eq_zero_or_pos kk with hk0 | hk0
          · have hd0 : decide ((0 : Int) < (kk : Int)) = false := by simp; omega
            go_wp2_with fail
            go_quiet (fail)
            go_wp2_with fail
            go_roundw
            case rel => exact ⟨kk + 1, by omega, by go_num, below_drewN hbl2 _, fun j y hj hy => by
              by_cases e : j = kk
              · subst e; rw [HX.out] at hy; cases hy; rw [HOK.out]; simp [hk0]
              · exact hno.out j y (by omega) hy⟩
            case measure => simp [intOf]; omega
          · have cp := (hb2.cell (p := ⟨b, off + (kk - 1) * 6 + 3, none⟩) hbW).trans (HCP.out hk0)
            obtain ⟨m, rfl⟩ : ∃ m, kk = m + 1 := ⟨kk - 1, by omega⟩
            rw [Nat.add_sub_cancel] at cp
            have hd0 : decide ((0 : Int) < ((m + 1 : Nat) : Int)) = true := by first | (simp; done) | (simp; omega)
            cases sell
            · by_cases hg : pp < price
              · have hgd2 : decide (pp < price) = true := by simpa using hg
                go_wp2_with fail
                go_quiet (fail)
                go_wp2_with fail
                go_ret
                exact ⟨by rw [side_false HX.out (by rw [HOK.out]; simp [hg])]; rfl, below_drewN hbl2 _⟩
              · have hgd2 : decide (pp < price) = false := by simpa using hg
                go_wp2_with fail
                go_quiet (fail)
                go_wp2_with fail
                go_roundw
                case rel => exact ⟨(m + 1) + 1, by omega, by go_num, below_drewN hbl2 _, fun j y hj hy => by
                  by_cases e : j = (m + 1)
                  · subst e; rw [HX.out] at hy; cases hy; rw [HOK.out]; simp [hg]
                  · exact hno.out j y (by omega) hy⟩
                case measure => simp [intOf]; omega
            · by_cases hg : price < pp
              · have hgd2 : decide (price < pp) = true := by simpa using hg
                go_wp2_with fail
                go_quiet (fail)
                go_wp2_with fail
                go_ret
                exact ⟨by rw [side_false HX.out (by rw [HOK.out]; simp [hg])]; rfl, below_drewN hbl2 _⟩
              · have hgd2 : decide (price < pp) = false := by simpa using hg
                go_wp2_with fail
                go_quiet (fail)
                go_wp2_with fail
                go_roundw
                case rel => exact ⟨(m + 1) + 1, by omega, by go_num, below_drewN hbl2 _, fun j y hj hy => by
                  by_cases e : j = (m + 1)
                  · subst e; rw [HX.out] at hy; cases hy; rw [HOK.out]; simp [hg]
                  · exact hno.out j y (by omega) hy⟩
                case measure => simp [intOf]; omega
        · obtain rfl : fs = !sell := by revert hs; cases sell <;> cases fs <;> simp
          have hgc : ∀ W0, Calls Tryd.prog 58 #[.agg #[.int .i64 id, .int .i64 tenant, .bool sell, .int .i64 price, .int .i64 lots, .int .i64 seq]] W0 fun e w' => e = .returned (.bool true) ∧ Below W0.heap.size W0 w' := fun W0 => by rw [← hgd]; exact rgood_c ⟨id, tenant, sell, price, lots, seq⟩ W0
          have HGC := Lib.hid hgc
          clear hgc hgd
          go_wp2_with fail
          go_region_held3 (fun w' => w'.cell? ⟨b, off + kk * 6, none⟩ = some (.int .i64 id) ∧ w'.cell? ⟨b, off + kk * 6 + 1, none⟩ = some (.int .i64 tenant) ∧ w'.cell? ⟨b, off + kk * 6 + 2, none⟩ = some (.bool sell) ∧ w'.cell? ⟨b, off + kk * 6 + 3, none⟩ = some (.int .i64 price) ∧ w'.cell? ⟨b, off + kk * 6 + 4, none⟩ = some (.int .i64 lots) ∧ w'.cell? ⟨b, off + kk * 6 + 5, none⟩ = some (.int .i64 seq) ∧ w'.cell? ⟨b, off + 2, none⟩ = some (.bool !sell)) (exact ⟨c0, c1, c2, c3, c4, c5, cf⟩) (first | (go_at_call 58; refine (HGC.out _).mono ?_; rintro e W2 ⟨rfl, hb2⟩; have hb2 := below_undrew hb2; have c0 := (hb2.cell (p := ⟨b, off + kk * 6, none⟩) hbW).trans c0; have c1 := (hb2.cell (p := ⟨b, off + kk * 6 + 1, none⟩) hbW).trans c1; have c2 := (hb2.cell (p := ⟨b, off + kk * 6 + 2, none⟩) hbW).trans c2; have c3 := (hb2.cell (p := ⟨b, off + kk * 6 + 3, none⟩) hbW).trans c3; have c4 := (hb2.cell (p := ⟨b, off + kk * 6 + 4, none⟩) hbW).trans c4; have c5 := (hb2.cell (p := ⟨b, off + kk * 6 + 5, none⟩) hbW).trans c5; have cf := (hb2.cell (p := ⟨b, off + 2, none⟩) hbW).trans cf))
          have hbl2 : Below w.heap.size w W2 := hbl.trans (hb2.mono hbl.size)
          go_wp2_with fail
          go_ret
          exact ⟨by rw [side_false HX.out (by rw [HOK.out]; simp)]; rfl, hbl2⟩
    · obtain rfl : kk = n := by omega
      have hall := Lib.hid (side_all (xs := xs) (fun j y hy => hno.out j y (by have := (List.getElem?_eq_some_iff.1 hy).1; omega) hy))
      go_wp2_with fail
      go_ret
      exact ⟨by rw [hall.out, hl]; simp; omega, hbl⟩
end Go.Proofs.YtkinbidpbgkaoaaDoor
