/-
  strings.Builder, in whatever block it lies first: copyCheck, WriteByte, WriteString, String.
-/
import Derived.Test.YtbningfdpibdkaaDoorMem
import Derived.Lib.FrozenHead2
import Derived.Lib.UnsafeStr
import Derived.Lib.Builder
import Derived.Lib.AppendStr
import Derived.ArgAppend
import Derived.RegionTactic
import Derived.Shelf.Strings.BuilderF
namespace Go.Proofs.YtbningfdpibdkaaDoor
open Go.RowKit
set_option linter.unusedVariables false
set_option linter.unusedSimpArgs false

section
variable {w w' : World} {F : Nat → Prop} {base : Nat} {e : TypeId} {size n : Nat} {v : Value} {xs : List Value}
theorem Turns.ownsF (h : Turns F w w') (ho : w.ownsRowF base e size v n xs) (hn : ∀ g, v.ownBlock = some g → ¬ F g) : w'.ownsRowF base e size v n xs := by
  refine ⟨ho.1, ho.2.imp id ?_⟩
  rintro ⟨g, cap, cur, fz, hv, hb, hc, hr⟩
  have hg : v.ownBlock = some g := by rw [hv]; rfl
  exact ⟨g, cap, cur, fz, hv, hb, by rw [h.block g (ho.lt g hg).2 (hn g hg)]; exact hc, hr⟩
theorem ownsF_mono {base' : Nat} (ho : w.ownsRowF base e size v n xs) (hb : base' ≤ base) : w.ownsRowF base' e size v n xs :=
  ⟨ho.1, ho.2.imp id fun ⟨g, cap, cur, fz, h1, h2, h3⟩ => ⟨g, cap, cur, fz, h1, Nat.le_trans hb h2, h3⟩⟩
theorem ownsF_len (h : w.ownsRowF base e size v n xs) : ∃ a c, v = .slice a n c ∧ n ≤ c := by
  rcases h.2 with ⟨h0, h1⟩ | ⟨g, cap, cur, fz, rfl, _, _, _, h1, _⟩
  · exact ⟨none, 0, by rw [h0, h1], by omega⟩
  · exact ⟨_, _, rfl, h1⟩
end
/-- append(buf, c), c laid in a new block of its own. -/
theorem wpList_app_F {P : Program} {wr : World} {ops : Array Oper} {rest : List Oper} {o : Oper} {a : Act} {Q : Exit → Act → World → Prop} (hgd : o.guard = none) (s x : Operand) (t : TypeId)
    (ho : o.op = .call { callee := .builtin .append, args := #[s, x], argTypes := #[t, t] })
    (base : Nat) (e : TypeId) (i : TypeInfo) (z : Value) (size bytes : Nat) (ht : P.underlying t = some (.slice e)) (hi : P.info? e = some i) (hz : i.zero = some z)
    (hsize : i.size = size) (hby : i.bytes = bytes) (hzs : z.cells.size = size) (hsz : 0 < size)
    (v : Value) (n : Nat) (xs : List Value) (hs : a.eval s = v) (hown : wr.ownsRowF base e size v n xs) (news : List Value) (g : Nat)
    (hx : a.eval x = .slice (some ⟨g, 0, none⟩) 1 1) (hge : g = wr.heap.size) (hl : news.length = size) (h1 : ∀ u ∈ news, u.oneCell' = true)
    (h63 : n + 1 ≤ maxLen) (hbytes : (n + 1) * bytes ≤ 140737488355328) (hbase : base ≤ wr.heap.size)
    (h : ∀ v' w', w'.ownsRowF base e size v' (n + 1) (xs ++ news) → wr.grownBy w' v.ownBlock → (∀ g, v'.ownBlock = some g → v.ownBlock = some g ∨ wr.heap.size ≤ g) → wpList P ops Q rest (a.put o.dst v') w') :
    wpList P ops Q (o :: rest) a (wr.alloc (.cells news.toArray e)) := by
  subst hge
  have hcell : ∀ j u, news[j]? = some u → (wr.alloc (.cells news.toArray e)).cell? ((⟨wr.heap.size, 0, none⟩ : Addr).add j) = some u := by
    intro j u hj
    rw [Addr.add_mid, Nat.zero_add, cell_of_row (wr.alloc (.cells news.toArray e)) wr.heap.size j news.toArray e (0, 0) (heap_alloc_new wr _)]
    simpa using hj
  have ha := fun row => World.grownBy_alloc wr (.cells news.toArray e) row
  have hback : ∀ {w' : World} {row : Option Nat}, (wr.alloc (.cells news.toArray e)).grownBy w' row → wr.grownBy w' row := fun {w' row} hg => grownBy_trans (ha row) hg
  have hownA := hown.kept (ha none) (by cases v.ownBlock <;> simp)
  refine wpList_plain hgd fun K hK => ?_
  have fin : ∀ v' w', (Builtin.append_ #[t, t] o.type #[v, .slice (some ⟨wr.heap.size, 0, none⟩) 1 1]).run P (wr.alloc (.cells news.toArray e)) = .ok v' w' → w'.ownsRowF base e size v' (n + 1) (xs ++ news) → wr.grownBy w' v.ownBlock → (∀ g, v'.ownBlock = some g → v.ownBlock = some g ∨ wr.heap.size ≤ g) → o.wp P a (wr.alloc (.cells news.toArray e)) K Q := by
    intro v' w' hrun h2 h3 h4
    unfold Oper.wp execOp
    simp only [ho, resolve, invoke, builtin, Sem.run_bind, Sem.run_pure, Result.andThen_ok, List.map_toArray, List.map_cons, List.map_nil, hs, hx, hrun]
    exact hK _ _ (h v' w' h2 h3 h4)
  rcases hown.2 with ⟨rfl, rfl⟩ | ⟨g, cap, cur, fz, rfl, hbg, hg, hfz, hnc, hcm, hcs, htake⟩
  · have hx0 : xs = [] := List.eq_nil_of_length_eq_zero (by rw [hown.1]; simp)
    subst hx0
    obtain ⟨v', w', hr, h2, h3, _⟩ := run_append_own (P := P) (wr.alloc (.cells news.toArray e)) wr.heap.size t o.type e i z size bytes ht hi hz hsize hby hzs hsz (.slice none 0 0) 0 [] (World.ownsRow_nil _ _ _ _) ⟨wr.heap.size, 0, none⟩ 1 1 news (by rw [hl]; omega) hcell h1 h63 hbytes (by simp)
    exact fin v' w' hr (ownsF_mono (World.ownsRowF_of h2) hbase) (hback h3) (fun g hg => .inr (h2.lt g hg).1)
  · subst hsize
    have hlt := (Array.getElem?_eq_some_iff.1 hg).1
    have hgA : (wr.alloc (.cells news.toArray e)).heap[g]? = some (.cells cur e fz) := by rw [heap_alloc_old _ _ hlt]; exact hg
    have hlen : (xs ++ news).length = (n + 1) * i.size := by rw [List.length_append, hown.1, hl, Nat.succ_mul]
    by_cases hroom : n + 1 ≤ cap
    · have hfit : n * i.size + news.length ≤ cur.size := by
        rw [hl, hcs]
        have := Nat.mul_le_mul_right i.size hroom
        rw [Nat.succ_mul] at this
        exact this
      have hr := run_append_roomF (P := P) (wr.alloc (.cells news.toArray e)) t o.type e i ht hi g n cap cur fz hgA hfz ⟨wr.heap.size, 0, none⟩ 1 1 news (by rw [hl]; omega) hcell h1 hroom hfit
      refine fin _ _ hr ⟨hlen, .inr ⟨g, cap, _, fz, rfl, hbg, setRow_heap _ g cur _ e _ hgA, Nat.le_trans hfz (Nat.mul_le_mul_right _ (Nat.le_add_right n 1)), hroom, hcm, ?_, ?_⟩⟩ (hback ⟨rfl, rfl, rfl, by simp, fun k _ hk => setRow_other _ g k _ (fun e => hk (by simp [Value.ownBlock, e]))⟩) (fun g' hg' => .inl hg')
      · simp only [List.size_toArray, List.length_append, List.length_take, List.length_drop, Array.length_toList]
        omega
      · rw [htake, ← hlen]
        exact List.take_left
    · have holds : ∀ j u, xs[j]? = some u → (wr.alloc (.cells news.toArray e)).cell? ((⟨g, 0, none⟩ : Addr).add j) = some u := hownA.cells (g := g) rfl
      obtain ⟨v', w', hr, h2, h3⟩ := run_append_arg_grows (P := P) (wr.alloc (.cells news.toArray e)) t o.type e i z i.size bytes ht hi hz rfl hby hzs hsz ⟨g, 0, none⟩ n cap xs hown.1 holds ⟨wr.heap.size, 0, none⟩ 1 1 news (by rw [hl]; omega) hcell (by omega) h63 hbytes
      have hsz2 : wr.heap.size ≤ (wr.alloc (.cells news.toArray e)).heap.size := by simp
      exact fin v' w' hr (ownsF_mono (World.ownsRowF_of h2) (Nat.le_trans hbase hsz2)) (hback (grown_but h3 _)) (fun g' hg' => .inr (Nat.le_trans hsz2 (h2.lt g' hg').1))
def NilOf (k : Nat) (v : Value) : Prop := k = 0 → v = .slice none 0 0
/-- append(buf, s...), s a string. -/
theorem wpList_app_strF {P : Program} {w : World} {ops : Array Oper} {rest : List Oper} {o : Oper} {a : Act} {Q : Exit → Act → World → Prop} (hgd : o.guard = none) (sl x : Operand) (t u : TypeId)
    (ho : o.op = .call { callee := .builtin .append, args := #[sl, x], argTypes := #[t, u] })
    (base : Nat) (e : TypeId) (i : TypeInfo) (ht : P.underlying t = some (.slice e)) (hu : P.underlying u = some .string) (hi : P.info? e = some i) (hz : i.zero = some (.int .u8 0))
    (hsize : i.size = 1) (hby : i.bytes = 1)
    (v : Value) (n : Nat) (xs : List Value) (hs : a.eval sl = v) (hown : w.ownsRowF base e 1 v n xs) (hnil : n = 0 → v = .slice none 0 0) (s : ByteArray) (hx : a.eval x = .string s)
    (h63 : n + s.size ≤ maxLen) (hbytes : n + s.size ≤ 140737488355328) (hbase : base ≤ w.heap.size)
    (h : ∀ v' w', w'.ownsRowF base e 1 v' (n + s.size) (xs ++ Lib.strCells s) → w.grownBy w' v.ownBlock → (∀ g, v'.ownBlock = some g → v.ownBlock = some g ∨ w.heap.size ≤ g) → NilOf (n + s.size) v' → wpList P ops Q rest (a.put o.dst v') w') : wpList P ops Q (o :: rest) a w := by
  refine wpList_plain hgd fun K hK => ?_
  have fin : ∀ v' w', (Builtin.append_ #[t, u] o.type #[v, .string s]).run P w = .ok v' w' → w'.ownsRowF base e 1 v' (n + s.size) (xs ++ Lib.strCells s) → w.grownBy w' v.ownBlock → (∀ g, v'.ownBlock = some g → v.ownBlock = some g ∨ w.heap.size ≤ g) → NilOf (n + s.size) v' → o.wp P a w K Q := by
    intro v' w' hrun h2 h3 h4 h5
    unfold Oper.wp execOp
    simp only [ho, resolve, invoke, builtin, Sem.run_bind, Sem.run_pure, Result.andThen_ok, List.map_toArray, List.map_cons, List.map_nil, hs, hx, hrun]
    exact hK _ _ (h v' w' h2 h3 h4 h5)
  rcases hown.2 with ⟨rfl, rfl⟩ | ⟨g, cap, cur, fz, rfl, hbg, hg, hfz, hnc, hcm, hcs, htake⟩
  · have hx0 : xs = [] := List.eq_nil_of_length_eq_zero (by rw [hown.1])
    subst hx0
    obtain ⟨v', w', hr, h2, h3, hz4⟩ := Lib.run_append_own_string (P := P) w w.heap.size t u o.type e i ht hu hi hz hsize hby (.slice none 0 0) 0 [] (World.ownsRow_nil _ _ _ _) s h63 hbytes (Nat.le_refl _)
    exact fin v' w' hr (ownsF_mono (World.ownsRowF_of h2) hbase) h3 (fun g hg => .inr (h2.lt g hg).1) (fun h0 => hz4.2 ⟨rfl, by omega⟩)
  · by_cases hroom : n + s.size ≤ cap
    · have hxl : xs.length = n := by simpa using hown.1
      have hcs' : cur.size = cap := by simpa using hcs
      have hlen : (xs ++ Lib.strCells s).length = (n + s.size) * 1 := by rw [List.length_append, hxl, Lib.strCells_length, Nat.mul_one]
      have hr := Lib.run_append_room_stringF (P := P) w t u o.type e i ht hu hi hsize g n cap cur fz hg (by simpa using hfz) s hroom (by omega)
      refine fin _ _ hr ⟨hlen, .inr ⟨g, cap, _, fz, rfl, hbg, setRow_heap w g cur _ e _ hg, by omega, hroom, hcm, ?_, ?_⟩⟩ ⟨rfl, rfl, rfl, by simp, fun k _ hk => setRow_other w g k _ (fun e => hk (by simp [Value.ownBlock, e]))⟩ (fun g' hg' => .inl hg') (fun h0 => by have := hnil (by omega); cases this)
      · simp only [List.size_toArray, List.length_append, List.length_take, List.length_drop, Array.length_toList, Lib.strCells_length]
        omega
      · have ht' : cur.toList.take n = xs := by simpa using htake
        rw [ht', ← hlen]
        exact List.take_left
    · have hxl : xs.length = n := by simpa using hown.1
      have holds : ∀ j u, xs[j]? = some u → w.cell? ((⟨g, 0, none⟩ : Addr).add j) = some u := hown.cells (g := g) rfl
      have hr := Lib.run_append_grow_string (P := P) w t u o.type e i (.int .u8 0) ht hu hi hz ⟨g, 0, none⟩ n cap xs (by rw [hsize]; simpa using hxl) holds s (by omega) (by unfold maxLen at h63; omega) (by rw [hby]; exact growslice_fits (by unfold maxLen at h63; omega) (by omega))
      have hge := grownCap_ge w (n + s.size) cap e
      have hcm2 : grownCap w (n + s.size) cap e ≤ maxLen := grownCap_le_maxLen w (n + s.size) cap e h63
      have hlen : (xs ++ Lib.strCells s).length = (n + s.size) * 1 := by rw [List.length_append, hxl, Lib.strCells_length, Nat.mul_one]
      refine fin _ _ hr ⟨hlen, .inr ⟨w.heap.size, _, _, (0, 0), rfl, hbase, heap_alloc_new w.drew _, Nat.zero_le _, hge, hcm2, ?_, ?_⟩⟩ ⟨rfl, rfl, rfl, by simp, fun k hk _ => heap_alloc_old w.drew _ hk⟩ (fun g' hg' => .inr (by simp [Value.ownBlock] at hg'; omega)) (fun h0 => by have := hnil (by omega); cases this)
      · have hz1 : (Value.int IntKind.u8 0).cells.size = 1 := rfl
        simp only [Array.size_append, List.size_toArray, size_zeroCells, hz1, hxl, Lib.strCells_length]
        omega
      · simp only [Array.toList_append, List.append_assoc]
        rw [← List.append_assoc, ← hlen]
        exact List.take_left
end Go.Proofs.YtbningfdpibdkaaDoor
