/-
  book: the document's Drop, Cut.
-/
import Derived.Test.YtdebldpmloignaaDoorBokU
namespace Go.Proofs.YtdebldpmloignaaDoor
open Go.RowKit
set_option linter.unusedVariables false
set_option linter.unusedSimpArgs false

set_option maxRecDepth 100000 in
set_option maxHeartbeats 1000000 in
theorem rdrop_none (B u : Nat) (L : List Ord) (v : Value) (came : Nat) (id : Int) (w : World) (h : Hid (RV w B u L v came)) (hN : L.length ≤ 1000000) (hf : L.findIdx? (hasId id) = none) :
    Calls Tryd.prog 55 #[.pointer (some ⟨u, 0, none⟩), .int .i64 id] w fun e w' => e = .returned (.tuple #[.agg #[.int .i64 0, .int .i64 0, .bool false, .int .i64 0, .int .i64 0, .int .i64 0], .int .i64 5]) ∧ Below w.heap.size w w' := by
  have hb0 : Below w.heap.size w (w.alloc (.cells #[.int .i64 0, .int .i64 0, .bool false, .int .i64 0, .int .i64 0, .int .i64 0] 97)) := (Below.refl _ w).alloc (Nat.le_refl _) _
  have HF := Lib.hid (rat_c B u L v came id (w.alloc (.cells #[.int .i64 0, .int .i64 0, .bool false, .int .i64 0, .int .i64 0, .int .i64 0] 97)) (Lib.hid (h.out.below hb0)) hN)
  rw [at_of_none hf] at HF
  have hR0 : (w.alloc (.cells #[.int .i64 0, .int .i64 0, .bool false, .int .i64 0, .int .i64 0, .int .i64 0] 97)).heap[w.heap.size]? = some (.cells #[.int .i64 0, .int .i64 0, .bool false, .int .i64 0, .int .i64 0, .int .i64 0] 97 (0, 0)) := heap_alloc_new w _
  have HB0 := Lib.hid hb0
  clear hf h hb0
  go_enter Tryd.func55, Tryd.ntmps55
  go_wp2_with fail
  refine HF.out.mono ?_
  rintro e w1 ⟨rfl, rfl⟩
  go_wp2_with (refine wpList_store_row rfl 97 _ _ rfl w.heap.size #[.int .i64 0, .int .i64 0, .bool false, .int .i64 0, .int .i64 0, .int .i64 0] rfl rfl 97 #[.int .i64 0, .int .i64 0, .bool false, .int .i64 0, .int .i64 0, .int .i64 0] hR0 size_ror rfl (by kernel_rfl) ?_)
  exact bodyPost_pair Tryd.results55 rfl w.heap.size rfl #[.int .i64 0, .int .i64 0, .bool false, .int .i64 0, .int .i64 0, .int .i64 0] _ (0, 0) (setRow_heap _ _ _ _ _ _ hR0) _ Tryd.underlying97 rfl 6 size_ror rfl (.int .i64 5) rfl ⟨rfl, below_setRow' HB0.out (Nat.le_refl _) _⟩
theorem rturns_setRow (w : World) (g : Nat) (cs : Array Value) : Turns (fun k => k = g) w (w.setRow g cs) := ⟨rfl, rfl, rfl, by simp [World.setRow], fun k hk hn => setRow_other w g k cs hn⟩
theorem RV.setRow {w : World} {B u came X : Nat} {L : List Ord} {v : Value} {cs : Array Value} (h : RV w B u L v came) (hu : u ≠ X) (hv : v.ownBlock ≠ some X) : RV (w.setRow X cs) B u L v came :=
  ⟨h.low, (rturns_setRow w X cs).blk h.blk hu, (rturns_setRow w X cs).owns h.row (fun g hg e => hv (by rw [hg, e]))⟩
theorem RStep.setRow {w w1 : World} {B X : Nat} {cs : Array Value} (h : RStep w w1 B) (hX : w.heap.size ≤ X) (hB : B ≤ w.heap.size) : RStep w (w1.setRow X cs) B := by
  have hset := rturns_setRow w1 X cs
  exact ⟨h.below.trans (hset.below (Nat.le_trans hB h.size) (fun k hk => by omega)), Nat.le_trans h.size hset.size, fun k c t hk h1 h2 => (hset.block k (Nat.lt_of_lt_of_le hk.lt h.size) (fun e => by have := hk.lt; omega)).trans (h.block k c t hk h1 h2)⟩
theorem src_below {α : Type} {w w' : World} {enc : α → List Value} {k : Nat} {A : Option Addr} {n : Nat} {l : List α} (h : RdRows w w.heap.size enc k A n l) (hb : Below w.heap.size w w') : RdRows w' w.heap.size enc k A n l := h.below hb (Nat.le_refl _)
set_option maxRecDepth 100000 in
set_option maxHeartbeats 4000000 in
theorem rdrop_ok (B u : Nat) (L : List Ord) (v : Value) (came : Nat) (id : Int) (i : Nat) (x : Ord) (w : World) (hB : B ≤ w.heap.size) (h : Hid (RV w B u L v came)) (hN : L.length ≤ 100000) (hf : L.findIdx? (hasId id) = some i) (hx : L[i]? = some x) :
    Calls Tryd.prog 55 #[.pointer (some ⟨u, 0, none⟩), .int .i64 id] w fun e w' => e = .returned (.tuple #[.agg x.cells.toArray, .int .i64 0]) ∧ ∃ v', RV w' B u (L.eraseIdx i) v' came ∧ RStep w w' B := by
  obtain ⟨i0, hi, hz0, hz1, hz2⟩ := info_parts info_ror
  have hb0 : Below w.heap.size w (w.alloc (.cells #[.int .i64 0, .int .i64 0, .bool false, .int .i64 0, .int .i64 0, .int .i64 0] 97)) := (Below.refl _ w).alloc (Nat.le_refl _) _
  have HF := Lib.hid (rat_c B u L v came id (w.alloc (.cells #[.int .i64 0, .int .i64 0, .bool false, .int .i64 0, .int .i64 0, .int .i64 0] 97)) (Lib.hid (h.out.below hb0)) (by omega))
  rw [at_of_some hf] at HF
  have hil : i < L.length := (List.getElem?_eq_some_iff.1 hx).1
  obtain ⟨A, c, hvv, hrd, cq0, hAc, hLc⟩ := h.out.form
  subst hvv
  obtain ⟨g, off, hA, hg, hrows⟩ := hrd.2 (by omega)
  subst hA
  obtain ⟨xi, xt, xs, xp, xl, xq⟩ := x
  have r0 : w.rangeAt g (off + i * 6) [.int .i64 xi, .int .i64 xt, .bool xs, .int .i64 xp, .int .i64 xl, .int .i64 xq] := hrows i _ hx
  obtain ⟨W1, hW1⟩ : ∃ W1, W1 = w.alloc (.cells #[.int .i64 0, .int .i64 0, .bool false, .int .i64 0, .int .i64 0, .int .i64 0] 97) := ⟨_, rfl⟩
  have hR1 : Blk W1 w.heap.size #[.int .i64 0, .int .i64 0, .bool false, .int .i64 0, .int .i64 0, .int .i64 0] 97 := by rw [hW1]; exact Blk.new w _ _
  have hb1 : Below w.heap.size w W1 := by rw [hW1]; exact hb0
  have hs1 : W1.heap.size = w.heap.size + 1 := by rw [hW1]; simp
  rw [← hW1] at HF
  have r1 := rangeAt_below r0 hb1 hg
  have cq1 := (hb1.cell (p := ⟨u, 0, none⟩) h.out.lt).trans cq0
  have HW1 := Lib.hid hW1
  have HB1 := Lib.hid hb1
  clear hf hb0 hrows hx hW1
  simp only [Ord.cells] at *
  go_enter Tryd.func55, Tryd.ntmps55
  go_wp2_with fail
  rw [← HW1.out]
  refine HF.out.mono ?_
  rintro e w1 ⟨rfl, rfl⟩
  have hin : (i : Int) < (L.length : Int) := by omega
  obtain ⟨W2, hW2⟩ : ∃ W2, W2 = W1.alloc (.cells #[.int .i64 xi, .int .i64 xt, .bool xs, .int .i64 xp, .int .i64 xl, .int .i64 xq] 97) := ⟨_, rfl⟩
  have hs2 : W2.heap.size = w.heap.size + 1 + 1 := by rw [hW2]; simp [hs1]
  have hb12 : Below W1.heap.size W1 W2 := by rw [hW2]; exact (Below.refl _ _).alloc (Nat.le_refl _) _
  have hR2 : Blk W2 (w.heap.size + 1) #[.int .i64 xi, .int .i64 xt, .bool xs, .int .i64 xp, .int .i64 xl, .int .i64 xq] 97 := by rw [hW2, ← hs1]; exact Blk.new W1 _ _
  have hb23 : Below W2.heap.size W2 (W2.alloc (.cells #[] 97)) := (Below.refl _ _).alloc (Nat.le_refl _) _
  have hbw2 : Below w.heap.size w W2 := HB1.out.trans (hb12.mono (by rw [hs1]; omega))
  have hbw3 : Below w.heap.size w (W2.alloc (.cells #[] 97)) := hbw2.trans (hb23.mono (by rw [hs2]; omega))
  have hemp : (W2.alloc (.cells #[] 97)).ownsRow (w.heap.size + 1 + 1) 97 6 (.slice (some ⟨w.heap.size + 1 + 1, 0, none⟩) 0 0) ([] : List Ord).length (flatOf Ord.cells ([] : List Ord)) := by
    have := own_empty (w := W2) (e := 97) (size := 6) (Nat.le_refl _)
    rw [hs2] at this
    exact this
  have HEMP := Lib.hid hemp
  have cq3 : (W2.alloc (.cells #[] 97)).cell? ⟨u, 0, none⟩ = some (.slice (some ⟨g, off, none⟩) L.length c) := (hbw3.cell (p := ⟨u, 0, none⟩) h.out.lt).trans cq0
  have HRD3 := Lib.hid (src_below hrd hbw3)
  have HRD := Lib.hid hrd
  have HQ0 := Lib.hid cq0
  have HULT := Lib.hid h.out.lt
  have HR1 := Lib.hid hR1
  have HR2 := Lib.hid hR2
  have HS1 := Lib.hid hs1
  have HS2 := Lib.hid hs2
  have HB12 := Lib.hid hb12
  have HB23 := Lib.hid hb23
  have HBW2 := Lib.hid hbw2
  obtain ⟨oA, hoA⟩ : ∃ z, z = L.take i := ⟨_, rfl⟩
  obtain ⟨oB, hoB⟩ : ∃ z, z = L.drop (i + 1) := ⟨_, rfl⟩
  have HOA := Lib.hid hoA
  have HOB := Lib.hid hoB
  have HLA : Hid (oA.length = i) := by show _ = _; rw [hoA, List.length_take]; omega
  have HLB : Hid (oB.length = L.length - (i + 1)) := by show _ = _; rw [hoB, List.length_drop]
  have HER : Hid (oA ++ oB = L.eraseIdx i) := by show _ = _; rw [hoA, hoB, List.eraseIdx_eq_take_drop_succ]
  have hi1 : i + 1 ≤ L.length := hil
  have hiw : IntKind.i64.wrap ((i : Int) + 1) = ((i + 1 : Nat) : Int) := by rw [IntKind.wrap_i64]; omega
  have HV := Lib.hid h.out
  subst hW2
  clear hoA hoB hb12 hb23 hbw2 hbw3 hR1 hR2 hrd cq0 r0 h hs2 hemp
  go_wp2_with (first
    | (refine wpList_load_mid rfl 97 _ rfl g (off + i * 6) rfl [.int .i64 xi, .int .i64 xt, .bool xs, .int .i64 xp, .int .i64 xl, .int .i64 xq] _ r1 Tryd.underlying97 rfl size_ror ?_)
    | (refine wpList_cutV_h (enc := Ord.cells) rfl 92 _ _ rfl 97 i0 Tryd.underlying92 hi 6 hz1 _ L.length c rfl i .i64 rfl (Nat.le_of_lt hil) hLc hAc w.heap.size L HRD3.out ?_; intro v2 hsrc2; rw [← HOA.out] at hsrc2)
    | (at_builtin; refine wpList_append_src (enc := Ord.cells) rfl _ _ 92 rfl (w.heap.size + 1 + 1) 97 i0 (.agg #[.int .i64 0, .int .i64 0, .bool false, .int .i64 0, .int .i64 0, .int .i64 0]) 6 48 Tryd.underlying92 hi hz0 hz1 hz2 rfl (by decide) Ord.k6 Ord.one _ ([] : List Ord) rfl HEMP.out v2 i oA rfl hsrc2 ?ca0 ?ca1 (by rw [World.size_alloc, HS2.out]; omega) ?_))
  case ca0 => unfold maxLen; simp; omega
  case ca1 => simp; omega
  intro v3 w3 hown3 hg3
  have hown3 : w3.ownsRow (w.heap.size + 1 + 1) 97 6 v3 oA.length (flatOf Ord.cells oA) := hown3
  have hb3 : Below (w.heap.size + 1 + 1) (W1.alloc (.cells #[.int .i64 xi, .int .i64 xt, .bool xs, .int .i64 xp, .int .i64 xl, .int .i64 xq] 97)) w3 := below_app (B := w.heap.size + 1 + 1) (by have := HB23.out; rw [HS2.out] at this; exact this) (by rw [World.size_alloc, HS2.out]; omega) (Nat.le_refl _) HEMP.out hg3
  obtain ⟨a3, c3, rfl⟩ := own_len hown3
  have HO3 := Lib.hid hown3
  have HB3 := Lib.hid hb3
  have hbw : Below w.heap.size w w3 := HBW2.out.trans (hb3.mono (by omega))
  have cq4 := (hbw.cell (p := ⟨u, 0, none⟩) HULT.out).trans HQ0.out
  have HRD4 := Lib.hid (src_below HRD.out hbw)
  have hsz3 : w.heap.size + 1 + 1 ≤ w3.heap.size := by have := hb3.size; rw [HS2.out] at this; exact this
  clear hown3 hg3 hsrc2 hb3 hbw cq3
  go_wp2_with (first
    | (refine wpList_cutV (enc := Ord.cells) rfl 92 _ _ rfl 97 i0 Tryd.underlying92 hi 6 hz1 _ L.length c rfl (i + 1) .i64 (by first | rfl | exact congrArg _ hiw) hi1 hLc hAc w.heap.size L HRD4.out ?_; intro v5 hsrc5; rw [← HOB.out] at hsrc5)
    | (at_builtin; refine wpList_append_src (enc := Ord.cells) rfl _ _ 92 rfl (w.heap.size + 1 + 1) 97 i0 (.agg #[.int .i64 0, .int .i64 0, .bool false, .int .i64 0, .int .i64 0, .int .i64 0]) 6 48 Tryd.underlying92 hi hz0 hz1 hz2 rfl (by decide) Ord.k6 Ord.one _ oA rfl HO3.out v5 (L.length - (i + 1)) oB rfl hsrc5 ?cb0 ?cb1 hsz3 ?_))
  case cb0 => have := HLA.out; unfold maxLen; omega
  case cb1 => have := HLA.out; omega
  intro v6 w6 hown6 hg6
  have hlen6 : oA.length + oB.length = (L.eraseIdx i).length := by rw [← HER.out]; simp
  have hown6 : w6.ownsRow (w.heap.size + 1 + 1) 97 6 v6 (L.eraseIdx i).length (flatOf Ord.cells (L.eraseIdx i)) := by
    rw [← hlen6, ← HER.out]
    simpa using hown6
  have hb6 := below_app (B := w.heap.size + 1 + 1) HB3.out hsz3 (Nat.le_refl _) HO3.out hg6
  have hbw6 : Below w.heap.size w w6 := HBW2.out.trans (hb6.mono (by omega))
  obtain ⟨a6, c6, rfl⟩ := own_len hown6
  have cq6 := (hbw6.cell (p := ⟨u, 0, none⟩) HULT.out).trans HQ0.out
  have hu6 := (HV.out.below hbw6).blk
  have fq6 : w6.frozen? ⟨u, 0, none⟩ = false := hu6.free 0
  obtain ⟨W7, hW7⟩ : ∃ W7, W7 = w6.setCell ⟨u, 0, none⟩ (.slice a6 (L.eraseIdx i).length c6) := ⟨_, rfl⟩
  have hput := HV.out.put (L2 := L.eraseIdx i) (grown_of_below hbw6 _) (hown6.mono (by omega : B ≤ w.heap.size + 1 + 1))
  have huX : u ≠ w.heap.size := by have := HULT.out; omega
  have huX1 : u ≠ w.heap.size + 1 := by have := HULT.out; omega
  have hset : Turns (fun k => k = u) w6 W7 := by rw [hW7]; exact Turns.set (F := fun k => k = u) rfl
  have hX6 : Blk w6 w.heap.size #[.int .i64 0, .int .i64 0, .bool false, .int .i64 0, .int .i64 0, .int .i64 0] 97 := HR1.out.of ((hb6.block _ (by omega)).trans (HB12.out.block _ HR1.out.lt))
  have hY6 : Blk w6 (w.heap.size + 1) #[.int .i64 xi, .int .i64 xt, .bool xs, .int .i64 xp, .int .i64 xl, .int .i64 xq] 97 := HR2.out.of (hb6.block _ (by omega))
  have hX7 : W7.heap[w.heap.size]? = some (.cells #[.int .i64 0, .int .i64 0, .bool false, .int .i64 0, .int .i64 0, .int .i64 0] 97 (0, 0)) := hset.blk hX6 (fun e => huX e.symm)
  have hY7 : Blk W7 (w.heap.size + 1) #[.int .i64 xi, .int .i64 xt, .bool xs, .int .i64 xp, .int .i64 xl, .int .i64 xq] 97 := hset.blk hY6 (fun e => huX1 e.symm)
  have r7 : W7.rangeAt (w.heap.size + 1) 0 [.int .i64 xi, .int .i64 xt, .bool xs, .int .i64 xp, .int .i64 xl, .int .i64 xq] := fun j x hj => by
    rw [Nat.zero_add]
    exact hY7.cell j x (by simpa using hj)
  have hv6 : (Value.slice a6 (L.eraseIdx i).length c6).ownBlock ≠ some w.heap.size := fun e => by have := (hown6.lt _ e).1; omega
  have HEND : Hid (RV (W7.setRow w.heap.size #[.int .i64 xi, .int .i64 xt, .bool xs, .int .i64 xp, .int .i64 xl, .int .i64 xq]) B u (L.eraseIdx i) (.slice a6 (L.eraseIdx i).length c6) came ∧ RStep w (W7.setRow w.heap.size #[.int .i64 xi, .int .i64 xt, .bool xs, .int .i64 xp, .int .i64 xl, .int .i64 xq]) B) := by
    rw [← hW7] at hput
    exact ⟨hput.1.setRow huX hv6, hput.2.setRow (Nat.le_refl _) hB⟩
  have HLEN := Lib.hid hlen6
  rw [hW7] at hX7 r7
  clear hown6 hg6 hsrc5 hb6 hbw6 hu6 hput hset hX6 hY6 hY7 hv6 hlen6
  go_wp2_with (first
    | (refine wpList_load_mid rfl 97 _ rfl (w.heap.size + 1) 0 rfl [.int .i64 xi, .int .i64 xt, .bool xs, .int .i64 xp, .int .i64 xl, .int .i64 xq] _ r7 Tryd.underlying97 rfl size_ror ?_)
    | (refine wpList_store_row rfl 97 _ _ rfl w.heap.size #[.int .i64 xi, .int .i64 xt, .bool xs, .int .i64 xp, .int .i64 xl, .int .i64 xq] rfl rfl 97 #[.int .i64 0, .int .i64 0, .bool false, .int .i64 0, .int .i64 0, .int .i64 0] hX7 size_ror rfl (by simp [Value.oneCell']) ?_))
  rw [← hW7]
  rw [← hW7] at hX7
  exact bodyPost_pair Tryd.results55 rfl w.heap.size rfl #[.int .i64 xi, .int .i64 xt, .bool xs, .int .i64 xp, .int .i64 xl, .int .i64 xq] _ (0, 0) (setRow_heap _ _ _ _ _ _ hX7) _ Tryd.underlying97 rfl 6 size_ror rfl (.int .i64 0) rfl ⟨rfl, _, HEND.out⟩
end Go.Proofs.YtdebldpmloignaaDoor
