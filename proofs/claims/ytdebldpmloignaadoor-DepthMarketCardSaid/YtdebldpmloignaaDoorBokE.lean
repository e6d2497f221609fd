/-
  book: Drop, of an order that stands there.
-/
import Derived.Test.YtdebldpmloignaaDoorBokX
namespace Go.Proofs.YtdebldpmloignaaDoor
open Go.RowKit
set_option linter.unusedVariables false
set_option linter.unusedSimpArgs false

def DropQ (w : World) (B q : Nat) (v : Bool → Value) (x : Ord) (l' : Bool → List Ord) (came : Nat) (e : Ending) (w' : World) : Prop := e = .returned (.tuple #[.agg x.cells.toArray, .nilIface]) ∧ ∃ v', BS w w' B q v l' v' came
theorem turns_setRow {F : Nat → Prop} {w : World} {g : Nat} (hF : F g) (cs : Array Value) : Turns F w (w.setRow g cs) :=
  ⟨rfl, rfl, rfl, by simp [World.setRow], fun k hk hn => setRow_other w g k cs (fun e => hn (by rw [e]; exact hF))⟩
theorem BS.setRow {w w1 : World} {B q R : Nat} {v v' : Bool → Value} {l' : Bool → List Ord} {c' : Nat} (h : BS w w1 B q v l' v' c') (hR : w.heap.size ≤ R) (ha : Away q v' R) (cs : Array Value) : BS w (w1.setRow R cs) B q v l' v' c' :=
  ⟨h.out.turns (turns_setRow (F := fun k => k = R) rfl cs) (fun k hk e => ha k hk e), h.turns.trans (turns_setRow (F := fun k => k = R) rfl cs) (fun k hk e => by omega), h.own⟩
set_option maxRecDepth 100000 in
set_option maxHeartbeats 1000000 in
theorem drop_ok (B q : Nat) (l : Bool → List Ord) (v : Bool → Value) (came : Nat) (id : Int) (s : Bool) (i : Nat) (x : Ord) (w : World) (h : Hid (BV w B q l v came)) (hN : ∀ s, (l s).length ≤ 1000000) (hf : fnd l id = some (s, i)) (hx : (l s)[i]? = some x) :
    Calls Tryd.prog 47 #[.pointer (some ⟨q, 0, none⟩), .int .i64 id] w (DropQ w B q v x (updL l s ((l s).eraseIdx i)) came) := by
  have hin : i < (l s).length := (List.getElem?_eq_some_iff.1 hx).1
  obtain ⟨W0, hW0⟩ : ∃ W0, W0 = w.alloc (.cells #[.int .i64 0, .int .i64 0, .bool false, .int .i64 0, .int .i64 0, .int .i64 0] 67) := ⟨_, rfl⟩
  have hb0 : Below w.heap.size w W0 := by rw [hW0]; exact alloc1 _ _
  obtain ⟨R, hR⟩ : ∃ R, R = w.heap.size := ⟨_, rfl⟩
  have hR0 : Blk W0 R #[.int .i64 0, .int .i64 0, .bool false, .int .i64 0, .int .i64 0, .int .i64 0] 67 := by rw [hW0, hR]; exact Blk.new w _ _
  have HV0 := Lib.hid (h.out.below hb0)
  have HF := Lib.hid (find_c B q l v came id W0 HV0 hN)
  rw [hf] at HF
  obtain ⟨g, cap, cur, hv, hnc, hcm, hbg, hblk, hcs, hrows⟩ := own_rows' Ord.k6 (HV0.out.row s) rfl (by omega)
  have r0 : W0.rangeAt g (i * 6) x.cells := by
    have := hrows i x hx
    rwa [Nat.zero_add] at this
  have gq0 : W0.cell? ⟨q, offS s, none⟩ = some (.slice (some ⟨g, 0, none⟩) (l s).length cap) := by rw [← hv]; exact HV0.out.cell s
  have hAR : Away q v R := h.out.away (by omega)
  have hq0 := HV0.out.lt
  have hg0 : g < W0.heap.size := (Array.getElem?_eq_some_iff.1 hblk).1
  have HDEL : Hid (∀ W2, Below W0.heap.size W0 W2 → Calls Tryd.prog 87 #[.slice (some ⟨g, 0, none⟩) (l s).length cap, .int .i64 i, .int .i64 ((i : Int) + 1)] W2 fun e w' => ∃ a c, e = .returned (.slice a ((l s).length - 1) c) ∧ BS w (w'.setCell ⟨q, offS s, none⟩ (.slice a ((l s).length - 1) c)) B q v (updL l s ((l s).eraseIdx i)) (updV v s (.slice a ((l s).length - 1) c)) came ∧ w'.frozen? ⟨q, offS s, none⟩ = false ∧ w'.cell? ⟨q, offS s, none⟩ = some (.slice (some ⟨g, 0, none⟩) (l s).length cap) ∧ W2.grownBy w' (some g) ∧ Away q (updV v s (.slice a ((l s).length - 1) c)) R) := fun W2 hb => by
    have hst : BS w W2 B q v l v came := (BS.ofBelow h.out hb0).trans (BS.ofBelow HV0.out hb)
    have hrow := hst.out.row s
    rw [hv] at hrow
    refine (delete_ord B (.slice (some ⟨g, 0, none⟩) (l s).length cap) (l s).length i (l s) W2 rfl hrow hin).mono ?_
    rintro e w' ⟨v', rfl, ho, hg, hob⟩
    obtain ⟨a, c, rfl⟩ := own_len ho
    have e2 : ((l s).eraseIdx i).length = (l s).length - 1 := List.length_eraseIdx_of_lt hin
    have hp := hst.out.put (s := s) (x := (l s).eraseIdx i) (w1 := w') (v1 := .slice a ((l s).length - 1) c) (by rw [hv]; exact hg) (by rw [e2]; exact ho) (.inl (by rw [hob, hv]))
    have hqg : q ≠ g := fun e => h.out.notq s (by rw [hv, ← e]; rfl)
    have hbk : w'.heap[q]? = W2.heap[q]? := hg.block q hst.out.lt (by
      intro e
      have h2 : some q = some g := e
      cases h2
      exact hqg rfl)
    refine ⟨a, c, rfl, hst.trans hp, ?_, ?_, hg, ?_⟩
    · rw [World.frozen?_of_block (w := W2) (a := ⟨q, offS s, none⟩) hbk]
      exact hst.out.blk.free (offS s)
    · rw [World.cell?_of_block (w := W2) (a := ⟨q, offS s, none⟩) hbk, ← hv]
      exact hst.out.cell s
    · exact hp.away (by have := hb.size; have := hR0.lt; omega) hAR
  have hqR : q ≠ R := fun e => hAR q (.inl rfl) e
  have hgR : g ≠ R := fun e => hAR g (.inr ⟨s, by rw [hv]; rfl⟩) e
  have HR0 := Lib.hid hR0
  have HGQ := Lib.hid gq0
  have HRR := Lib.hid r0
  have HW0 := Lib.hid hW0
  have HRE := Lib.hid hR
  have hil : (i : Int) ≤ 1000000 := by have := hN s; omega
  obtain ⟨LR, hLR⟩ : ∃ LR, LR = updL l s ((l s).eraseIdx i) := ⟨_, rfl⟩
  rw [← hLR] at HDEL ⊢
  generalize (l s).length = n at *
  have hin' : (i : Int) < (n : Int) := by omega
  have HQ0 := Lib.hid hq0
  have HG0 := Lib.hid hg0
  clear hf hx h hN hrows hblk hcs hbg hcm hnc hv r0 gq0 hW0 hb0 hR hR0 hAR hLR hq0 hg0 HV0
  obtain ⟨oid, oten, osell, opr, olots, oseq⟩ := x
  simp only [Ord.cells] at HRR
  go_enter Tryd.func47, Tryd.ntmps47
  go_wp2_with fail
  rw [← HW0.out, ← HRE.out]
  refine HF.out.mono ?_
  rintro e W1 ⟨rfl, hb1⟩
  have HB1 := Lib.hid hb1
  have gq := (hb1.cell (p := ⟨q, offS s, none⟩) HQ0.out).trans HGQ.out
  have r1 := rangeAt_below HRR.out hb1 HG0.out
  have gq2 : (W1.alloc (.cells #[.int .i64 oid, .int .i64 oten, .bool osell, .int .i64 opr, .int .i64 olots, .int .i64 oseq] 67)).cell? ⟨q, offS s, none⟩ = some (.slice (some ⟨g, 0, none⟩) n cap) := Lib.cell?_alloc_some _ gq
  clear hb1
  unfold fndV
  go_wp2_with (refine wpList_load_mid rfl 67 _ rfl g (i * 6) rfl [.int .i64 oid, .int .i64 oten, .bool osell, .int .i64 opr, .int .i64 olots, .int .i64 oseq] _ r1 Tryd.underlying67 rfl size_ord ?_)
  obtain ⟨W2, hW2⟩ : ∃ W2, W2 = W1.alloc (.cells #[.int .i64 oid, .int .i64 oten, .bool osell, .int .i64 opr, .int .i64 olots, .int .i64 oseq] 67) := ⟨_, rfl⟩
  obtain ⟨XB, hXB⟩ : ∃ XB, XB = W1.heap.size := ⟨_, rfl⟩
  have hb2 : Below W1.heap.size W1 W2 := by rw [hW2]; exact alloc1 _ _
  have HX2 : Hid (Blk W2 XB #[.int .i64 oid, .int .i64 oten, .bool osell, .int .i64 opr, .int .i64 olots, .int .i64 oseq] 67) := by show Blk _ _ _ _; rw [hW2, hXB]; exact Blk.new W1 _ _
  have HB2 : Hid (Below W0.heap.size W0 W2) := HB1.out.trans (hb2.mono HB1.out.size)
  have hXg : XB ≠ g := by have := HG0.out; have := HB1.out.size; omega
  have hXq : XB ≠ q := by have := HQ0.out; have := HB1.out.size; omega
  have hXR : XB ≠ R := by have := HR0.out.lt; have := HB1.out.size; omega
  rw [← hW2, ← hXB]
  clear hW2 hb2 r1 gq gq2 hXB
  refine (HDEL.out W2 HB2.out).mono ?_
  rintro e W3 ⟨a, c, rfl, hbs, fq3, gq3, hg3, ha3⟩
  have hx4 : Blk (W3.setCell ⟨q, offS s, none⟩ (.slice a (n - 1) c)) XB #[.int .i64 oid, .int .i64 oten, .bool osell, .int .i64 opr, .int .i64 olots, .int .i64 oseq] 67 :=
    (Turns.set (F := fun k => k = q) rfl).blk ((Turns.of_grown hg3).blk HX2.out (fun e => by have h2 : some g = some XB := e; cases h2; exact hXg rfl)) hXq
  have hr4 : (W3.setCell ⟨q, offS s, none⟩ (.slice a (n - 1) c)).heap[R]? = some (.cells #[.int .i64 0, .int .i64 0, .bool false, .int .i64 0, .int .i64 0, .int .i64 0] 67 (0, 0)) :=
    (Turns.set (F := fun k => k = q) rfl).blk ((Turns.of_grown hg3).blk (HR0.out.below HB2.out) (fun e => by have h2 : some g = some R := e; cases h2; exact hgR rfl)) (fun e => hqR e.symm)
  have k4 : (W3.setCell ⟨q, offS s, none⟩ (.slice a (n - 1) c)).rangeAt XB 0 [.int .i64 oid, .int .i64 oten, .bool osell, .int .i64 opr, .int .i64 olots, .int .i64 oseq] := fun jj u hj => by
    rw [Nat.zero_add]
    exact hx4.cell jj u (by simpa using hj)
  have HFIN := Lib.hid (hbs.setRow (Nat.le_of_eq HRE.out.symm) ha3 #[.int .i64 oid, .int .i64 oten, .bool osell, .int .i64 opr, .int .i64 olots, .int .i64 oseq])
  clear hbs hg3 ha3 hx4
  go_wp2_with (first
    | (refine wpList_load_mid rfl 67 _ rfl XB 0 rfl [.int .i64 oid, .int .i64 oten, .bool osell, .int .i64 opr, .int .i64 olots, .int .i64 oseq] _ k4 Tryd.underlying67 rfl size_ord ?_)
    | (refine wpList_store_row rfl 67 _ _ rfl R #[.int .i64 oid, .int .i64 oten, .bool osell, .int .i64 opr, .int .i64 olots, .int .i64 oseq] rfl rfl 67 #[.int .i64 0, .int .i64 0, .bool false, .int .i64 0, .int .i64 0, .int .i64 0] hr4 size_ord rfl (by kernel_rfl) ?_))
  exact bodyPost_pair Tryd.results47 rfl R rfl #[.int .i64 oid, .int .i64 oten, .bool osell, .int .i64 opr, .int .i64 olots, .int .i64 oseq] _ (0, 0) (setRow_heap _ _ _ _ _ _ hr4) _ Tryd.underlying67 rfl 6 size_ord rfl .nilIface rfl ⟨rfl, _, HFIN.out⟩
end Go.Proofs.YtdebldpmloignaaDoor
