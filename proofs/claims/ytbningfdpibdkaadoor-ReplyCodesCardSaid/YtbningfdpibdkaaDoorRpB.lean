/-
  reply: the reader: task, count, more.
-/
import Derived.Test.YtbningfdpibdkaaDoorWrF
import Derived.Test.YtbningfdpibdkaaDoorSeq
namespace Go.Proofs.YtbningfdpibdkaaDoor
open Go.RowKit
set_option linter.unusedVariables false
set_option linter.unusedSimpArgs false

/-- The reader of answers in block r, over the reader of bytes in block q; b: a count could not be. -/
structure RdV (w : World) (E : Nat → Addr) (r q : Nat) (s : ByteArray) (p : St) (b : Bool) : Prop where
  blk : Blk w r #[.pointer (some ⟨q, 0, none⟩), .bool b] 158
  inw : InW w E q s p
  form : ErrForm w E
section
variable {w w' : World} {E : Nat → Addr} {r q : Nat} {s : ByteArray} {p p' : St} {b b' : Bool}
theorem RdV.ne (h : RdV w E r q s p b) : r ≠ q := fun e => by
  obtain ⟨er, hi⟩ := h.inw
  exact blk_ne hi.blk h.blk (by decide) e
theorem RdV.lt (h : RdV w E r q s p b) : r < w.heap.size ∧ q < w.heap.size := by
  obtain ⟨er, hi⟩ := h.inw
  exact ⟨h.blk.lt, hi.blk.lt⟩
theorem RdV.below (h : RdV w E r q s p b) (hb : Below w.heap.size w w') : RdV w' E r q s p b := by
  obtain ⟨er, hi⟩ := h.inw
  exact ⟨h.blk.below hb, ⟨er, hi.below hb⟩, h.form.below hb⟩
theorem RdV.step (h : RdV w E r q s p b) (hi : InW w' E q s p') (ht : Turns (fun k => k = q) w w') : RdV w' E r q s p' b := by
  obtain ⟨er, hi0⟩ := h.inw
  exact ⟨ht.blk h.blk h.ne, hi, h.form.turns hi0 ht⟩
theorem RdV.drew (h : RdV w E r q s p b) : RdV w.drew E r q s p b := ⟨h.blk, h.inw.drew, h.form⟩
/-- A block of another kind stays, whatever the reader does. -/
theorem RdV.keep (h : RdV w E r q s p b) {g : Nat} {cs : Array Value} {T : TypeId} (hb : Blk w g cs T) (hT : 191 ≠ T) (ht : Turns (fun k => k = q) w w') : Blk w' g cs T := by
  obtain ⟨er, hi⟩ := h.inw
  exact ht.blk hb (fun e => blk_ne hi.blk hb hT e)
end
theorem rdInt_c (E : Nat → Addr) (r q : Nat) (s : ByteArray) (p : St) (b : Bool) (w : World) (h : Hid (RdV w E r q s p b)) (hs : s.size ≤ 1000000) :
    Calls Tryd.prog 71 #[.pointer (some ⟨q, 0, none⟩)] w fun e w' => e = .returned (.int .i64 (rdI s p).1) ∧ RdV w' E r q s (rdI s p).2 b ∧ Turns (fun k => k = q) w w' := by
  obtain ⟨er, hi⟩ := h.out.inw
  exact (iint_c E q s p.1 er p.2 w (Lib.hid hi) hs h.out.form).mono fun e w' ⟨h1, h2, h3⟩ => ⟨h1, h.out.step h2 h3, h3⟩
/-- A task, in plain words. -/
def rdTk (s : ByteArray) (p : St) : (Int × Int) × St := (((rdI s p).1, (rdI s (rdI s p).2).1), (rdI s (rdI s p).2).2)
theorem size_tsk : (Tryd.prog.info? 142).map (·.size) = some 2 := by kernel_rfl
theorem new_cell {w w' : World} {B : Nat} (h : Below B w w') {q i : Nat} {v : Value} (hq : q < B) (hc : w.cell? ⟨q, i, none⟩ = some v) : w'.cell? ⟨q, i, none⟩ = some v := (h.cell (p := ⟨q, i, none⟩) hq).trans hc
set_option maxRecDepth 100000 in
theorem task_c (E : Nat → Addr) (r q : Nat) (s : ByteArray) (p : St) (b : Bool) (w : World) (h : Hid (RdV w E r q s p b)) (hs : s.size ≤ 1000000) :
    Calls Tryd.prog 113 #[.pointer (some ⟨r, 0, none⟩)] w fun e w' => e = .returned (.agg #[.int .i64 (rdTk s p).1.1, .int .i64 (rdTk s p).1.2]) ∧ RdV w' E r q s (rdTk s p).2 b ∧ Turns (fun k => k = q) w w' := by
  have hb0 : Below w.heap.size w (w.alloc (.cells #[.int .i64 0, .int .i64 0] 142)) := (Below.refl _ w).alloc (Nat.le_refl _) _
  have H0 := Lib.hid (h.out.below hb0)
  have HX0 : Hid (Blk (w.alloc (.cells #[.int .i64 0, .int .i64 0] 142)) w.heap.size #[.int .i64 0, .int .i64 0] 142) := Blk.new w _ _
  have HB0 := Lib.hid hb0
  have HLT := Lib.hid h.out.lt
  have c0 : (w.alloc (.cells #[.int .i64 0, .int .i64 0] 142)).cell? ⟨r, 0, none⟩ = some (.pointer (some ⟨q, 0, none⟩)) := H0.out.blk.cell 0 _ rfl
  have HI1 := Lib.hid (rdInt_c E r q s p b _ H0 hs)
  have HI2 := Lib.hid (fun (W : World) (h : RdV W E r q s (rdI s p).2 b) => rdInt_c E r q s (rdI s p).2 b W (Lib.hid h) hs)
  unfold rdTk
  obtain ⟨R1, hR1⟩ : ∃ R, R = rdI s p := ⟨_, rfl⟩
  rw [← hR1] at HI1 HI2 ⊢
  obtain ⟨R2, hR2⟩ : ∃ R, R = rdI s R1.2 := ⟨_, rfl⟩
  rw [← hR2] at HI2 ⊢
  obtain ⟨z1, p1⟩ := R1
  obtain ⟨z2, p2⟩ := R2
  simp only at HI1 HI2 ⊢
  clear hb0 h hR1 hR2
  go_enter Tryd.func113, Tryd.ntmps113
  go_wp2_with fail
  refine HI1.out.mono ?_
  rintro e w1 ⟨rfl, h1, ht1⟩
  have H1 := Lib.hid h1
  have HX1 := Lib.hid (H0.out.keep HX0.out (by decide) ht1)
  have HT1 := Lib.hid ht1
  have c1 : w1.cell? ⟨r, 0, none⟩ = some (.pointer (some ⟨q, 0, none⟩)) := h1.blk.cell 0 _ rfl
  clear h1 ht1 c0
  go_wp2_with fail
  refine (HI2.out w1 H1.out).mono ?_
  rintro e w2 ⟨rfl, h2, ht2⟩
  have H2 := Lib.hid h2
  have hX2 : w2.heap[w.heap.size]? = some (.cells #[.int .i64 0, .int .i64 0] 142 (0, 0)) := H1.out.keep HX1.out (by decide) ht2
  have HT2 := Lib.hid (HT1.out.trans ht2 (fun _ _ h => h))
  clear h2 ht2 c1
  go_wp2_with (refine wpList_store_row rfl 142 _ _ rfl w.heap.size #[.int .i64 z1, .int .i64 z2] rfl rfl 142 #[.int .i64 0, .int .i64 0] hX2 size_tsk rfl (by simp [Value.oneCell']) ?_)
  refine bodyPost_row Tryd.results113 rfl w.heap.size rfl #[.int .i64 z1, .int .i64 z2] _ (0, 0) (setRow_heap _ _ _ _ _ _ hX2) _ Tryd.underlying142 rfl 2 size_tsk rfl ⟨rfl, ?_, ?_⟩
  · obtain ⟨er, hi⟩ := H2.out.inw
    have hset : Turns (fun k => k = w.heap.size) w2 (w2.setRow w.heap.size #[.int .i64 z1, .int .i64 z2]) := ⟨rfl, rfl, rfl, by simp [World.setRow], fun k hk hn => setRow_other w2 w.heap.size k _ hn⟩
    have hl := HLT.out
    refine ⟨hset.blk H2.out.blk (fun e => by omega), ⟨er, hi.turns hset (fun e => by omega) (fun g cs hb e => by subst e; exact absurd (hX2.symm.trans hb) (by simp))⟩, ?_⟩
    have hlt := World.block_lt_of_cell? w2 ⟨1, 0, none⟩ H2.out.form
    refine (World.cell?_of_block (w := w2) (hset.block _ hlt (fun e => ?_))).trans H2.out.form
    have hc := H2.out.form
    unfold ErrForm at hc
    have hx : w2.cell? ⟨w.heap.size, 0, none⟩ = some (.int .i64 0) := Blk.cell (w := w2) hX2 0 _ rfl
    have e' : 1 = w.heap.size := e
    rw [← e'] at hx
    have h2 := hx.symm.trans hc
    rw [erV_some E 3 (by decide)] at h2
    cases h2
  · exact ((Turns.of_below (F := fun k => k = q) HB0.out).trans HT2.out (fun _ _ h => h)).trans (G := fun k => k = w.heap.size) ⟨rfl, rfl, rfl, by simp [World.setRow], fun k hk hn => setRow_other w2 w.heap.size k _ hn⟩ (fun k hk e => by omega)
end Go.Proofs.YtbningfdpibdkaaDoor
