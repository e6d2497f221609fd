/-
  ring: Add.
-/
import Derived.Test.YtkinbidpbgkaoaaDoorRinA
import Derived.Test.YtkinbidpbgkaoaaDoorIs
import Derived.StillTailTactics
import Derived.Outline
namespace Go.Proofs.YtkinbidpbgkaoaaDoor
open Go.RowKit
set_option linter.unusedVariables false

theorem info_str : (Tryd.prog.info? 9).map (fun i => (i.zero, i.size, i.bytes)) = some (some (.string ByteArray.empty), 1, 16) := by kernel_rfl
def hasNl (s : ByteArray) : Bool := decide (0 ≤ Lib.indexByte s.data.toList 10)
set_option maxRecDepth 100000 in
theorem radd_bad (E : Nat → Addr) (B q sz : Nat) (l : List ByteArray) (cnt : Nat) (v : Value) (s : ByteArray) (w : World) (h : Hid (RngV w B q sz l cnt v)) (hE : w.cell? ⟨0, 0, none⟩ = some (erV E 1)) (hb : hasNl s = true ∨ sz < wt s) (hs : s.size ≤ 1000000) :
    Calls Tryd.prog 31 #[.pointer (some ⟨q, 0, none⟩), .string s] w fun e w' => e = .returned (erV E 1) ∧ w = w' := by
  have c0 := h.out.c0
  cases hn : hasNl s with
  | true =>
    have hnl : (decide (0 ≤ Lib.indexByte s.data.toList 10)) = true := hn
    clear hb hn
    go_enter Tryd.func31, Tryd.ntmps31
    go_wp2_with fail
    refine (Tryd.strings_Contains_one s 10 _).mono ?_
    rintro e w' ⟨rfl, hw⟩
    obtain rfl := hw.symm
    go_wp2_with fail
    go_ret
    exact ⟨rfl, rfl⟩
  | false =>
    have hnl : (decide (0 ≤ Lib.indexByte s.data.toList 10)) = false := hn
    have d1 : decide ((sz : Int) < s.size + 1) = true := by
      rcases hb with hb | hb
      · rw [hb] at hn; cases hn
      · unfold wt at hb; simp; omega
    clear hb hn
    go_enter Tryd.func31, Tryd.ntmps31
    go_wp2_with fail
    refine (Tryd.strings_Contains_one s 10 _).mono ?_
    rintro e w' ⟨rfl, hw⟩
    obtain rfl := hw.symm
    go_wp2_with fail
    go_ret
    exact ⟨rfl, rfl⟩
set_option maxRecDepth 100000 in
theorem radd_nil (E : Nat → Addr) (s : ByteArray) (w : World) (hE : w.cell? ⟨1, 0, none⟩ = some (erV E 2)) :
    Calls Tryd.prog 31 #[.pointer none, .string s] w fun e w' => e = .returned (erV E 2) ∧ w = w' := by
  go_enter Tryd.func31, Tryd.ntmps31
  go_wp2_with fail
  go_ret
  exact ⟨rfl, rfl⟩
def usedOf (w : World) (q : Nat) : Nat := match w.cell? ⟨q, 2, none⟩ with | some v => (intOf v).toNat | none => 0
def AddQ (w : World) (B q sz : Nat) (l' : List ByteArray) (cnt : Nat) (v : Value) (e : Ending) (w' : World) : Prop :=
  e = .returned .nilIface ∧ ∃ v', RngV w' B q sz l' cnt v' ∧ Turns (RngF q v) w w' ∧ ∀ k, v'.ownBlock = some k → v.ownBlock = some k ∨ w.heap.size ≤ k
theorem RngV.usedOf {w : World} {B q sz : Nat} {l : List ByteArray} {cnt : Nat} {v : Value} (h : RngV w B q sz l cnt v) : usedOf w q = sumW l := by
  unfold Go.Proofs.YtkinbidpbgkaoaaDoor.usedOf
  rw [h.c2]
  simp [intOf]
theorem turns_set2 {F : Nat → Prop} {w : World} {q i j : Nat} {x y : Value} (hF : F q) : Turns F w ((w.setCell ⟨q, i, none⟩ x).setCell ⟨q, j, none⟩ y) :=
  (Turns.set (F := F) hF).trans (Turns.set (F := F) hF) (fun _ _ h => h)
theorem RngV.pop {w : World} {B q sz : Nat} {x : ByteArray} {m : List ByteArray} {cnt g off cap n : Nat} {U : Int} (h : RngV w B q sz (x :: m) cnt (.slice (some ⟨g, off, none⟩) (x :: m).length cap)) (hU : U = sumW m) :
    RngV (((w.drewN n).setCell ⟨q, 2, none⟩ (.int .i64 U)).setCell ⟨q, 1, none⟩ (.slice (if cap = 1 then some ⟨g, off, none⟩ else some ⟨g, off + 1, none⟩) ((x :: m).length - 1) (cap - 1))) B q sz m cnt
      (.slice (if cap = 1 then some ⟨g, off, none⟩ else some ⟨g, off + 1, none⟩) ((x :: m).length - 1) (cap - 1)) := by
  subst hU
  have hb : Blk (w.drewN n) q _ _ := h.blk
  have hA : (if cap = 1 then some (⟨g, off, none⟩ : Addr) else some ⟨g, off + 1, none⟩) = some ⟨g, if cap = 1 then off else off + 1, none⟩ := by split <;> rfl
  rw [hA]
  have hgq : g ≠ q := fun e => h.notq (by rw [← e]; rfl)
  refine ⟨h.low, (hb.set 2 _).set 1 _, ?_, by simp [Value.ownBlock]; exact hgq⟩
  have hrow : OffRow (w.drewN n) B 1 (.slice (some ⟨g, off, none⟩) (m.length + 1) cap) (m.length + 1) ([.string x] ++ flatOf strC m) := h.row
  have := hrow.tail rfl (if cap = 1 then off else off + 1) (by by_cases e : cap = 1 <;> simp [e])
  exact (turns_set2 (F := fun k => k = q) rfl).offs this (fun k hk e => by simp [Value.ownBlock] at hk; omega)
set_option maxRecDepth 100000 in
set_option maxHeartbeats 2000000 in
theorem radd_ok (B q sz : Nat) (l : List ByteArray) (cnt : Nat) (v : Value) (s : ByteArray) (w : World) (hB : B ≤ w.heap.size) (h : Hid (RngV w B q sz l cnt v)) (hn : hasNl s = false) (hs : wt s ≤ sz) (hsz : sz ≤ 65536) (hl : sumW l ≤ sz) (hc : cnt ≤ 1000000) :
    Calls Tryd.prog 31 #[.pointer (some ⟨q, 0, none⟩), .string s] w (AddQ w B q sz (trim sz (l ++ [s])) (cnt + 1) v) := by
  obtain ⟨i0, hi, hz0, hz1, hz2⟩ := info_parts info_str
  have hnl : (decide (0 ≤ Lib.indexByte s.data.toList 10)) = false := hn
  have d1 : decide ((sz : Int) < s.size + 1) = false := by unfold wt at hs; simp; omega
  have hll := sumW_len l
  have c0 := h.out.c0
  have c1 := h.out.c1
  have c2 := h.out.c2
  have c3 := h.out.c3
  have f1 := h.out.blk.free 1
  have f2 := h.out.blk.free 2
  have f3 := h.out.blk.free 3
  have hss : s.size ≤ 65536 := by unfold wt at hs; omega
  have HOWN : Hid (OffRow (w.setCell ⟨q, 3, none⟩ (.int .i64 ((cnt : Int) + 1))) B 1 v l.length (flatOf strC l)) :=
    (Turns.set (F := fun k => k = q) (w := w) (q := q) (i := 3) (x := .int .i64 ((cnt : Int) + 1)) rfl).offs h.out.row (fun g hg e => h.out.notq (by rw [hg, e]))
  have HSZ : (w.setCell ⟨q, 3, none⟩ (.int .i64 ((cnt : Int) + 1))).heap.size = w.heap.size := by simp [World.setCell]
  have HB : Hid (B ≤ (w.setCell ⟨q, 3, none⟩ (.int .i64 ((cnt : Int) + 1))).heap.size) := by show _ ≤ _; rw [HSZ]; exact hB
  clear HSZ hn
  go_enter Tryd.func31, Tryd.ntmps31
  go_wp2_with fail
  refine (Tryd.strings_Contains_one s 10 _).mono ?_
  rintro e w' ⟨rfl, hw⟩
  obtain rfl := hw.symm
  clear hw
  go_wp2_with (at_builtin; refine wpList_app_off rfl _ _ 68 rfl B 9 i0 (.string ByteArray.empty) 1 16 Tryd.underlying68 hi hz0 hz1 hz2 rfl (by decide) _ _ _ rfl HOWN.out _ _ rfl ?ca0 ?ca1 ?ca2 ?ca3 ?ca4 ?ca5 ?_)
  case ca0 => simp [World.setCell]
  case ca1 => rfl
  case ca2 => intro u hu; simp at hu; subst hu; rfl
  case ca3 => unfold maxLen; omega
  case ca4 => omega
  case ca5 => exact HB.out
  intro v1 w1 hown1 hg1 hlie1
  obtain ⟨a1, n1, rfl, _, _⟩ := hown1.len
  have hT0 : Hid (Turns (RngF q v) w w1) := (Turns.set (F := RngF q v) (q := q) (i := 3) (x := .int .i64 ((cnt : Int) + 1)) (.inl rfl)).trans (Turns.of_grown hg1) (fun k _ hk => .inr hk)
  have hB1 : Hid (Blk w1 q #[.int .i64 sz, v, .int .i64 (sumW l), .int .i64 ((cnt : Int) + 1)] 112) := (Turns.of_grown hg1).blk (h.out.blk.set 3 _) (fun e => h.out.notq e)
  have HOWN1 := Lib.hid hown1
  have HLIE1 : Hid (∀ k, (Value.slice a1 (l.length + 1) n1).ownBlock = some k → k ≠ q ∧ (v.ownBlock = some k ∨ w.heap.size ≤ k)) := fun k hk => by
    rcases hlie1 with h1 | ⟨g, h1, h2⟩
    · rw [h1] at hk
      exact ⟨fun e => h.out.notq (by rw [hk, e]), .inl hk⟩
    · rw [h1] at hk
      have e : g = k := by simpa using hk
      subst e
      have h3 : w.heap.size ≤ g := by simpa [World.setCell] using h2
      have := h.out.blk.lt
      exact ⟨by omega, .inr h3⟩
  clear hown1 hg1 hlie1 c0 c1 c2 c3 f1 f2 f3 hnl d1 HOWN HB
  have c0 := hB1.out.cell 0 _ rfl
  have c1 := hB1.out.cell 1 _ rfl
  have c2 := hB1.out.cell 2 _ rfl
  have c3 := hB1.out.cell 3 _ rfl
  have f1 := hB1.out.free 1
  have f2 := hB1.out.free 2
  go_wp2_with fail
  have HL0 := Lib.hid hl
  go_loopw [50] (fun _ wx => ∃ (m : List ByteArray) (v' : Value) (wr : World), wr = wx ∧ Hid (RngV wr B q sz m (cnt + 1) v') ∧ Hid (trim sz m = trim sz (l ++ [s])) ∧ sumW m ≤ 131073 ∧ Hid (Turns (RngF q v) w wr) ∧ Hid (∀ k, v'.ownBlock = some k → k ≠ q ∧ (v.ownBlock = some k ∨ w.heap.size ≤ k))) (fun _ wx => usedOf wx q)
  case atStart =>
    refine ⟨l ++ [s], _, _, rfl, ?_, rfl, ?_, ?_, HLIE1⟩
    · have hb := (hB1.out.set 1 (.slice a1 (l.length + 1) n1)).set 2 (.int .i64 ((sumW l : Int) + ((s.size : Int) + 1)))
      have hsum : ((sumW (l ++ [s]) : Nat) : Int) = (sumW l : Int) + ((s.size : Int) + 1) := by rw [sumW_append, sumW_one]; push_cast; rfl
      refine ⟨h.out.low, ?_, ?_, fun e => (HLIE1.out q e).1 rfl⟩
      · rw [hsum]; push_cast; exact hb
      · rw [List.length_append, List.length_singleton, flatOf_append, flatOf_one]
        exact ((Turns.set (F := fun k => k = q) rfl).trans (Turns.set (F := fun k => k = q) rfl) (fun _ _ h => h)).offs HOWN1.out (fun g hg e => (HLIE1.out g hg).1 e)
    · rw [sumW_append, sumW_one]; have := HL0.out; omega
    · exact (hT0.out.trans (Turns.set (F := RngF q v) (.inl rfl)) (fun _ _ h => h)).trans (Turns.set (F := RngF q v) (.inl rfl)) (fun _ _ h => h)
  case round =>
    obtain ⟨m, v', wr, rfl, hR, htr, hm, hT, hlie⟩ := hrel
    clear c0 c1 c2 c3 f1 f2
    have c0 := hR.out.c0
    have c2 := hR.out.c2
    have f1 := hR.out.blk.free 1
    have f2 := hR.out.blk.free 2
    by_cases hgt : sz < sumW m
    · have hgt' : (sz : Int) < (sumW m : Int) := by omega
      cases m with
      | nil => simp [sumW] at hgt
      | cons x m' =>
        have hrow := hR.out.row
        obtain ⟨g, off, cap, rfl, hg1, hg2, hg3, hg4, hg5, hg6⟩ := hrow.form (by simp)
        have c1 := hR.out.c1
        have cx : wr.cell? ⟨g, off, none⟩ = some (.string x) := by have := hg6 0 (.string x) rfl; simpa using this
        have gl : (0 : Int) < ((ByteArray.size x : Nat) : Int) + 1 := by omega
        have hx1 : (0 : Int) < (((x :: m').length : Nat) : Int) := by simp
        have hx2 : 0 < (x :: m').length := by simp
        have hsm : sumW (x :: m') = x.size + 1 + sumW m' := rfl
        have hxs : x.size ≤ 131072 := by omega
        have hxz : (x.size : Int) + 1 ≤ (sumW (x :: m') : Int) := by omega
        have HSM := Lib.hid hsm
        have HTC : Hid (trim sz (x :: m') = trim sz m') := trim_cut hgt
        have HUO := Lib.hid hR.out.usedOf
        have HPOP : Hid (∀ n, RngV (((wr.drewN n).setCell ⟨q, 2, none⟩ (.int .i64 ((sumW (x :: m') : Int) - ((x.size : Int) + 1)))).setCell ⟨q, 1, none⟩ (.slice (if cap = 1 then some ⟨g, off, none⟩ else some ⟨g, off + 1, none⟩) ((x :: m').length - 1) (cap - 1))) B q sz m' (cnt + 1)
            (.slice (if cap = 1 then some ⟨g, off, none⟩ else some ⟨g, off + 1, none⟩) ((x :: m').length - 1) (cap - 1))) := fun n => hR.out.pop (by rw [HSM.out]; push_cast; omega)
        have HT2 : Hid (∀ n a b, Turns (RngF q v) w (((wr.drewN n).setCell ⟨q, 2, none⟩ a).setCell ⟨q, 1, none⟩ b)) := fun n a b => Turns.trans (b := wr.drewN n) ⟨hT.out.os, hT.out.tape, hT.out.output, hT.out.size, hT.out.block⟩ (turns_set2 (F := RngF q v) (.inl rfl)) (fun _ _ h => h)
        have HOB : Hid (∀ k, (Value.slice (if cap = 1 then some ⟨g, off, none⟩ else some ⟨g, off + 1, none⟩) ((x :: m').length - 1) (cap - 1)).ownBlock = some k → k ≠ q ∧ (v.ownBlock = some k ∨ w.heap.size ≤ k)) := fun k hk => hlie.out k (by split at hk <;> exact hk)
        clear hsm hrow hg5 hg6 hlie hT
        generalize sumW (x :: m') = U at HSM HUO HPOP c2 hgt' hm hxz
        generalize hN : (x :: m').length = N at c1 hx1 hx2 HPOP HOB
        clear hgt hN
        go_wp2_with fail
        go_quiet (fail)
        go_wp2_with fail
        refine wp_region_tail 15 (by kernel_rfl) (by kernel_rfl) ?_
        simp only [List.take_succ_cons, List.take_zero, List.drop_succ_cons, List.drop_zero]
        iterate 15 (refine wpStill_step (fun K hK => ?_); go_simp; refine hK _ ?_; clear hK K)
        refine wpStill_nil ?_
        go_wp2_with fail
        have hm' : sumW m' ≤ 131073 := by have := HSM.out; omega
        refine ⟨⟨m', _, _, rfl, HPOP.out _, by rw [← HTC.out]; exact htr, hm', HT2.out _ _ _, HOB.out⟩, ?_⟩
        rw [(HPOP.out _).usedOf, HUO.out]
        have := HSM.out
        omega
    · have hgt' : ¬ (sz : Int) < (sumW m : Int) := by omega
      have HR2 : Hid (∀ n, RngV (wr.drewN n) B q sz (trim sz (l ++ [s])) (cnt + 1) v') := fun n => by
        rw [← htr.out, trim_fits (by omega)]
        exact ⟨hR.out.low, hR.out.blk, hR.out.row, hR.out.notq⟩
      clear hgt
      go_wp2_with fail
      go_quiet (fail)
      go_wp2_with fail
      go_ret
      exact ⟨rfl, v', HR2.out _, ⟨hT.out.os, hT.out.tape, hT.out.output, hT.out.size, hT.out.block⟩, fun k hk => (hlie.out k hk).2⟩
end Go.Proofs.YtkinbidpbgkaoaaDoor
