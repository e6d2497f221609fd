/-
  queue: tasks; slices' functions at api.Task, by contract.
-/
import Derived.Test.YtkinbidpbgkaoaaDoorSlFill
import Derived.Laws.StructEq
import Derived.Laws.AppendOwnNone
import Derived.Maps.AppendAt
import Derived.Lib.AppendZeros
namespace Go.Proofs.YtkinbidpbgkaoaaDoor
open Go.RowKit
set_option linter.unusedVariables false

theorem below_drewN' {B : Nat} {a w : World} {q : Nat} (h : Below B a w) : Below B a (w.drewN q) := ⟨h.os, h.tape, h.output, h.size, h.block⟩
structure Tsk where
  (job at_ : Int)
def Tsk.cells (t : Tsk) : List Value := [.int .i64 t.job, .int .i64 t.at_]
theorem Tsk.k2 (t : Tsk) : t.cells.length = 2 := rfl
theorem Tsk.one (t : Tsk) : ∀ u ∈ t.cells, u.oneCell' = true := by intro u hu; simp [Tsk.cells] at hu; rcases hu with rfl | rfl <;> rfl
def Tsk.beq (a b : Tsk) : Bool := a.job == b.job && a.at_ == b.at_
theorem Tsk.beq_iff (a b : Tsk) : Tsk.beq a b = true ↔ a = b := by
  obtain ⟨a1, a2⟩ := a
  obtain ⟨b1, b2⟩ := b
  simp [Tsk.beq]
theorem task_eql (a0 a1 b0 b1 : Int) (w : World) : (binOp .eql 45 (.agg #[.int .i64 a0, .int .i64 a1]) (.agg #[.int .i64 b0, .int .i64 b1])).run Tryd.prog w = .ok (.bool (a0 == b0 && a1 == b1)) w := by
  have hp : Tryd.prog.stoodInHeld 45 = false := by kernel_rfl
  rw [run_eql_struct, show (10000 : Nat) = 9999 + 1 from rfl, run_equalIn_agg w 9999 45 _ _ (by kernel_rfl) hp]
  have u3 := Tryd.underlying3
  simp only [Program.fieldsOf, Tryd.underlying45]
  go_simp
  by_cases h0 : a0 = b0 <;> by_cases h1 : a1 = b1 <;> simp [h0, h1]
theorem task_neq (a0 a1 b0 b1 : Int) (w : World) : (binOp .neq 45 (.agg #[.int .i64 a0, .int .i64 a1]) (.agg #[.int .i64 b0, .int .i64 b1])).run Tryd.prog w = .ok (.bool (!(a0 == b0 && a1 == b1))) w := by
  have hp : Tryd.prog.stoodInHeld 45 = false := by kernel_rfl
  rw [run_neq_struct, show (10000 : Nat) = 9999 + 1 from rfl, run_equalIn_agg w 9999 45 _ _ (by kernel_rfl) hp]
  have u3 := Tryd.underlying3
  simp only [Program.fieldsOf, Tryd.underlying45]
  go_simp
  by_cases h0 : a0 = b0 <;> by_cases h1 : a1 = b1 <;> simp [h0, h1]
theorem task_guard (op : BinOp) (x y : Operand) (xs ys : Array Value) (w : World) : (eqGuard op 45 x y (.agg xs) (.agg ys)).run Tryd.prog w = .ok () w := run_eqGuard_agg w op 45 x y _ _ (by kernel_rfl)

theorem info_task : (Tryd.prog.info? 45).map (fun i => (i.zero, i.size, i.bytes)) = some (some (.agg #[.int .i64 0, .int .i64 0]), 2, 16) := by kernel_rfl
theorem size_task : (Tryd.prog.info? 45).map (·.size) = some 2 := by kernel_rfl
set_option maxRecDepth 100000 in
set_option maxHeartbeats 1000000 in
theorem indexFunc_task {α : Type} (enc : α → List Value) (hk : ∀ x, (enc x).length = 2) (p : α → Bool) (g : Nat) (lb : Array Value) (eg : ∀ args w, (callFunc g args).run Tryd.prog w = .ok (.enter g args) w) (I : World → Prop)
    (A : Option Addr) (n c : Nat) (xs : List α) (w : World) (hr : Hid (RdRows w w.heap.size enc 2 A n xs)) (hn : n ≤ 9223372036854775807) (hI : Hid (∀ W W', I W → W.grownBy W' none → I W')) (hIw : I w)
    (hp : Hid (∀ W x, I W → Calls Tryd.prog g (#[.agg (enc x).toArray] ++ lb) W fun e w' => e = .returned (.bool (p x)) ∧ Below W.heap.size W w')) :
    Calls Tryd.prog 72 #[.slice A n c, .func (.func g) #[] lb] w fun e w' => e = .returned (.int .i64 (idxOf p xs)) ∧ Below w.heap.size w w' ∧ I w' := by
  have HI := Lib.hid hIw
  clear hIw
  go_enter Tryd.func72, Tryd.ntmps72
  go_wp2_with fail
  go_loopw [5, 8] (fun _ s8 wr => ∃ kk : Nat, kk ≤ n ∧ s8 = .int .i64 kk ∧ Below w.heap.size w wr ∧ I wr ∧ Hid (∀ (j : Nat) (y : α), j < kk → xs[j]? = some y → p y = false)) (fun _ s8 _ => n - (intOf s8).toNat)
  case atStart => exact ⟨0, Nat.zero_le _, rfl, Below.refl _ w, HI.out, fun j y hj => absurd hj (Nat.not_lt_zero _)⟩
  case round =>
    obtain ⟨kk, hkk, rfl, hbl, hIr, hno⟩ := hrel
    have hl := hr.out.1
    by_cases hlt : kk < n
    · obtain ⟨b, off, rfl, hb, hrows⟩ := hr.out.2 (by omega)
      obtain ⟨x, hx⟩ : ∃ x, xs[kk]? = some x := ⟨_, List.getElem?_eq_getElem (by omega)⟩
      have r1 := rangeAt_below (hrows kk x hx) hbl hb
      have hcall := hp.out wr x hIr
      have hsz : (Tryd.prog.info? 45).map (·.size) = some (enc x).length := by rw [hk]; exact size_task
      clear hrows hl
      have HX := Lib.hid hx
      clear hx
      cases hq : p x with
      | true =>
        rw [hq] at hcall
        have HC := Lib.hid hcall
        clear hcall
        go_wp2_with (first | (refine wpList_load_mid rfl 45 _ rfl b (off + kk * 2) rfl (enc x) _ r1 Tryd.underlying45 rfl hsz ?_) | (go_at_fn g; refine HC.out.mono ?_; rintro e w' ⟨rfl, hb'⟩))
        go_ret
        exact ⟨by rw [idxOf_hit p xs kk x HX.out hq hno.out]; rfl, hbl.trans (hb'.mono hbl.size), hI.out _ _ hIr (grown_of_below hb' none)⟩
      | false =>
        rw [hq] at hcall
        have HC := Lib.hid hcall
        clear hcall
        go_wp2_with (first | (refine wpList_load_mid rfl 45 _ rfl b (off + kk * 2) rfl (enc x) _ r1 Tryd.underlying45 rfl hsz ?_) | (go_at_fn g; refine HC.out.mono ?_; rintro e w' ⟨rfl, hb'⟩))
        go_roundw
        case rel =>
          refine ⟨kk + 1, by omega, by go_num, hbl.trans (hb'.mono hbl.size), hI.out _ _ hIr (grown_of_below hb' none), (show Hid _ from fun j y hj hy => ?_)⟩
          by_cases e : j = kk
          · subst e
            rw [HX.out] at hy
            cases hy
            exact hq
          · exact hno.out j y (by omega) hy
        case measure => simp [intOf]; omega
    · obtain rfl : kk = n := by omega
      go_wp2_with fail
      go_ret
      exact ⟨by rw [idxOf_miss p xs (fun j y hy => hno.out j y (by have := (List.getElem?_eq_some_iff.1 hy).1; omega) hy)]; rfl, hbl, hIr⟩

set_option maxRecDepth 100000 in
set_option maxHeartbeats 2000000 in
theorem deleteFunc_task {α : Type} (enc : α → List Value) (hk : ∀ x, (enc x).length = 2) (h1 : ∀ x, ∀ u ∈ enc x, u.oneCell' = true) (p : α → Bool) (g0 : Nat) (lb : Array Value) (eg : ∀ args w, (callFunc g0 args).run Tryd.prog w = .ok (.enter g0 args) w) (I : World → Prop)
    (base : Nat) (v : Value) (n : Nat) (xs : List α) (w : World) (hl : xs.length = n) (hown : Hid (w.ownsRow base 45 2 v n (flatOf enc xs))) (hn : n ≤ maxLen) (hI : Hid (∀ W W', I W → W.grownBy W' v.ownBlock → I W')) (hIw : Hid (I w))
    (hp : Hid (∀ W x, I W → Calls Tryd.prog g0 (#[.agg (enc x).toArray] ++ lb) W fun e w' => e = .returned (.bool (p x)) ∧ Below W.heap.size W w')) :
    Calls Tryd.prog 67 #[v, .func (.func g0) #[] lb] w fun e w' => ∃ v', e = .returned v' ∧ w'.ownsRow base 45 2 v' (xs.filter fun x => !p x).length (flatOf enc (xs.filter fun x => !p x)) ∧ w.grownBy w' v.ownBlock ∧ v'.ownBlock = v.ownBlock ∧ I w' := by
  have hn2 : n ≤ 9223372036854775807 := by unfold maxLen at hn; exact hn
  obtain ⟨A, cap, rfl, hcap, hrd⟩ := own_rows hk hown.out hl
  have hif := indexFunc_task enc hk p g0 lb eg I A n cap xs w hrd hn2 (show Hid _ from fun W W' h hg => hI.out W W' h (grown_but hg _)) hIw.out hp
  rcases idxOf_cases p xs with ⟨he, hall⟩ | ⟨k0, x0, he, hx0, hpx, hno⟩
  · have hfil : (xs.filter fun x => !p x) = xs := List.filter_eq_self.2 (fun x hx => by simp [hall x hx])
    rw [hfil, hl]
    rw [he] at hif
    have HC := Lib.hid hif
    clear hif hall hfil he
    go_enter Tryd.func67, Tryd.ntmps67
    go_wp2_with fail
    refine HC.out.mono ?_
    rintro e w' ⟨rfl, hb, hIw'⟩
    have hg : w.grownBy w' none := grown_of_below hb none
    clear hb
    go_wp2_with fail
    go_ret
    exact ⟨_, rfl, hown.out.kept hg (by cases A <;> simp [Value.ownBlock]), grown_but hg _, rfl, hIw'⟩
  · have hk0n : k0 < n := by have := (List.getElem?_eq_some_iff.1 hx0).1; omega
    obtain ⟨g, cap', cur, hv, hnc, hcm, hbg, hblk, hcs, hrows⟩ := own_rows' hk hown.out hl (by omega)
    cases hv
    rw [he] at hif
    have HC := Lib.hid hif
    have hglt : g < w.heap.size := (Array.getElem?_eq_some_iff.1 hblk).1
    have hk1 : ((k0 : Int) == -1) = false := beq_eq_false_iff_ne.2 (by omega)
    have hv0 := Tryd.zeroValue45
    have hszA : ∀ x, (Tryd.prog.info? 45).map (·.size) = some (enc x).toArray.size := fun x => by rw [List.size_toArray, hk]; exact size_task
    have hszL : ∀ x, (Tryd.prog.info? 45).map (·.size) = some (enc x).length := fun x => by rw [hk]; exact size_task
    have h6 : ∀ x, 2 = (enc x).toArray.size := fun x => by rw [List.size_toArray, hk]
    have honeA : ∀ x, (enc x).toArray.all (·.oneCell') = true := fun x => by rw [Array.all_eq_true_iff_forall_mem]; intro u hu; exact h1 x u (by simpa using hu)
    have HX0 : Hid ((xs.take (k0 + 1)).filter (fun x => !p x) = xs.take k0) := by
      show _ = _
      rw [filter_take_succ _ xs k0 x0 hx0, hpx]
      simp only [Bool.not_true, Bool.false_eq_true, if_false, List.append_nil]
      refine List.filter_eq_self.2 (fun x hx => ?_)
      obtain ⟨j, hj, rfl⟩ := List.mem_iff_getElem.1 hx
      rw [List.length_take] at hj
      simp only [List.getElem_take]
      simp [hno j _ (by omega) (List.getElem?_eq_getElem (by omega))]
    clear hif hno hpx hx0 he hrd
    have HB := Lib.hid hblk
    have HR := Lib.hid hrows
    clear hblk hrows
    go_enter Tryd.func67, Tryd.ntmps67
    go_wp2_with fail
    refine HC.out.mono ?_
    rintro e w1 ⟨rfl, hb1, hIw1⟩
    have hblk1 := (hb1.block g hglt).trans HB.out
    have hcs' := hcs
    have hrows1 := HR.out.below hb1 hglt
    have hg1 : w.grownBy w1 (some g) := grown_of_below hb1 _
    have HI1 := Lib.hid hIw1
    have HB1 : HBlk w1 g 45 (cap * 2) := ⟨cur, hblk1, hcs⟩
    clear hb1 hIw1 HC HB HR hblk1
    go_wp2_with fail
    go_loopw [5, 6, 7] (fun s5 s6 _ wr => ∃ i j : Nat, s5 = .int .i64 i ∧ s6 = .int .i64 j ∧ i < j ∧ j ≤ n ∧ ((xs.take j).filter fun x => !p x).length = i ∧ RowsAt wr enc 2 g 0 ((xs.take j).filter fun x => !p x) ∧ Hid (∀ t y, j ≤ t → xs[t]? = some y → wr.rangeAt g (0 + t * 2) (enc y)) ∧ w.grownBy wr (some g) ∧ HBlk wr g 45 (cap * 2) ∧ I wr) (fun _ s6 _ _ => n - (intOf s6).toNat)
    case atStart =>
      refine ⟨k0, k0 + 1, rfl, by go_num, by omega, by omega, by rw [HX0.out, List.length_take]; omega, ?_, (show Hid _ from fun t y _ hy => hrows1 t y hy), hg1, HB1, HI1.out⟩
      rw [HX0.out]
      intro t y hy
      refine hrows1 t y ?_
      rw [List.getElem?_take] at hy
      split at hy
      · exact hy
      · cases hy
    case round =>
      obtain ⟨i, j, rfl, rfl, hij, hjn, hlen, hlow, hhigh, hgr, hblk, hIr⟩ := hrel
      clear hrows1 hg1 HB1 HI1 HX0
      have hszr := hgr.size
      by_cases hlt : j < n
      · obtain ⟨x, hx⟩ : ∃ x, xs[j]? = some x := ⟨_, List.getElem?_eq_getElem (by omega)⟩
        have r1 := hhigh.out j x (Nat.le_refl _) hx
        rw [Nat.zero_add] at r1
        have hfs := Lib.hid (filter_take_succ (fun x => !p x) xs j x hx)
        have hIa : I (wr.alloc (.cells (enc x).toArray 45)) := hI.out _ _ hIr (World.grownBy_alloc _ _ _)
        have hcall := hp.out _ x hIa
        have HL := Lib.hid hlow
        have HLen := Lib.hid hlen
        clear hx hlow hlen hIr
        cases hq : p x with
        | true =>
          rw [hq] at hcall
          have HC := Lib.hid hcall
          clear hcall
          go_wp2_with (first
            | (refine wpList_load_mid rfl 45 _ rfl g (j * 2) rfl (enc x) _ r1 Tryd.underlying45 rfl (hszL x) ?_)
            | (refine wpList_store_row rfl 45 _ _ rfl wr.heap.size (enc x).toArray rfl rfl 45 #[.int .i64 0, .int .i64 0] (alloc_new' rfl) (hszA x) (h6 x) (honeA x) ?_; rw [alloc_setRow])
            | (refine wpList_load_row rfl 45 _ rfl wr.heap.size rfl 45 (enc x).toArray (0, 0) _ (alloc_new' rfl) Tryd.underlying45 rfl (hszA x) ?_)
            | (go_at_fn g0; refine HC.out.mono ?_; rintro e w' ⟨rfl, hb'⟩))
          clear r1
          have hgw : wr.grownBy w' none := grownBy_trans (World.grownBy_alloc wr _ none) (grown_of_below hb' none)
          have hIw' := hI.out _ _ hIa (grown_of_below hb' _)
          go_roundw
          case rel =>
            refine ⟨i, j + 1, rfl, by go_num, by omega, by omega, by rw [hfs.out, hq]; simpa using HLen.out, ?_, (show Hid _ from fun t y ht hy => rangeAt_grown (hhigh.out t y (by omega) hy) hgw (by simp)), grownBy_trans hgr (grown_but hgw _), hblk.grown hgw (by simp), hIw'⟩
            rw [hfs.out, hq]
            simpa using HL.out.grown hgw (by simp)
          case measure => simp [intOf]; omega
        | false =>
          rw [hq] at hcall
          have HC := Lib.hid hcall
          clear hcall
          go_wp2_with (first
            | (refine wpList_load_mid rfl 45 _ rfl g (j * 2) rfl (enc x) _ r1 Tryd.underlying45 rfl (hszL x) ?_)
            | (refine wpList_store_row rfl 45 _ _ rfl wr.heap.size (enc x).toArray rfl rfl 45 #[.int .i64 0, .int .i64 0] (alloc_new' rfl) (hszA x) (h6 x) (honeA x) ?_; rw [alloc_setRow])
            | (refine wpList_load_row rfl 45 _ rfl wr.heap.size rfl 45 (enc x).toArray (0, 0) _ (alloc_new' rfl) Tryd.underlying45 rfl (hszA x) ?_)
            | (go_at_fn g0; refine HC.out.mono ?_; rintro e w' ⟨rfl, hb'⟩; have hf' := (hb'.block wr.heap.size (by simp)).trans (alloc_new' (o := .cells (enc x).toArray 45) rfl); have hgw : wr.grownBy w' none := grownBy_trans (World.grownBy_alloc wr _ none) (grown_of_below hb' none); have hth := (hblk.grown hgw (by simp)).there (k := 2) i (by omega))
            | (refine wpList_load_row rfl 45 _ rfl wr.heap.size rfl 45 (enc x).toArray (0, 0) _ hf' Tryd.underlying45 rfl (hszA x) ?_)
            | (refine wpList_store_mid rfl 45 _ _ rfl g (i * 2) (enc x).toArray rfl rfl (by rw [← h6]; exact hth) (hszA x) (honeA x) ?_))
          clear r1
          have hIw' := hI.out _ _ (hI.out _ _ hIa (grown_of_below hb' _)) (grownBy_setCells g (enc x) (i * 2) w')
          go_roundw
          case rel =>
            refine ⟨i + 1, j + 1, by go_num, by go_num, by omega, by omega, by rw [hfs.out, hq]; simp; exact HLen.out, ?_, (show Hid _ from rows_high hk (fun t y ht hy => rangeAt_grown (hhigh.out t y ht hy) hgw (by simp)) hij), grownBy_trans (grownBy_trans hgr (grown_but hgw _)) (grownBy_setCells g _ _ _), (hblk.grown hgw (by simp)).set _ _, hIw'⟩
            rw [hfs.out, hq]
            simpa using rows_keep hk (HL.out.grown hgw (by simp)) HLen.out hth
          case measure => simp [intOf]; omega
      · obtain rfl : j = n := by omega
        have hfin : xs.take j = xs := List.take_of_length_le (by omega)
        rw [hfin] at hlow hlen
        have hth := hblk.there' (k := 2) i (j - i) (by omega)
        obtain ⟨vs, hvl, hcl⟩ := run_clear_rows wr 47 45 (.agg #[.int .i64 0, .int .i64 0]) 2 Tryd.underlying47 hv0 rfl (by omega) (by decide) g (i * 2) (j - i) (cap - i) hth
        have hIw' := hI.out _ _ hIr (grownBy_setCells g vs (i * 2) wr)
        have hblk' := hblk.set vs (i * 2)
        have hlow' := rows_clear hk hlow hlen vs
        have hgr' := grownBy_trans hgr (grownBy_setCells g vs (i * 2) wr)
        clear hlow hhigh hgr hblk hIr hfin
        have H1 := Lib.hid hlow'
        clear hlow' hvl hth
        go_wp2_with fail
        go_ret
        obtain ⟨cur', hc1, hc2⟩ := hblk'.out
        exact ⟨_, rfl, by rw [hlen]; exact own_of_rows hk (by omega) hbg hc1 hc2 (by omega) hcm hlen H1.out, hgr', rfl, hIw'⟩

set_option maxRecDepth 100000 in
set_option maxHeartbeats 1000000 in
theorem index_task (A : Option Addr) (n c : Nat) (xs : List Tsk) (t : Tsk) (w : World) (hr : Hid (RdRows w w.heap.size Tsk.cells 2 A n xs)) (hn : n ≤ 9223372036854775807) :
    Calls Tryd.prog 68 #[.slice A n c, .agg t.cells.toArray] w fun e w' => e = .returned (.int .i64 (idxOf (Tsk.beq t) xs)) ∧ Below w.heap.size w w' := by
  obtain ⟨j0, a0⟩ := t
  simp only [Tsk.cells]
  go_enter Tryd.func68, Tryd.ntmps68
  go_wp2_with fail
  go_loopw [5, 8] (fun _ s8 wr => ∃ kk : Nat, kk ≤ n ∧ s8 = .int .i64 kk ∧ Below (w.alloc (.cells #[.int .i64 j0, .int .i64 a0] 45)).heap.size (w.alloc (.cells #[.int .i64 j0, .int .i64 a0] 45)) wr ∧ Hid (∀ (j : Nat) (y : Tsk), j < kk → xs[j]? = some y → Tsk.beq ⟨j0, a0⟩ y = false)) (fun _ s8 _ => n - (intOf s8).toNat)
  case atStart => exact ⟨0, Nat.zero_le _, rfl, Below.refl _ _, fun j y hj => absurd hj (Nat.not_lt_zero _)⟩
  case round =>
    obtain ⟨kk, hkk, rfl, hbl, hno⟩ := hrel
    have hl := hr.out.1
    have hbw : Below w.heap.size w wr := ((Below.refl _ w).alloc (Nat.le_refl _) _).trans (hbl.mono (by simp))
    by_cases hlt : kk < n
    · obtain ⟨b, off, rfl, hb, hrows⟩ := hr.out.2 (by omega)
      obtain ⟨x, hx⟩ : ∃ x, xs[kk]? = some x := ⟨_, List.getElem?_eq_getElem (by omega)⟩
      have r1 := rangeAt_below (hrows kk x hx) hbw hb
      have hblk := (hbl.block w.heap.size (by simp)).trans (alloc_new' (o := .cells #[.int .i64 j0, .int .i64 a0] 45) rfl)
      have g0 := cell_of_row wr w.heap.size 0 _ _ _ hblk
      have g1 := cell_of_row wr w.heap.size 1 _ _ _ hblk
      simp only [List.getElem?_toArray, List.getElem?_cons_zero, List.getElem?_cons_succ] at g0 g1
      have HX := Lib.hid hx
      obtain ⟨j1, a1⟩ := x
      have c0 : wr.cell? ⟨b, off + kk * 2, none⟩ = some (.int .i64 j1) := r1 0 _ rfl
      have c1 : wr.cell? ⟨b, off + kk * 2 + 1, none⟩ = some (.int .i64 a1) := r1 1 _ rfl
      have heq := fun w => task_eql j0 a0 j1 a1 w
      have hgd := task_guard .eql
      have HQ : Hid (Tsk.beq ⟨j0, a0⟩ ⟨j1, a1⟩ = (j0 == j1 && a0 == a1)) := rfl
      clear hrows hl hx hblk r1
      generalize (j0 == j1 && a0 == a1) = q at heq HQ
      cases q with
      | true =>
        go_wp2_with fail
        go_quiet (fail)
        go_wp2_with fail
        go_ret
        exact ⟨by rw [idxOf_hit (Tsk.beq ⟨j0, a0⟩) xs kk _ HX.out HQ.out hno.out]; rfl, below_drewN' hbw⟩
      | false =>
        go_wp2_with fail
        go_quiet (fail)
        go_wp2_with fail
        go_roundw
        case rel =>
          refine ⟨kk + 1, by omega, by go_num, below_drewN' hbl, (show Hid _ from fun j y hj hy => ?_)⟩
          by_cases e : j = kk
          · subst e
            rw [HX.out] at hy
            cases hy
            exact HQ.out
          · exact hno.out j y (by omega) hy
        case measure => simp [intOf]; omega
    · obtain rfl : kk = n := by omega
      go_wp2_with fail
      go_ret
      exact ⟨by rw [idxOf_miss (Tsk.beq ⟨j0, a0⟩) xs (fun j y hy => hno.out j y (by have := (List.getElem?_eq_some_iff.1 hy).1; omega) hy)]; rfl, hbw⟩
set_option maxRecDepth 100000 in
theorem contains_task (A : Option Addr) (n c : Nat) (xs : List Tsk) (t : Tsk) (w : World) (hr : Hid (RdRows w w.heap.size Tsk.cells 2 A n xs)) (hn : n ≤ 9223372036854775807) :
    Calls Tryd.prog 54 #[.slice A n c, .agg t.cells.toArray] w fun e w' => e = .returned (.bool (xs.any (Tsk.beq t))) ∧ Below w.heap.size w w' := by
  have hany : decide (0 ≤ idxOf (Tsk.beq t) xs) = xs.any (Tsk.beq t) := by
    rcases idxOf_cases (Tsk.beq t) xs with ⟨h, ha⟩ | ⟨j, x, h, hx, hp, _⟩
    · have : xs.any (Tsk.beq t) = false := List.any_eq_false.2 (fun x hx => by simp [ha x hx])
      rw [h, this]; decide
    · have : xs.any (Tsk.beq t) = true := List.any_eq_true.2 ⟨x, List.mem_of_getElem? hx, hp⟩
      rw [h, this]; simp
  obtain ⟨W, hW⟩ : ∃ W : World, W = w.alloc (.cells t.cells.toArray 45) := ⟨_, rfl⟩
  have hbW : Below w.heap.size w W := by rw [hW]; exact (Below.refl _ w).alloc (Nat.le_refl _) _
  have hrW : Hid (RdRows W W.heap.size Tsk.cells 2 A n xs) := (hr.out.below hbW (Nat.le_refl _)).mono hbW.size
  have hc := index_task A n c xs t W hrW hn
  have hP : Hid (∀ v, idxOf (Tsk.beq t) xs = v → decide (0 ≤ v) = xs.any (Tsk.beq t)) := fun v hv => by rw [← hv]; exact hany
  generalize idxOf (Tsk.beq t) xs = ii at hc hP hany
  have HAN := Lib.hid hany
  have HC := Lib.hid hc
  have HW := Lib.hid hW
  clear hc hany hP hW hr
  obtain ⟨j0, a0⟩ := t
  simp only [Tsk.cells] at *
  go_enter Tryd.func54, Tryd.ntmps54
  go_wp2_with fail
  rw [← HW.out]
  refine HC.out.mono ?_
  rintro e w' ⟨rfl, hb⟩
  go_wp2_with fail
  go_ret
  exact ⟨by rw [← HAN.out]; rfl, hbW.trans (hb.mono hbW.size)⟩
end Go.Proofs.YtkinbidpbgkaoaaDoor
