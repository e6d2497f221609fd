/-
  slices' functions at deal.Fill, by contract.
-/
import Derived.Test.YtdebldpmloignaaDoorSlG
namespace Go.Proofs.YtdebldpmloignaaDoor
open Go.RowKit
set_option linter.unusedVariables false
set_option linter.unusedSimpArgs false


theorem info_fill : (Tryd.prog.info? 82).map (fun i => (i.zero, i.size, i.bytes)) = some (some (.agg #[.int .i64 0, .int .i64 0, .int .i64 0, .int .i64 0, .int .i64 0, .int .i64 0]), 6, 48) := by kernel_rfl
theorem size_fill : (Tryd.prog.info? 82).map (·.size) = some 6 := by kernel_rfl
set_option maxRecDepth 100000 in
set_option maxHeartbeats 1000000 in
theorem indexFunc_fill {α : Type} (enc : α → List Value) (hk : ∀ x, (enc x).length = 6) (p : α → Bool) (g : Nat) (lb : Array Value) (eg : ∀ args w, (callFunc g args).run Tryd.prog w = .ok (.enter g args) w) (I : World → Prop)
    (A : Option Addr) (n c : Nat) (xs : List α) (w : World) (hr : Hid (RdRows w w.heap.size enc 6 A n xs)) (hn : n ≤ 9223372036854775807) (hI : Hid (∀ W W', I W → W.grownBy W' none → I W')) (hIw : I w)
    (hp : Hid (∀ W x, I W → Calls Tryd.prog g (#[.agg (enc x).toArray] ++ lb) W fun e w' => e = .returned (.bool (p x)) ∧ Below W.heap.size W w')) :
    Calls Tryd.prog 115 #[.slice A n c, .func (.func g) #[] lb] w fun e w' => e = .returned (.int .i64 (idxOf p xs)) ∧ Below w.heap.size w w' ∧ I w' := by
  have HI := Lib.hid hIw
  clear hIw
  go_enter Tryd.func115, Tryd.ntmps115
  go_wp2_with fail
  go_loopw [5, 8] (fun _ s8 wr => ∃ kk : Nat, kk ≤ n ∧ s8 = .int .i64 kk ∧ Below w.heap.size w wr ∧ I wr ∧ Hid (∀ (j : Nat) (y : α), j < kk → xs[j]? = some y → p y = false)) (fun _ s8 _ => n - (intOf s8).toNat)
  case atStart => exact ⟨0, Nat.zero_le _, rfl, Below.refl _ w, HI.out, fun j y hj => absurd hj (Nat.not_lt_zero _)⟩
  case round =>
    obtain ⟨kk, hkk, rfl, hbl, hIr, hno⟩ := hrel
    have hl := hr.out.1
    by_cases hlt : kk < n
    · obtain ⟨b, off, rfl, hb, hrows⟩ := hr.out.2 (by omega)
      obtain ⟨x, hx⟩ : ∃ x, xs[kk]? = some x := ⟨_, List.getElem?_eq_getElem (by omega)⟩
      have r1 := rangeAt_below (hrows kk x hx) hbl hb
      have hcall := hp.out wr x hIr
      have hsz : (Tryd.prog.info? 82).map (·.size) = some (enc x).length := by rw [hk]; exact size_fill
      clear hrows hl
      have HX := Lib.hid hx
      clear hx
      cases hq : p x with
      | true =>
        rw [hq] at hcall
        have HC := Lib.hid hcall
        clear hcall
        go_wp2_with (first | (refine wpList_load_mid rfl 82 _ rfl b (off + kk * 6) rfl (enc x) _ r1 Tryd.underlying82 rfl hsz ?_) | (go_at_fn g; refine HC.out.mono ?_; rintro e w' ⟨rfl, hb'⟩))
        go_ret
        exact ⟨by rw [idxOf_hit p xs kk x HX.out hq hno.out]; rfl, hbl.trans (hb'.mono hbl.size), hI.out _ _ hIr (grown_of_below hb' none)⟩
      | false =>
        rw [hq] at hcall
        have HC := Lib.hid hcall
        clear hcall
        go_wp2_with (first | (refine wpList_load_mid rfl 82 _ rfl b (off + kk * 6) rfl (enc x) _ r1 Tryd.underlying82 rfl hsz ?_) | (go_at_fn g; refine HC.out.mono ?_; rintro e w' ⟨rfl, hb'⟩))
        go_roundw
        case rel =>
          refine ⟨kk + 1, by omega, by go_num, hbl.trans (hb'.mono hbl.size), hI.out _ _ hIr (grown_of_below hb' none), (show Hid _ from fun j y hj hy => ?_)⟩
          by_cases e : j = kk
          · subst e
            rw [HX.out] at hy
            cases hy
            exact hq
          · exact hno.out j y (by omega) hy
        case measure => simp [intOf]; omega
    · obtain rfl : kk = n := by omega
      go_wp2_with fail
      go_ret
      exact ⟨by rw [idxOf_miss p xs (fun j y hy => hno.out j y (by have := (List.getElem?_eq_some_iff.1 hy).1; omega) hy)]; rfl, hbl, hIr⟩

set_option maxRecDepth 100000 in
theorem containsFunc_fill {α : Type} (enc : α → List Value) (hk : ∀ x, (enc x).length = 6) (p : α → Bool) (g : Nat) (lb : Array Value) (eg : ∀ args w, (callFunc g args).run Tryd.prog w = .ok (.enter g args) w) (I : World → Prop)
    (A : Option Addr) (n c : Nat) (xs : List α) (w : World) (hr : Hid (RdRows w w.heap.size enc 6 A n xs)) (hn : n ≤ 9223372036854775807) (hI : Hid (∀ W W', I W → W.grownBy W' none → I W')) (hIw : Hid (I w))
    (hp : Hid (∀ W x, I W → Calls Tryd.prog g (#[.agg (enc x).toArray] ++ lb) W fun e w' => e = .returned (.bool (p x)) ∧ Below W.heap.size W w')) :
    Calls Tryd.prog 106 #[.slice A n c, .func (.func g) #[] lb] w fun e w' => e = .returned (.bool (xs.any p)) ∧ Below w.heap.size w w' ∧ I w' := by
  have hany : decide (0 ≤ idxOf p xs) = xs.any p := by
    rcases idxOf_cases p xs with ⟨h, ha⟩ | ⟨j, x, h, hx, hp, _⟩
    · have : xs.any p = false := List.any_eq_false.2 (fun x hx => by simp [ha x hx])
      rw [h, this]; decide
    · have : xs.any p = true := List.any_eq_true.2 ⟨x, List.mem_of_getElem? hx, hp⟩
      rw [h, this]; simp
  have hc := indexFunc_fill enc hk p g lb eg I A n c xs w hr hn hI hIw.out hp
  generalize idxOf p xs = ii at hany hc
  have HC := Lib.hid hc
  clear hc
  go_enter Tryd.func106, Tryd.ntmps106
  go_wp2_with fail
  refine HC.out.mono ?_
  rintro e w' ⟨rfl, hb, hIw'⟩
  have HAN := Lib.hid hany
  clear hany
  go_wp2_with fail
  go_ret
  exact ⟨by rw [← HAN.out]; rfl, hb, hIw'⟩

set_option maxRecDepth 100000 in
set_option maxHeartbeats 1000000 in
theorem clone_fill {α : Type} (enc : α → List Value) (hk : ∀ x, (enc x).length = 6) (h1 : ∀ x, ∀ u ∈ enc x, u.oneCell' = true) (A : Option Addr) (n c : Nat) (xs : List α) (w : World) (hA : A = none → n = 0) (hr : Hid (RdRows w w.heap.size enc 6 A n xs)) (hn : n ≤ maxLen) (hb : n * 48 ≤ 140737488355328) :
    Calls Tryd.prog 108 #[.slice A n c] w fun e w' => ∃ v, e = .returned v ∧ w'.ownsRow w.heap.size 82 6 v n (flatOf enc xs) ∧ Below w.heap.size w w' := by
  obtain ⟨i0, hi, hz0, hz1, hz2⟩ := info_parts info_fill
  have hl : (flatOf enc xs).length = n * 6 := by rw [flatOf_length hk, hr.out.1]
  have q22 : ∀ (w : World) (a : Option Addr) (n c n' c' : Nat), (binOp .eql 78 (.slice a n c) (.slice none n' c')).run Tryd.prog w = .ok (.bool a.isNone) w := fun w a n c n' c' => Lib.run_eql_slice_nil w _ _ a n c n' c' Tryd.underlying78
  cases A with
  | none =>
    have h0 := hA rfl
    subst h0
    have hx : xs = [] := List.eq_nil_of_length_eq_zero hr.out.1
    subst hx
    go_enter Tryd.func108, Tryd.ntmps108
    go_wp2_with fail
    go_ret
    exact ⟨_, rfl, ⟨by simp [flatOf], .inl ⟨rfl, rfl⟩⟩, Below.refl _ _⟩
  | some ad =>
    have hnews : ∀ j u, (flatOf enc xs)[j]? = some u → w.cell? (ad.add j) = some u := by
      intro j u hj
      have hjn : j < n * 6 := by have := (List.getElem?_eq_some_iff.1 hj).1; rw [hl] at this; exact this
      obtain ⟨b, off, ha, _, hrows⟩ := hr.out.2 (by omega)
      cases ha
      obtain ⟨x, hx, he⟩ := flat_split hk (by omega) xs j (by rw [hr.out.1]; exact hjn)
      rw [he] at hj
      have := hrows (j / 6) x hx (j % 6) u hj
      rw [Addr.add_mid, show off + j = off + j / 6 * 6 + j % 6 by omega]
      exact this
    have HN := Lib.hid hnews
    clear hnews
    go_enter Tryd.func108, Tryd.ntmps108
    go_wp2_with (at_builtin; refine wpList_append_own _ rfl _ _ 78 rfl w.heap.size 82 i0 (.agg #[.int .i64 0, .int .i64 0, .int .i64 0, .int .i64 0, .int .i64 0, .int .i64 0]) 6 48 Tryd.underlying78 hi hz0 hz1 hz2 rfl (by decide) _ _ _ rfl (World.ownsRow_made w #[] 0 (Nat.le_refl _) (Nat.zero_le _) (by simp)) ad n c (flatOf enc xs) rfl ?qc1 ?qc2 ?qc3 ?qc4 ?qc5 ?qc6 ?_)
    case qc1 => exact hl
    case qc2 =>
      intro j u hj
      exact Lib.cell?_alloc_some _ (HN.out j u hj)
    case qc3 => exact flatOf_mem h1 xs
    case qc4 => omega
    case qc5 => omega
    case qc6 => simp
    intro v' w' hown hg hv
    go_wp2_with fail
    go_ret
    refine ⟨_, rfl, ?_, ?_⟩
    · simpa using hown
    · exact below_app (size := 6) (xs := []) (n := 0) ((Below.refl _ w).alloc (Nat.le_refl _) _) (by simp) (Nat.le_refl _) (World.ownsRow_made w #[] 0 (Nat.le_refl _) (Nat.zero_le _) (by simp)) hg

set_option maxRecDepth 100000 in
set_option maxHeartbeats 2000000 in
theorem deleteFunc_fill {α : Type} (enc : α → List Value) (hk : ∀ x, (enc x).length = 6) (h1 : ∀ x, ∀ u ∈ enc x, u.oneCell' = true) (p : α → Bool) (g0 : Nat) (lb : Array Value) (eg : ∀ args w, (callFunc g0 args).run Tryd.prog w = .ok (.enter g0 args) w) (I : World → Prop)
    (base : Nat) (v : Value) (n : Nat) (xs : List α) (w : World) (hl : xs.length = n) (hown : Hid (w.ownsRow base 82 6 v n (flatOf enc xs))) (hn : n ≤ maxLen) (hI : Hid (∀ W W', I W → W.grownBy W' v.ownBlock → I W')) (hIw : Hid (I w))
    (hp : Hid (∀ W x, I W → Calls Tryd.prog g0 (#[.agg (enc x).toArray] ++ lb) W fun e w' => e = .returned (.bool (p x)) ∧ Below W.heap.size W w')) :
    Calls Tryd.prog 107 #[v, .func (.func g0) #[] lb] w fun e w' => ∃ v', e = .returned v' ∧ w'.ownsRow base 82 6 v' (xs.filter fun x => !p x).length (flatOf enc (xs.filter fun x => !p x)) ∧ w.grownBy w' v.ownBlock ∧ v'.ownBlock = v.ownBlock ∧ I w' := by
  have hn2 : n ≤ 9223372036854775807 := by unfold maxLen at hn; exact hn
  obtain ⟨A, cap, rfl, hcap, hrd⟩ := own_rows hk hown.out hl
  have hif := indexFunc_fill enc hk p g0 lb eg I A n cap xs w hrd hn2 (show Hid _ from fun W W' h hg => hI.out W W' h (grown_but hg _)) hIw.out hp
  rcases idxOf_cases p xs with ⟨he, hall⟩ | ⟨k0, x0, he, hx0, hpx, hno⟩
  · have hfil : (xs.filter fun x => !p x) = xs := List.filter_eq_self.2 (fun x hx => by simp [hall x hx])
    rw [hfil, hl]
    rw [he] at hif
    have HC := Lib.hid hif
    clear hif hall hfil he
    go_enter Tryd.func107, Tryd.ntmps107
    go_wp2_with fail
    refine HC.out.mono ?_
    rintro e w' ⟨rfl, hb, hIw'⟩
    have hg : w.grownBy w' none := grown_of_below hb none
    clear hb
    go_wp2_with fail
    go_ret
    exact ⟨_, rfl, hown.out.kept hg (by cases A <;> simp [Value.ownBlock]), grown_but hg _, rfl, hIw'⟩
  · have hk0n : k0 < n := by have := (List.getElem?_eq_some_iff.1 hx0).1; omega
    obtain ⟨g, cap', cur, hv, hnc, hcm, hbg, hblk, hcs, hrows⟩ := own_rows' hk hown.out hl (by omega)
    cases hv
    rw [he] at hif
    have HC := Lib.hid hif
    have hglt : g < w.heap.size := (Array.getElem?_eq_some_iff.1 hblk).1
    have hk1 : ((k0 : Int) == -1) = false := beq_eq_false_iff_ne.2 (by omega)
    have hv0 := Tryd.zeroValue82
    have hszA : ∀ x, (Tryd.prog.info? 82).map (·.size) = some (enc x).toArray.size := fun x => by rw [List.size_toArray, hk]; exact size_fill
    have hszL : ∀ x, (Tryd.prog.info? 82).map (·.size) = some (enc x).length := fun x => by rw [hk]; exact size_fill
    have h6 : ∀ x, 6 = (enc x).toArray.size := fun x => by rw [List.size_toArray, hk]
    have honeA : ∀ x, (enc x).toArray.all (·.oneCell') = true := fun x => by rw [Array.all_eq_true_iff_forall_mem]; intro u hu; exact h1 x u (by simpa using hu)
    have HX0 : Hid ((xs.take (k0 + 1)).filter (fun x => !p x) = xs.take k0) := by
      show _ = _
      rw [filter_take_succ _ xs k0 x0 hx0, hpx]
      simp only [Bool.not_true, Bool.false_eq_true, if_false, List.append_nil]
      refine List.filter_eq_self.2 (fun x hx => ?_)
      obtain ⟨j, hj, rfl⟩ := List.mem_iff_getElem.1 hx
      rw [List.length_take] at hj
      simp only [List.getElem_take]
      simp [hno j _ (by omega) (List.getElem?_eq_getElem (by omega))]
    clear hif hno hpx hx0 he hrd
    have HB := Lib.hid hblk
    have HR := Lib.hid hrows
    clear hblk hrows
    go_enter Tryd.func107, Tryd.ntmps107
    go_wp2_with fail
    refine HC.out.mono ?_
    rintro e w1 ⟨rfl, hb1, hIw1⟩
    have hblk1 := (hb1.block g hglt).trans HB.out
    have hcs' := hcs
    have hrows1 := HR.out.below hb1 hglt
    have hg1 : w.grownBy w1 (some g) := grown_of_below hb1 _
    have HI1 := Lib.hid hIw1
    have HB1 : HBlk w1 g 82 (cap * 6) := ⟨cur, hblk1, hcs⟩
    clear hb1 hIw1 HC HB HR hblk1
    go_wp2_with fail
    go_loopw [5, 6, 7] (fun s5 s6 _ wr => ∃ i j : Nat, s5 = .int .i64 i ∧ s6 = .int .i64 j ∧ i < j ∧ j ≤ n ∧ ((xs.take j).filter fun x => !p x).length = i ∧ RowsAt wr enc 6 g 0 ((xs.take j).filter fun x => !p x) ∧ Hid (∀ t y, j ≤ t → xs[t]? = some y → wr.rangeAt g (0 + t * 6) (enc y)) ∧ w.grownBy wr (some g) ∧ HBlk wr g 82 (cap * 6) ∧ I wr) (fun _ s6 _ _ => n - (intOf s6).toNat)
    case atStart =>
      refine ⟨k0, k0 + 1, rfl, by go_num, by omega, by omega, by rw [HX0.out, List.length_take]; omega, ?_, (show Hid _ from fun t y _ hy => hrows1 t y hy), hg1, HB1, HI1.out⟩
      rw [HX0.out]
      intro t y hy
      refine hrows1 t y ?_
      rw [List.getElem?_take] at hy
      split at hy
      · exact hy
      · cases hy
    case round =>
      obtain ⟨i, j, rfl, rfl, hij, hjn, hlen, hlow, hhigh, hgr, hblk, hIr⟩ := hrel
      clear hrows1 hg1 HB1 HI1 HX0
      have hszr := hgr.size
      by_cases hlt : j < n
      · obtain ⟨x, hx⟩ : ∃ x, xs[j]? = some x := ⟨_, List.getElem?_eq_getElem (by omega)⟩
        have r1 := hhigh.out j x (Nat.le_refl _) hx
        rw [Nat.zero_add] at r1
        have hfs := Lib.hid (filter_take_succ (fun x => !p x) xs j x hx)
        have hIa : I (wr.alloc (.cells (enc x).toArray 82)) := hI.out _ _ hIr (World.grownBy_alloc _ _ _)
        have hcall := hp.out _ x hIa
        have HL := Lib.hid hlow
        have HLen := Lib.hid hlen
        clear hx hlow hlen hIr
        cases hq : p x with
        | true =>
          rw [hq] at hcall
          have HC := Lib.hid hcall
          clear hcall
          go_wp2_with (first
            | (refine wpList_load_mid rfl 82 _ rfl g (j * 6) rfl (enc x) _ r1 Tryd.underlying82 rfl (hszL x) ?_)
            | (refine wpList_store_row rfl 82 _ _ rfl wr.heap.size (enc x).toArray rfl rfl 82 #[.int .i64 0, .int .i64 0, .int .i64 0, .int .i64 0, .int .i64 0, .int .i64 0] (alloc_new' rfl) (hszA x) (h6 x) (honeA x) ?_; rw [alloc_setRow])
            | (refine wpList_load_row rfl 82 _ rfl wr.heap.size rfl 82 (enc x).toArray (0, 0) _ (alloc_new' rfl) Tryd.underlying82 rfl (hszA x) ?_)
            | (go_at_fn g0; refine HC.out.mono ?_; rintro e w' ⟨rfl, hb'⟩))
          clear r1
          have hgw : wr.grownBy w' none := grownBy_trans (World.grownBy_alloc wr _ none) (grown_of_below hb' none)
          have hIw' := hI.out _ _ hIa (grown_of_below hb' _)
          go_roundw
          case rel =>
            refine ⟨i, j + 1, rfl, by go_num, by omega, by omega, by rw [hfs.out, hq]; simpa using HLen.out, ?_, (show Hid _ from fun t y ht hy => rangeAt_grown (hhigh.out t y (by omega) hy) hgw (by simp)), grownBy_trans hgr (grown_but hgw _), hblk.grown hgw (by simp), hIw'⟩
            rw [hfs.out, hq]
            simpa using HL.out.grown hgw (by simp)
          case measure => simp [intOf]; omega
        | false =>
          rw [hq] at hcall
          have HC := Lib.hid hcall
          clear hcall
          go_wp2_with (first
            | (refine wpList_load_mid rfl 82 _ rfl g (j * 6) rfl (enc x) _ r1 Tryd.underlying82 rfl (hszL x) ?_)
            | (refine wpList_store_row rfl 82 _ _ rfl wr.heap.size (enc x).toArray rfl rfl 82 #[.int .i64 0, .int .i64 0, .int .i64 0, .int .i64 0, .int .i64 0, .int .i64 0] (alloc_new' rfl) (hszA x) (h6 x) (honeA x) ?_; rw [alloc_setRow])
            | (refine wpList_load_row rfl 82 _ rfl wr.heap.size rfl 82 (enc x).toArray (0, 0) _ (alloc_new' rfl) Tryd.underlying82 rfl (hszA x) ?_)
            | (go_at_fn g0; refine HC.out.mono ?_; rintro e w' ⟨rfl, hb'⟩; have hf' := (hb'.block wr.heap.size (by simp)).trans (alloc_new' (o := .cells (enc x).toArray 82) rfl); have hgw : wr.grownBy w' none := grownBy_trans (World.grownBy_alloc wr _ none) (grown_of_below hb' none); have hth := (hblk.grown hgw (by simp)).there (k := 6) i (by omega))
            | (refine wpList_load_row rfl 82 _ rfl wr.heap.size rfl 82 (enc x).toArray (0, 0) _ hf' Tryd.underlying82 rfl (hszA x) ?_)
            | (refine wpList_store_mid rfl 82 _ _ rfl g (i * 6) (enc x).toArray rfl rfl (by rw [← h6]; exact hth) (hszA x) (honeA x) ?_))
          clear r1
          have hIw' := hI.out _ _ (hI.out _ _ hIa (grown_of_below hb' _)) (grownBy_setCells g (enc x) (i * 6) w')
          go_roundw
          case rel =>
            refine ⟨i + 1, j + 1, by go_num, by go_num, by omega, by omega, by rw [hfs.out, hq]; simp; exact HLen.out, ?_, (show Hid _ from rows_high hk (fun t y ht hy => rangeAt_grown (hhigh.out t y ht hy) hgw (by simp)) hij), grownBy_trans (grownBy_trans hgr (grown_but hgw _)) (grownBy_setCells g _ _ _), (hblk.grown hgw (by simp)).set _ _, hIw'⟩
            rw [hfs.out, hq]
            simpa using rows_keep hk (HL.out.grown hgw (by simp)) HLen.out hth
          case measure => simp [intOf]; omega
      · obtain rfl : j = n := by omega
        have hfin : xs.take j = xs := List.take_of_length_le (by omega)
        rw [hfin] at hlow hlen
        have hth := hblk.there' (k := 6) i (j - i) (by omega)
        obtain ⟨vs, hvl, hcl⟩ := run_clear_rows wr 78 82 (.agg #[.int .i64 0, .int .i64 0, .int .i64 0, .int .i64 0, .int .i64 0, .int .i64 0]) 6 Tryd.underlying78 hv0 rfl (by omega) (by decide) g (i * 6) (j - i) (cap - i) hth
        have hIw' := hI.out _ _ hIr (grownBy_setCells g vs (i * 6) wr)
        have hblk' := hblk.set vs (i * 6)
        have hlow' := rows_clear hk hlow hlen vs
        have hgr' := grownBy_trans hgr (grownBy_setCells g vs (i * 6) wr)
        clear hlow hhigh hgr hblk hIr hfin
        have H1 := Lib.hid hlow'
        clear hlow' hvl hth
        go_wp2_with fail
        go_ret
        obtain ⟨cur', hc1, hc2⟩ := hblk'.out
        exact ⟨_, rfl, by rw [hlen]; exact own_of_rows hk (by omega) hbg hc1 hc2 (by omega) hcm hlen H1.out, hgr', rfl, hIw'⟩
end Go.Proofs.YtdebldpmloignaaDoor
