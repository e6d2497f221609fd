/-
  DealParts: the walk.
-/
import Derived.Test.YtdebldpmloignaaDoorDlT
import Derived.Test.YtdebldpmloignaaDoorLaidB
import Derived.Deep.CutRange
import Derived.Deep.CutBlock
namespace Go.Proofs.YtdebldpmloignaaDoor
open Go.RowKit
set_option linter.unusedVariables false
set_option linter.unusedSimpArgs false

theorem addLK_ids {l : Bool → List Ord} {o : Ord} {came : Nat} {N : Int} (h : ∀ s, ∀ x ∈ l s, x.id ≤ N) (ho : o.id ≤ N) : ∀ s, ∀ x ∈ addLK l o came s, x.id ≤ N := by
  intro s x hx
  unfold addLK at hx
  split at hx
  · unfold addL at hx
    by_cases e : s = o.sell
    · subst e
      rw [updL_same] at hx
      rcases List.mem_cons.1 ((insAt_perm _ _ _).mem_iff.1 hx) with rfl | h1
      · exact ho
      · exact h _ x h1
    · rw [updL_other _ _ _ _ e] at hx
      exact h s x hx
  · exact h s x hx
theorem addLK_len {l : Bool → List Ord} {o : Ord} {came : Nat} : (addLK l o came true).length + (addLK l o came false).length ≤ (l true).length + (l false).length + 1 := by
  unfold addLK
  split
  · unfold addL
    have h2 := (insAt_perm (l o.sell) (placeOf (l o.sell) (o.at (came + 1))) (o.at (came + 1))).length_eq
    rw [List.length_cons] at h2
    generalize insAt (l o.sell) (placeOf (l o.sell) (o.at (came + 1))) (o.at (came + 1)) = X at h2 ⊢
    cases ho : o.sell
    · rw [ho] at h2
      simp [updL]
      omega
    · rw [ho] at h2
      simp [updL]
      omega
  · omega
theorem Inv.addLK {l : Bool → List Ord} {o : Ord} {came : Nat} (h : Inv l came) : Inv (addLK l o came) (addC l o came) := by
  unfold Go.Proofs.YtdebldpmloignaaDoor.addLK addC
  split
  · exact h.add (by assumption)
  · exact h
theorem addC_le (l : Bool → List Ord) (o : Ord) (came : Nat) : addC l o came ≤ came + 1 := by unfold addC; split <;> omega
theorem fills_ok {l : Bool → List Ord} {o : Ord} {came : Nat} (hI : Inv l came) (hg : Ord.good o = true) : (dealF l o).length ≤ 1000 ∧ ∀ f ∈ dealF l o, OkF f := by
  have hz : 0 ≤ o.lots := by unfold Ord.good at hg; simp at hg; omega
  have hS : ∀ x ∈ l (!o.sell), 1 ≤ x.lots := fun x hx => (hI.lotsR _ x hx).1
  refine ⟨Nat.le_trans (match_len hz hS) (Nat.le_trans (hI.len _) (by decide)), fun f hf => ?_⟩
  obtain ⟨i, hi⟩ := List.getElem?_of_mem hf
  obtain ⟨x, hx, he, h1, h2, _, _⟩ := match_fills hz hS i f hi
  have hxm := List.mem_of_getElem? hx
  have hgx := hI.good _ x hxm
  have hp : f.price = x.price := by rw [he]; exact fillO_price _ _ _
  unfold OkF
  unfold Ord.good at hgx
  simp at hgx
  omega
theorem fills_far {w : World} {B q base n came : Nat} {l : Bool → List Ord} {v : Bool → Value} {s : Value} {xs : List Value} (h : BV w B q l v came) (ho : w.ownsRow base 82 6 s n xs) : ∀ g, s.ownBlock = some g → ¬ BF q v g := fun g hg => by
  obtain ⟨cur, hc⟩ := own_type ho hg
  exact h.far hc (by decide) (by decide)
theorem worthF_range {xs : List Fill} (h : xs.length ≤ 1000 ∧ ∀ f ∈ xs, OkF f) : 0 ≤ worthF xs ∧ worthF xs ≤ 1000000000000 := by
  obtain ⟨a, b⟩ := sumTo_range costF 1000000000 xs (fun f hf => costF_range (h.2 f hf)) xs.length (by omega)
  rw [sumTo_all] at a b
  unfold worthF
  omega
set_option maxRecDepth 100000 in
set_option maxHeartbeats 8000000 in
theorem dealParts_walk (B0 : Nat) (E : Nat → Addr) (A : Option Addr) (len cap : Nat) (ds : List Ord) (o : Ord) (split : Int) (w : World) (hE : Hid (Errs B0 w [1, 2, 5, 6, 7] E)) (hB0 : B0 ≤ w.heap.size) (hz : Hid (RdRows w w.heap.size Ord.cells 6 A len ds)) (hcap : len ≤ cap) (hcm : cap ≤ maxLen) :
    Calls Tryd.prog 10 #[.slice A len cap, .agg o.cells.toArray, .int .i64 split] w fun e w' => e = .returned (.bool true) ∧ Below w.heap.size w w' := by
  have hlM : (len : Int) ≤ 9223372036854775807 := by unfold maxLen at hcm; omega
  have HENV : Hid (∀ W, Below w.heap.size w W → EnvK W E) := fun W hb => EnvK.of5 (hE.out.below (hb.mono hB0)) (fun k hk => hk)
  obtain ⟨oi, ot, os, op, ol, oq⟩ := o
  obtain ⟨X4, hX4⟩ : ∃ z : Nat, z = w.heap.size := ⟨_, rfl⟩
  obtain ⟨W0, hW0⟩ : ∃ z, z = w.alloc (.cells #[.int .i64 oi, .int .i64 ot, .bool os, .int .i64 op, .int .i64 ol, .int .i64 oq] 67) := ⟨_, rfl⟩
  have hb0 : Below w.heap.size w W0 := by rw [hW0]; exact (Below.refl _ w).alloc (Nat.le_refl _) _
  have HO0 : Hid (Blk W0 X4 #[.int .i64 oi, .int .i64 ot, .bool os, .int .i64 op, .int .i64 ol, .int .i64 oq] 67) := by show Blk _ _ _ _; rw [hW0, hX4]; exact Blk.new w _ _
  have HAW := Lib.hid (awake14_c W0)
  have HB0 := Lib.hid hb0
  have HW0 := Lib.hid hW0
  have HXE := Lib.hid hX4
  have HXL : Hid (w.heap.size ≤ X4) := by show _ ≤ _; omega
  clear hcm hcap hE hB0 hb0 hW0 hX4
  simp only [Ord.cells]
  go_enter Tryd.func10, Tryd.ntmps10
  go_wp2_with fail
  rw [← HW0.out, ← HXE.out]
  refine HAW.out.mono ?_
  rintro e w1 ⟨rfl, hb1⟩
  have HB1 := Lib.hid (HB0.out.trans (hb1.mono HB0.out.size))
  have HO1 := Lib.hid (HO0.out.below hb1)
  have f0 := HO1.out.free 0
  have c0 : w1.cell? ⟨X4, 0, none⟩ = some (.int .i64 oi) := HO1.out.cell 0 _ rfl
  have HO2 : Hid (Blk (w1.setCell ⟨X4, 0, none⟩ (.int .i64 1048576)) X4 #[.int .i64 1048576, .int .i64 ot, .bool os, .int .i64 op, .int .i64 ol, .int .i64 oq] 67) := HO1.out.set 0 (.int .i64 1048576)
  have HB2 : Hid (Below w.heap.size w (w1.setCell ⟨X4, 0, none⟩ (.int .i64 1048576))) := HB1.out.trans ((Turns.set (F := fun k => k = X4) rfl).below HB1.out.size (fun k hk => by subst hk; exact HXL.out))
  have r2 : (w1.setCell ⟨X4, 0, none⟩ (.int .i64 1048576)).rangeAt X4 0 [.int .i64 1048576, .int .i64 ot, .bool os, .int .i64 op, .int .i64 ol, .int .i64 oq] := rangeAt_blk HO2.out
  obtain ⟨gb, hgb⟩ : ∃ g, g = Ord.good ⟨1048576, ot, os, op, ol, oq⟩ := ⟨_, rfl⟩
  have HGD : Hid (∀ W, Calls Tryd.prog 53 #[.agg #[.int .i64 1048576, .int .i64 ot, .bool os, .int .i64 op, .int .i64 ol, .int .i64 oq]] W fun e w' => e = .returned (.bool gb) ∧ Below W.heap.size W w') := fun W => by rw [hgb]; exact good_c ⟨1048576, ot, os, op, ol, oq⟩ W
  have HGB := Lib.hid hgb
  clear hb1 hgb
  go_wp2_with (refine wpList_load_mid rfl 67 _ rfl X4 0 rfl [.int .i64 1048576, .int .i64 ot, .bool os, .int .i64 op, .int .i64 ol, .int .i64 oq] _ r2 Tryd.underlying67 rfl size_ord ?_)
  refine (HGD.out _).mono ?_
  rintro e w3 ⟨rfl, hb3⟩
  have HB3 := Lib.hid (HB2.out.trans (hb3.mono HB2.out.size))
  have HO3 := Lib.hid (HO2.out.below hb3)
  have c4 : w3.cell? ⟨X4, 4, none⟩ = some (.int .i64 ol) := HO3.out.cell 4 _ rfl
  clear hb3 f0 c0 r2
  cases gb with
  | false =>
    go_wp2_with fail
    go_ret
    exact ⟨rfl, HB3.out⟩
  | true =>
    by_cases hol : ol < 2
    · have hd : decide (ol < 2) = true := by simpa using hol
      clear hol
      go_wp2_with fail
      go_ret
      exact ⟨rfl, HB3.out⟩
    · have hd : decide (ol < 2) = false := by simpa using hol
      have hg := HGB.out.symm
      have hol2 : ol ≤ 1000 := by
        unfold Ord.good at hg
        simp at hg
        omega
      obtain ⟨z, hz1⟩ : ∃ z : Nat, ol = (z : Int) + 1 := ⟨(ol - 1).toNat, by omega⟩
      subst hz1
      have hz2 : 1 ≤ z ∧ z ≤ 999 := by omega
      have HZ2 := Lib.hid hz2
      have HG := Lib.hid hg
      clear hol hg hol2 hz2 HGB HGD
      obtain ⟨qa, hqa⟩ : ∃ q, q = w3.heap.size := ⟨_, rfl⟩
      have HNA := Lib.hid (bnew_c w3)
      rw [← hqa] at HNA
      have HQA : Hid (w.heap.size ≤ qa) := by show _ ≤ _; rw [hqa]; exact HB3.out.size
      have HXA : Hid (X4 < qa) := by show _ < _; rw [hqa]; exact HO3.out.lt
      have HB3' : Hid (∀ W, Below qa w3 W → Below w.heap.size w W) := fun W hb => HB3.out.trans (hb.mono HQA.out)
      have HO3' : Hid (∀ W, Below qa w3 W → Blk W X4 #[.int .i64 1048576, .int .i64 ot, .bool os, .int .i64 op, .int .i64 ((z : Int) + 1), .int .i64 oq] 67) := fun W hb => by rw [hqa] at hb; exact HO3.out.below hb
      clear hqa
      go_wp2_with fail
      refine HNA.out.mono ?_
      rintro e w4 ⟨rfl, hva, hb4⟩
      obtain ⟨va0, hva0⟩ : ∃ v0 : Bool → Value, v0 = fun _ => .slice none 0 0 := ⟨_, rfl⟩
      rw [← hva0] at hva
      have HVA := Lib.hid hva
      have HB4 := Lib.hid (HB3'.out _ hb4)
      have HO4 := Lib.hid (HO3'.out _ hb4)
      obtain ⟨qb, hqb⟩ : ∃ q, q = w4.heap.size := ⟨_, rfl⟩
      have HNB := Lib.hid (bnew_c w4)
      rw [← hqb] at HNB
      have HQB : Hid (qa < qb) := by show _ < _; rw [hqb]; exact hva.lt
      have HV4 : Hid (∀ W, Below qb w4 W → BV W qa qa (fun _ => []) va0 0 ∧ Blk W X4 #[.int .i64 1048576, .int .i64 ot, .bool os, .int .i64 op, .int .i64 ((z : Int) + 1), .int .i64 oq] 67 ∧ Below w.heap.size w W) := fun W hb => by
        rw [hqb] at hb
        exact ⟨HVA.out.below hb, HO4.out.below hb, HB4.out.trans (hb.mono HB4.out.size)⟩
      clear hva hb4 hqb
      go_wp2_with fail
      refine HNB.out.mono ?_
      rintro e w5 ⟨rfl, hvb, hb5⟩
      have HT0 : Hid (Two w5 qa qb X4 (fun _ => []) va0 va0 0 (fun _ => []) 0 ⟨1048576, ot, os, op, (z : Int) + 1, oq⟩) := by
        rw [← hva0] at hvb
        obtain ⟨h1, h2, _⟩ := HV4.out _ hb5
        have hno : ∀ q' k, BF q' va0 k → k = q' := fun q' k hk => by
          rcases hk with rfl | ⟨s, hs⟩
          · rfl
          · rw [hva0] at hs; cases hs
        exact ⟨h1, hvb, fun k hk hk2 => by have e1 := hno _ _ hk; have e2 := hno _ _ hk2; have := HQB.out; omega, h2, fun k hk e => by have e1 := hno _ _ hk; have := HXA.out; omega, fun k hk e => by have e1 := hno _ _ hk; have := HXA.out; have := HQB.out; omega⟩
      have HB5 : Hid (Below w.heap.size w w5) := (HV4.out _ hb5).2.2
      clear hvb hb5 hva0 c4
      go_upto_block 0 with fail
      go_cut [9] from 36 to 58 (fun s9 wx => ∃ (came : Nat) (l : Bool → List Ord) (va vb : Bool → Value) (wr : World), wr = wx ∧ came ≤ 20 ∧ Hid (Inv l came) ∧ Hid (∀ s, ∀ x ∈ l s, x.id ≤ 20) ∧ Hid ((l true).length + (l false).length ≤ 20) ∧ Hid (Two wr qa qb X4 l va vb came l came ⟨1048576, ot, os, op, (z : Int) + 1, oq⟩) ∧ Hid (Below w.heap.size w wr))
      case first =>
        go_wp2_with fail
        go_loopw [9] (fun s9 wx => ∃ (i came : Nat) (l : Bool → List Ord) (va vb : Bool → Value) (wr : World), wr = wx ∧ i ≤ 20 ∧ i ≤ len ∧ s9 = .int .i64 i ∧ came ≤ i ∧ Hid (Inv l came) ∧ Hid (∀ s, ∀ x ∈ l s, x.id ≤ 20) ∧ Hid ((l true).length + (l false).length ≤ i) ∧ Hid (Two wr qa qb X4 l va vb came l came ⟨1048576, ot, os, op, (z : Int) + 1, oq⟩) ∧ Hid (Below w.heap.size w wr)) (fun s9 _ => 20 - (intOf s9).toNat)
        case atStart => exact ⟨0, 0, _, va0, va0, _, rfl, by omega, by omega, rfl, Nat.le_refl _, Lib.hid Inv.empty, Lib.hid (fun s x hx => by cases hx), Nat.le_refl _, HT0, HB5⟩
        case round =>
          obtain ⟨i, came, l, va, vb, wr, rfl, hi, hil, rfl, hci, HI, HID, HLN, HT, HB⟩ := hrel
          clear HT0 HB5
          by_cases h1 : i < len
          · have hk1 : (i : Int) < (len : Int) := by omega
            by_cases h2 : i < 20
            · have hk2 : (i : Int) < 20 := by omega
              obtain ⟨b, off, rfl, hbb, hrows⟩ := hz.out.2 (by omega)
              obtain ⟨x, hx⟩ : ∃ x, ds[i]? = some x := ⟨_, List.getElem?_eq_getElem (by have := hz.out.1; omega)⟩
              have r1 := rangeAt_below (hrows i x hx) HB.out hbb
              obtain ⟨xi, xt, xs, xp, xl, xq⟩ := x
              have r1 : wr.rangeAt b (off + i * 6) [.int .i64 xi, .int .i64 xt, .bool xs, .int .i64 xp, .int .i64 xl, .int .i64 xq] := r1
              have hb6 : Below wr.heap.size wr (wr.alloc (.cells #[.int .i64 ((i : Int) + 1), .int .i64 xt, .bool xs, .int .i64 xp, .int .i64 xl, .int .i64 xq] 67)) := (Below.refl _ _).alloc (Nat.le_refl _) _
              have HT6 := Lib.hid (HT.out.below hb6)
              have HX6 : Hid (Blk (wr.alloc (.cells #[.int .i64 ((i : Int) + 1), .int .i64 xt, .bool xs, .int .i64 xp, .int .i64 xl, .int .i64 xq] 67)) wr.heap.size #[.int .i64 ((i : Int) + 1), .int .i64 xt, .bool xs, .int .i64 xp, .int .i64 xl, .int .i64 xq] 67) := Blk.new wr _ _
              have HB6 := Lib.hid (HB.out.trans (hb6.mono HB.out.size))
              have HAX : Hid (Away qa va wr.heap.size) := HT.out.a.away (Nat.le_refl _)
              have HADA := Lib.hid (add_any E qa qa l va came ⟨(i : Int) + 1, xt, xs, xp, xl, xq⟩ _ (Lib.hid HT6.out.a) (Lib.hid (HENV.out _ HB6.out)) HI.out (by omega) (Nat.le_of_lt HT6.out.a.lt))
              simp only [Ord.cells] at HADA
              clear hrows hx hb6
              go_wp2_with (refine wpList_load_mid rfl 67 _ rfl b (off + i * 6) rfl [.int .i64 xi, .int .i64 xt, .bool xs, .int .i64 xp, .int .i64 xl, .int .i64 xq] _ r1 Tryd.underlying67 rfl size_ord ?_)
              refine HADA.out.mono ?_
              rintro e W7 ⟨rfl, va', hs7⟩
              have HT7 := Lib.hid (HT6.out.stepA hs7)
              have HX7 := Lib.hid (hs7.keep HX6.out HAX.out)
              have HB7 : Hid (Below w.heap.size w W7) := HB6.out.trans (hs7.below HT6.out.a HQA.out)
              have HADB := Lib.hid (add_any E qb qb l vb came ⟨(i : Int) + 1, xt, xs, xp, xl, xq⟩ W7 (Lib.hid HT7.out.b) (Lib.hid (HENV.out _ HB7.out)) HI.out (by omega) (Nat.le_of_lt HT7.out.b.lt))
              simp only [Ord.cells] at HADB
              have r7 : W7.rangeAt wr.heap.size 0 [.int .i64 ((i : Int) + 1), .int .i64 xt, .bool xs, .int .i64 xp, .int .i64 xl, .int .i64 xq] := rangeAt_blk HX7.out
              clear hs7 r1 HADA
              go_wp2_with (refine wpList_load_mid rfl 67 _ rfl wr.heap.size 0 rfl [.int .i64 ((i : Int) + 1), .int .i64 xt, .bool xs, .int .i64 xp, .int .i64 xl, .int .i64 xq] _ r7 Tryd.underlying67 rfl size_ord ?_)
              refine HADB.out.mono ?_
              rintro e W8 ⟨rfl, vb', hs8⟩
              have HT8 := Lib.hid (HT7.out.stepB hs8)
              have HB8 : Hid (Below w.heap.size w W8) := HB7.out.trans (hs8.below HT7.out.b (Nat.le_trans HQA.out (Nat.le_of_lt HQB.out)))
              have HI8 := Lib.hid (HI.out.addLK (o := ⟨(i : Int) + 1, xt, xs, xp, xl, xq⟩))
              have HID8 := Lib.hid (addLK_ids (o := ⟨(i : Int) + 1, xt, xs, xp, xl, xq⟩) (came := came) HID.out (by show (i : Int) + 1 ≤ 20; omega))
              have HLN8 : Hid ((addLK l ⟨(i : Int) + 1, xt, xs, xp, xl, xq⟩ came true).length + (addLK l ⟨(i : Int) + 1, xt, xs, xp, xl, xq⟩ came false).length ≤ i + 1) := Nat.le_trans addLK_len (Nat.add_le_add_right HLN.out 1)
              have HC8 : Hid (addC l ⟨(i : Int) + 1, xt, xs, xp, xl, xq⟩ came ≤ i + 1) := Nat.le_trans (addC_le _ _ _) (by omega)
              clear hs8 r7 HADB
              go_wp2_with fail
              go_roundw
              case rel => exact ⟨i + 1, _, _, va', vb', _, rfl, by omega, by omega, by go_num, HC8.out, HI8, HID8, HLN8, HT8, HB8⟩
              case measure => simp [intOf]; omega
            · have hk2 : ¬ (i : Int) < 20 := by omega
              go_wp2_with fail
              go_meet
              exact ⟨came, l, va, vb, _, rfl, by omega, HI, HID, Nat.le_trans HLN.out hi, HT, HB⟩
          · have hk1 : ¬ (i : Int) < (len : Int) := by omega
            go_wp2_with fail
            go_meet
            exact ⟨came, l, va, vb, _, rfl, by omega, HI, HID, Nat.le_trans HLN.out hi, HT, HB⟩
      case rest =>
        clear HT0 HB5
        obtain ⟨came, l, va, vb, W9, rfl, hc9, HI, HID, HLN, HT, HB⟩ := hcut
        obtain ⟨m, hm, hmz⟩ : ∃ m : Nat, wrap64 ((IntKind.u64.wrap split).tmod (z : Int)) = (m : Int) ∧ m < z := by
          have := umod_range split (z : Int) (by have := HZ2.out; omega) (by have := HZ2.out; omega)
          exact ⟨(wrap64 ((IntKind.u64.wrap split).tmod (z : Int))).toNat, by omega, by omega⟩
        have hz3 : (0 : Int) < (z : Int) := by have := HZ2.out; omega
        have hz4 : (z : Int) ≤ 999 := by have := HZ2.out; omega
        have hm4 : (m : Int) < (z : Int) := by omega
        obtain ⟨o, ho⟩ : ∃ o : Ord, o = ⟨1048576, ot, os, op, (z : Int) + 1, oq⟩ := ⟨_, rfl⟩
        obtain ⟨p, hp⟩ : ∃ p : Ord, p = ⟨1048576, ot, os, op, 1 + (m : Int), oq⟩ := ⟨_, rfl⟩
        obtain ⟨r, hr⟩ : ∃ r : Ord, r = ⟨1048577, ot, os, op, (z : Int) + 1 - (1 + (m : Int)), oq⟩ := ⟨_, rfl⟩
        have hgo : Ord.good o = true := by rw [ho]; exact HG.out
        have hgp : Ord.good p = true := by
          rw [hp]
          have := HG.out
          unfold Ord.good at this ⊢
          simp at this ⊢
          omega
        have hgr : Ord.good r = true := by
          rw [hr]
          have := HG.out
          unfold Ord.good at this ⊢
          simp at this ⊢
          omega
        have hka : addK l o = 0 := addK_zero hgo (fun s x hx e => by have := HID.out s x hx; rw [ho] at e; simp only at e; omega) (by have := HLN.out; omega)
        have hkb : addK l p = 0 := addK_zero hgp (fun s x hx e => by have := HID.out s x hx; rw [hp] at e; simp only at e; omega) (by have := HLN.out; omega)
        obtain ⟨hids, hlen⟩ := dealL_ids (came := came) HI.out hkb
        have hkc : addK (dealL l p came) r = 0 := addK_zero hgr (fun s x hx e => by
          rcases hids s x hx with h | ⟨t, y, hy, h⟩
          · rw [hp] at h; rw [hr] at e; simp only at h e; omega
          · have := HID.out t y hy; rw [hr] at e; simp only at e; omega) (by have := HLN.out; omega)
        have hIb := HI.out.deal hkb
        have hpl := fun c2 c3 => parts_plain (c2 := c2) (c3 := c3) (o := o) (p := p) (q := r) (came := came) HI.out (by rw [ho, hp]) (by rw [ho, hp]) (by rw [ho, hr]) (by rw [ho, hr]) (by rw [hp]; simp only; omega) (by rw [hr]; simp only; omega) (by rw [ho, hp, hr]; simp only; omega)
        have hsp := match_sum (o := p) (z := p.lots) (S := l (!p.sell)) (by rw [hp]; simp only; omega) (fun x hx => (HI.out.lotsR _ x hx).1)
        have hsr := match_sum (o := r) (z := r.lots) (S := dealL l p came (!r.sell)) (by rw [hr]; simp only; omega) (fun x hx => (hIb.lotsR _ x hx).1)
        obtain ⟨n1, hn1⟩ : ∃ n, n = dealZ l p := ⟨_, rfl⟩
        obtain ⟨n2, hn2⟩ : ∃ n, n = dealZ (dealL l p came) r := ⟨_, rfl⟩
        have hposF : ∀ (fs : List Fill), (∀ f ∈ fs, OkF f) → 0 ≤ lotsFs fs := fun fs => by
          induction fs with
          | nil => intro _; simp [lotsFs]
          | cons a t ih =>
            intro h
            have h1 := (h a (by simp)).2.2.1
            have h2 := ih (fun f hf => h f (by simp [hf]))
            unfold lotsFs at *
            simp only [List.map_cons, List.sum_cons] at *
            omega
        have b1 : 0 ≤ n1 ∧ n1 ≤ 1000 := by
          have h0 := hposF _ (fills_ok (o := p) HI.out hgp).2
          have e : p.lots ≤ 1000 := by rw [hp]; simp only; omega
          rw [hn1]
          unfold dealF at h0
          unfold dealZ
          omega
        have b2 : 0 ≤ n2 ∧ n2 ≤ 1000 := by
          have h0 := hposF _ (fills_ok (o := r) hIb hgr).2
          have e : r.lots ≤ 1000 := by rw [hr]; simp only; omega
          rw [hn2]
          unfold dealF at h0
          unfold dealZ
          omega
        have HFA := Lib.hid (fills_ok (o := o) HI.out hgo)
        have HFB := Lib.hid (fills_ok (o := p) HI.out hgp)
        have HFC := Lib.hid (fills_ok (o := r) hIb hgr)
        have HPL := Lib.hid hpl
        have HKA := Lib.hid hka
        have HKB := Lib.hid hkb
        have HKC := Lib.hid hkc
        have HIA := Lib.hid (HI.out.deal hka)
        have HIB := Lib.hid hIb
        have HIC := Lib.hid (hIb.deal hkc)
        have HN1 := Lib.hid hn1
        have HN2 := Lib.hid hn2
        have HCB : Hid (dealC l p came ≤ 1000000) := by show _ ≤ _; unfold dealC; split <;> omega
        have HO := Lib.hid ho
        have HP := Lib.hid hp
        have HR := Lib.hid hr
        obtain ⟨XP, hXP⟩ : ∃ Z : Nat, Z = W9.heap.size := ⟨_, rfl⟩
        obtain ⟨XQ, hXQ⟩ : ∃ Z : Nat, Z = W9.heap.size + 1 := ⟨_, rfl⟩
        obtain ⟨W10, hW10⟩ : ∃ Z : World, Z = (W9.alloc (.cells #[.int .i64 1048576, .int .i64 ot, .bool os, .int .i64 op, .int .i64 (1 + (m : Int)), .int .i64 oq] 67)).alloc (.cells #[.int .i64 1048577, .int .i64 ot, .bool os, .int .i64 op, .int .i64 ((z : Int) + 1 - (1 + (m : Int))), .int .i64 oq] 67) := ⟨_, rfl⟩
        have hb10 : Below W9.heap.size W9 W10 := by rw [hW10]; exact alloc2b W9 _ _ _ _
        have HT10 := Lib.hid (HT.out.below hb10)
        have HB10 := Lib.hid (HB.out.trans (hb10.mono HB.out.size))
        have HP10 : Hid (Blk W10 XP p.cells.toArray 67) := by
          show Blk _ _ _ _
          rw [hW10, hXP, hp]
          exact (Blk.new W9 _ _).below ((Below.refl _ _).alloc (Nat.le_refl _) _)
        have HQ10 : Hid (Blk W10 XQ r.cells.toArray 67) := by
          show Blk _ _ _ _
          rw [hW10, hXQ, hr]
          have := Blk.new (W9.alloc (.cells #[.int .i64 1048576, .int .i64 ot, .bool os, .int .i64 op, .int .i64 (1 + (m : Int)), .int .i64 oq] 67)) #[.int .i64 1048577, .int .i64 ot, .bool os, .int .i64 op, .int .i64 ((z : Int) + 1 - (1 + (m : Int))), .int .i64 oq] 67
          have e : (W9.alloc (.cells #[.int .i64 1048576, .int .i64 ot, .bool os, .int .i64 op, .int .i64 (1 + (m : Int)), .int .i64 oq] 67)).heap.size = W9.heap.size + 1 := by simp
          rw [e] at this
          exact this
        have HAP : Hid (Away qa va XP ∧ Away qb vb XP ∧ Away qa va XQ ∧ Away qb vb XQ) := ⟨HT.out.a.away (by omega), HT.out.b.away (by omega), HT.out.a.away (by omega), HT.out.b.away (by omega)⟩
        have HO9 := HT.out.ob
        have r4 : W9.rangeAt X4 0 [.int .i64 1048576, .int .i64 ot, .bool os, .int .i64 op, .int .i64 ((z : Int) + 1), .int .i64 oq] := rangeAt_blk HO9
        have r4' : (W9.alloc (.cells #[.int .i64 1048576, .int .i64 ot, .bool os, .int .i64 op, .int .i64 (1 + (m : Int)), .int .i64 oq] 67)).rangeAt X4 0 [.int .i64 1048576, .int .i64 ot, .bool os, .int .i64 op, .int .i64 ((z : Int) + 1), .int .i64 oq] := World.rangeAt_alloc r4 _
        have c4 : W9.cell? ⟨X4, 4, none⟩ = some (.int .i64 ((z : Int) + 1)) := HO9.cell 4 _ rfl
        have c4' : ((W9.alloc (.cells #[.int .i64 1048576, .int .i64 ot, .bool os, .int .i64 op, .int .i64 (1 + (m : Int)), .int .i64 oq] 67)).alloc (.cells #[.int .i64 1048577, .int .i64 ot, .bool os, .int .i64 op, .int .i64 ((z : Int) + 1), .int .i64 oq] 67)).cell? ⟨X4, 4, none⟩ = some (.int .i64 ((z : Int) + 1)) := Lib.cell?_alloc_some _ (Lib.cell?_alloc_some _ c4)
        have HW10 := Lib.hid hW10
        have HXP := Lib.hid hXP
        have HXQ := Lib.hid hXQ
        clear hgo hgp hgr hka hkb hkc hids hlen hIb hpl hsp hsr hn1 hn2 hposF hW10 hXP hXQ hb10 HO9 ho hp hr
        go_upto_region 21 with (first
          | (refine wpList_load_mid rfl 67 _ rfl X4 0 rfl [.int .i64 1048576, .int .i64 ot, .bool os, .int .i64 op, .int .i64 ((z : Int) + 1), .int .i64 oq] _ r4 Tryd.underlying67 rfl size_ord ?_)
          | (refine wpList_load_mid rfl 67 _ rfl X4 0 rfl [.int .i64 1048576, .int .i64 ot, .bool os, .int .i64 op, .int .i64 ((z : Int) + 1), .int .i64 oq] _ r4' Tryd.underlying67 rfl size_ord ?_))
        rw [← HW10.out, ← HXQ.out, ← HXP.out]
        clear c4 c4' r4 r4'
        have r10 : W10.rangeAt X4 0 [.int .i64 1048576, .int .i64 ot, .bool os, .int .i64 op, .int .i64 ((z : Int) + 1), .int .i64 oq] := rangeAt_blk HT10.out.ob
        have hkaL : addK l ⟨1048576, ot, os, op, (z : Int) + 1, oq⟩ = 0 := by rw [← HO.out]; exact HKA.out
        have hkbL : addK l ⟨1048576, ot, os, op, 1 + (m : Int), oq⟩ = 0 := by rw [← HP.out]; exact HKB.out
        have hkcL : addK (dealL l p came) ⟨1048577, ot, os, op, (z : Int) + 1 - (1 + (m : Int)), oq⟩ = 0 := by rw [← HR.out]; exact HKC.out
        obtain ⟨hz12, hw12, hl12⟩ := HPL.out came (dealC l p came)
        rw [← HN1.out, ← HN2.out] at hz12
        have HW12 := Lib.hid hw12
        have HL12 := Lib.hid hl12
        have HKBL := Lib.hid hkbL
        have HKCL := Lib.hid hkcL
        clear hw12 hl12 hkbL hkcL
        go_wp2_with (refine wpList_load_mid rfl 67 _ rfl X4 0 rfl [.int .i64 1048576, .int .i64 ot, .bool os, .int .i64 op, .int .i64 ((z : Int) + 1), .int .i64 oq] _ r10 Tryd.underlying67 rfl size_ord ?_)
        refine (match_ok qa qa l va came ⟨1048576, ot, os, op, (z : Int) + 1, oq⟩ W10 (Lib.hid HT10.out.a) HI.out (by omega) (Nat.le_of_lt HT10.out.a.lt) hkaL).mono ?_
        rintro e W11 ⟨sA, va1, rfl, hownA, hsA⟩
        rw [← HO.out] at hownA hsA ⊢
        obtain ⟨A5, c5, rfl, _, _, _⟩ := own_form Fill.k6 hownA
        obtain ⟨zA, hzA⟩ : ∃ t : Int, t = dealZ l o := ⟨_, rfl⟩
        rw [← hzA] at hz12 ⊢
        obtain ⟨nA, hnA⟩ : ∃ t : Nat, t = (dealF l o).length := ⟨_, rfl⟩
        have HT11 := Lib.hid (HT10.out.stepA hsA)
        have HP11 := Lib.hid (hsA.keep HP10.out HAP.out.1)
        have HQ11 := Lib.hid (hsA.keep HQ10.out HAP.out.2.2.1)
        have HB11 := Lib.hid (HB10.out.trans (hsA.below HT10.out.a (Nat.le_trans HQA.out (Nat.le_refl _))))
        have HOA11 := Lib.hid hownA
        have r11 : W11.rangeAt XP 0 [.int .i64 1048576, .int .i64 ot, .bool os, .int .i64 op, .int .i64 (1 + (m : Int)), .int .i64 oq] := by have := rangeAt_blk HP11.out; rw [HP.out] at this; exact this
        clear hownA hsA hzA r10 hkaL
        go_wp2_with (refine wpList_load_mid rfl 67 _ rfl XP 0 rfl [.int .i64 1048576, .int .i64 ot, .bool os, .int .i64 op, .int .i64 (1 + (m : Int)), .int .i64 oq] _ r11 Tryd.underlying67 rfl size_ord ?_)
        refine (match_ok qb qb l vb came ⟨1048576, ot, os, op, 1 + (m : Int), oq⟩ W11 (Lib.hid HT11.out.b) HI.out (by omega) (Nat.le_of_lt HT11.out.b.lt) HKBL.out).mono ?_
        rintro e W12 ⟨sB, vb1, rfl, hownB, hsB⟩
        rw [← HP.out] at hownB hsB ⊢
        rw [← HN1.out]
        obtain ⟨A6, c6, rfl, _, _, _⟩ := own_form Fill.k6 hownB
        have HT12 := Lib.hid (HT11.out.stepB hsB)
        have HQ12 := Lib.hid (hsB.keep HQ11.out HAP.out.2.2.2)
        have HOA12 := Lib.hid (hsB.turns.owns HOA11.out (fills_far HT11.out.b HOA11.out))
        have HB12 := Lib.hid (HB11.out.trans (hsB.below HT11.out.b (Nat.le_trans HQA.out (Nat.le_of_lt HQB.out))))
        have HOB12 := Lib.hid hownB
        have r12 : W12.rangeAt XQ 0 [.int .i64 1048577, .int .i64 ot, .bool os, .int .i64 op, .int .i64 ((z : Int) + 1 - (1 + (m : Int))), .int .i64 oq] := by have := rangeAt_blk HQ12.out; rw [HR.out] at this; exact this
        clear hownB hsB r11 HOA11
        go_wp2_with (refine wpList_load_mid rfl 67 _ rfl XQ 0 rfl [.int .i64 1048577, .int .i64 ot, .bool os, .int .i64 op, .int .i64 ((z : Int) + 1 - (1 + (m : Int))), .int .i64 oq] _ r12 Tryd.underlying67 rfl size_ord ?_)
        refine (match_ok qb qb (dealL l p came) vb1 (dealC l p came) ⟨1048577, ot, os, op, (z : Int) + 1 - (1 + (m : Int)), oq⟩ W12 (Lib.hid HT12.out.b) HIB.out HCB.out (Nat.le_of_lt HT12.out.b.lt) HKCL.out).mono ?_
        rintro e W13 ⟨sC, vb2, rfl, hownC, hsC⟩
        rw [← HR.out] at hownC hsC ⊢
        rw [← HN2.out]
        obtain ⟨A7, c7, rfl, _, _, hrdC⟩ := own_form Fill.k6 hownC
        have HT13 := Lib.hid (HT12.out.stepB hsC)
        have HB13 := Lib.hid (HB12.out.trans (hsC.below HT12.out.b (Nat.le_trans HQA.out (Nat.le_of_lt HQB.out))))
        obtain ⟨_, _, heA, _, hrdA⟩ := own_rows Fill.k6 (hsC.turns.owns HOA12.out (fills_far HT12.out.b HOA12.out)) rfl
        cases heA
        obtain ⟨_, _, heB, _, hrdB⟩ := own_rows Fill.k6 (hsC.turns.owns HOB12.out (fills_far HT12.out.b HOB12.out)) rfl
        cases heB
        have HRA := Lib.hid hrdA
        have HRB := Lib.hid hrdB
        have HRC := Lib.hid hrdC
        obtain ⟨wA1, wA2⟩ := worthF_range HFA.out
        obtain ⟨wB1, wB2⟩ := worthF_range HFB.out
        obtain ⟨wC1, wC2⟩ := worthF_range HFC.out
        have hw := HW12.out
        clear hownC hsC r12 hrdA hrdB hrdC HOA12 HOB12
        have HWA := Lib.hid (worth_c A5 _ c5 (dealF l o) W13 HRA HFA.out.1 (Lib.hid HFA.out.2))
        have HWB : Hid (∀ W, Below W13.heap.size W13 W → Calls Tryd.prog 54 #[.slice A6 (dealF l p).length c6] W fun e w' => e = .returned (.int .i64 (worthF (dealF l p))) ∧ Below W.heap.size W w') := fun W hb => worth_c A6 _ c6 (dealF l p) W (Lib.hid ((HRB.out.below hb (Nat.le_refl _)).mono hb.size)) HFB.out.1 (Lib.hid HFB.out.2)
        have HWC : Hid (∀ W, Below W13.heap.size W13 W → Calls Tryd.prog 54 #[.slice A7 (dealF (dealL l p came) r).length c7] W fun e w' => e = .returned (.int .i64 (worthF (dealF (dealL l p came) r))) ∧ Below W.heap.size W w') := fun W hb => worth_c A7 _ c7 (dealF (dealL l p came) r) W (Lib.hid ((HRC.out.below hb (Nat.le_refl _)).mono hb.size)) HFC.out.1 (Lib.hid HFC.out.2)
        obtain ⟨la, hla⟩ : ∃ t, t = dealL l o came := ⟨_, rfl⟩
        obtain ⟨lc, hlc⟩ : ∃ t, t = dealL (dealL l p came) r (dealC l p came) := ⟨_, rfl⟩
        have HLA : Hid (∀ s W, Below W13.heap.size W13 W → Calls Tryd.prog 50 #[.pointer (some ⟨qa, 0, none⟩), .bool s] W fun e w' => e = .returned (.int .i64 (lotsL (la s))) ∧ Below W.heap.size W w') := fun s W hb => by rw [hla]; exact lots14_c qa qa _ va1 _ s W (Lib.hid (HT13.out.below hb).a) HIA.out
        have HLC : Hid (∀ s W, Below W13.heap.size W13 W → Calls Tryd.prog 50 #[.pointer (some ⟨qb, 0, none⟩), .bool s] W fun e w' => e = .returned (.int .i64 (lotsL (la s))) ∧ Below W.heap.size W w') := fun s W hb => by rw [hla, HL12.out s]; exact lots14_c qb qb _ vb2 _ s W (Lib.hid (HT13.out.below hb).b) HIC.out
        generalize worthF (dealF l o) = wA at *
        generalize worthF (dealF l p) = wB at *
        generalize worthF (dealF (dealL l p came) r) = wC at *
        subst hz12
        subst hw
        clear hla hlc HL12 HW12 HPL HRA HRB HRC HT13 HIA HIB HIC
        go_wp2_with fail
        refine HWA.out.mono ?_
        rintro e W14 ⟨rfl, hb14⟩
        have HB14 := Lib.hid hb14
        clear hb14
        go_wp2_with fail
        refine (HWB.out W14 HB14.out).mono ?_
        rintro e W15 ⟨rfl, hb15⟩
        have HB15 := Lib.hid (HB14.out.trans (hb15.mono HB14.out.size))
        clear hb15
        go_wp2_with fail
        refine (HWC.out W15 HB15.out).mono ?_
        rintro e W16 ⟨rfl, hb16⟩
        have HB16 := Lib.hid (HB15.out.trans (hb16.mono HB15.out.size))
        clear hb16
        go_wp2_with fail
        refine (HLA.out true W16 HB16.out).mono ?_
        rintro e W17 ⟨rfl, hb17⟩
        have HB17 := Lib.hid (HB16.out.trans (hb17.mono HB16.out.size))
        clear hb17
        go_wp2_with fail
        refine (HLC.out true W17 HB17.out).mono ?_
        rintro e W18 ⟨rfl, hb18⟩
        have HB18 := Lib.hid (HB17.out.trans (hb18.mono HB17.out.size))
        clear hb18
        go_wp2_with fail
        refine (HLA.out false W18 HB18.out).mono ?_
        rintro e W19 ⟨rfl, hb19⟩
        have HB19 := Lib.hid (HB18.out.trans (hb19.mono HB18.out.size))
        clear hb19
        go_wp2_with fail
        refine (HLC.out false W19 HB19.out).mono ?_
        rintro e W20 ⟨rfl, hb20⟩
        have HB20 := Lib.hid (HB19.out.trans (hb20.mono HB19.out.size))
        clear hb20
        go_wp2_with fail
        go_ret
        exact ⟨rfl, HB13.out.trans (HB20.out.mono HB13.out.size)⟩
end Go.Proofs.YtdebldpmloignaaDoor
