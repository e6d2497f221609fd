/-
  DealFair: the walk.
-/
import Derived.Test.YtdebldpmloignaaDoorDlP
import Derived.Test.YtdebldpmloignaaDoorLaidB
import Derived.Deep.QuietTactic
import Derived.BigQuiet
namespace Go.Proofs.YtdebldpmloignaaDoor
open Go.RowKit
set_option linter.unusedVariables false
set_option linter.unusedSimpArgs false

theorem below_drewN' {B : Nat} {a w : World} {n : Nat} (h : Below B a w) : Below B a (w.drewN n) := below_drewN h n
set_option maxRecDepth 100000 in
set_option maxHeartbeats 8000000 in
theorem dealFair_walk (B0 : Nat) (E : Nat → Addr) (A : Option Addr) (len cap : Nat) (ds : List Ord) (w : World) (hE : Hid (Errs B0 w [1, 2, 5, 6, 7] E)) (hB0 : B0 ≤ w.heap.size) (hz : Hid (RdRows w w.heap.size Ord.cells 6 A len ds)) (hcap : len ≤ cap) (hcm : cap ≤ maxLen) :
    Calls Tryd.prog 9 #[.slice A len cap] w fun e w' => e = .returned (.bool true) ∧ Below w.heap.size w w' := by
  have hlM : (len : Int) ≤ 9223372036854775807 := by unfold maxLen at hcm; omega
  have HENV : Hid (∀ W, Below w.heap.size w W → EnvK W E) := fun W hb => EnvK.of5 (hE.out.below (hb.mono hB0)) (fun k hk => hk)
  have HAW := Lib.hid (awake14_c w)
  clear hcm hcap hE hB0
  go_enter Tryd.func9, Tryd.ntmps9
  go_wp2_with fail
  refine HAW.out.mono ?_
  rintro e w1 ⟨rfl, hb1⟩
  have HB1 := Lib.hid hb1
  clear hb1 HAW
  go_wp2_with fail
  obtain ⟨q, hq⟩ : ∃ q, q = w1.heap.size := ⟨_, rfl⟩
  have HNEW := Lib.hid (bnew_c w1)
  rw [← hq] at HNEW
  have HQ1 : Hid (w.heap.size ≤ q) := by show _ ≤ _; rw [hq]; exact HB1.out.size
  clear hq
  refine HNEW.out.mono ?_
  rintro e w2 ⟨rfl, hv2, hb2⟩
  obtain ⟨v0, hv2e⟩ : ∃ v0 : Bool → Value, v0 = fun _ => .slice none 0 0 := ⟨_, rfl⟩
  have HV2 : Hid (BV w2 q q (fun _ => []) v0 0) := by show BV _ _ _ _ _ _; rw [hv2e]; exact hv2
  have HB2 : Hid (Below w.heap.size w w2) := HB1.out.trans (hb2.mono (Nat.le_trans HQ1.out (Nat.le_refl _)))
  clear hv2 hb2 hv2e HNEW
  go_wp2_with fail
  go_loopw [4] (fun s4 wx => ∃ (k came : Nat) (l : Bool → List Ord) (v : Bool → Value) (wr : World), wr = wx ∧ k ≤ 40 ∧ k ≤ len ∧ s4 = .int .i64 k ∧ came ≤ k ∧ Hid (Inv l came) ∧ Hid (Unx l) ∧ Hid (BV wr q q l v came) ∧ Hid (Below w.heap.size w wr)) (fun s4 _ => 40 - (intOf s4).toNat)
  case atStart => exact ⟨0, 0, _, v0, _, rfl, by omega, by omega, rfl, Nat.le_refl _, Lib.hid Inv.empty, Lib.hid (fun a ha => by cases ha), HV2, HB2⟩
  case round =>
    obtain ⟨k, came, l, v, wr, rfl, hk, hkl, rfl, hck, HI, HU, HV, HB⟩ := hrel
    clear HV2 HB2
    by_cases h1 : k < len
    · have hk1 : (k : Int) < (len : Int) := by omega
      by_cases h2 : k < 40
      · have hk2 : (k : Int) < 40 := by omega
        obtain ⟨b, off, rfl, hbb, hrows⟩ := hz.out.2 (by omega)
        obtain ⟨x, hx⟩ : ∃ x, ds[k]? = some x := ⟨_, List.getElem?_eq_getElem (by have := hz.out.1; omega)⟩
        have r1 := rangeAt_below (hrows k x hx) HB.out hbb
        obtain ⟨oi, ot, os, op, ol, oq⟩ := x
        have r1 : wr.rangeAt b (off + k * 6) [.int .i64 oi, .int .i64 ot, .bool os, .int .i64 op, .int .i64 ol, .int .i64 oq] := r1
        obtain ⟨OB, hOB⟩ : ∃ z : Nat, z = wr.heap.size := ⟨_, rfl⟩
        obtain ⟨W5, hW5⟩ : ∃ Z : World, Z = wr.alloc (.cells #[.int .i64 oi, .int .i64 ot, .bool os, .int .i64 op, .int .i64 ol, .int .i64 oq] 67) := ⟨_, rfl⟩
        have hb5 : Below wr.heap.size wr W5 := by rw [hW5]; exact (Below.refl _ _).alloc (Nat.le_refl _) _
        have HO5 : Hid (Blk W5 OB #[.int .i64 oi, .int .i64 ot, .bool os, .int .i64 op, .int .i64 ol, .int .i64 oq] 67) := by show Blk _ _ _ _; rw [hW5, hOB]; exact Blk.new wr _ _
        have HAW5 : Hid (Away q v OB) := HV.out.away (by rw [hOB]; exact Nat.le_refl _)
        have HV5 := Lib.hid (HV.out.below hb5)
        have HBW5 := Lib.hid (HB.out.trans (hb5.mono HB.out.size))
        have HW5 := Lib.hid hW5
        have HOE := Lib.hid hOB
        have HLQ : Hid (∀ k, BF q v k → k < W5.heap.size) := fun k hk => (HV5.out.low_not k hk).2
        clear hrows hx hb5 hW5 hOB
        go_upto_region 8 with (refine wpList_load_mid rfl 67 _ rfl b (off + k * 6) rfl [.int .i64 oi, .int .i64 ot, .bool os, .int .i64 op, .int .i64 ol, .int .i64 oq] _ r1 Tryd.underlying67 rfl size_ord ?_)
        rw [← HW5.out, ← HOE.out]
        clear r1
        go_wp2_with fail
        refine (blist_c q q l v came true W5 HV5 HI.out.small).mono ?_
        rintro e W6 ⟨va, rfl, hown1, hb6⟩
        obtain ⟨A1, c1, rfl, _, _, hr1⟩ := own_form Ord.k6 hown1
        have HV6 := Lib.hid (HV5.out.below hb6)
        have HB56 := Lib.hid hb6
        have HO6 := Lib.hid (HO5.out.below hb6)
        have HOW1 := Lib.hid hown1
        clear hown1 hb6 hr1
        go_wp2_with fail
        refine (blist_c q q l v came false W6 HV6 HI.out.small).mono ?_
        rintro e W7 ⟨va, rfl, hown2, hb7⟩
        obtain ⟨A2, c2, rfl, _, _, hr2⟩ := own_form Ord.k6 hown2
        have HV7 := Lib.hid (HV6.out.below hb7)
        have HB57 := Lib.hid (HB56.out.trans (hb7.mono HB56.out.size))
        have HO7 := Lib.hid (HO6.out.below hb7)
        have HBW7 := Lib.hid (HBW5.out.trans (HB57.out.mono HBW5.out.size))
        have HOW1 := Lib.hid ((Turns.of_below (F := fun _ => False) hb7).owns HOW1.out (fun _ _ h => h))
        have HOW2 := Lib.hid (hown2.mono HB56.out.size)
        have r5 : W7.rangeAt OB 0 [.int .i64 oi, .int .i64 ot, .bool os, .int .i64 op, .int .i64 ol, .int .i64 oq] := rangeAt_blk HO7.out
        clear hown2 hb7 hr2
        go_wp2_with (refine wpList_load_mid rfl 67 _ rfl OB 0 rfl [.int .i64 oi, .int .i64 ot, .bool os, .int .i64 op, .int .i64 ol, .int .i64 oq] _ r5 Tryd.underlying67 rfl size_ord ?_)
        clear r5
        refine (match_any E q q l v came ⟨oi, ot, os, op, ol, oq⟩ W7 HV7 (Lib.hid (HENV.out _ HBW7.out)) HI.out (by omega) (Nat.le_of_lt HV7.out.lt)).mono ?_
        rintro e W8 (⟨hk, rfl, hb8⟩ | ⟨hk, s8, v2, rfl, hown8, hs8⟩)
        · have HBW8 := Lib.hid (HBW7.out.trans (hb8.mono HBW7.out.size))
          have HV8 := Lib.hid (HV7.out.below hb8)
          rw [erV_some E _ hk]
          clear hk hb8
          go_wp2_with fail
          go_roundw
          case rel => exact ⟨k + 1, came, l, v, _, rfl, by omega, by omega, by go_num, by omega, HI, HU, HV8, HBW8⟩
          case measure => simp [intOf]; omega
        · have HBW8 : Hid (Below w.heap.size w W8) := HBW7.out.trans (hs8.below HV7.out HQ1.out)
          have HOB := Lib.hid (hs8.keep HO7.out HAW5.out)
          have HV8 := Lib.hid hs8.out
          have HOWN := Lib.hid hown8
          have HRR1 : Hid (RdRows W8 W8.heap.size Ord.cells 6 A1 (l true).length (l true)) := by
            obtain ⟨A', c', he, _, _, hr⟩ := own_form Ord.k6 (hs8.turns.owns HOW1.out (fun g hg hf => by have h1 := (HOW1.out.lt g hg).1; have h2 := HLQ.out g hf; omega))
            cases he
            exact hr
          have HRR2 : Hid (RdRows W8 W8.heap.size Ord.cells 6 A2 (l false).length (l false)) := by
            obtain ⟨A', c', he, _, _, hr⟩ := own_form Ord.k6 (hs8.turns.owns HOW2.out (fun g hg hf => by have h1 := (HOW2.out.lt g hg).1; have h2 := HLQ.out g hf; omega))
            cases he
            exact hr
          have HI8 := Lib.hid (HI.out.deal hk)
          have HU8 := Lib.hid (HU.out.deal HI.out hk)
          have hgood := (addK_parts hk).1
          have hgl : 1 ≤ ol ∧ ol ≤ 1000 := by
            unfold Ord.good at hgood
            simp at hgood
            omega
          have HOLB : Hid (ol ≤ 1000) := hgl.2
          have hS1 : ∀ s, ∀ x ∈ l s, 1 ≤ x.lots := fun s x hx => (HI.out.lotsR s x hx).1
          have HCE : Hid (dealC l ⟨oi, ot, os, op, ol, oq⟩ came ≤ k + 1) := by show _ ≤ _; unfold dealC; split <;> omega
          have HFS0 : Hid (∀ s, s = !os → ∀ (j : Nat) (f : Fill), (dealF l ⟨oi, ot, os, op, ol, oq⟩)[j]? = some f → ∃ x, (l s)[j]? = some x ∧ f = fillO ⟨oi, ot, os, op, ol, oq⟩ x f.lots ∧ 1 ≤ f.lots ∧ f.lots ≤ x.lots ∧ (j + 1 < (dealF l ⟨oi, ot, os, op, ol, oq⟩).length → f.lots = x.lots) ∧ meetsO ⟨oi, ot, os, op, ol, oq⟩ x = true) := fun s hs => by
            subst hs
            exact match_fills (o := ⟨oi, ot, os, op, ol, oq⟩) (z := ol) (S := l (!os)) (by omega) (hS1 _)
          have HFM0 : Hid (∀ s, s = !os → lotsFs (dealF l ⟨oi, ot, os, op, ol, oq⟩) + dealZ l ⟨oi, ot, os, op, ol, oq⟩ = ol ∧ lotsL (dealS l ⟨oi, ot, os, op, ol, oq⟩) = lotsL (l s) - lotsFs (dealF l ⟨oi, ot, os, op, ol, oq⟩) ∧ 0 ≤ dealZ l ⟨oi, ot, os, op, ol, oq⟩) := fun s hs => by
            subst hs
            exact match_sum (o := ⟨oi, ot, os, op, ol, oq⟩) (z := ol) (S := l (!os)) (by omega) (hS1 _)
          have HFL0 : Hid (∀ s, s = !os → (dealF l ⟨oi, ot, os, op, ol, oq⟩).length ≤ (l s).length) := fun s hs => by
            subst hs
            exact match_len (o := ⟨oi, ot, os, op, ol, oq⟩) (z := ol) (S := l (!os)) (by omega) (hS1 _)
          have HSIDE0 : Hid (∀ s, s = !os → dealL l ⟨oi, ot, os, op, ol, oq⟩ came s = dealS l ⟨oi, ot, os, op, ol, oq⟩) := fun s hs => by
            subst hs
            exact dealL_side
          have HFB0 : Hid (∀ j, j ≤ (dealF l ⟨oi, ot, os, op, ol, oq⟩).length → 0 ≤ lotsFs ((dealF l ⟨oi, ot, os, op, ol, oq⟩).take j) ∧ lotsFs ((dealF l ⟨oi, ot, os, op, ol, oq⟩).take j) ≤ 1000) := fun j hj => by
            have hnn : ∀ f ∈ dealF l ⟨oi, ot, os, op, ol, oq⟩, 1 ≤ f.lots := fun f hf => by
              obtain ⟨i, hi⟩ := List.getElem?_of_mem hf
              obtain ⟨x, _, _, h1, _⟩ := HFS0.out _ rfl i f hi
              exact h1
            have hpos : ∀ (xs : List Fill), (∀ f ∈ xs, 1 ≤ f.lots) → 0 ≤ lotsFs xs := fun xs => by
              induction xs with
              | nil => intro _; simp [lotsFs]
              | cons a r ih =>
                intro h
                have h1 := h a (by simp)
                have h2 := ih (fun f hf => h f (by simp [hf]))
                unfold lotsFs at *
                simp only [List.map_cons, List.sum_cons] at *
                omega
            have h1 := hpos ((dealF l ⟨oi, ot, os, op, ol, oq⟩).take j) (fun f hf => hnn f (List.mem_of_mem_take hf))
            have h2 := hpos ((dealF l ⟨oi, ot, os, op, ol, oq⟩).drop j) (fun f hf => hnn f (List.mem_of_mem_drop hf))
            have h3 : lotsFs ((dealF l ⟨oi, ot, os, op, ol, oq⟩).take j) + lotsFs ((dealF l ⟨oi, ot, os, op, ol, oq⟩).drop j) = lotsFs (dealF l ⟨oi, ot, os, op, ol, oq⟩) := by
              unfold lotsFs
              rw [← List.sum_append, ← List.map_append, List.take_append_drop]
            have h4 := HFM0.out _ rfl
            omega
          have HLEN0 := Lib.hid HI.out.len
          have HSL0 := Lib.hid HI.out.lotsR
          have p2 : W8.cell? ⟨OB, 2, none⟩ = some (.bool os) := HOB.out.cell 2 _ rfl
          clear hk hown8 hs8 hgood hgl hS1 HI HU HV HB HV5 HV6 HV7 HO5 HO6 HO7 HOW1 HOW2 HB56 HB57 HBW5 HBW7 HAW5 HLQ HW5 HOE
          cases os with
          | true =>
            have HFS := Lib.hid (HFS0.out false rfl)
            have HFSUM := Lib.hid (HFM0.out false rfl)
            have HFLEN := Lib.hid (HFL0.out false rfl)
            have HSIDE := Lib.hid (HSIDE0.out false rfl)
            have HSN := Lib.hid (HLEN0.out false)
            have HSLOT := Lib.hid (HSL0.out false)
            have HFB := HFB0
            clear HFS0 HFM0 HFL0 HSIDE0 HLEN0 HSL0 HFB0
            go_upto_region 19 with fail
            have HSR := HRR2
            obtain ⟨fs, hfs⟩ : ∃ z, z = dealF l ⟨oi, ot, true, op, ol, oq⟩ := ⟨_, rfl⟩
            obtain ⟨S, hS⟩ : ∃ z, z = l false := ⟨_, rfl⟩
            rw [← hfs] at HOWN HFS HFSUM HFLEN HFB
            rw [← hS] at HSR HFS HFSUM HFLEN HSN HSLOT
            rw [← hS]
            have hSN := HSN.out
            have hFN := HFLEN.out
            have HFE := Lib.hid hfs
            have HSE := Lib.hid hS
            obtain ⟨A8, c8, rfl, _, _, hr8⟩ := own_form Fill.k6 HOWN.out
            have HR8 := Lib.hid hr8
            clear hfs hS hr8
            go_wp2_with fail
            go_loopw [12, 13] (fun s12 s13 wx => ∃ (j : Nat) (wy : World), wy = wx ∧ j ≤ fs.length ∧ s13 = .int .i64 j ∧ s12 = .int .i64 (lotsFs (fs.take j)) ∧ Hid (Below W8.heap.size W8 wy)) (fun _ s13 _ => fs.length - (intOf s13).toNat)
            case atStart => exact ⟨0, _, rfl, Nat.zero_le _, rfl, rfl, Below.refl _ _⟩
            case round =>
              obtain ⟨j, wy, rfl, hj, rfl, rfl, hby⟩ := hrel
              by_cases hlt : j < fs.length
              · obtain ⟨f, hf⟩ : ∃ f, fs[j]? = some f := ⟨_, List.getElem?_eq_getElem hlt⟩
                obtain ⟨x, hx, hfe, hf1, hf2, hf3, hmt⟩ := HFS.out j f hf
                have hjs : j < S.length := (List.getElem?_eq_some_iff.1 hx).1
                obtain ⟨g8, o8, hA8, hg8, hrow8⟩ := HR8.out.2 (by omega)
                obtain ⟨gs, os_, hAs, hgs, hrows⟩ := HSR.out.2 (by omega)
                subst hA8
                subst hAs
                have HT := Lib.hid (lotsFs_take fs j f hf)
                have HTB := HFB.out j hj
                obtain ⟨n, hn⟩ : ∃ n, n = f.lots := ⟨_, rfl⟩
                rw [← hn] at hfe hf1 hf2 hf3 HT
                have hxl := (HSLOT.out x (List.mem_of_getElem? hx)).2
                have r8 := rangeAt_below (hrow8 j f hf) hby.out hg8
                rw [hfe] at r8
                have rs := rangeAt_below (hrows j x hx) hby.out hgs
                obtain ⟨xi, xt, xs, xp, xl, xq⟩ := x
                simp only at hf2 hf3 hxl
                have r8 : wy.rangeAt g8 (o8 + j * 6) [.int .i64 oi, .int .i64 xi, .int .i64 ot, .int .i64 xt, .int .i64 xp, .int .i64 n] := r8
                have hb0 := HOB.out.below hby.out
                have p0 : wy.cell? ⟨OB, 0, none⟩ = some (.int .i64 oi) := hb0.cell 0 _ rfl
                have p2 : wy.cell? ⟨OB, 2, none⟩ = some (.bool true) := hb0.cell 2 _ rfl
                have p3 : wy.cell? ⟨OB, 3, none⟩ = some (.int .i64 op) := hb0.cell 3 _ rfl
                have q0 : wy.cell? ⟨g8, o8 + j * 6, none⟩ = some (.int .i64 oi) := r8 0 _ rfl
                have q1 : wy.cell? ⟨g8, o8 + j * 6 + 1, none⟩ = some (.int .i64 xi) := r8 1 _ rfl
                have q4 : wy.cell? ⟨g8, o8 + j * 6 + 4, none⟩ = some (.int .i64 xp) := r8 4 _ rfl
                have q5 : wy.cell? ⟨g8, o8 + j * 6 + 5, none⟩ = some (.int .i64 n) := r8 5 _ rfl
                have x0 : wy.cell? ⟨gs, os_ + j * 6, none⟩ = some (.int .i64 xi) := rs 0 _ rfl
                have x3 : wy.cell? ⟨gs, os_ + j * 6 + 3, none⟩ = some (.int .i64 xp) := rs 3 _ rfl
                have x4 : wy.cell? ⟨gs, os_ + j * 6 + 4, none⟩ = some (.int .i64 xl) := rs 4 _ rfl
                have hmp : op ≤ xp := by
                  unfold meetsO at hmt
                  simpa using hmt
                have d0 : decide ((S.length : Int) ≤ (j : Int)) = false := by simp; omega
                have d0' : decide (S.length ≤ j) = false := by simp; omega
                have d1 : decide (n < 1) = false := by simp; omega
                have d2 : decide (xl < n) = false := by simp; omega
                have d3 : decide (xp < op) = false := by simp; omega
                have j0 : (0 : Int) ≤ (j : Int) := by omega
                have j1 : (j : Int) < (fs.length : Int) := by omega
                have j2 : (j : Int) < (S.length : Int) := by omega
                have n1 : n ≤ 1000 := by omega
                clear hrow8 hrows hf hx hfe hmt r8 rs hb0 hn
                by_cases hlast : j + 1 < fs.length
                · have hnx := hf3 hlast
                  subst hnx
                  have d4 : decide ((j : Int) + 1 < (fs.length : Int)) = true := by simp; omega
                  have d4' : decide (j + 1 < fs.length) = true := by simp; omega
                  clear hf3
                  have e1 : IntKind.i64.wrap ((j : Int) + 1) = (j : Int) + 1 := by rw [IntKind.wrap_i64]; omega
                  go_wp2_with fail
                  as_aux_lemma =>
                    go_quiet (fail)
                    go_wp2_with fail
                    simp only [List.append_eq, List.cons_append, List.nil_append]
                    go_quiet (fail)
                    go_wp2_with fail
                    go_roundw
                    case rel => exact ⟨j + 1, _, rfl, by omega, by go_num, by rw [HT.out], Lib.hid (show Below W8.heap.size W8 _ from ⟨hby.out.os, hby.out.tape, hby.out.output, hby.out.size, hby.out.block⟩)⟩
                    case measure => simp [intOf]; omega
                · have d4 : decide ((j : Int) + 1 < (fs.length : Int)) = false := by simp; omega
                  have d4' : decide (j + 1 < fs.length) = false := by simp; omega
                  clear hf3
                  have e1 : IntKind.i64.wrap ((j : Int) + 1) = (j : Int) + 1 := by rw [IntKind.wrap_i64]; omega
                  go_wp2_with fail
                  as_aux_lemma =>
                    go_quiet (fail)
                    go_wp2_with fail
                    simp only [List.append_eq, List.cons_append, List.nil_append]
                    go_quiet (fail)
                    go_wp2_with fail
                    go_roundw
                    case rel => exact ⟨j + 1, _, rfl, by omega, by go_num, by rw [HT.out], Lib.hid (show Below W8.heap.size W8 _ from ⟨hby.out.os, hby.out.tape, hby.out.output, hby.out.size, hby.out.block⟩)⟩
                    case measure => simp [intOf]; omega
              · obtain rfl : j = fs.length := by omega
                rw [List.take_of_length_le (Nat.le_refl _)]
                have HBY := hby
                have hb0 := HOB.out.below hby.out
                have p4 : wy.cell? ⟨OB, 4, none⟩ = some (.int .i64 ol) := hb0.cell 4 _ rfl
                have p2 : wy.cell? ⟨OB, 2, none⟩ = some (.bool true) := hb0.cell 2 _ rfl
                obtain ⟨z, hz⟩ : ∃ z, z = dealZ l ⟨oi, ot, true, op, ol, oq⟩ := ⟨_, rfl⟩
                rw [← hz] at HFSUM
                rw [← hz]
                obtain ⟨d, hd⟩ : ∃ d, d = lotsFs fs := ⟨_, rfl⟩
                have HDB := HFB.out fs.length (Nat.le_refl _)
                rw [List.take_of_length_le (Nat.le_refl _)] at HDB
                rw [← hd] at HFSUM HDB
                rw [← hd]
                have hsum : d + z = ol := HFSUM.out.1
                have hz0 : 0 ≤ z := HFSUM.out.2.2
                have hol : ol ≤ 1000 := HOLB.out
                have hne : (ol != ol) = false := by simp
                clear hb0 hz hd
                have HSUM := Lib.hid hsum
                have hsum' : IntKind.i64.wrap (d + z) = ol := by rw [IntKind.wrap_i64]; omega
                go_upto_region 28 with fail
                clear p4 p2 hsum hsum'
                go_wp2_with fail
                go_loop [14, 15] (fun s14 s15 => ∃ j : Nat, j ≤ S.length ∧ s15 = .int .i64 j ∧ s14 = .int .i64 (lotsL (S.take j))) (fun _ s15 => S.length - (intOf s15).toNat)
                case atStart => exact ⟨0, Nat.zero_le _, rfl, rfl⟩
                case round =>
                  obtain ⟨j, hj, rfl, rfl⟩ := hrel
                  by_cases hlt : j < S.length
                  · obtain ⟨gs, os_, hAs, hgs, hrows⟩ := HSR.out.2 (by omega)
                    subst hAs
                    obtain ⟨x, hx⟩ : ∃ x, S[j]? = some x := ⟨_, List.getElem?_eq_getElem hlt⟩
                    have rs := rangeAt_below (hrows j x hx) HBY.out hgs
                    have x4 : wy.cell? ⟨gs, os_ + j * 6 + 4, none⟩ = some (.int .i64 x.lots) := rs 4 _ rfl
                    have HT := Lib.hid (lotsL_take S j x hx)
                    have h1 := HSLOT.out x (List.mem_of_getElem? hx)
                    have h2 := lotsL_range (S.take j) (fun y hy => HSLOT.out y (List.mem_of_mem_take hy))
                    have h3 : (S.take j).length ≤ 32 := by rw [List.length_take]; omega
                    have h4 : lotsL (S.take j) ≤ 32000 := by omega
                    have h5 := h2.1
                    clear hrows hx h2 h3 rs
                    go_wp2_with fail
                    go_round
                    case rel => exact ⟨j + 1, by omega, by go_num, by rw [HT.out]⟩
                    case measure => simp [intOf]; omega
                  · obtain rfl : j = S.length := by omega
                    rw [List.take_of_length_le (Nat.le_refl _)]
                    have p2 : wy.cell? ⟨OB, 2, none⟩ = some (.bool true) := (HOB.out.below HBY.out).cell 2 _ rfl
                    have HLT := Lib.hid (lots14_c q q _ v2 _ false wy (Lib.hid (HV8.out.below HBY.out)) HI8.out)
                    rw [HSIDE.out] at HLT
                    have HL2 : Hid (Calls Tryd.prog 50 #[.pointer (some ⟨q, 0, none⟩), .bool false] wy fun e w' => e = .returned (.int .i64 (lotsL S - d)) ∧ Below wy.heap.size wy w') := by
                      have := HLT.out
                      rw [HFSUM.out.2.1] at this
                      exact this
                    have hw1 := lotsL_range S (fun y hy => HSLOT.out y hy)
                    have hw2 : lotsL S ≤ 32000 := by omega
                    have hw3 := hw1.1
                    have hw4 : d ≤ 1000 := by have := HSUM.out; omega
                    clear hw1 HLT
                    go_wp2_with fail
                    refine HL2.out.mono ?_
                    rintro e y1 ⟨rfl, hb1⟩
                    have HB1 := Lib.hid (HBY.out.trans (hb1.mono HBY.out.size))
                    have hws : IntKind.i64.wrap (lotsL S - d) = lotsL S - d := by rw [IntKind.wrap_i64]; omega
                    clear hb1 p2
                    have HBT := Lib.hid (fun (W : World) (s : Bool) (hb : Below W8.heap.size W8 W) => best_c q q _ v2 _ s W (Lib.hid (HV8.out.below hb)) HI8.out.small)
                    have HUN := Lib.hid (HU8.out)
                    obtain ⟨l2, hl2⟩ : ∃ z, z = dealL l ⟨oi, ot, true, op, ol, oq⟩ came := ⟨_, rfl⟩
                    rw [← hl2] at HBT HUN HV8 HI8 HU8
                    have HL2E := Lib.hid hl2
                    clear hl2
                    cases hl1 : l2 true with
                    | nil =>
                      have HC1 : Hid (∀ W, Below W8.heap.size W8 W → Calls Tryd.prog 51 #[.pointer (some ⟨q, 0, none⟩), .bool true] W fun e w' => e = .returned (.tuple #[.agg #[.int .i64 0, .int .i64 0, .bool false, .int .i64 0, .int .i64 0, .int .i64 0], .bool false]) ∧ Below W.heap.size W w') := fun W hb => by
                        have := HBT.out W true hb
                        rw [hl1] at this
                        exact this
                      cases hl2 : l2 false with
                      | nil =>
                        as_aux_lemma =>
                          have HC2 : Hid (∀ W, Below W8.heap.size W8 W → Calls Tryd.prog 51 #[.pointer (some ⟨q, 0, none⟩), .bool false] W fun e w' => e = .returned (.tuple #[.agg #[.int .i64 0, .int .i64 0, .bool false, .int .i64 0, .int .i64 0, .int .i64 0], .bool false]) ∧ Below W.heap.size W w') := fun W hb => by
                            have := HBT.out W false hb
                            rw [hl2] at this
                            exact this
                          clear hl1 hl2
                          go_wp2_with fail
                          refine (HC1.out y1 HB1.out).mono ?_
                          rintro e y2 ⟨rfl, hb2⟩
                          have HB2 := Lib.hid (HB1.out.trans (hb2.mono HB1.out.size))
                          have HB3 : Hid (Below W8.heap.size W8 (y2.alloc (.cells #[.int .i64 0, .int .i64 0, .bool false, .int .i64 0, .int .i64 0, .int .i64 0] 67))) := HB2.out.alloc HB2.out.size _
                          clear hb2
                          go_wp2_with fail
                          refine (HC2.out _ HB3.out).mono ?_
                          rintro e y3 ⟨rfl, hb3⟩
                          have HB4 := Lib.hid (HB3.out.trans (hb3.mono HB3.out.size))
                          have HB5 : Hid (Below W8.heap.size W8 (y3.alloc (.cells #[.int .i64 0, .int .i64 0, .bool false, .int .i64 0, .int .i64 0, .int .i64 0] 67))) := HB4.out.alloc HB4.out.size _
                          clear hb3
                          go_wp2_with fail
                          go_roundw
                          case rel => exact ⟨k + 1, _, l2, v2, _, rfl, by omega, by omega, by go_num, HCE.out, HI8, HUN, Lib.hid (HV8.out.below HB5.out), Lib.hid (HBW8.out.trans (HB5.out.mono HBW8.out.size))⟩
                          case measure => simp [intOf]; omega
                      | cons xb rb =>
                        as_aux_lemma =>
                          obtain ⟨bi, bt, bs, bp, bl, bq⟩ := xb
                          have HC2 : Hid (∀ W, Below W8.heap.size W8 W → Calls Tryd.prog 51 #[.pointer (some ⟨q, 0, none⟩), .bool false] W fun e w' => e = .returned (.tuple #[.agg #[.int .i64 bi, .int .i64 bt, .bool bs, .int .i64 bp, .int .i64 bl, .int .i64 bq], .bool true]) ∧ Below W.heap.size W w') := fun W hb => by
                            have := HBT.out W false hb
                            rw [hl2] at this
                            exact this
                          clear hl1 hl2
                          go_wp2_with fail
                          refine (HC1.out y1 HB1.out).mono ?_
                          rintro e y2 ⟨rfl, hb2⟩
                          have HB2 := Lib.hid (HB1.out.trans (hb2.mono HB1.out.size))
                          have HB3 : Hid (Below W8.heap.size W8 (y2.alloc (.cells #[.int .i64 0, .int .i64 0, .bool false, .int .i64 0, .int .i64 0, .int .i64 0] 67))) := HB2.out.alloc HB2.out.size _
                          clear hb2
                          go_wp2_with fail
                          refine (HC2.out _ HB3.out).mono ?_
                          rintro e y3 ⟨rfl, hb3⟩
                          have HB4 := Lib.hid (HB3.out.trans (hb3.mono HB3.out.size))
                          have HB5 : Hid (Below W8.heap.size W8 (y3.alloc (.cells #[.int .i64 bi, .int .i64 bt, .bool bs, .int .i64 bp, .int .i64 bl, .int .i64 bq] 67))) := HB4.out.alloc HB4.out.size _
                          clear hb3
                          go_wp2_with fail
                          go_roundw
                          case rel => exact ⟨k + 1, _, l2, v2, _, rfl, by omega, by omega, by go_num, HCE.out, HI8, HUN, Lib.hid (HV8.out.below HB5.out), Lib.hid (HBW8.out.trans (HB5.out.mono HBW8.out.size))⟩
                          case measure => simp [intOf]; omega
                    | cons xa ra =>
                      obtain ⟨yi, yt, ys, yp, yl, yq⟩ := xa
                      have HC1 : Hid (∀ W, Below W8.heap.size W8 W → Calls Tryd.prog 51 #[.pointer (some ⟨q, 0, none⟩), .bool true] W fun e w' => e = .returned (.tuple #[.agg #[.int .i64 yi, .int .i64 yt, .bool ys, .int .i64 yp, .int .i64 yl, .int .i64 yq], .bool true]) ∧ Below W.heap.size W w') := fun W hb => by
                        have := HBT.out W true hb
                        rw [hl1] at this
                        exact this
                      cases hl2 : l2 false with
                      | nil =>
                        as_aux_lemma =>
                          have HC2 : Hid (∀ W, Below W8.heap.size W8 W → Calls Tryd.prog 51 #[.pointer (some ⟨q, 0, none⟩), .bool false] W fun e w' => e = .returned (.tuple #[.agg #[.int .i64 0, .int .i64 0, .bool false, .int .i64 0, .int .i64 0, .int .i64 0], .bool false]) ∧ Below W.heap.size W w') := fun W hb => by
                            have := HBT.out W false hb
                            rw [hl2] at this
                            exact this
                          clear hl1 hl2
                          go_wp2_with fail
                          refine (HC1.out y1 HB1.out).mono ?_
                          rintro e y2 ⟨rfl, hb2⟩
                          have HB2 := Lib.hid (HB1.out.trans (hb2.mono HB1.out.size))
                          have HB3 : Hid (Below W8.heap.size W8 (y2.alloc (.cells #[.int .i64 yi, .int .i64 yt, .bool ys, .int .i64 yp, .int .i64 yl, .int .i64 yq] 67))) := HB2.out.alloc HB2.out.size _
                          clear hb2
                          go_wp2_with fail
                          refine (HC2.out _ HB3.out).mono ?_
                          rintro e y3 ⟨rfl, hb3⟩
                          have HB4 := Lib.hid (HB3.out.trans (hb3.mono HB3.out.size))
                          have HB5 : Hid (Below W8.heap.size W8 (y3.alloc (.cells #[.int .i64 0, .int .i64 0, .bool false, .int .i64 0, .int .i64 0, .int .i64 0] 67))) := HB4.out.alloc HB4.out.size _
                          clear hb3
                          go_wp2_with fail
                          go_roundw
                          case rel => exact ⟨k + 1, _, l2, v2, _, rfl, by omega, by omega, by go_num, HCE.out, HI8, HUN, Lib.hid (HV8.out.below HB5.out), Lib.hid (HBW8.out.trans (HB5.out.mono HBW8.out.size))⟩
                          case measure => simp [intOf]; omega
                      | cons xb rb =>
                        as_aux_lemma =>
                          obtain ⟨bi, bt, bs, bp, bl, bq⟩ := xb
                          have HC2 : Hid (∀ W, Below W8.heap.size W8 W → Calls Tryd.prog 51 #[.pointer (some ⟨q, 0, none⟩), .bool false] W fun e w' => e = .returned (.tuple #[.agg #[.int .i64 bi, .int .i64 bt, .bool bs, .int .i64 bp, .int .i64 bl, .int .i64 bq], .bool true]) ∧ Below W.heap.size W w') := fun W hb => by
                            have := HBT.out W false hb
                            rw [hl2] at this
                            exact this
                          have hun : bp < yp := HUN.out ⟨yi, yt, ys, yp, yl, yq⟩ (by rw [hl1]; simp) ⟨bi, bt, bs, bp, bl, bq⟩ (by rw [hl2]; simp)
                          have hdn : decide (yp ≤ bp) = false := by simp; omega
                          clear hl1 hl2
                          go_wp2_with fail
                          refine (HC1.out y1 HB1.out).mono ?_
                          rintro e y2 ⟨rfl, hb2⟩
                          have HB2 := Lib.hid (HB1.out.trans (hb2.mono HB1.out.size))
                          have HB3 : Hid (Below W8.heap.size W8 (y2.alloc (.cells #[.int .i64 yi, .int .i64 yt, .bool ys, .int .i64 yp, .int .i64 yl, .int .i64 yq] 67))) := HB2.out.alloc HB2.out.size _
                          have HK3 : Hid (Blk (y2.alloc (.cells #[.int .i64 yi, .int .i64 yt, .bool ys, .int .i64 yp, .int .i64 yl, .int .i64 yq] 67)) y2.heap.size #[.int .i64 yi, .int .i64 yt, .bool ys, .int .i64 yp, .int .i64 yl, .int .i64 yq] 67) := Blk.new y2 _ _
                          clear hb2
                          go_wp2_with fail
                          refine (HC2.out _ HB3.out).mono ?_
                          rintro e y3 ⟨rfl, hb3⟩
                          have HB4 := Lib.hid (HB3.out.trans (hb3.mono HB3.out.size))
                          have HB5 : Hid (Below W8.heap.size W8 (y3.alloc (.cells #[.int .i64 bi, .int .i64 bt, .bool bs, .int .i64 bp, .int .i64 bl, .int .i64 bq] 67))) := HB4.out.alloc HB4.out.size _
                          have hk5 : Blk (y3.alloc (.cells #[.int .i64 bi, .int .i64 bt, .bool bs, .int .i64 bp, .int .i64 bl, .int .i64 bq] 67)) y2.heap.size #[.int .i64 yi, .int .i64 yt, .bool ys, .int .i64 yp, .int .i64 yl, .int .i64 yq] 67 := (HK3.out.below hb3).below ((Below.refl _ _).alloc (Nat.le_refl _) _)
                          have k0 := hk5.cell 0 _ rfl
                          have k1 := hk5.cell 1 _ rfl
                          have k2 := hk5.cell 2 _ rfl
                          have k3 := hk5.cell 3 _ rfl
                          have k4 := hk5.cell 4 _ rfl
                          have k5 := hk5.cell 5 _ rfl
                          simp only [List.getElem_toArray, List.getElem_cons_zero, List.getElem_cons_succ] at k0 k1 k2 k3 k4 k5
                          clear hb3 hk5
                          go_wp2_with fail
                          clear k0 k1 k2 k3 k4 k5
                          refine (meets_c ⟨yi, yt, ys, yp, yl, yq⟩ ⟨bi, bt, bs, bp, bl, bq⟩ _).mono ?_
                          rintro e y4 ⟨rfl, hb4⟩
                          have HB5 := Lib.hid (HB5.out.trans (hb4.mono HB5.out.size))
                          clear hb4
                          have hfin : (ys && (!bs && decide (yp ≤ bp))) = false := by rw [hdn]; simp
                          simp only [hfin]
                          go_wp2_with fail
                          go_roundw
                          case rel => exact ⟨k + 1, _, l2, v2, _, rfl, by omega, by omega, by go_num, HCE.out, HI8, HUN, Lib.hid (HV8.out.below HB5.out), Lib.hid (HBW8.out.trans (HB5.out.mono HBW8.out.size))⟩
                          case measure => simp [intOf]; omega
          | false =>
            have HFS := Lib.hid (HFS0.out true rfl)
            have HFSUM := Lib.hid (HFM0.out true rfl)
            have HFLEN := Lib.hid (HFL0.out true rfl)
            have HSIDE := Lib.hid (HSIDE0.out true rfl)
            have HSN := Lib.hid (HLEN0.out true)
            have HSLOT := Lib.hid (HSL0.out true)
            have HFB := HFB0
            clear HFS0 HFM0 HFL0 HSIDE0 HLEN0 HSL0 HFB0
            go_upto_region 19 with fail
            have HSR := HRR1
            obtain ⟨fs, hfs⟩ : ∃ z, z = dealF l ⟨oi, ot, false, op, ol, oq⟩ := ⟨_, rfl⟩
            obtain ⟨S, hS⟩ : ∃ z, z = l true := ⟨_, rfl⟩
            rw [← hfs] at HOWN HFS HFSUM HFLEN HFB
            rw [← hS] at HSR HFS HFSUM HFLEN HSN HSLOT
            rw [← hS]
            have hSN := HSN.out
            have hFN := HFLEN.out
            have HFE := Lib.hid hfs
            have HSE := Lib.hid hS
            obtain ⟨A8, c8, rfl, _, _, hr8⟩ := own_form Fill.k6 HOWN.out
            have HR8 := Lib.hid hr8
            clear hfs hS hr8
            go_wp2_with fail
            go_loopw [12, 13] (fun s12 s13 wx => ∃ (j : Nat) (wy : World), wy = wx ∧ j ≤ fs.length ∧ s13 = .int .i64 j ∧ s12 = .int .i64 (lotsFs (fs.take j)) ∧ Hid (Below W8.heap.size W8 wy)) (fun _ s13 _ => fs.length - (intOf s13).toNat)
            case atStart => exact ⟨0, _, rfl, Nat.zero_le _, rfl, rfl, Below.refl _ _⟩
            case round =>
              obtain ⟨j, wy, rfl, hj, rfl, rfl, hby⟩ := hrel
              by_cases hlt : j < fs.length
              · obtain ⟨f, hf⟩ : ∃ f, fs[j]? = some f := ⟨_, List.getElem?_eq_getElem hlt⟩
                obtain ⟨x, hx, hfe, hf1, hf2, hf3, hmt⟩ := HFS.out j f hf
                have hjs : j < S.length := (List.getElem?_eq_some_iff.1 hx).1
                obtain ⟨g8, o8, hA8, hg8, hrow8⟩ := HR8.out.2 (by omega)
                obtain ⟨gs, os_, hAs, hgs, hrows⟩ := HSR.out.2 (by omega)
                subst hA8
                subst hAs
                have HT := Lib.hid (lotsFs_take fs j f hf)
                have HTB := HFB.out j hj
                obtain ⟨n, hn⟩ : ∃ n, n = f.lots := ⟨_, rfl⟩
                rw [← hn] at hfe hf1 hf2 hf3 HT
                have hxl := (HSLOT.out x (List.mem_of_getElem? hx)).2
                have r8 := rangeAt_below (hrow8 j f hf) hby.out hg8
                rw [hfe] at r8
                have rs := rangeAt_below (hrows j x hx) hby.out hgs
                obtain ⟨xi, xt, xs, xp, xl, xq⟩ := x
                simp only at hf2 hf3 hxl
                have r8 : wy.rangeAt g8 (o8 + j * 6) [.int .i64 xi, .int .i64 oi, .int .i64 xt, .int .i64 ot, .int .i64 xp, .int .i64 n] := r8
                have hb0 := HOB.out.below hby.out
                have p0 : wy.cell? ⟨OB, 0, none⟩ = some (.int .i64 oi) := hb0.cell 0 _ rfl
                have p2 : wy.cell? ⟨OB, 2, none⟩ = some (.bool false) := hb0.cell 2 _ rfl
                have p3 : wy.cell? ⟨OB, 3, none⟩ = some (.int .i64 op) := hb0.cell 3 _ rfl
                have q0 : wy.cell? ⟨g8, o8 + j * 6, none⟩ = some (.int .i64 xi) := r8 0 _ rfl
                have q1 : wy.cell? ⟨g8, o8 + j * 6 + 1, none⟩ = some (.int .i64 oi) := r8 1 _ rfl
                have q4 : wy.cell? ⟨g8, o8 + j * 6 + 4, none⟩ = some (.int .i64 xp) := r8 4 _ rfl
                have q5 : wy.cell? ⟨g8, o8 + j * 6 + 5, none⟩ = some (.int .i64 n) := r8 5 _ rfl
                have x0 : wy.cell? ⟨gs, os_ + j * 6, none⟩ = some (.int .i64 xi) := rs 0 _ rfl
                have x3 : wy.cell? ⟨gs, os_ + j * 6 + 3, none⟩ = some (.int .i64 xp) := rs 3 _ rfl
                have x4 : wy.cell? ⟨gs, os_ + j * 6 + 4, none⟩ = some (.int .i64 xl) := rs 4 _ rfl
                have hmp : xp ≤ op := by
                  unfold meetsO at hmt
                  simpa using hmt
                have d0 : decide ((S.length : Int) ≤ (j : Int)) = false := by simp; omega
                have d0' : decide (S.length ≤ j) = false := by simp; omega
                have d1 : decide (n < 1) = false := by simp; omega
                have d2 : decide (xl < n) = false := by simp; omega
                have d3 : decide (op < xp) = false := by simp; omega
                have j0 : (0 : Int) ≤ (j : Int) := by omega
                have j1 : (j : Int) < (fs.length : Int) := by omega
                have j2 : (j : Int) < (S.length : Int) := by omega
                have n1 : n ≤ 1000 := by omega
                clear hrow8 hrows hf hx hfe hmt r8 rs hb0 hn
                by_cases hlast : j + 1 < fs.length
                · have hnx := hf3 hlast
                  subst hnx
                  have d4 : decide ((j : Int) + 1 < (fs.length : Int)) = true := by simp; omega
                  have d4' : decide (j + 1 < fs.length) = true := by simp; omega
                  clear hf3
                  have e1 : IntKind.i64.wrap ((j : Int) + 1) = (j : Int) + 1 := by rw [IntKind.wrap_i64]; omega
                  go_wp2_with fail
                  as_aux_lemma =>
                    go_quiet (fail)
                    go_wp2_with fail
                    simp only [List.append_eq, List.cons_append, List.nil_append]
                    go_quiet (fail)
                    go_wp2_with fail
                    go_roundw
                    case rel => exact ⟨j + 1, _, rfl, by omega, by go_num, by rw [HT.out], Lib.hid (show Below W8.heap.size W8 _ from ⟨hby.out.os, hby.out.tape, hby.out.output, hby.out.size, hby.out.block⟩)⟩
                    case measure => simp [intOf]; omega
                · have d4 : decide ((j : Int) + 1 < (fs.length : Int)) = false := by simp; omega
                  have d4' : decide (j + 1 < fs.length) = false := by simp; omega
                  clear hf3
                  have e1 : IntKind.i64.wrap ((j : Int) + 1) = (j : Int) + 1 := by rw [IntKind.wrap_i64]; omega
                  go_wp2_with fail
                  as_aux_lemma =>
                    go_quiet (fail)
                    go_wp2_with fail
                    simp only [List.append_eq, List.cons_append, List.nil_append]
                    go_quiet (fail)
                    go_wp2_with fail
                    go_roundw
                    case rel => exact ⟨j + 1, _, rfl, by omega, by go_num, by rw [HT.out], Lib.hid (show Below W8.heap.size W8 _ from ⟨hby.out.os, hby.out.tape, hby.out.output, hby.out.size, hby.out.block⟩)⟩
                    case measure => simp [intOf]; omega
              · obtain rfl : j = fs.length := by omega
                rw [List.take_of_length_le (Nat.le_refl _)]
                have HBY := hby
                have hb0 := HOB.out.below hby.out
                have p4 : wy.cell? ⟨OB, 4, none⟩ = some (.int .i64 ol) := hb0.cell 4 _ rfl
                have p2 : wy.cell? ⟨OB, 2, none⟩ = some (.bool false) := hb0.cell 2 _ rfl
                obtain ⟨z, hz⟩ : ∃ z, z = dealZ l ⟨oi, ot, false, op, ol, oq⟩ := ⟨_, rfl⟩
                rw [← hz] at HFSUM
                rw [← hz]
                obtain ⟨d, hd⟩ : ∃ d, d = lotsFs fs := ⟨_, rfl⟩
                have HDB := HFB.out fs.length (Nat.le_refl _)
                rw [List.take_of_length_le (Nat.le_refl _)] at HDB
                rw [← hd] at HFSUM HDB
                rw [← hd]
                have hsum : d + z = ol := HFSUM.out.1
                have hz0 : 0 ≤ z := HFSUM.out.2.2
                have hol : ol ≤ 1000 := HOLB.out
                have hne : (ol != ol) = false := by simp
                clear hb0 hz hd
                have HSUM := Lib.hid hsum
                have hsum' : IntKind.i64.wrap (d + z) = ol := by rw [IntKind.wrap_i64]; omega
                go_upto_region 28 with fail
                clear p4 p2 hsum hsum'
                go_wp2_with fail
                go_loop [14, 15] (fun s14 s15 => ∃ j : Nat, j ≤ S.length ∧ s15 = .int .i64 j ∧ s14 = .int .i64 (lotsL (S.take j))) (fun _ s15 => S.length - (intOf s15).toNat)
                case atStart => exact ⟨0, Nat.zero_le _, rfl, rfl⟩
                case round =>
                  obtain ⟨j, hj, rfl, rfl⟩ := hrel
                  by_cases hlt : j < S.length
                  · obtain ⟨gs, os_, hAs, hgs, hrows⟩ := HSR.out.2 (by omega)
                    subst hAs
                    obtain ⟨x, hx⟩ : ∃ x, S[j]? = some x := ⟨_, List.getElem?_eq_getElem hlt⟩
                    have rs := rangeAt_below (hrows j x hx) HBY.out hgs
                    have x4 : wy.cell? ⟨gs, os_ + j * 6 + 4, none⟩ = some (.int .i64 x.lots) := rs 4 _ rfl
                    have HT := Lib.hid (lotsL_take S j x hx)
                    have h1 := HSLOT.out x (List.mem_of_getElem? hx)
                    have h2 := lotsL_range (S.take j) (fun y hy => HSLOT.out y (List.mem_of_mem_take hy))
                    have h3 : (S.take j).length ≤ 32 := by rw [List.length_take]; omega
                    have h4 : lotsL (S.take j) ≤ 32000 := by omega
                    have h5 := h2.1
                    clear hrows hx h2 h3 rs
                    go_wp2_with fail
                    go_round
                    case rel => exact ⟨j + 1, by omega, by go_num, by rw [HT.out]⟩
                    case measure => simp [intOf]; omega
                  · obtain rfl : j = S.length := by omega
                    rw [List.take_of_length_le (Nat.le_refl _)]
                    have p2 : wy.cell? ⟨OB, 2, none⟩ = some (.bool false) := (HOB.out.below HBY.out).cell 2 _ rfl
                    have HLT := Lib.hid (lots14_c q q _ v2 _ true wy (Lib.hid (HV8.out.below HBY.out)) HI8.out)
                    rw [HSIDE.out] at HLT
                    have HL2 : Hid (Calls Tryd.prog 50 #[.pointer (some ⟨q, 0, none⟩), .bool true] wy fun e w' => e = .returned (.int .i64 (lotsL S - d)) ∧ Below wy.heap.size wy w') := by
                      have := HLT.out
                      rw [HFSUM.out.2.1] at this
                      exact this
                    have hw1 := lotsL_range S (fun y hy => HSLOT.out y hy)
                    have hw2 : lotsL S ≤ 32000 := by omega
                    have hw3 := hw1.1
                    have hw4 : d ≤ 1000 := by have := HSUM.out; omega
                    clear hw1 HLT
                    go_wp2_with fail
                    refine HL2.out.mono ?_
                    rintro e y1 ⟨rfl, hb1⟩
                    have HB1 := Lib.hid (HBY.out.trans (hb1.mono HBY.out.size))
                    have hws : IntKind.i64.wrap (lotsL S - d) = lotsL S - d := by rw [IntKind.wrap_i64]; omega
                    clear hb1 p2
                    have HBT := Lib.hid (fun (W : World) (s : Bool) (hb : Below W8.heap.size W8 W) => best_c q q _ v2 _ s W (Lib.hid (HV8.out.below hb)) HI8.out.small)
                    have HUN := Lib.hid (HU8.out)
                    obtain ⟨l2, hl2⟩ : ∃ z, z = dealL l ⟨oi, ot, false, op, ol, oq⟩ came := ⟨_, rfl⟩
                    rw [← hl2] at HBT HUN HV8 HI8 HU8
                    have HL2E := Lib.hid hl2
                    clear hl2
                    cases hl1 : l2 true with
                    | nil =>
                      have HC1 : Hid (∀ W, Below W8.heap.size W8 W → Calls Tryd.prog 51 #[.pointer (some ⟨q, 0, none⟩), .bool true] W fun e w' => e = .returned (.tuple #[.agg #[.int .i64 0, .int .i64 0, .bool false, .int .i64 0, .int .i64 0, .int .i64 0], .bool false]) ∧ Below W.heap.size W w') := fun W hb => by
                        have := HBT.out W true hb
                        rw [hl1] at this
                        exact this
                      cases hl2 : l2 false with
                      | nil =>
                        as_aux_lemma =>
                          have HC2 : Hid (∀ W, Below W8.heap.size W8 W → Calls Tryd.prog 51 #[.pointer (some ⟨q, 0, none⟩), .bool false] W fun e w' => e = .returned (.tuple #[.agg #[.int .i64 0, .int .i64 0, .bool false, .int .i64 0, .int .i64 0, .int .i64 0], .bool false]) ∧ Below W.heap.size W w') := fun W hb => by
                            have := HBT.out W false hb
                            rw [hl2] at this
                            exact this
                          clear hl1 hl2
                          go_wp2_with fail
                          refine (HC1.out y1 HB1.out).mono ?_
                          rintro e y2 ⟨rfl, hb2⟩
                          have HB2 := Lib.hid (HB1.out.trans (hb2.mono HB1.out.size))
                          have HB3 : Hid (Below W8.heap.size W8 (y2.alloc (.cells #[.int .i64 0, .int .i64 0, .bool false, .int .i64 0, .int .i64 0, .int .i64 0] 67))) := HB2.out.alloc HB2.out.size _
                          clear hb2
                          go_wp2_with fail
                          refine (HC2.out _ HB3.out).mono ?_
                          rintro e y3 ⟨rfl, hb3⟩
                          have HB4 := Lib.hid (HB3.out.trans (hb3.mono HB3.out.size))
                          have HB5 : Hid (Below W8.heap.size W8 (y3.alloc (.cells #[.int .i64 0, .int .i64 0, .bool false, .int .i64 0, .int .i64 0, .int .i64 0] 67))) := HB4.out.alloc HB4.out.size _
                          clear hb3
                          go_wp2_with fail
                          go_roundw
                          case rel => exact ⟨k + 1, _, l2, v2, _, rfl, by omega, by omega, by go_num, HCE.out, HI8, HUN, Lib.hid (HV8.out.below HB5.out), Lib.hid (HBW8.out.trans (HB5.out.mono HBW8.out.size))⟩
                          case measure => simp [intOf]; omega
                      | cons xb rb =>
                        as_aux_lemma =>
                          obtain ⟨bi, bt, bs, bp, bl, bq⟩ := xb
                          have HC2 : Hid (∀ W, Below W8.heap.size W8 W → Calls Tryd.prog 51 #[.pointer (some ⟨q, 0, none⟩), .bool false] W fun e w' => e = .returned (.tuple #[.agg #[.int .i64 bi, .int .i64 bt, .bool bs, .int .i64 bp, .int .i64 bl, .int .i64 bq], .bool true]) ∧ Below W.heap.size W w') := fun W hb => by
                            have := HBT.out W false hb
                            rw [hl2] at this
                            exact this
                          clear hl1 hl2
                          go_wp2_with fail
                          refine (HC1.out y1 HB1.out).mono ?_
                          rintro e y2 ⟨rfl, hb2⟩
                          have HB2 := Lib.hid (HB1.out.trans (hb2.mono HB1.out.size))
                          have HB3 : Hid (Below W8.heap.size W8 (y2.alloc (.cells #[.int .i64 0, .int .i64 0, .bool false, .int .i64 0, .int .i64 0, .int .i64 0] 67))) := HB2.out.alloc HB2.out.size _
                          clear hb2
                          go_wp2_with fail
                          refine (HC2.out _ HB3.out).mono ?_
                          rintro e y3 ⟨rfl, hb3⟩
                          have HB4 := Lib.hid (HB3.out.trans (hb3.mono HB3.out.size))
                          have HB5 : Hid (Below W8.heap.size W8 (y3.alloc (.cells #[.int .i64 bi, .int .i64 bt, .bool bs, .int .i64 bp, .int .i64 bl, .int .i64 bq] 67))) := HB4.out.alloc HB4.out.size _
                          clear hb3
                          go_wp2_with fail
                          go_roundw
                          case rel => exact ⟨k + 1, _, l2, v2, _, rfl, by omega, by omega, by go_num, HCE.out, HI8, HUN, Lib.hid (HV8.out.below HB5.out), Lib.hid (HBW8.out.trans (HB5.out.mono HBW8.out.size))⟩
                          case measure => simp [intOf]; omega
                    | cons xa ra =>
                      obtain ⟨yi, yt, ys, yp, yl, yq⟩ := xa
                      have HC1 : Hid (∀ W, Below W8.heap.size W8 W → Calls Tryd.prog 51 #[.pointer (some ⟨q, 0, none⟩), .bool true] W fun e w' => e = .returned (.tuple #[.agg #[.int .i64 yi, .int .i64 yt, .bool ys, .int .i64 yp, .int .i64 yl, .int .i64 yq], .bool true]) ∧ Below W.heap.size W w') := fun W hb => by
                        have := HBT.out W true hb
                        rw [hl1] at this
                        exact this
                      cases hl2 : l2 false with
                      | nil =>
                        as_aux_lemma =>
                          have HC2 : Hid (∀ W, Below W8.heap.size W8 W → Calls Tryd.prog 51 #[.pointer (some ⟨q, 0, none⟩), .bool false] W fun e w' => e = .returned (.tuple #[.agg #[.int .i64 0, .int .i64 0, .bool false, .int .i64 0, .int .i64 0, .int .i64 0], .bool false]) ∧ Below W.heap.size W w') := fun W hb => by
                            have := HBT.out W false hb
                            rw [hl2] at this
                            exact this
                          clear hl1 hl2
                          go_wp2_with fail
                          refine (HC1.out y1 HB1.out).mono ?_
                          rintro e y2 ⟨rfl, hb2⟩
                          have HB2 := Lib.hid (HB1.out.trans (hb2.mono HB1.out.size))
                          have HB3 : Hid (Below W8.heap.size W8 (y2.alloc (.cells #[.int .i64 yi, .int .i64 yt, .bool ys, .int .i64 yp, .int .i64 yl, .int .i64 yq] 67))) := HB2.out.alloc HB2.out.size _
                          clear hb2
                          go_wp2_with fail
                          refine (HC2.out _ HB3.out).mono ?_
                          rintro e y3 ⟨rfl, hb3⟩
                          have HB4 := Lib.hid (HB3.out.trans (hb3.mono HB3.out.size))
                          have HB5 : Hid (Below W8.heap.size W8 (y3.alloc (.cells #[.int .i64 0, .int .i64 0, .bool false, .int .i64 0, .int .i64 0, .int .i64 0] 67))) := HB4.out.alloc HB4.out.size _
                          clear hb3
                          go_wp2_with fail
                          go_roundw
                          case rel => exact ⟨k + 1, _, l2, v2, _, rfl, by omega, by omega, by go_num, HCE.out, HI8, HUN, Lib.hid (HV8.out.below HB5.out), Lib.hid (HBW8.out.trans (HB5.out.mono HBW8.out.size))⟩
                          case measure => simp [intOf]; omega
                      | cons xb rb =>
                        as_aux_lemma =>
                          obtain ⟨bi, bt, bs, bp, bl, bq⟩ := xb
                          have HC2 : Hid (∀ W, Below W8.heap.size W8 W → Calls Tryd.prog 51 #[.pointer (some ⟨q, 0, none⟩), .bool false] W fun e w' => e = .returned (.tuple #[.agg #[.int .i64 bi, .int .i64 bt, .bool bs, .int .i64 bp, .int .i64 bl, .int .i64 bq], .bool true]) ∧ Below W.heap.size W w') := fun W hb => by
                            have := HBT.out W false hb
                            rw [hl2] at this
                            exact this
                          have hun : bp < yp := HUN.out ⟨yi, yt, ys, yp, yl, yq⟩ (by rw [hl1]; simp) ⟨bi, bt, bs, bp, bl, bq⟩ (by rw [hl2]; simp)
                          have hdn : decide (yp ≤ bp) = false := by simp; omega
                          clear hl1 hl2
                          go_wp2_with fail
                          refine (HC1.out y1 HB1.out).mono ?_
                          rintro e y2 ⟨rfl, hb2⟩
                          have HB2 := Lib.hid (HB1.out.trans (hb2.mono HB1.out.size))
                          have HB3 : Hid (Below W8.heap.size W8 (y2.alloc (.cells #[.int .i64 yi, .int .i64 yt, .bool ys, .int .i64 yp, .int .i64 yl, .int .i64 yq] 67))) := HB2.out.alloc HB2.out.size _
                          have HK3 : Hid (Blk (y2.alloc (.cells #[.int .i64 yi, .int .i64 yt, .bool ys, .int .i64 yp, .int .i64 yl, .int .i64 yq] 67)) y2.heap.size #[.int .i64 yi, .int .i64 yt, .bool ys, .int .i64 yp, .int .i64 yl, .int .i64 yq] 67) := Blk.new y2 _ _
                          clear hb2
                          go_wp2_with fail
                          refine (HC2.out _ HB3.out).mono ?_
                          rintro e y3 ⟨rfl, hb3⟩
                          have HB4 := Lib.hid (HB3.out.trans (hb3.mono HB3.out.size))
                          have HB5 : Hid (Below W8.heap.size W8 (y3.alloc (.cells #[.int .i64 bi, .int .i64 bt, .bool bs, .int .i64 bp, .int .i64 bl, .int .i64 bq] 67))) := HB4.out.alloc HB4.out.size _
                          have hk5 : Blk (y3.alloc (.cells #[.int .i64 bi, .int .i64 bt, .bool bs, .int .i64 bp, .int .i64 bl, .int .i64 bq] 67)) y2.heap.size #[.int .i64 yi, .int .i64 yt, .bool ys, .int .i64 yp, .int .i64 yl, .int .i64 yq] 67 := (HK3.out.below hb3).below ((Below.refl _ _).alloc (Nat.le_refl _) _)
                          have k0 := hk5.cell 0 _ rfl
                          have k1 := hk5.cell 1 _ rfl
                          have k2 := hk5.cell 2 _ rfl
                          have k3 := hk5.cell 3 _ rfl
                          have k4 := hk5.cell 4 _ rfl
                          have k5 := hk5.cell 5 _ rfl
                          simp only [List.getElem_toArray, List.getElem_cons_zero, List.getElem_cons_succ] at k0 k1 k2 k3 k4 k5
                          clear hb3 hk5
                          go_wp2_with fail
                          clear k0 k1 k2 k3 k4 k5
                          refine (meets_c ⟨yi, yt, ys, yp, yl, yq⟩ ⟨bi, bt, bs, bp, bl, bq⟩ _).mono ?_
                          rintro e y4 ⟨rfl, hb4⟩
                          have HB5 := Lib.hid (HB5.out.trans (hb4.mono HB5.out.size))
                          clear hb4
                          have hfin : (ys && (!bs && decide (yp ≤ bp))) = false := by rw [hdn]; simp
                          simp only [hfin]
                          go_wp2_with fail
                          go_roundw
                          case rel => exact ⟨k + 1, _, l2, v2, _, rfl, by omega, by omega, by go_num, HCE.out, HI8, HUN, Lib.hid (HV8.out.below HB5.out), Lib.hid (HBW8.out.trans (HB5.out.mono HBW8.out.size))⟩
                          case measure => simp [intOf]; omega
      · have hk2 : ¬ (k : Int) < 40 := by omega
        clear HV HI HU
        go_wp2_with fail
        go_ret
        exact ⟨rfl, HB.out⟩
    · have hk1 : ¬ (k : Int) < (len : Int) := by omega
      clear HV HI HU
      go_wp2_with fail
      go_ret
      exact ⟨rfl, HB.out⟩
end Go.Proofs.YtdebldpmloignaaDoor
