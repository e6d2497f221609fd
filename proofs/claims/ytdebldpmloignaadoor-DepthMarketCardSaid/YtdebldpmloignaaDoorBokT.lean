/-
  book: the document's list of a side.
-/
import Derived.Test.YtdebldpmloignaaDoorBokS
import Derived.Test.YtdebldpmloignaaDoorSrc
namespace Go.Proofs.YtdebldpmloignaaDoor
open Go.RowKit
set_option linter.unusedVariables false
set_option linter.unusedSimpArgs false

theorem listR_len (L : List Ord) (s : Bool) : (listR L s).length ≤ L.length := by
  have : ∀ (xs out : List Ord), (xs.foldl insR out).length = out.length + xs.length := fun xs => by
    induction xs with
    | nil => intro out; rfl
    | cons a r ih =>
      intro out
      rw [List.foldl_cons, ih]
      unfold insR
      rw [insAt_len (List.takeWhile_prefix _).length_le, List.length_cons]
      omega
  unfold listR
  rw [this]
  have := List.length_filter_le (fun x : Ord => x.sell == s) L
  simpa using this
set_option maxRecDepth 100000 in
set_option maxHeartbeats 4000000 in
theorem rlist_c (B u : Nat) (L : List Ord) (v : Value) (came : Nat) (sell : Bool) (w : World) (h : Hid (RV w B u L v came)) (hN : L.length ≤ 100000) :
    Calls Tryd.prog 62 #[.pointer (some ⟨u, 0, none⟩), .bool sell] w fun e w' => ∃ v', e = .returned v' ∧ w'.ownsRow w.heap.size 97 6 v' (listR L sell).length (flatOf Ord.cells (listR L sell)) ∧ Below w.heap.size w w' := by
  obtain ⟨i0, hi, hz0, hz1, hz2⟩ := info_parts info_ror
  obtain ⟨A, c, rfl, hrd, cq, hAc, hLc⟩ := h.out.form
  have HR := Lib.hid hrd
  have HU := Lib.hid h.out.lt
  have HCQ0 := Lib.hid cq
  clear hrd h cq hAc
  go_enter Tryd.func62, Tryd.ntmps62
  go_wp2_with fail
  go_loopw [5, 6, 7, 8] (fun s5 s6 _ _ wr => ∃ kk : Nat, kk ≤ L.length ∧ s6 = .int .i64 kk ∧ wr.ownsRow w.heap.size 97 6 s5 (listR (L.take kk) sell).length (flatOf Ord.cells (listR (L.take kk) sell)) ∧ Below w.heap.size w wr) (fun _ s6 _ _ _ => L.length - (intOf s6).toNat)
  case atStart => exact ⟨0, Nat.zero_le _, rfl, by simpa [flatOf, listR_nil] using own_empty (w := w) (e := 97) (size := 6) (Nat.le_refl _), (Below.refl _ w).alloc (Nat.le_refl _) _⟩
  case round =>
    obtain ⟨kk, hkk, rfl, hown, hbl⟩ := hrel
    have HBR := Lib.hid hbl
    have cq := (hbl.cell (p := ⟨u, 0, none⟩) HU.out).trans HCQ0.out
    have HCQ := Lib.hid cq
    have HUR : Hid (u < wr.heap.size) := Nat.lt_of_lt_of_le HU.out hbl.size
    have HO := Lib.hid hown
    by_cases hlt : kk < L.length
    · obtain ⟨bL, off, rfl, hb, hrows⟩ := HR.out.2 (by omega)
      obtain ⟨x, hx⟩ : ∃ x, L[kk]? = some x := ⟨_, List.getElem?_eq_getElem (by omega)⟩
      have r2 := rangeAt_below (hrows kk x hx) hbl hb
      have HLT : Hid (bL < wr.heap.size) := Nat.lt_of_lt_of_le hb hbl.size
      have c2 : wr.cell? ⟨bL, off + kk * 6 + 2, none⟩ = some (.bool x.sell) := r2 2 _ rfl
      have HRX := Lib.hid r2
      have HSN := Lib.hid (listR_take L sell kk x hx)
      have HNO : Hid ((listR (L.take kk) sell).length ≤ 100000) := Nat.le_trans (listR_len _ _) (by rw [List.length_take]; omega)
      obtain ⟨out, hout⟩ : ∃ out, out = listR (L.take kk) sell := ⟨_, rfl⟩
      have HOUT := Lib.hid hout
      rw [← hout] at HNO HO hown
      obtain ⟨Ao, co, hv5, hco, hAo, hro⟩ := own_form Ord.k6 hown
      subst hv5
      have HRO := Lib.hid hro
      clear hout hro
      by_cases hs : x.sell = sell
      · have hse : (!(x.sell == sell)) = false := by simp [hs]
        have HSL := Lib.hid hs
        clear hs hown r2 hx hrows hb hbl
        go_wp2_with fail
        go_loopw [7] (fun s7 wx => ∃ (at_ : Nat) (wi : World), wi = wx ∧ at_ ≤ out.length ∧ s7 = .int .i64 at_ ∧ Hid (∀ (j : Nat) (y : Ord), j < at_ → out[j]? = some y → aheadB y x = true) ∧ Hid (Below wr.heap.size wr wi)) (fun s7 _ => out.length - (intOf s7).toNat)
        case atStart => exact ⟨0, _, rfl, Nat.zero_le _, rfl, fun j y hj => absurd hj (Nat.not_lt_zero _), Below.refl _ _⟩
        case round =>
          obtain ⟨at_, wi, rfl, hat, rfl, hahead, hbi⟩ := hrel
          have cq := (hbi.out.cell (p := ⟨u, 0, none⟩) HUR.out).trans HCQ.out
          have r2 := rangeAt_below HRX.out hbi.out HLT.out
          have HG2 : Hid (bL < wi.heap.size) := Nat.lt_of_lt_of_le HLT.out hbi.out.size
          have HU2 : Hid (u < wi.heap.size) := Nat.lt_of_lt_of_le HUR.out hbi.out.size
          have hNo := HNO.out
          by_cases hlo : at_ < out.length
          · obtain ⟨g1, o1, hA1, hb1, hr1⟩ := (HRO.out.below hbi.out (Nat.le_refl _)).2 (by omega)
            subst hA1
            obtain ⟨y, hy⟩ : ∃ y, out[at_]? = some y := ⟨_, List.getElem?_eq_getElem hlo⟩
            have r1 := hr1 at_ y hy
            have HY := Lib.hid hy
            have HG1 : Hid (g1 < wi.heap.size) := Nat.lt_of_lt_of_le hb1 hbi.out.size
            have HAH := Lib.hid (fun (y : Ord) (W : World) => rahead_c y x W)
            have d0 : decide ((at_ : Int) < (out.length : Int)) = true := by simpa using hlo
            have d1 : decide (at_ < out.length) = true := by simpa using hlo
            have a0 : (0 : Int) ≤ (at_ : Int) := by omega
            have a1 : (at_ : Int) < (out.length : Int) := by omega
            have b0 : (0 : Int) ≤ (kk : Int) := by omega
            have b1 : (kk : Int) < (L.length : Int) := by omega
            cases hah : aheadB y x with
            | true =>
              have HAT := Lib.hid hah
              have HAH2 : Hid (∀ W, Calls Tryd.prog 90 #[.agg y.cells.toArray, .agg x.cells.toArray] W fun e w' => e = .returned (.bool true) ∧ Below W.heap.size W w') := fun W => by
                have := rahead_c y x W
                rw [HAT.out] at this
                exact this
              clear hr1 hy hah hb1 HAH
              go_wp2_with fail
              refine wp_region_noPanic ?_
              refine wp_region_held_drew (S := (fun w' => w'.rangeAt g1 (o1 + at_ * 6) y.cells ∧ w'.rangeAt bL (off + kk * 6) x.cells ∧ w'.cell? ⟨u, 0, none⟩ = some (.slice (some ⟨bL, off, none⟩) L.length c))) (by kernel_rfl) ⟨r1, r2, cq⟩ (fun hHeld => ?_)
              refine wpAnyH_take (i := 0) (v := ?_) rfl (by kernel_rfl) (by kernel_rfl) (by kernel_rfl) (fun _ _ _ h => h) (Or.inl ⟨by rfl, ?_⟩) hHeld ?_
              rotate_left
              focus
                intro w hSw
                clear hSw
                go_simp
                try with_reducible rfl
              try simp only [Act.put, List.getElem_toArray, List.getElem_cons_zero, List.getElem_cons_succ, List.setIfInBounds_toArray, List.set_cons_zero, List.set_cons_succ]
              refine wpAnyH_take (i := 1) (v := ?_) rfl (by kernel_rfl) (by kernel_rfl) (by kernel_rfl) (fun _ _ _ h => h) (Or.inl ⟨by rfl, ?_⟩) hHeld ?_
              rotate_left
              focus
                intro w hSw
                clear hSw
                go_simp
                try with_reducible rfl
              try simp only [Act.put, List.getElem_toArray, List.getElem_cons_zero, List.getElem_cons_succ, List.setIfInBounds_toArray, List.set_cons_zero, List.set_cons_succ]
              refine wpAnyH_take (i := 2) (v := ?_) rfl (by kernel_rfl) (by kernel_rfl) (by kernel_rfl) (fun _ _ _ h => h) (Or.inl ⟨by rfl, ?_⟩) hHeld ?_
              rotate_left
              focus
                intro w hSw
                clear hSw
                go_simp
                try with_reducible rfl
              try simp only [Act.put, List.getElem_toArray, List.getElem_cons_zero, List.getElem_cons_succ, List.setIfInBounds_toArray, List.set_cons_zero, List.set_cons_succ]
              refine wpAnyH_take (i := 3) (v := ?_) rfl (by kernel_rfl) (by kernel_rfl) (by kernel_rfl) (fun _ _ _ h => h) (Or.inl ⟨by rfl, ?_⟩) hHeld ?_
              rotate_left
              focus
                intro w hSw
                clear hSw
                go_simp
                try with_reducible rfl
              try simp only [Act.put, List.getElem_toArray, List.getElem_cons_zero, List.getElem_cons_succ, List.setIfInBounds_toArray, List.set_cons_zero, List.set_cons_succ]
              refine wpAnyH_take (i := 4) (v := ?_) rfl (by kernel_rfl) (by kernel_rfl) (by kernel_rfl) (fun _ _ _ h => h) (Or.inl ⟨by rfl, ?_⟩) hHeld ?_
              rotate_left
              focus
                intro w hSw
                clear hSw
                go_simp
                try with_reducible rfl
              try simp only [Act.put, List.getElem_toArray, List.getElem_cons_zero, List.getElem_cons_succ, List.setIfInBounds_toArray, List.set_cons_zero, List.set_cons_succ]
              refine wpAnyH_take (i := 5) (v := ?_) rfl (by kernel_rfl) (by kernel_rfl) (by kernel_rfl) (fun _ _ _ h => h) (Or.inl ⟨by rfl, ?_⟩) hHeld ?_
              rotate_left
              focus
                intro w hSw
                clear hSw
                go_simp
                try with_reducible rfl
              try simp only [Act.put, List.getElem_toArray, List.getElem_cons_zero, List.getElem_cons_succ, List.setIfInBounds_toArray, List.set_cons_zero, List.set_cons_succ]
              refine wpAnyH_take (i := 6) (v := ?_) rfl (by kernel_rfl) (by kernel_rfl) (by kernel_rfl) (fun _ _ _ h => h) (Or.inl ⟨by rfl, ?_⟩) hHeld ?_
              rotate_left
              focus
                intro w hSw
                clear hSw
                go_simp
                try with_reducible rfl
              try simp only [Act.put, List.getElem_toArray, List.getElem_cons_zero, List.getElem_cons_succ, List.setIfInBounds_toArray, List.set_cons_zero, List.set_cons_succ]
              refine wpAnyH_take (i := 7) (v := ?_) rfl (by kernel_rfl) (by kernel_rfl) (by kernel_rfl) (fun _ _ _ h => h) (Or.inl ⟨by rfl, ?_⟩) hHeld ?_
              rotate_left
              focus
                intro w hSw
                clear hSw
                go_simp
                try with_reducible rfl
              try simp only [Act.put, List.getElem_toArray, List.getElem_cons_zero, List.getElem_cons_succ, List.setIfInBounds_toArray, List.set_cons_zero, List.set_cons_succ]
              refine wpAnyH_take (i := 8) rfl (by kernel_rfl) (by kernel_rfl) (by kernel_rfl) (fun _ _ _ h => h) (yieldsIf_load_mid (by rfl) 97 _ rfl g1 (o1 + at_ * 6) rfl y.cells _ (fun w h => h.1) Tryd.underlying97 rfl (ror_szL y)) hHeld ?_
              try simp only [Act.put, List.getElem_toArray, List.getElem_cons_zero, List.getElem_cons_succ, List.setIfInBounds_toArray, List.set_cons_zero, List.set_cons_succ]
              refine wpAnyH_take (i := 9) (v := ?_) rfl (by kernel_rfl) (by kernel_rfl) (by kernel_rfl) (fun _ _ _ h => h) (Or.inl ⟨by rfl, ?_⟩) hHeld ?_
              rotate_left
              focus
                intro w hSw
                clear hSw
                go_simp
                try with_reducible rfl
              try simp only [Act.put, List.getElem_toArray, List.getElem_cons_zero, List.getElem_cons_succ, List.setIfInBounds_toArray, List.set_cons_zero, List.set_cons_succ]
              refine wpAnyH_take (i := 10) (v := ?_) rfl (by kernel_rfl) (by kernel_rfl) (by kernel_rfl) (fun _ _ _ h => h) (Or.inl ⟨by rfl, ?_⟩) hHeld ?_
              rotate_left
              focus
                intro w hSw
                clear hSw
                go_simp
                try with_reducible rfl
              try simp only [Act.put, List.getElem_toArray, List.getElem_cons_zero, List.getElem_cons_succ, List.setIfInBounds_toArray, List.set_cons_zero, List.set_cons_succ]
              refine wpAnyH_take (i := 11) (v := ?_) rfl (by kernel_rfl) (by kernel_rfl) (by kernel_rfl) (fun _ _ _ h => h) (Or.inl ⟨by rfl, ?_⟩) hHeld ?_
              rotate_left
              focus
                intro w hSw
                clear hSw
                go_simp
                try with_reducible rfl
              try simp only [Act.put, List.getElem_toArray, List.getElem_cons_zero, List.getElem_cons_succ, List.setIfInBounds_toArray, List.set_cons_zero, List.set_cons_succ]
              refine wpAnyH_take (i := 12) (v := ?_) rfl (by kernel_rfl) (by kernel_rfl) (by kernel_rfl) (fun _ _ _ h => h) (Or.inl ⟨by rfl, ?_⟩) hHeld ?_
              rotate_left
              focus
                intro w hSw
                (try dsimp only at hSw)
                go_simp
                try with_reducible rfl
              try simp only [Act.put, List.getElem_toArray, List.getElem_cons_zero, List.getElem_cons_succ, List.setIfInBounds_toArray, List.set_cons_zero, List.set_cons_succ]
              refine wpAnyH_take (i := 13) (v := ?_) rfl (by kernel_rfl) (by kernel_rfl) (by kernel_rfl) (fun _ _ _ h => h) (Or.inl ⟨by rfl, ?_⟩) hHeld ?_
              rotate_left
              focus
                intro w hSw
                clear hSw
                go_simp
                try with_reducible rfl
              try simp only [Act.put, List.getElem_toArray, List.getElem_cons_zero, List.getElem_cons_succ, List.setIfInBounds_toArray, List.set_cons_zero, List.set_cons_succ]
              refine wpAnyH_take (i := 14) (v := ?_) rfl (by kernel_rfl) (by kernel_rfl) (by kernel_rfl) (fun _ _ _ h => h) (Or.inl ⟨by rfl, ?_⟩) hHeld ?_
              rotate_left
              focus
                intro w hSw
                clear hSw
                go_simp
                try with_reducible rfl
              try simp only [Act.put, List.getElem_toArray, List.getElem_cons_zero, List.getElem_cons_succ, List.setIfInBounds_toArray, List.set_cons_zero, List.set_cons_succ]
              refine wpAnyH_take (i := 15) rfl (by kernel_rfl) (by kernel_rfl) (by kernel_rfl) (fun _ _ _ h => h) (yieldsIf_load_mid (by rfl) 97 _ rfl bL (off + kk * 6) rfl x.cells _ (fun w h => h.2.1) Tryd.underlying97 rfl (ror_szL x)) hHeld ?_
              try simp only [Act.put, List.getElem_toArray, List.getElem_cons_zero, List.getElem_cons_succ, List.setIfInBounds_toArray, List.set_cons_zero, List.set_cons_succ]
              refine wpAnyH_ready (rs := [16]) (by kernel_rfl) (by simp) ?_
              refine AllReadyH.cons rfl (fun K hK => ?_) AllReadyH.nil
              go_simp
              refine (HAH2.out _).mono ?_
              rintro e W2 ⟨rfl, hb2⟩
              have hb2 : Below wi.heap.size wi W2 := ⟨hb2.os, hb2.tape, hb2.output, hb2.size, hb2.block⟩
              have r1 := rangeAt_below r1 hb2 HG1.out
              have r2 := rangeAt_below r2 hb2 HG2.out
              have cq := (hb2.cell (p := ⟨u, 0, none⟩) HU2.out).trans cq
              have HB2 := Lib.hid (hbi.out.trans (hb2.mono hbi.out.size))
              clear hb2
              refine hK.out _ _ ⟨r1, r2, cq⟩ (fun hHeld => ?_)
              clear hK K
              try simp only [Act.put, List.getElem_toArray, List.getElem_cons_zero, List.getElem_cons_succ, List.setIfInBounds_toArray, List.set_cons_zero, List.set_cons_succ]
              refine wpAnyH_take (i := 17) (v := ?_) rfl (by kernel_rfl) (by kernel_rfl) (by kernel_rfl) (fun _ _ _ h => h) (Or.inl ⟨by rfl, ?_⟩) hHeld ?_
              rotate_left
              focus
                intro w hSw
                clear hSw
                go_simp
                try with_reducible rfl
              try simp only [Act.put, List.getElem_toArray, List.getElem_cons_zero, List.getElem_cons_succ, List.setIfInBounds_toArray, List.set_cons_zero, List.set_cons_succ]
              refine wpAnyH_done (by kernel_rfl) ?_ _
              refine NoPanic.normal ?_
              go_wp2_with fail
              go_roundw
              case rel =>
                refine ⟨at_ + 1, _, rfl, by omega, by go_num, (show Hid _ from fun j z hj hz => ?_), HB2⟩
                by_cases e : j = at_
                · subst e
                  rw [HY.out] at hz
                  cases hz
                  exact HAT.out
                · exact hahead.out j z (by omega) hz
              case measure => simp [intOf]; omega
            | false =>
              have HAT := Lib.hid hah
              have HAH2 : Hid (∀ W, Calls Tryd.prog 90 #[.agg y.cells.toArray, .agg x.cells.toArray] W fun e w' => e = .returned (.bool false) ∧ Below W.heap.size W w') := fun W => by
                have := rahead_c y x W
                rw [HAT.out] at this
                exact this
              have HTW : Hid ((out.takeWhile (fun y => aheadB y x)).length = at_) := tw_len _ _ _ hat (fun j z hj hz => hahead.out j z hj hz) (fun z hz => by
                rw [HY.out] at hz
                cases hz
                exact HAT.out)
              clear hr1 hy hah hb1 HAH
              go_wp2_with fail
              refine wp_region_noPanic ?_
              refine wp_region_held_drew (S := (fun w' => w'.rangeAt g1 (o1 + at_ * 6) y.cells ∧ w'.rangeAt bL (off + kk * 6) x.cells ∧ w'.cell? ⟨u, 0, none⟩ = some (.slice (some ⟨bL, off, none⟩) L.length c))) (by kernel_rfl) ⟨r1, r2, cq⟩ (fun hHeld => ?_)
              refine wpAnyH_take (i := 0) (v := ?_) rfl (by kernel_rfl) (by kernel_rfl) (by kernel_rfl) (fun _ _ _ h => h) (Or.inl ⟨by rfl, ?_⟩) hHeld ?_
              rotate_left
              focus
                intro w hSw
                clear hSw
                go_simp
                try with_reducible rfl
              try simp only [Act.put, List.getElem_toArray, List.getElem_cons_zero, List.getElem_cons_succ, List.setIfInBounds_toArray, List.set_cons_zero, List.set_cons_succ]
              refine wpAnyH_take (i := 1) (v := ?_) rfl (by kernel_rfl) (by kernel_rfl) (by kernel_rfl) (fun _ _ _ h => h) (Or.inl ⟨by rfl, ?_⟩) hHeld ?_
              rotate_left
              focus
                intro w hSw
                clear hSw
                go_simp
                try with_reducible rfl
              try simp only [Act.put, List.getElem_toArray, List.getElem_cons_zero, List.getElem_cons_succ, List.setIfInBounds_toArray, List.set_cons_zero, List.set_cons_succ]
              refine wpAnyH_take (i := 2) (v := ?_) rfl (by kernel_rfl) (by kernel_rfl) (by kernel_rfl) (fun _ _ _ h => h) (Or.inl ⟨by rfl, ?_⟩) hHeld ?_
              rotate_left
              focus
                intro w hSw
                clear hSw
                go_simp
                try with_reducible rfl
              try simp only [Act.put, List.getElem_toArray, List.getElem_cons_zero, List.getElem_cons_succ, List.setIfInBounds_toArray, List.set_cons_zero, List.set_cons_succ]
              refine wpAnyH_take (i := 3) (v := ?_) rfl (by kernel_rfl) (by kernel_rfl) (by kernel_rfl) (fun _ _ _ h => h) (Or.inl ⟨by rfl, ?_⟩) hHeld ?_
              rotate_left
              focus
                intro w hSw
                clear hSw
                go_simp
                try with_reducible rfl
              try simp only [Act.put, List.getElem_toArray, List.getElem_cons_zero, List.getElem_cons_succ, List.setIfInBounds_toArray, List.set_cons_zero, List.set_cons_succ]
              refine wpAnyH_take (i := 4) (v := ?_) rfl (by kernel_rfl) (by kernel_rfl) (by kernel_rfl) (fun _ _ _ h => h) (Or.inl ⟨by rfl, ?_⟩) hHeld ?_
              rotate_left
              focus
                intro w hSw
                clear hSw
                go_simp
                try with_reducible rfl
              try simp only [Act.put, List.getElem_toArray, List.getElem_cons_zero, List.getElem_cons_succ, List.setIfInBounds_toArray, List.set_cons_zero, List.set_cons_succ]
              refine wpAnyH_take (i := 5) (v := ?_) rfl (by kernel_rfl) (by kernel_rfl) (by kernel_rfl) (fun _ _ _ h => h) (Or.inl ⟨by rfl, ?_⟩) hHeld ?_
              rotate_left
              focus
                intro w hSw
                clear hSw
                go_simp
                try with_reducible rfl
              try simp only [Act.put, List.getElem_toArray, List.getElem_cons_zero, List.getElem_cons_succ, List.setIfInBounds_toArray, List.set_cons_zero, List.set_cons_succ]
              refine wpAnyH_take (i := 6) (v := ?_) rfl (by kernel_rfl) (by kernel_rfl) (by kernel_rfl) (fun _ _ _ h => h) (Or.inl ⟨by rfl, ?_⟩) hHeld ?_
              rotate_left
              focus
                intro w hSw
                clear hSw
                go_simp
                try with_reducible rfl
              try simp only [Act.put, List.getElem_toArray, List.getElem_cons_zero, List.getElem_cons_succ, List.setIfInBounds_toArray, List.set_cons_zero, List.set_cons_succ]
              refine wpAnyH_take (i := 7) (v := ?_) rfl (by kernel_rfl) (by kernel_rfl) (by kernel_rfl) (fun _ _ _ h => h) (Or.inl ⟨by rfl, ?_⟩) hHeld ?_
              rotate_left
              focus
                intro w hSw
                clear hSw
                go_simp
                try with_reducible rfl
              try simp only [Act.put, List.getElem_toArray, List.getElem_cons_zero, List.getElem_cons_succ, List.setIfInBounds_toArray, List.set_cons_zero, List.set_cons_succ]
              refine wpAnyH_take (i := 8) rfl (by kernel_rfl) (by kernel_rfl) (by kernel_rfl) (fun _ _ _ h => h) (yieldsIf_load_mid (by rfl) 97 _ rfl g1 (o1 + at_ * 6) rfl y.cells _ (fun w h => h.1) Tryd.underlying97 rfl (ror_szL y)) hHeld ?_
              try simp only [Act.put, List.getElem_toArray, List.getElem_cons_zero, List.getElem_cons_succ, List.setIfInBounds_toArray, List.set_cons_zero, List.set_cons_succ]
              refine wpAnyH_take (i := 9) (v := ?_) rfl (by kernel_rfl) (by kernel_rfl) (by kernel_rfl) (fun _ _ _ h => h) (Or.inl ⟨by rfl, ?_⟩) hHeld ?_
              rotate_left
              focus
                intro w hSw
                clear hSw
                go_simp
                try with_reducible rfl
              try simp only [Act.put, List.getElem_toArray, List.getElem_cons_zero, List.getElem_cons_succ, List.setIfInBounds_toArray, List.set_cons_zero, List.set_cons_succ]
              refine wpAnyH_take (i := 10) (v := ?_) rfl (by kernel_rfl) (by kernel_rfl) (by kernel_rfl) (fun _ _ _ h => h) (Or.inl ⟨by rfl, ?_⟩) hHeld ?_
              rotate_left
              focus
                intro w hSw
                clear hSw
                go_simp
                try with_reducible rfl
              try simp only [Act.put, List.getElem_toArray, List.getElem_cons_zero, List.getElem_cons_succ, List.setIfInBounds_toArray, List.set_cons_zero, List.set_cons_succ]
              refine wpAnyH_take (i := 11) (v := ?_) rfl (by kernel_rfl) (by kernel_rfl) (by kernel_rfl) (fun _ _ _ h => h) (Or.inl ⟨by rfl, ?_⟩) hHeld ?_
              rotate_left
              focus
                intro w hSw
                clear hSw
                go_simp
                try with_reducible rfl
              try simp only [Act.put, List.getElem_toArray, List.getElem_cons_zero, List.getElem_cons_succ, List.setIfInBounds_toArray, List.set_cons_zero, List.set_cons_succ]
              refine wpAnyH_take (i := 12) (v := ?_) rfl (by kernel_rfl) (by kernel_rfl) (by kernel_rfl) (fun _ _ _ h => h) (Or.inl ⟨by rfl, ?_⟩) hHeld ?_
              rotate_left
              focus
                intro w hSw
                (try dsimp only at hSw)
                go_simp
                try with_reducible rfl
              try simp only [Act.put, List.getElem_toArray, List.getElem_cons_zero, List.getElem_cons_succ, List.setIfInBounds_toArray, List.set_cons_zero, List.set_cons_succ]
              refine wpAnyH_take (i := 13) (v := ?_) rfl (by kernel_rfl) (by kernel_rfl) (by kernel_rfl) (fun _ _ _ h => h) (Or.inl ⟨by rfl, ?_⟩) hHeld ?_
              rotate_left
              focus
                intro w hSw
                clear hSw
                go_simp
                try with_reducible rfl
              try simp only [Act.put, List.getElem_toArray, List.getElem_cons_zero, List.getElem_cons_succ, List.setIfInBounds_toArray, List.set_cons_zero, List.set_cons_succ]
              refine wpAnyH_take (i := 14) (v := ?_) rfl (by kernel_rfl) (by kernel_rfl) (by kernel_rfl) (fun _ _ _ h => h) (Or.inl ⟨by rfl, ?_⟩) hHeld ?_
              rotate_left
              focus
                intro w hSw
                clear hSw
                go_simp
                try with_reducible rfl
              try simp only [Act.put, List.getElem_toArray, List.getElem_cons_zero, List.getElem_cons_succ, List.setIfInBounds_toArray, List.set_cons_zero, List.set_cons_succ]
              refine wpAnyH_take (i := 15) rfl (by kernel_rfl) (by kernel_rfl) (by kernel_rfl) (fun _ _ _ h => h) (yieldsIf_load_mid (by rfl) 97 _ rfl bL (off + kk * 6) rfl x.cells _ (fun w h => h.2.1) Tryd.underlying97 rfl (ror_szL x)) hHeld ?_
              try simp only [Act.put, List.getElem_toArray, List.getElem_cons_zero, List.getElem_cons_succ, List.setIfInBounds_toArray, List.set_cons_zero, List.set_cons_succ]
              refine wpAnyH_ready (rs := [16]) (by kernel_rfl) (by simp) ?_
              refine AllReadyH.cons rfl (fun K hK => ?_) AllReadyH.nil
              go_simp
              refine (HAH2.out _).mono ?_
              rintro e W2 ⟨rfl, hb2⟩
              have hb2 : Below wi.heap.size wi W2 := ⟨hb2.os, hb2.tape, hb2.output, hb2.size, hb2.block⟩
              have r1 := rangeAt_below r1 hb2 HG1.out
              have r2 := rangeAt_below r2 hb2 HG2.out
              have cq := (hb2.cell (p := ⟨u, 0, none⟩) HU2.out).trans cq
              have HB2 := Lib.hid (hbi.out.trans (hb2.mono hbi.out.size))
              clear hb2
              refine hK.out _ _ ⟨r1, r2, cq⟩ (fun hHeld => ?_)
              clear hK K
              try simp only [Act.put, List.getElem_toArray, List.getElem_cons_zero, List.getElem_cons_succ, List.setIfInBounds_toArray, List.set_cons_zero, List.set_cons_succ]
              refine wpAnyH_take (i := 17) (v := ?_) rfl (by kernel_rfl) (by kernel_rfl) (by kernel_rfl) (fun _ _ _ h => h) (Or.inl ⟨by rfl, ?_⟩) hHeld ?_
              rotate_left
              focus
                intro w hSw
                clear hSw
                go_simp
                try with_reducible rfl
              try simp only [Act.put, List.getElem_toArray, List.getElem_cons_zero, List.getElem_cons_succ, List.setIfInBounds_toArray, List.set_cons_zero, List.set_cons_succ]
              refine wpAnyH_done (by kernel_rfl) ?_ _
              refine NoPanic.normal ?_
              have HBK := HB2
              clear r1 r2 cq HG1 HG2 HU2 hbi hahead
              obtain ⟨xi, xt, xs, xp, xl, xq⟩ := x
              have HRX : Hid (wr.rangeAt bL (off + kk * 6) [.int .i64 xi, .int .i64 xt, .bool xs, .int .i64 xp, .int .i64 xl, .int .i64 xq]) := HRX
              have hbk : Below wr.heap.size wr W2 := HBK.out
              have hszk : wr.heap.size ≤ W2.heap.size := hbk.size
              have RO1 := Lib.hid (HRO.out.below hbk (Nat.le_refl _))
              have HEMP : Hid ((W2.alloc (.cells #[] 97)).ownsRow W2.heap.size 97 6 (.slice (some ⟨W2.heap.size, 0, none⟩) 0 0) ([] : List Ord).length (flatOf Ord.cells ([] : List Ord))) := own_empty (w := W2) (e := 97) (size := 6) (Nat.le_refl _)
              obtain ⟨oA, hoA⟩ : ∃ z, z = out.take at_ := ⟨_, rfl⟩
              obtain ⟨oB, hoB⟩ : ∃ z, z = out.drop at_ := ⟨_, rfl⟩
              have HOA := Lib.hid hoA
              have HOB := Lib.hid hoB
              have HLA : Hid (oA.length = at_) := by show _ = _; rw [hoA, List.length_take]; omega
              have HLB : Hid (oB.length = out.length - at_) := by show _ = _; rw [hoB, List.length_drop]
              clear hoA hoB
              go_wp2_with (first
                | (refine wpList_cutV_h (enc := Ord.cells) rfl 92 _ _ rfl 97 i0 Tryd.underlying92 hi 6 hz1 _ out.length co rfl at_ .i64 rfl hat hco hAo wr.heap.size out (RO1.out.below ((Below.refl _ _).alloc hszk _) (Nat.le_refl _)) ?_; intro v2 hsrc2; rw [← HOA.out] at hsrc2)
                | (at_builtin; refine wpList_append_src (enc := Ord.cells) rfl _ _ 92 rfl W2.heap.size 97 i0 (.agg #[.int .i64 0, .int .i64 0, .bool false, .int .i64 0, .int .i64 0, .int .i64 0]) 6 48 Tryd.underlying92 hi hz0 hz1 hz2 rfl (by decide) Ord.k6 Ord.one _ ([] : List Ord) rfl HEMP.out v2 at_ oA rfl hsrc2 ?ca0 ?ca1 (by simp) ?_))
              case ca0 => have := HNO.out; unfold maxLen; omega
              case ca1 => have := HNO.out; omega
              intro v3 w3 hown3 hg3
              have hown3 : w3.ownsRow W2.heap.size 97 6 v3 oA.length (flatOf Ord.cells oA) := hown3
              have hb3 := below_app (B := W2.heap.size) ((Below.refl W2.heap.size W2).alloc (Nat.le_refl _) _) (by simp) (Nat.le_refl _) (own_empty (w := W2) (e := 97) (size := 6) (Nat.le_refl _)) hg3
              obtain ⟨a3, c3, rfl⟩ := own_len hown3
              have HO3 := Lib.hid hown3
              have HB3 := Lib.hid hb3
              have cq3 := (hb3.cell (p := ⟨u, 0, none⟩) (Nat.lt_of_lt_of_le HUR.out hszk)).trans ((hbk.cell (p := ⟨u, 0, none⟩) HUR.out).trans HCQ.out)
              have r3 := rangeAt_below (rangeAt_below HRX.out hbk HLT.out) hb3 (Nat.lt_of_lt_of_le HLT.out hszk)
              have hsz3 : W2.heap.size ≤ w3.heap.size := hb3.size
              clear hown3 hg3 hsrc2 hb3 hbk RO1
              go_wp2_with (first
                | (refine wpList_load_mid rfl 97 _ rfl bL (off + kk * 6) rfl [.int .i64 xi, .int .i64 xt, .bool xs, .int .i64 xp, .int .i64 xl, .int .i64 xq] _ r3 Tryd.underlying97 rfl size_ror ?_)
                | (at_builtin; refine wpList_app1 rfl _ _ 92 rfl W2.heap.size 97 i0 (.agg #[.int .i64 0, .int .i64 0, .bool false, .int .i64 0, .int .i64 0, .int .i64 0]) 6 48 Tryd.underlying92 hi hz0 hz1 hz2 rfl (by decide) _ _ _ rfl HO3.out [.int .i64 xi, .int .i64 xt, .bool xs, .int .i64 xp, .int .i64 xl, .int .i64 xq] _ rfl ?cb0 ?cb1 ?cb2 ?cb3 ?cb4 hsz3 ?_))
              case cb0 => rfl
              case cb1 => rfl
              case cb2 => exact Ord.one ⟨xi, xt, xs, xp, xl, xq⟩
              case cb3 => have := HNO.out; have := HLA.out; unfold maxLen; omega
              case cb4 => have := HNO.out; have := HLA.out; omega
              intro v4 w4 hown4 hg4 _
              have hown4 : w4.ownsRow W2.heap.size 97 6 v4 (oA ++ [(⟨xi, xt, xs, xp, xl, xq⟩ : Ord)]).length (flatOf Ord.cells (oA ++ [(⟨xi, xt, xs, xp, xl, xq⟩ : Ord)])) := by
                rw [List.length_append, flatOf_append, flatOf_one]
                exact hown4
              have hb4 := below_app (B := W2.heap.size) HB3.out hsz3 (Nat.le_refl _) HO3.out hg4
              obtain ⟨a4, c4, rfl⟩ := own_len hown4
              have HO4 := Lib.hid hown4
              have HB4 := Lib.hid hb4
              have RO4 := Lib.hid (HRO.out.below (HBK.out.trans (hb4.mono HBK.out.size)) (Nat.le_refl _))
              have hsz4 : W2.heap.size ≤ w4.heap.size := hb4.size
              clear hown4 hg4 r3 cq3 hb4
              go_wp2_with (first
                | (refine wpList_cutV (enc := Ord.cells) rfl 92 _ _ rfl 97 i0 Tryd.underlying92 hi 6 hz1 _ out.length co rfl at_ .i64 rfl hat hco hAo wr.heap.size out RO4.out ?_; intro v5 hsrc5; rw [← HOB.out] at hsrc5)
                | (at_builtin; refine wpList_append_src (enc := Ord.cells) rfl _ _ 92 rfl W2.heap.size 97 i0 (.agg #[.int .i64 0, .int .i64 0, .bool false, .int .i64 0, .int .i64 0, .int .i64 0]) 6 48 Tryd.underlying92 hi hz0 hz1 hz2 rfl (by decide) Ord.k6 Ord.one _ (oA ++ [(⟨xi, xt, xs, xp, xl, xq⟩ : Ord)]) rfl HO4.out v5 (out.length - at_) oB rfl hsrc5 ?cc0 ?cc1 hsz4 ?_))
              case cc0 => have := HNO.out; have := HLA.out; rw [List.length_append]; unfold maxLen; simp; omega
              case cc1 => have := HNO.out; have := HLA.out; rw [List.length_append]; simp; omega
              intro v6 w6 hown6 hg6
              have hg6 : w4.grownBy w6 (Value.slice a4 (oA ++ [(⟨xi, xt, xs, xp, xl, xq⟩ : Ord)]).length c4).ownBlock := by rw [List.length_append]; exact hg6
              have hb6 := below_app (B := W2.heap.size) HB4.out hsz4 (Nat.le_refl _) HO4.out hg6
              have hins : Hid (oA ++ (⟨xi, xt, xs, xp, xl, xq⟩ : Ord) :: oB = listR (L.take (kk + 1)) sell) := by
                show _ = _
                rw [HSN.out, if_pos HSL.out, ← HOUT.out]
                unfold insR insAt
                rw [HTW.out, HOA.out, HOB.out]
              have hlen6 : oA.length + (oB.length + 1) = (listR (L.take (kk + 1)) sell).length := by rw [← hins.out]; simp
              rw [hins.out, hlen6] at hown6
              have HO6 := Lib.hid (hown6.mono (Nat.le_trans HBR.out.size HBK.out.size))
              have HB6 := Lib.hid (HBR.out.trans ((HBK.out.mono HBR.out.size).trans (hb6.mono (Nat.le_trans HBR.out.size HBK.out.size))))
              clear hown6 hg6 hsrc5 hb6 RO4
              go_wp2_with fail
              go_roundw
              case rel => exact ⟨kk + 1, by omega, by go_num, HO6.out, HB6.out⟩
              case measure => simp [intOf]; omega
          · have HTW : Hid ((out.takeWhile (fun y => aheadB y x)).length = at_) := tw_len _ _ _ hat (fun j z hj hz => hahead.out j z hj hz) (fun z hz => by
              have := (List.getElem?_eq_some_iff.1 hz).1
              omega)
            have d0 : decide ((at_ : Int) < (out.length : Int)) = false := by simp; omega
            have d1 : decide (at_ < out.length) = false := by simpa using hlo
            have HBK : Hid (Below wr.heap.size wr wi.drew) := hbi.out.drew
            clear r2 cq HG2 HU2 hbi hahead
            go_wp2_with fail
            refine wp_region_noPanic ?_
            refine wp_region_held_drew (S := (fun _ => True)) (by kernel_rfl) trivial (fun hHeld => ?_)
            refine wpAnyH_take (i := 0) (v := ?_) rfl (by kernel_rfl) (by kernel_rfl) (by kernel_rfl) (fun _ _ _ h => h) (Or.inl ⟨by rfl, ?_⟩) hHeld ?_
            rotate_left
            focus
              intro w hSw
              clear hSw
              go_simp
              try with_reducible rfl
            try simp only [Act.put, List.getElem_toArray, List.getElem_cons_zero, List.getElem_cons_succ, List.setIfInBounds_toArray, List.set_cons_zero, List.set_cons_succ]
            refine wpAnyH_take (i := 1) (v := ?_) rfl (by kernel_rfl) (by kernel_rfl) (by kernel_rfl) (fun _ _ _ h => h) (Or.inl ⟨by rfl, ?_⟩) hHeld ?_
            rotate_left
            focus
              intro w hSw
              clear hSw
              go_simp
              try with_reducible rfl
            try simp only [Act.put, List.getElem_toArray, List.getElem_cons_zero, List.getElem_cons_succ, List.setIfInBounds_toArray, List.set_cons_zero, List.set_cons_succ]
            refine wpAnyH_take (i := 2) (v := ?_) rfl (by kernel_rfl) (by kernel_rfl) (by kernel_rfl) (fun _ _ _ h => h) (Or.inl ⟨by rfl, ?_⟩) hHeld ?_
            rotate_left
            focus
              intro w hSw
              clear hSw
              go_simp
              try with_reducible rfl
            try simp only [Act.put, List.getElem_toArray, List.getElem_cons_zero, List.getElem_cons_succ, List.setIfInBounds_toArray, List.set_cons_zero, List.set_cons_succ]
            refine wpAnyH_take (i := 3) (v := ?_) rfl (by kernel_rfl) (by kernel_rfl) (by kernel_rfl) (fun _ _ _ h => h) (Or.inl ⟨by rfl, ?_⟩) hHeld ?_
            rotate_left
            focus
              intro w hSw
              clear hSw
              go_simp
              try with_reducible rfl
            try simp only [Act.put, List.getElem_toArray, List.getElem_cons_zero, List.getElem_cons_succ, List.setIfInBounds_toArray, List.set_cons_zero, List.set_cons_succ]
            refine wpAnyH_take (i := 4) (v := ?_) rfl (by kernel_rfl) (by kernel_rfl) (by kernel_rfl) (fun _ _ _ h => h) (Or.inl ⟨by rfl, ?_⟩) hHeld ?_
            rotate_left
            focus
              intro w hSw
              clear hSw
              go_simp
              try with_reducible rfl
            try simp only [Act.put, List.getElem_toArray, List.getElem_cons_zero, List.getElem_cons_succ, List.setIfInBounds_toArray, List.set_cons_zero, List.set_cons_succ]
            refine wpAnyH_take (i := 5) (v := undef) rfl (by kernel_rfl) (by kernel_rfl) (by kernel_rfl) (fun _ _ _ h => h) (Or.inr ⟨by rfl, rfl⟩) hHeld ?_
            try simp only [Act.put, List.getElem_toArray, List.getElem_cons_zero, List.getElem_cons_succ, List.setIfInBounds_toArray, List.set_cons_zero, List.set_cons_succ]
            refine wpAnyH_take (i := 6) (v := undef) rfl (by kernel_rfl) (by kernel_rfl) (by kernel_rfl) (fun _ _ _ h => h) (Or.inr ⟨by rfl, rfl⟩) hHeld ?_
            try simp only [Act.put, List.getElem_toArray, List.getElem_cons_zero, List.getElem_cons_succ, List.setIfInBounds_toArray, List.set_cons_zero, List.set_cons_succ]
            refine wpAnyH_take (i := 7) (v := undef) rfl (by kernel_rfl) (by kernel_rfl) (by kernel_rfl) (fun _ _ _ h => h) (Or.inr ⟨by rfl, rfl⟩) hHeld ?_
            try simp only [Act.put, List.getElem_toArray, List.getElem_cons_zero, List.getElem_cons_succ, List.setIfInBounds_toArray, List.set_cons_zero, List.set_cons_succ]
            refine wpAnyH_take (i := 8) (v := undef) rfl (by kernel_rfl) (by kernel_rfl) (by kernel_rfl) (fun _ _ _ h => h) (Or.inr ⟨by rfl, rfl⟩) hHeld ?_
            try simp only [Act.put, List.getElem_toArray, List.getElem_cons_zero, List.getElem_cons_succ, List.setIfInBounds_toArray, List.set_cons_zero, List.set_cons_succ]
            refine wpAnyH_take (i := 9) (v := undef) rfl (by kernel_rfl) (by kernel_rfl) (by kernel_rfl) (fun _ _ _ h => h) (Or.inr ⟨by rfl, rfl⟩) hHeld ?_
            try simp only [Act.put, List.getElem_toArray, List.getElem_cons_zero, List.getElem_cons_succ, List.setIfInBounds_toArray, List.set_cons_zero, List.set_cons_succ]
            refine wpAnyH_take (i := 10) (v := undef) rfl (by kernel_rfl) (by kernel_rfl) (by kernel_rfl) (fun _ _ _ h => h) (Or.inr ⟨by rfl, rfl⟩) hHeld ?_
            try simp only [Act.put, List.getElem_toArray, List.getElem_cons_zero, List.getElem_cons_succ, List.setIfInBounds_toArray, List.set_cons_zero, List.set_cons_succ]
            refine wpAnyH_take (i := 11) (v := undef) rfl (by kernel_rfl) (by kernel_rfl) (by kernel_rfl) (fun _ _ _ h => h) (Or.inr ⟨by rfl, rfl⟩) hHeld ?_
            try simp only [Act.put, List.getElem_toArray, List.getElem_cons_zero, List.getElem_cons_succ, List.setIfInBounds_toArray, List.set_cons_zero, List.set_cons_succ]
            refine wpAnyH_take (i := 12) (v := undef) rfl (by kernel_rfl) (by kernel_rfl) (by kernel_rfl) (fun _ _ _ h => h) (Or.inr ⟨by rfl, rfl⟩) hHeld ?_
            try simp only [Act.put, List.getElem_toArray, List.getElem_cons_zero, List.getElem_cons_succ, List.setIfInBounds_toArray, List.set_cons_zero, List.set_cons_succ]
            refine wpAnyH_take (i := 13) (v := undef) rfl (by kernel_rfl) (by kernel_rfl) (by kernel_rfl) (fun _ _ _ h => h) (Or.inr ⟨by rfl, rfl⟩) hHeld ?_
            try simp only [Act.put, List.getElem_toArray, List.getElem_cons_zero, List.getElem_cons_succ, List.setIfInBounds_toArray, List.set_cons_zero, List.set_cons_succ]
            refine wpAnyH_take (i := 14) (v := undef) rfl (by kernel_rfl) (by kernel_rfl) (by kernel_rfl) (fun _ _ _ h => h) (Or.inr ⟨by rfl, rfl⟩) hHeld ?_
            try simp only [Act.put, List.getElem_toArray, List.getElem_cons_zero, List.getElem_cons_succ, List.setIfInBounds_toArray, List.set_cons_zero, List.set_cons_succ]
            refine wpAnyH_take (i := 15) (v := undef) rfl (by kernel_rfl) (by kernel_rfl) (by kernel_rfl) (fun _ _ _ h => h) (Or.inr ⟨by rfl, rfl⟩) hHeld ?_
            try simp only [Act.put, List.getElem_toArray, List.getElem_cons_zero, List.getElem_cons_succ, List.setIfInBounds_toArray, List.set_cons_zero, List.set_cons_succ]
            refine wpAnyH_take (i := 16) (v := undef) rfl (by kernel_rfl) (by kernel_rfl) (by kernel_rfl) (fun _ _ _ h => h) (Or.inr ⟨by rfl, rfl⟩) hHeld ?_
            try simp only [Act.put, List.getElem_toArray, List.getElem_cons_zero, List.getElem_cons_succ, List.setIfInBounds_toArray, List.set_cons_zero, List.set_cons_succ]
            refine wpAnyH_take (i := 17) (v := ?_) rfl (by kernel_rfl) (by kernel_rfl) (by kernel_rfl) (fun _ _ _ h => h) (Or.inl ⟨by rfl, ?_⟩) hHeld ?_
            rotate_left
            focus
              intro w hSw
              clear hSw
              go_simp
              try with_reducible rfl
            try simp only [Act.put, List.getElem_toArray, List.getElem_cons_zero, List.getElem_cons_succ, List.setIfInBounds_toArray, List.set_cons_zero, List.set_cons_succ]
            refine wpAnyH_done (by kernel_rfl) ?_ _
            refine NoPanic.normal ?_
            obtain ⟨wk, hwk⟩ : ∃ wk, wk = wi.drew := ⟨_, rfl⟩
            rw [← hwk] at HBK
            rw [← hwk]
            clear hwk
            obtain ⟨xi, xt, xs, xp, xl, xq⟩ := x
            have HRX : Hid (wr.rangeAt bL (off + kk * 6) [.int .i64 xi, .int .i64 xt, .bool xs, .int .i64 xp, .int .i64 xl, .int .i64 xq]) := HRX
            have hbk : Below wr.heap.size wr wk := HBK.out
            have hszk : wr.heap.size ≤ wk.heap.size := hbk.size
            have RO1 := Lib.hid (HRO.out.below hbk (Nat.le_refl _))
            have HEMP : Hid ((wk.alloc (.cells #[] 97)).ownsRow wk.heap.size 97 6 (.slice (some ⟨wk.heap.size, 0, none⟩) 0 0) ([] : List Ord).length (flatOf Ord.cells ([] : List Ord))) := own_empty (w := wk) (e := 97) (size := 6) (Nat.le_refl _)
            obtain ⟨oA, hoA⟩ : ∃ z, z = out.take at_ := ⟨_, rfl⟩
            obtain ⟨oB, hoB⟩ : ∃ z, z = out.drop at_ := ⟨_, rfl⟩
            have HOA := Lib.hid hoA
            have HOB := Lib.hid hoB
            have HLA : Hid (oA.length = at_) := by show _ = _; rw [hoA, List.length_take]; omega
            have HLB : Hid (oB.length = out.length - at_) := by show _ = _; rw [hoB, List.length_drop]
            clear hoA hoB
            go_wp2_with (first
              | (refine wpList_cutV_h (enc := Ord.cells) rfl 92 _ _ rfl 97 i0 Tryd.underlying92 hi 6 hz1 _ out.length co rfl at_ .i64 rfl hat hco hAo wr.heap.size out (RO1.out.below ((Below.refl _ _).alloc hszk _) (Nat.le_refl _)) ?_; intro v2 hsrc2; rw [← HOA.out] at hsrc2)
              | (at_builtin; refine wpList_append_src (enc := Ord.cells) rfl _ _ 92 rfl wk.heap.size 97 i0 (.agg #[.int .i64 0, .int .i64 0, .bool false, .int .i64 0, .int .i64 0, .int .i64 0]) 6 48 Tryd.underlying92 hi hz0 hz1 hz2 rfl (by decide) Ord.k6 Ord.one _ ([] : List Ord) rfl HEMP.out v2 at_ oA rfl hsrc2 ?ca0 ?ca1 (by simp) ?_))
            case ca0 => have := HNO.out; unfold maxLen; omega
            case ca1 => have := HNO.out; omega
            intro v3 w3 hown3 hg3
            have hown3 : w3.ownsRow wk.heap.size 97 6 v3 oA.length (flatOf Ord.cells oA) := hown3
            have hb3 := below_app (B := wk.heap.size) ((Below.refl wk.heap.size wk).alloc (Nat.le_refl _) _) (by simp) (Nat.le_refl _) (own_empty (w := wk) (e := 97) (size := 6) (Nat.le_refl _)) hg3
            obtain ⟨a3, c3, rfl⟩ := own_len hown3
            have HO3 := Lib.hid hown3
            have HB3 := Lib.hid hb3
            have cq3 := (hb3.cell (p := ⟨u, 0, none⟩) (Nat.lt_of_lt_of_le HUR.out hszk)).trans ((hbk.cell (p := ⟨u, 0, none⟩) HUR.out).trans HCQ.out)
            have r3 := rangeAt_below (rangeAt_below HRX.out hbk HLT.out) hb3 (Nat.lt_of_lt_of_le HLT.out hszk)
            have hsz3 : wk.heap.size ≤ w3.heap.size := hb3.size
            clear hown3 hg3 hsrc2 hb3 hbk RO1
            go_wp2_with (first
              | (refine wpList_load_mid rfl 97 _ rfl bL (off + kk * 6) rfl [.int .i64 xi, .int .i64 xt, .bool xs, .int .i64 xp, .int .i64 xl, .int .i64 xq] _ r3 Tryd.underlying97 rfl size_ror ?_)
              | (at_builtin; refine wpList_app1 rfl _ _ 92 rfl wk.heap.size 97 i0 (.agg #[.int .i64 0, .int .i64 0, .bool false, .int .i64 0, .int .i64 0, .int .i64 0]) 6 48 Tryd.underlying92 hi hz0 hz1 hz2 rfl (by decide) _ _ _ rfl HO3.out [.int .i64 xi, .int .i64 xt, .bool xs, .int .i64 xp, .int .i64 xl, .int .i64 xq] _ rfl ?cb0 ?cb1 ?cb2 ?cb3 ?cb4 hsz3 ?_))
            case cb0 => rfl
            case cb1 => rfl
            case cb2 => exact Ord.one ⟨xi, xt, xs, xp, xl, xq⟩
            case cb3 => have := HNO.out; have := HLA.out; unfold maxLen; omega
            case cb4 => have := HNO.out; have := HLA.out; omega
            intro v4 w4 hown4 hg4 _
            have hown4 : w4.ownsRow wk.heap.size 97 6 v4 (oA ++ [(⟨xi, xt, xs, xp, xl, xq⟩ : Ord)]).length (flatOf Ord.cells (oA ++ [(⟨xi, xt, xs, xp, xl, xq⟩ : Ord)])) := by
              rw [List.length_append, flatOf_append, flatOf_one]
              exact hown4
            have hb4 := below_app (B := wk.heap.size) HB3.out hsz3 (Nat.le_refl _) HO3.out hg4
            obtain ⟨a4, c4, rfl⟩ := own_len hown4
            have HO4 := Lib.hid hown4
            have HB4 := Lib.hid hb4
            have RO4 := Lib.hid (HRO.out.below (HBK.out.trans (hb4.mono HBK.out.size)) (Nat.le_refl _))
            have hsz4 : wk.heap.size ≤ w4.heap.size := hb4.size
            clear hown4 hg4 r3 cq3 hb4
            go_wp2_with (first
              | (refine wpList_cutV (enc := Ord.cells) rfl 92 _ _ rfl 97 i0 Tryd.underlying92 hi 6 hz1 _ out.length co rfl at_ .i64 rfl hat hco hAo wr.heap.size out RO4.out ?_; intro v5 hsrc5; rw [← HOB.out] at hsrc5)
              | (at_builtin; refine wpList_append_src (enc := Ord.cells) rfl _ _ 92 rfl wk.heap.size 97 i0 (.agg #[.int .i64 0, .int .i64 0, .bool false, .int .i64 0, .int .i64 0, .int .i64 0]) 6 48 Tryd.underlying92 hi hz0 hz1 hz2 rfl (by decide) Ord.k6 Ord.one _ (oA ++ [(⟨xi, xt, xs, xp, xl, xq⟩ : Ord)]) rfl HO4.out v5 (out.length - at_) oB rfl hsrc5 ?cc0 ?cc1 hsz4 ?_))
            case cc0 => have := HNO.out; have := HLA.out; rw [List.length_append]; unfold maxLen; simp; omega
            case cc1 => have := HNO.out; have := HLA.out; rw [List.length_append]; simp; omega
            intro v6 w6 hown6 hg6
            have hg6 : w4.grownBy w6 (Value.slice a4 (oA ++ [(⟨xi, xt, xs, xp, xl, xq⟩ : Ord)]).length c4).ownBlock := by rw [List.length_append]; exact hg6
            have hb6 := below_app (B := wk.heap.size) HB4.out hsz4 (Nat.le_refl _) HO4.out hg6
            have hins : Hid (oA ++ (⟨xi, xt, xs, xp, xl, xq⟩ : Ord) :: oB = listR (L.take (kk + 1)) sell) := by
              show _ = _
              rw [HSN.out, if_pos HSL.out, ← HOUT.out]
              unfold insR insAt
              rw [HTW.out, HOA.out, HOB.out]
            have hlen6 : oA.length + (oB.length + 1) = (listR (L.take (kk + 1)) sell).length := by rw [← hins.out]; simp
            rw [hins.out, hlen6] at hown6
            have HO6 := Lib.hid (hown6.mono (Nat.le_trans HBR.out.size HBK.out.size))
            have HB6 := Lib.hid (HBR.out.trans ((HBK.out.mono HBR.out.size).trans (hb6.mono (Nat.le_trans HBR.out.size HBK.out.size))))
            clear hown6 hg6 hsrc5 hb6 RO4
            go_wp2_with fail
            go_roundw
            case rel => exact ⟨kk + 1, by omega, by go_num, HO6.out, HB6.out⟩
            case measure => simp [intOf]; omega
      · have hse : (!(x.sell == sell)) = true := by simp [hs]
        have HO2 : Hid (wr.ownsRow w.heap.size 97 6 (.slice Ao out.length co) (listR (L.take (kk + 1)) sell).length (flatOf Ord.cells (listR (L.take (kk + 1)) sell))) := by
          rw [HSN.out, if_neg hs, ← HOUT.out]
          exact HO.out
        clear hown r2 hx hrows hs
        go_wp2_with fail
        go_roundw
        case rel => exact ⟨kk + 1, by omega, by go_num, HO2.out, HBR.out⟩
        case measure => simp [intOf]; omega
    · have hk : kk = L.length := by omega
      subst hk
      rw [List.take_of_length_le (Nat.le_refl _)] at HO
      clear hown hbl
      go_wp2_with fail
      go_ret
      exact ⟨_, rfl, HO.out, HBR.out⟩
end Go.Proofs.YtdebldpmloignaaDoor
