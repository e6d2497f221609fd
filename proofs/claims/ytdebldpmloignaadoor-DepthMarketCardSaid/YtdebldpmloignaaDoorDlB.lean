/-
  deal: check; Match where an order can't come.
-/
import Derived.Test.YtdebldpmloignaaDoorDlA
namespace Go.Proofs.YtdebldpmloignaaDoor
open Go.RowKit
set_option linter.unusedVariables false
set_option linter.unusedSimpArgs false

theorem isSome_eq (l : Bool → List Ord) (id : Int) : (getO l id).isSome = (fnd l id).isSome := by
  unfold getO
  cases hf : fnd l id with
  | none => rfl
  | some p =>
    obtain ⟨s, i⟩ := p
    obtain ⟨x, hx, _⟩ := fnd_some hf
    simp only [hx]
    rfl
set_option maxRecDepth 100000 in
set_option maxHeartbeats 2000000 in
theorem check_err (E : Nat → Addr) (B q : Nat) (l : Bool → List Ord) (v : Bool → Value) (came : Nat) (o : Ord) (w : World) (h : Hid (BV w B q l v came)) (hE : Hid (EnvK w E)) (hN : ∀ s, (l s).length ≤ 1000000) (hk : addK l o ≠ 0) :
    Calls Tryd.prog 88 #[.pointer (some ⟨q, 0, none⟩), .agg o.cells.toArray] w fun e w' => e = .returned (erV E (addK l o)) ∧ Below w.heap.size w w' := by
  have HENV := Lib.hid (fun (w1 : World) (hb : Below w.heap.size w w1) => hE.out.below hb)
  obtain ⟨w2, hw2⟩ : ∃ z, z = w.alloc (.cells o.cells.toArray 67) := ⟨_, rfl⟩
  have hb2 : Below w.heap.size w w2 := by rw [hw2]; exact (Below.refl _ w).alloc (Nat.le_refl _) _
  have h3 : Blk w2 w.heap.size o.cells.toArray 67 := by rw [hw2]; exact Blk.new w _ _
  obtain ⟨y, hy⟩ : ∃ y, y = ordO l o.id := ⟨_, rfl⟩
  obtain ⟨yb, hyb⟩ : ∃ y, y = (getO l o.id).isSome := ⟨_, rfl⟩
  have HOF : Hid (Calls Tryd.prog 45 #[.pointer (some ⟨q, 0, none⟩), .int .i64 o.id] w2 fun e w' => e = .returned (.tuple #[.agg y.cells.toArray, .bool yb]) ∧ Below w2.heap.size w2 w') := by
    refine (of_book B q l v came o.id w2 (Lib.hid (h.out.below hb2)) hN).mono fun e w' hq => ?_
    rw [hy, hyb]
    unfold ordO
    rw [← ordV_of]
    exact hq
  obtain ⟨gb, hgb⟩ : ∃ g, g = Ord.good o := ⟨_, rfl⟩
  have HGOOD : Hid (∀ W, Calls Tryd.prog 53 #[.agg o.cells.toArray] W fun e w' => e = .returned (.bool gb) ∧ Below W.heap.size W w') := fun W => by rw [hgb]; exact good_c o W
  obtain ⟨nn, hnn⟩ : ∃ n, n = (l true).length + (l false).length := ⟨_, rfl⟩
  have HLEN : Hid (∀ W, Below w.heap.size w W → Calls Tryd.prog 46 #[.pointer (some ⟨q, 0, none⟩)] W fun e w' => e = .returned (.int .i64 (nn : Int)) ∧ Below W.heap.size W w') := fun W hb => by rw [hnn]; exact blen_c B q l v came W (Lib.hid (h.out.below hb)) hN
  have hys := isSome_eq l o.id
  rw [← hyb] at hys
  have HW2 := Lib.hid hw2
  have H3 := Lib.hid h3
  have HBW := Lib.hid hb2
  obtain ⟨kk, hkk⟩ : ∃ k, k = addK l o := ⟨_, rfl⟩
  have hcase : (gb = false ∧ kk = 1) ∨ (gb = true ∧ yb = true ∧ kk = 6) ∨ (gb = true ∧ yb = false ∧ 32 ≤ nn ∧ kk = 7) := by
    rw [hkk, hgb, hys, hnn]
    unfold addK at hk ⊢
    cases hg : Ord.good o with
    | false => exact .inl ⟨rfl, by rw [if_pos rfl]⟩
    | true =>
      rw [hg, if_neg (by simp)] at hk
      rw [if_neg (by simp)]
      cases hf : (fnd l o.id).isSome with
      | true => exact .inr (.inl ⟨rfl, rfl, by rw [if_pos rfl]⟩)
      | false =>
        rw [hf, if_neg (by simp)] at hk
        rw [if_neg (by simp)]
        by_cases h32 : 32 ≤ (l true).length + (l false).length
        · exact .inr (.inr ⟨rfl, rfl, h32, by rw [if_pos h32]⟩)
        · rw [if_neg h32] at hk
          exact absurd rfl hk
  rw [← hkk]
  clear hkk hk hE
  clear hw2 h3 hb2 hy hyb hgb hnn hys h hN
  obtain ⟨oi, ot, os, op, ol, oq⟩ := o
  obtain ⟨yi, yt, ys, yp, yl, yq⟩ := y
  simp only [Ord.cells] at *
  have hs0 : w2.cell? ⟨w.heap.size, 0, none⟩ = some (.int .i64 oi) := H3.out.cell 0 _ rfl
  rcases hcase with ⟨rfl, rfl⟩ | ⟨rfl, rfl, rfl⟩ | ⟨rfl, rfl, h32, rfl⟩
  · rw [erV_some E 1 (by decide)]
    go_enter Tryd.func88, Tryd.ntmps88
    rw [HW2.out] at hs0
    go_wp2_with fail
    rw [← HW2.out]
    refine HOF.out.mono ?_
    rintro e w3 ⟨rfl, hb3⟩
    obtain ⟨w4, hw4⟩ : ∃ z, z = w3.alloc (.cells #[.int .i64 yi, .int .i64 yt, .bool ys, .int .i64 yp, .int .i64 yl, .int .i64 yq] 67) := ⟨_, rfl⟩
    have hb4 : Below w3.heap.size w3 w4 := by rw [hw4]; exact (Below.refl _ _).alloc (Nat.le_refl _) _
    have HB4 := Lib.hid (HBW.out.trans ((hb3.trans (hb4.mono hb3.size)).mono HBW.out.size))
    have h3 := (H3.out.below hb3).below hb4
    have r3 : w4.rangeAt w.heap.size 0 [.int .i64 oi, .int .i64 ot, .bool os, .int .i64 op, .int .i64 ol, .int .i64 oq] := rangeAt_blk h3
    have HW4 := Lib.hid hw4
    rw [hw4] at r3
    clear hb3 hb4 hw4 hs0 h3
    go_wp2_with (refine wpList_load_mid rfl 67 _ rfl w.heap.size 0 rfl [.int .i64 oi, .int .i64 ot, .bool os, .int .i64 op, .int .i64 ol, .int .i64 oq] _ r3 Tryd.underlying67 rfl size_ord ?_)
    rw [← HW4.out]
    refine (HGOOD.out w4).mono ?_
    rintro e w5 ⟨rfl, hb5⟩
    have HB5 := Lib.hid (HB4.out.trans (hb5.mono HB4.out.size))
    clear hb5 r3
    have ce : w5.cell? ⟨2, 0, none⟩ = some (.iface 202 (.pointer (some (E 1)))) := by rw [← erV_some E 1 (by decide)]; exact HENV.out w5 HB5.out 1 (by decide) (by decide)
    go_wp2_with fail
    go_ret
    exact ⟨rfl, HB5.out⟩
  · rw [erV_some E 6 (by decide)]
    go_enter Tryd.func88, Tryd.ntmps88
    rw [HW2.out] at hs0
    go_wp2_with fail
    rw [← HW2.out]
    refine HOF.out.mono ?_
    rintro e w3 ⟨rfl, hb3⟩
    obtain ⟨w4, hw4⟩ : ∃ z, z = w3.alloc (.cells #[.int .i64 yi, .int .i64 yt, .bool ys, .int .i64 yp, .int .i64 yl, .int .i64 yq] 67) := ⟨_, rfl⟩
    have hb4 : Below w3.heap.size w3 w4 := by rw [hw4]; exact (Below.refl _ _).alloc (Nat.le_refl _) _
    have HB4 := Lib.hid (HBW.out.trans ((hb3.trans (hb4.mono hb3.size)).mono HBW.out.size))
    have h3 := (H3.out.below hb3).below hb4
    have r3 : w4.rangeAt w.heap.size 0 [.int .i64 oi, .int .i64 ot, .bool os, .int .i64 op, .int .i64 ol, .int .i64 oq] := rangeAt_blk h3
    have HW4 := Lib.hid hw4
    rw [hw4] at r3
    clear hb3 hb4 hw4 hs0 h3
    go_wp2_with (refine wpList_load_mid rfl 67 _ rfl w.heap.size 0 rfl [.int .i64 oi, .int .i64 ot, .bool os, .int .i64 op, .int .i64 ol, .int .i64 oq] _ r3 Tryd.underlying67 rfl size_ord ?_)
    rw [← HW4.out]
    refine (HGOOD.out w4).mono ?_
    rintro e w5 ⟨rfl, hb5⟩
    have HB5 := Lib.hid (HB4.out.trans (hb5.mono HB4.out.size))
    clear hb5 r3
    have ce : w5.cell? ⟨3, 0, none⟩ = some (.iface 202 (.pointer (some (E 6)))) := by rw [← erV_some E 6 (by decide)]; exact HENV.out w5 HB5.out 6 (by decide) (by decide)
    go_wp2_with fail
    go_ret
    exact ⟨rfl, HB5.out⟩
  · rw [erV_some E 7 (by decide)]
    have h32' : (32 : Int) ≤ (nn : Int) := by omega
    go_enter Tryd.func88, Tryd.ntmps88
    rw [HW2.out] at hs0
    go_wp2_with fail
    rw [← HW2.out]
    refine HOF.out.mono ?_
    rintro e w3 ⟨rfl, hb3⟩
    obtain ⟨w4, hw4⟩ : ∃ z, z = w3.alloc (.cells #[.int .i64 yi, .int .i64 yt, .bool ys, .int .i64 yp, .int .i64 yl, .int .i64 yq] 67) := ⟨_, rfl⟩
    have hb4 : Below w3.heap.size w3 w4 := by rw [hw4]; exact (Below.refl _ _).alloc (Nat.le_refl _) _
    have HB4 := Lib.hid (HBW.out.trans ((hb3.trans (hb4.mono hb3.size)).mono HBW.out.size))
    have h3 := (H3.out.below hb3).below hb4
    have r3 : w4.rangeAt w.heap.size 0 [.int .i64 oi, .int .i64 ot, .bool os, .int .i64 op, .int .i64 ol, .int .i64 oq] := rangeAt_blk h3
    have HW4 := Lib.hid hw4
    rw [hw4] at r3
    clear hb3 hb4 hw4 hs0 h3
    go_wp2_with (refine wpList_load_mid rfl 67 _ rfl w.heap.size 0 rfl [.int .i64 oi, .int .i64 ot, .bool os, .int .i64 op, .int .i64 ol, .int .i64 oq] _ r3 Tryd.underlying67 rfl size_ord ?_)
    rw [← HW4.out]
    refine (HGOOD.out w4).mono ?_
    rintro e w5 ⟨rfl, hb5⟩
    have HB5 := Lib.hid (HB4.out.trans (hb5.mono HB4.out.size))
    clear hb5 r3
    go_wp2_with fail
    refine (HLEN.out w5 HB5.out).mono ?_
    rintro e w6 ⟨rfl, hb6⟩
    have HB6 := Lib.hid (HB5.out.trans (hb6.mono HB5.out.size))
    clear hb6
    have ce : w6.cell? ⟨4, 0, none⟩ = some (.iface 202 (.pointer (some (E 7)))) := by rw [← erV_some E 7 (by decide)]; exact HENV.out w6 HB6.out 7 (by decide) (by decide)
    go_wp2_with fail
    go_ret
    exact ⟨rfl, HB6.out⟩
set_option maxRecDepth 100000 in
set_option maxHeartbeats 2000000 in
theorem check_ok (B q : Nat) (l : Bool → List Ord) (v : Bool → Value) (came : Nat) (o : Ord) (w : World) (h : Hid (BV w B q l v came)) (hN : ∀ s, (l s).length ≤ 1000000) (hk : addK l o = 0) :
    Calls Tryd.prog 88 #[.pointer (some ⟨q, 0, none⟩), .agg o.cells.toArray] w fun e w' => e = .returned .nilIface ∧ Below w.heap.size w w' := by
  obtain ⟨w2, hw2⟩ : ∃ z, z = w.alloc (.cells o.cells.toArray 67) := ⟨_, rfl⟩
  have hb2 : Below w.heap.size w w2 := by rw [hw2]; exact (Below.refl _ w).alloc (Nat.le_refl _) _
  have h3 : Blk w2 w.heap.size o.cells.toArray 67 := by rw [hw2]; exact Blk.new w _ _
  obtain ⟨y, hy⟩ : ∃ y, y = ordO l o.id := ⟨_, rfl⟩
  obtain ⟨yb, hyb⟩ : ∃ y, y = (getO l o.id).isSome := ⟨_, rfl⟩
  have HOF : Hid (Calls Tryd.prog 45 #[.pointer (some ⟨q, 0, none⟩), .int .i64 o.id] w2 fun e w' => e = .returned (.tuple #[.agg y.cells.toArray, .bool yb]) ∧ Below w2.heap.size w2 w') := by
    refine (of_book B q l v came o.id w2 (Lib.hid (h.out.below hb2)) hN).mono fun e w' hq => ?_
    rw [hy, hyb]
    unfold ordO
    rw [← ordV_of]
    exact hq
  obtain ⟨gb, hgb⟩ : ∃ g, g = Ord.good o := ⟨_, rfl⟩
  have HGOOD : Hid (∀ W, Calls Tryd.prog 53 #[.agg o.cells.toArray] W fun e w' => e = .returned (.bool gb) ∧ Below W.heap.size W w') := fun W => by rw [hgb]; exact good_c o W
  obtain ⟨nn, hnn⟩ : ∃ n, n = (l true).length + (l false).length := ⟨_, rfl⟩
  have HLEN : Hid (∀ W, Below w.heap.size w W → Calls Tryd.prog 46 #[.pointer (some ⟨q, 0, none⟩)] W fun e w' => e = .returned (.int .i64 (nn : Int)) ∧ Below W.heap.size W w') := fun W hb => by rw [hnn]; exact blen_c B q l v came W (Lib.hid (h.out.below hb)) hN
  have hys := isSome_eq l o.id
  rw [← hyb] at hys
  have HW2 := Lib.hid hw2
  have H3 := Lib.hid h3
  have HBW := Lib.hid hb2
  have hcase : gb = true ∧ yb = false ∧ nn < 32 := by
    rw [hgb, hys, hnn]
    unfold addK at hk
    cases hg : Ord.good o with
    | false => rw [hg] at hk; simp at hk
    | true =>
      rw [hg] at hk
      cases hf : (fnd l o.id).isSome with
      | true => rw [hf] at hk; simp at hk
      | false =>
        rw [hf] at hk
        by_cases h32 : 32 ≤ (l true).length + (l false).length
        · simp [h32] at hk
        · exact ⟨rfl, rfl, by omega⟩
  clear hk
  clear hw2 h3 hb2 hy hyb hgb hnn hys h hN
  obtain ⟨oi, ot, os, op, ol, oq⟩ := o
  obtain ⟨yi, yt, ys, yp, yl, yq⟩ := y
  simp only [Ord.cells] at *
  have hs0 : w2.cell? ⟨w.heap.size, 0, none⟩ = some (.int .i64 oi) := H3.out.cell 0 _ rfl
  obtain ⟨rfl, rfl, h32⟩ := hcase
  have h32' : ¬ (32 : Int) ≤ (nn : Int) := by omega
  go_enter Tryd.func88, Tryd.ntmps88
  rw [HW2.out] at hs0
  go_wp2_with fail
  rw [← HW2.out]
  refine HOF.out.mono ?_
  rintro e w3 ⟨rfl, hb3⟩
  obtain ⟨w4, hw4⟩ : ∃ z, z = w3.alloc (.cells #[.int .i64 yi, .int .i64 yt, .bool ys, .int .i64 yp, .int .i64 yl, .int .i64 yq] 67) := ⟨_, rfl⟩
  have hb4 : Below w3.heap.size w3 w4 := by rw [hw4]; exact (Below.refl _ _).alloc (Nat.le_refl _) _
  have HB4 := Lib.hid (HBW.out.trans ((hb3.trans (hb4.mono hb3.size)).mono HBW.out.size))
  have h3 := (H3.out.below hb3).below hb4
  have r3 : w4.rangeAt w.heap.size 0 [.int .i64 oi, .int .i64 ot, .bool os, .int .i64 op, .int .i64 ol, .int .i64 oq] := rangeAt_blk h3
  have HW4 := Lib.hid hw4
  rw [hw4] at r3
  clear hb3 hb4 hw4 hs0 h3
  go_wp2_with (refine wpList_load_mid rfl 67 _ rfl w.heap.size 0 rfl [.int .i64 oi, .int .i64 ot, .bool os, .int .i64 op, .int .i64 ol, .int .i64 oq] _ r3 Tryd.underlying67 rfl size_ord ?_)
  rw [← HW4.out]
  refine (HGOOD.out w4).mono ?_
  rintro e w5 ⟨rfl, hb5⟩
  have HB5 := Lib.hid (HB4.out.trans (hb5.mono HB4.out.size))
  clear hb5 r3
  go_wp2_with fail
  refine (HLEN.out w5 HB5.out).mono ?_
  rintro e w6 ⟨rfl, hb6⟩
  have HB6 := Lib.hid (HB5.out.trans (hb6.mono HB5.out.size))
  clear hb6
  go_wp2_with fail
  go_ret
  exact ⟨rfl, HB6.out⟩
set_option maxRecDepth 100000 in
set_option maxHeartbeats 1000000 in
theorem match_err (E : Nat → Addr) (B q : Nat) (l : Bool → List Ord) (v : Bool → Value) (came : Nat) (o : Ord) (w : World) (h : Hid (BV w B q l v came)) (hE : Hid (EnvK w E)) (hN : ∀ s, (l s).length ≤ 1000000) (hk : addK l o ≠ 0) :
    Calls Tryd.prog 49 #[.pointer (some ⟨q, 0, none⟩), .agg o.cells.toArray] w fun e w' => e = .returned (.tuple #[.slice none 0 0, .int .i64 0, erV E (addK l o)]) ∧ Below w.heap.size w w' := by
  have hb2 : Below w.heap.size w (w.alloc (.cells o.cells.toArray 67)) := (Below.refl _ w).alloc (Nat.le_refl _) _
  have HC := Lib.hid (check_err E B q l v came o (w.alloc (.cells o.cells.toArray 67)) (Lib.hid (h.out.below hb2)) (Lib.hid (hE.out.below hb2)) hN hk)
  have HB := Lib.hid hb2
  rw [erV_some E _ hk] at HC ⊢
  clear hb2 h hE hN hk
  generalize addK l o = kk at *
  obtain ⟨oi, ot, os, op, ol, oq⟩ := o
  simp only [Ord.cells] at *
  go_enter Tryd.func49, Tryd.ntmps49
  go_wp2_with fail
  refine HC.out.mono ?_
  rintro e w3 ⟨rfl, hb3⟩
  have HB3 := Lib.hid (HB.out.trans (hb3.mono HB.out.size))
  clear hb3
  go_wp2_with fail
  go_ret3
  exact ⟨rfl, HB3.out⟩
set_option maxRecDepth 100000 in
set_option maxHeartbeats 1000000 in
theorem match_nil (E : Nat → Addr) (o : Ord) (w : World) (hE : Hid (EnvK w E)) :
    Calls Tryd.prog 49 #[.pointer none, .agg o.cells.toArray] w fun e w' => e = .returned (.tuple #[.slice none 0 0, .int .i64 0, erV E 2]) ∧ Below w.heap.size w w' := by
  have HC : Hid (∀ W : World, Below w.heap.size w W → Calls Tryd.prog 88 #[.pointer none, .agg o.cells.toArray] W fun e w' => e = .returned (.iface 202 (.pointer (some (E 2)))) ∧ Below W.heap.size W w') := fun W hbW => by
    have HOF := Lib.hid (fun (W' : World) => nil_of o.id W')
    have HENV := Lib.hid (fun (w1 : World) (hb : Below W.heap.size W w1) => (hE.out.below hbW).below hb)
    obtain ⟨oi, ot, os, op, ol, oq⟩ := o
    simp only [Ord.cells] at *
    go_enter Tryd.func88, Tryd.ntmps88
    go_wp2_with fail
    refine (HOF.out _).mono ?_
    rintro e w3 ⟨rfl, hb3⟩
    have HB3 := Lib.hid (((Below.refl _ W).alloc (Nat.le_refl _) _).trans (hb3.mono (by simp)))
    have ce0 : w3.cell? ⟨0, 0, none⟩ = some (.iface 202 (.pointer (some (E 2)))) := by rw [← erV_some E 2 (by decide)]; exact HENV.out w3 HB3.out 2 (by decide) (by decide)
    have ce : (w3.alloc (.cells #[.int .i64 0, .int .i64 0, .bool false, .int .i64 0, .int .i64 0, .int .i64 0] 67)).cell? ⟨0, 0, none⟩ = some (.iface 202 (.pointer (some (E 2)))) := Lib.cell?_alloc_some _ ce0
    clear hb3 ce0
    simp only [ordV, Option.isSome]
    go_wp2_with fail
    go_ret
    exact ⟨rfl, HB3.out.alloc HB3.out.size _⟩
  rw [erV_some E 2 (by decide)]
  have hb2 : Below w.heap.size w (w.alloc (.cells o.cells.toArray 67)) := (Below.refl _ w).alloc (Nat.le_refl _) _
  have HC2 := Lib.hid (HC.out _ hb2)
  have HB := Lib.hid hb2
  clear hb2 hE HC
  obtain ⟨oi, ot, os, op, ol, oq⟩ := o
  simp only [Ord.cells] at *
  go_enter Tryd.func49, Tryd.ntmps49
  go_wp2_with fail
  refine HC2.out.mono ?_
  rintro e w3 ⟨rfl, hb3⟩
  have HB3 := Lib.hid (HB.out.trans (hb3.mono HB.out.size))
  clear hb3
  go_wp2_with fail
  go_ret3
  exact ⟨rfl, HB3.out⟩
end Go.Proofs.YtdebldpmloignaaDoor
