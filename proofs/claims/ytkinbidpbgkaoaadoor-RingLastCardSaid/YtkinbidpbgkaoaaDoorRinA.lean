/-
  ring: the state; New, Lines, First, Count, Size, Since; the law's comparison of rows of strings.
-/
import Derived.Test.YtkinbidpbgkaoaaDoorMem
import Derived.Test.YtkinbidpbgkaoaaDoorRinP
import Derived.Test.YtkinbidpbgkaoaaDoorShelfmaD
namespace Go.Proofs.YtkinbidpbgkaoaaDoor
open Go.RowKit
set_option linter.unusedVariables false

set_option maxRecDepth 100000 in
set_option maxHeartbeats 1000000 in
theorem same38_c (A C : Option Addr) (n m ca cb : Nat) (la lb : List ByteArray) (w : World) (ha : Hid (RdRows w w.heap.size strC 1 A n la)) (hb : Hid (RdRows w w.heap.size strC 1 C m lb)) (hn : n ≤ 1000000) (hm : m ≤ 1000000) :
    Calls Tryd.prog 36 #[.slice A n ca, .slice C m cb] w fun e w' => e = .returned (.bool (decide (la = lb))) ∧ Below w.heap.size w w' := by
  obtain ⟨r, hr⟩ : ∃ r, r = decide (la = lb) := ⟨_, rfl⟩
  rw [← hr]
  have HR := Lib.hid hr
  clear hr
  by_cases hnm : n = m
  · subst hnm
    have hd : ((n : Int) != (n : Int)) = false := by simp
    go_enter Tryd.func36, Tryd.ntmps36
    go_wp2_with fail
    clear hd
    go_loopw [5] (fun s5 wx => ∃ (k : Nat) (wr : World), wr = wx ∧ k ≤ n ∧ s5 = .int .i64 k ∧ Hid (la.take k = lb.take k) ∧ Below w.heap.size w wr) (fun s5 _ => n - (intOf s5).toNat)
    case atStart => exact ⟨0, _, rfl, by omega, rfl, (by rw [List.take_zero, List.take_zero] : la.take 0 = lb.take 0), Below.refl _ _⟩
    case round =>
      obtain ⟨k, wr, rfl, hk, rfl, htk, hbl⟩ := hrel
      by_cases hlt : k < n
      · obtain ⟨b1, o1, rfl, hb1, hr1⟩ := ha.out.2 (by omega)
        obtain ⟨b2, o2, rfl, hb2, hr2⟩ := hb.out.2 (by omega)
        obtain ⟨x, hx⟩ : ∃ x, la[k]? = some x := ⟨_, List.getElem?_eq_getElem (by have := ha.out.1; omega)⟩
        obtain ⟨y, hy⟩ : ∃ y, lb[k]? = some y := ⟨_, List.getElem?_eq_getElem (by have := hb.out.1; omega)⟩
        have c1 := strC_at (hr1.below hbl hb1) k x hx
        have c2 := strC_at (hr2.below hbl hb2) k y hy
        have HX := Lib.hid hx
        have HY := Lib.hid hy
        clear hr1 hr2 hx hy
        have hkn : (k : Int) < (n : Int) := by omega
        cases hxy : (x.toList == y.toList) with
        | true =>
          have hs : Hid (la.take (k + 1) = lb.take (k + 1)) := by
            show _ = _
            have e : x = y := by rw [str_beq] at hxy; exact of_decide_eq_true hxy
            rw [List.take_add_one, List.take_add_one, HX.out, HY.out, htk.out, e]
          clear htk
          go_wp2_with fail
          go_quiet (fail)
          go_wp2_with fail
          go_roundw
          case rel => exact ⟨k + 1, _, rfl, by omega, by go_num, hs, below_dN hbl⟩
          case measure => simp [intOf]; omega
        | false =>
          have hf : Hid (r = false) := by
            show _ = _
            rw [HR.out]
            refine decide_eq_false fun e => ?_
            have h1 := HX.out
            rw [e] at h1
            have h2 : x = y := Option.some.inj (h1.symm.trans HY.out)
            subst h2
            rw [str_beq] at hxy
            simp at hxy
          clear htk
          go_wp2_with fail
          go_quiet (fail)
          go_wp2_with fail
          go_ret
          exact ⟨ret_bool hf.out.symm, below_dN hbl⟩
      · obtain rfl : k = n := by omega
        have hf : Hid (r = true) := by
          show _ = _
          rw [HR.out]
          refine decide_eq_true ?_
          have := htk.out
          rwa [List.take_of_length_le (by rw [ha.out.1]; omega), List.take_of_length_le (by rw [hb.out.1]; omega)] at this
        clear htk
        go_wp2_with fail
        go_ret
        exact ⟨ret_bool hf.out.symm, hbl⟩
  · have hd : ((n : Int) != (m : Int)) = true := by simp; omega
    have hf : Hid (r = false) := by
      show _ = _
      rw [HR.out]
      refine decide_eq_false fun e => hnm ?_
      rw [← ha.out.1, ← hb.out.1, e]
    clear hnm
    go_enter Tryd.func36, Tryd.ntmps36
    go_wp2_with fail
    go_ret
    exact ⟨ret_bool hf.out.symm, Below.refl _ _⟩

/-- A ring in block q. -/
structure RngV (w : World) (B q sz : Nat) (l : List ByteArray) (cnt : Nat) (v : Value) : Prop where
  low : B ≤ q
  blk : Blk w q #[.int .i64 sz, v, .int .i64 (sumW l), .int .i64 cnt] 112
  row : OffRow w B 1 v l.length (flatOf strC l)
  notq : v.ownBlock ≠ some q
theorem RngV.below {w w' : World} {B q sz : Nat} {l : List ByteArray} {cnt : Nat} {v : Value} (h : RngV w B q sz l cnt v) (hb : Below w.heap.size w w') : RngV w' B q sz l cnt v :=
  ⟨h.low, h.blk.below hb, h.row.below hb, h.notq⟩
def RngF (q : Nat) (v : Value) (k : Nat) : Prop := k = q ∨ v.ownBlock = some k
theorem RngV.turns {F : Nat → Prop} {w w' : World} {B q sz : Nat} {l : List ByteArray} {cnt : Nat} {v : Value} (h : RngV w B q sz l cnt v) (ht : Turns F w w') (hn : ∀ k, RngF q v k → ¬ F k) : RngV w' B q sz l cnt v :=
  ⟨h.low, ht.blk h.blk (hn q (.inl rfl)), ht.offs h.row (fun g hg => hn g (.inr hg)), h.notq⟩
section
variable {w : World} {B q sz : Nat} {l : List ByteArray} {cnt : Nat} {v : Value}
theorem RngV.c0 (h : RngV w B q sz l cnt v) : w.cell? ⟨q, 0, none⟩ = some (.int .i64 sz) := h.blk.cell 0 _ rfl
theorem RngV.c1 (h : RngV w B q sz l cnt v) : w.cell? ⟨q, 1, none⟩ = some v := h.blk.cell 1 _ rfl
theorem RngV.c2 (h : RngV w B q sz l cnt v) : w.cell? ⟨q, 2, none⟩ = some (.int .i64 (sumW l)) := h.blk.cell 2 _ rfl
theorem RngV.c3 (h : RngV w B q sz l cnt v) : w.cell? ⟨q, 3, none⟩ = some (.int .i64 cnt) := h.blk.cell 3 _ rfl
end
set_option maxRecDepth 100000 in
theorem rnew_c (sz : Nat) (w : World) (h1 : 1 ≤ sz) (h2 : sz ≤ 65536) : Calls Tryd.prog 30 #[.int .i64 sz] w fun e w' => e = .returned (.pointer (some ⟨w.heap.size, 0, none⟩)) ∧ RngV w' w.heap.size w.heap.size sz [] 0 (.slice none 0 0) ∧ Below w.heap.size w w' := by
  have d1 : decide ((sz : Int) < 1) = false := by simp; omega
  have d2 : decide ((65536 : Int) < sz) = false := by simp; omega
  go_enter Tryd.func30, Tryd.ntmps30
  go_wp2_with fail
  go_ret
  exact ⟨rfl, ⟨Nat.le_refl _, Blk.new w _ _, ⟨rfl, .inl ⟨rfl, rfl⟩⟩, by simp [Value.ownBlock]⟩, (Below.refl _ w).alloc (Nat.le_refl _) _⟩
set_option maxRecDepth 100000 in
theorem rnew_none (sz : Int) (w : World) (h : sz < 1 ∨ 65536 < sz) : Calls Tryd.prog 30 #[.int .i64 sz] w fun e w' => e = .returned (.pointer none) ∧ w = w' := by
  by_cases h1 : sz < 1
  · have d1 : decide (sz < 1) = true := by simpa using h1
    clear h h1
    go_enter Tryd.func30, Tryd.ntmps30
    go_wp2_with fail
    go_ret
    exact ⟨rfl, rfl⟩
  · have d1 : decide (sz < 1) = false := by simpa using h1
    have d2 : decide (65536 < sz) = true := by simp; omega
    clear h h1
    go_enter Tryd.func30, Tryd.ntmps30
    go_wp2_with fail
    go_ret
    exact ⟨rfl, rfl⟩
set_option maxRecDepth 100000 in
theorem rfirst_c (B q sz : Nat) (l : List ByteArray) (cnt : Nat) (v : Value) (w : World) (h : Hid (RngV w B q sz l cnt v)) (hl : l.length ≤ 1000000) (hc : cnt ≤ 1000000) :
    Calls Tryd.prog 34 #[.pointer (some ⟨q, 0, none⟩)] w fun e w' => e = .returned (.int .i64 ((cnt : Int) - l.length + 1)) ∧ Below w.heap.size w w' := by
  obtain ⟨a, c, hv, _, _⟩ := h.out.row.len
  have c1 := h.out.c1
  have c3 := h.out.c3
  rw [hv] at c1
  generalize l.length = n at c1 hl
  clear h hv
  go_enter Tryd.func34, Tryd.ntmps34
  go_wp2_with fail
  go_quiet (fail)
  go_wp2_with fail
  go_ret
  exact ⟨rfl, below_dN (Below.refl _ _)⟩
set_option maxRecDepth 100000 in
theorem rcount_c (B q sz : Nat) (l : List ByteArray) (cnt : Nat) (v : Value) (w : World) (h : Hid (RngV w B q sz l cnt v)) :
    Calls Tryd.prog 35 #[.pointer (some ⟨q, 0, none⟩)] w fun e w' => e = .returned (.int .i64 cnt) ∧ w = w' := by
  have c3 := h.out.c3
  go_enter Tryd.func35, Tryd.ntmps35
  go_wp2_with fail
  go_ret
  exact ⟨rfl, rfl⟩
set_option maxRecDepth 100000 in
theorem rsize_c (B q sz : Nat) (l : List ByteArray) (cnt : Nat) (v : Value) (w : World) (h : Hid (RngV w B q sz l cnt v)) :
    Calls Tryd.prog 33 #[.pointer (some ⟨q, 0, none⟩)] w fun e w' => e = .returned (.int .i64 (sumW l)) ∧ w = w' := by
  have c3 := h.out.c2
  go_enter Tryd.func33, Tryd.ntmps33
  go_wp2_with fail
  go_ret
  exact ⟨rfl, rfl⟩
theorem clone_str (w : World) (A : Option Addr) (n c : Nat) (l : List ByteArray) (h : RdRows w w.heap.size strC 1 A n l) (hc : A = none → c = 0) (hn : n ≤ 1000000) :
    Calls Tryd.prog 56 #[.slice A n c] w fun e w' => ∃ v, e = .returned v ∧ w'.ownsRow w.heap.size 9 1 v n (flatOf strC l) ∧ Below w.heap.size w w' := by
  by_cases h0 : 0 < n
  · obtain ⟨b, off, rfl, hb, hr⟩ := h.2 h0
    refine (Tryd.slices_Clone_string b off n c l w (by rw [h.1]; omega) (by omega) (fun j hj => ?_)).mono ?_
    · have := strC_at hr j (l.getD j ByteArray.empty) (by rw [List.getElem?_eq_getElem hj, List.getD_eq_getElem?_getD, List.getElem?_eq_getElem hj]; rfl)
      exact this
    · rintro e w' ⟨v, he, ho, _, hb⟩
      refine ⟨v, he, ?_, hb⟩
      rw [strC_flat]
      rwa [List.take_of_length_le (by rw [h.1]; omega)] at ho
  · obtain rfl : n = 0 := by omega
    have hl : l = [] := List.eq_nil_of_length_eq_zero h.1
    subst hl
    cases A with
    | none =>
      refine (Tryd.slices_Clone_string_nil 0 c w).mono ?_
      rintro e w' ⟨he, rfl⟩
      exact ⟨_, he, World.ownsRow_nil _ _ _ _, Below.refl _ _⟩
    | some a =>
      refine (Tryd.slices_Clone_string_zero a c w).mono ?_
      rintro e w' ⟨v, he, ho, _, hb⟩
      exact ⟨v, he, ho, hb⟩
set_option maxRecDepth 100000 in
theorem rlines_c (B q sz : Nat) (l : List ByteArray) (cnt : Nat) (v : Value) (w : World) (h : Hid (RngV w B q sz l cnt v)) (hl : l.length ≤ 1000000) :
    Calls Tryd.prog 32 #[.pointer (some ⟨q, 0, none⟩)] w fun e w' => ∃ v, e = .returned v ∧ w'.ownsRow w.heap.size 9 1 v l.length (flatOf strC l) ∧ Below w.heap.size w w' := by
  have c1 := h.out.c1
  obtain ⟨A, cap, hv, _, _, hA0, hrd⟩ := h.out.row.rows strC_k rfl
  have HC : Hid (∀ w', Below w.heap.size w w' → Calls Tryd.prog 56 #[v] w' fun e w2 => ∃ v, e = .returned v ∧ w2.ownsRow w'.heap.size 9 1 v l.length (flatOf strC l) ∧ Below w'.heap.size w' w2) := fun w' hb => by
    rw [hv]
    refine clone_str w' A l.length cap l ((hrd.below hb (Nat.le_refl _)).mono hb.size) hA0 hl
  clear hrd hv h hA0
  go_enter Tryd.func32, Tryd.ntmps32
  go_wp2_with fail
  refine (HC.out _ (Below.refl _ _)).mono ?_
  rintro e w1 ⟨v1, rfl, ho, hb⟩
  go_wp2_with fail
  go_ret
  exact ⟨_, rfl, ho, hb⟩
def SinceQ (w : World) (l : List ByteArray) (g : Nat) (e : Ending) (w' : World) : Prop := ∃ A c, e = .returned (.slice A (l.length - g) c) ∧ l.length - g ≤ c ∧ RdRows w' w'.heap.size strC 1 A (l.length - g) (l.drop g) ∧ Below w.heap.size w w'
set_option maxRecDepth 100000 in
set_option maxHeartbeats 1000000 in
/-- Since: the lines from a place on. -/
theorem rsince_c (B q sz : Nat) (l : List ByteArray) (cnt : Nat) (v : Value) (n : Int) (w : World) (h : Hid (RngV w B q sz l cnt v)) (hl : l.length ≤ cnt) (hc : cnt ≤ 1000000) (hn : -9223372036854775808 ≤ n) (hn2 : n ≤ 9223372036854775807) (g : Nat)
    (hg : Hid (g = if n < (cnt : Int) - l.length + 1 then 0 else if n - ((cnt : Int) - l.length + 1) < l.length then (n - ((cnt : Int) - l.length + 1)).toNat else l.length)) :
    Calls Tryd.prog 37 #[.pointer (some ⟨q, 0, none⟩), .int .i64 n] w (SinceQ w l g) := by
  obtain ⟨L, hL⟩ : ∃ L : Nat, L = l.length := ⟨_, rfl⟩
  have HL := Lib.hid hL
  have HLIN := Lib.hid (rlines_c B q sz l cnt v w h (by omega))
  have HFIR : Hid (∀ w', Below w.heap.size w w' → Calls Tryd.prog 34 #[.pointer (some ⟨q, 0, none⟩)] w' fun e w2 => e = .returned (.int .i64 ((cnt : Int) - l.length + 1)) ∧ Below w'.heap.size w' w2) := fun w' hb => rfirst_c B q sz l cnt v w' (show Hid _ from h.out.below hb) (by omega) hc
  rw [← hL] at hg hl HLIN HFIR
  clear hL h
  have hgL : g ≤ L := by
    have := hg.out
    split at this
    · omega
    · split at this <;> omega
  obtain ⟨F, hF⟩ : ∃ F : Int, F = (cnt : Int) - L + 1 := ⟨_, rfl⟩
  have hF1 : 1 ≤ F := by omega
  have hF2 : F ≤ 1000001 := by omega
  rw [← hF] at hg HFIR
  clear hF
  go_enter Tryd.func37, Tryd.ntmps37
  go_wp2_with fail
  refine HLIN.out.mono ?_
  rintro e w1 ⟨v1, rfl, ho1, hb1⟩
  obtain ⟨A1, c1, hv1, hc1, hrd1⟩ := own_rows strC_k ho1 HL.out.symm
  subst hv1
  have HR1 := Lib.hid hrd1
  clear ho1 hrd1
  go_wp2_with fail
  refine (HFIR.out _ hb1).mono ?_
  rintro e w2 ⟨rfl, hb2⟩
  have hbw2 := hb1.trans (hb2.mono hb1.size)
  go_wp2_with fail
  refine (HFIR.out _ hbw2).mono ?_
  rintro e w3 ⟨rfl, hb3⟩
  have hb13 := hb2.trans (hb3.mono hb2.size)
  have hbw3 := hb1.trans (hb13.mono hb1.size)
  have HF := Lib.hid hg.out
  clear hb2 hb3 hbw2
  obtain ⟨M, hM⟩ : ∃ M : Int, M = max n F := ⟨_, rfl⟩
  have HM := Lib.hid hM
  have hM1 : F ≤ M := by omega
  have hM2 : M ≤ 9223372036854775807 := by omega
  have hM3 := hM.symm
  have hx : min (M - F) (L : Int) = (g : Int) := by
    have := HF.out
    by_cases h1 : n < F
    · rw [if_pos h1] at this
      omega
    · rw [if_neg h1] at this
      split at this <;> omega
  have hgc : (g : Int) ≤ (c1 : Int) := by omega
  clear hM
  go_wp2_with fail
  all_goals clear hx hM3
  · have h0 : l.length - g = 0 := by rw [← HL.out]; omega
    go_ret
    exact ⟨A1, 0, by rw [← HL.out]; rfl, by omega, ⟨by rw [List.length_drop], fun h => absurd h (by omega)⟩, hbw3⟩
  · have hd := ((HR1.out.below hb13 (Nat.le_refl _)).mono hb13.size).drop (g := g) (a := g) (by omega)
    have HD := Lib.hid hd
    clear hd
    go_ret
    exact ⟨_, _, by rw [← HL.out]; rfl, by rw [← HL.out]; omega, by have := HD.out; rwa [HL.out] at this, hbw3⟩
end Go.Proofs.YtkinbidpbgkaoaaDoor
