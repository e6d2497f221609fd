/-
  ring: the document's Good and Keep; the nil ring; awake.
-/
import Derived.Test.YtkinbidpbgkaoaaDoorRinB
import Derived.Lib.IndexLaws
namespace Go.Proofs.YtkinbidpbgkaoaaDoor
open Go.RowKit
set_option linter.unusedVariables false

theorem hasNl_iff (s : ByteArray) : hasNl s = true ↔ ∃ j : Nat, s.data.toList[j]? = some (10 : UInt8) := by
  unfold hasNl
  rw [decide_eq_true_iff]
  have hge := Lib.indexByte_ge s.data.toList 10
  constructor
  · intro h
    obtain ⟨o, ho⟩ := Int.eq_ofNat_of_zero_le h
    exact ⟨o, (Lib.indexByte_some ho).1⟩
  · rintro ⟨j, hj⟩
    rcases Int.lt_or_le (Lib.indexByte s.data.toList 10) 0 with h | h
    · exact absurd hj (Lib.indexByte_none (by omega) j)
    · exact h
def goodL (s : ByteArray) (sz : Nat) : Bool := !hasNl s && decide (s.size < sz)
theorem goodL_yes {s : ByteArray} {sz : Nat} (h : goodL s sz = true) : hasNl s = false ∧ wt s ≤ sz := by
  unfold goodL at h
  simp at h
  exact ⟨h.1, by unfold wt; omega⟩
theorem goodL_no {s : ByteArray} {sz : Nat} (h : goodL s sz = false) : hasNl s = true ∨ sz < wt s := by
  unfold goodL at h
  unfold wt
  cases hn : hasNl s with
  | true => exact .inl rfl
  | false => rw [hn] at h; simp at h; exact .inr (by omega)
theorem byte_at (s : ByteArray) (k : Nat) (h : k < s.size) : s.data.toList[k]? = some s[k] := by
  rw [Array.getElem?_toList, Array.getElem?_eq_getElem (show k < s.data.size from h)]
  rfl
set_option maxRecDepth 100000 in
set_option maxHeartbeats 1000000 in
theorem good38_c (s : ByteArray) (sz : Nat) (w : World) (hs : s.size ≤ 1000000) :
    Calls Tryd.prog 46 #[.string s, .int .i64 sz] w fun e w' => e = .returned (.bool (goodL s sz)) ∧ w = w' := by
  obtain ⟨r, hr⟩ : ∃ r, r = goodL s sz := ⟨_, rfl⟩
  rw [← hr]
  have HR := Lib.hid hr
  clear hr
  go_enter Tryd.func46, Tryd.ntmps46
  go_wp2_with fail
  go_loopw [5] (fun s5 wx => ∃ k : Nat, k ≤ s.size ∧ s5 = .int .i64 k ∧ Hid (∀ j, j < k → s.data.toList[j]? ≠ some 10) ∧ w = wx) (fun s5 _ => s.size - (intOf s5).toNat)
  case atStart => exact ⟨0, by omega, rfl, fun j hj => absurd hj (by omega), rfl⟩
  case round =>
    obtain ⟨k, hk, rfl, hno, rfl⟩ := hrel
    by_cases hlt : k < s.size
    · have hb := byte_at s k hlt
      have HB := Lib.hid hb
      clear hb
      cases hd : ((s[k].toNat : Int) == 10) with
      | true =>
        have hf : Hid (r = false) := by
          show _ = _
          rw [HR.out]
          have : hasNl s = true := (hasNl_iff s).2 ⟨k, by rw [HB.out]; congr 1; exact UInt8.toNat_inj.1 (by simp at hd; show s[k].toNat = 10; omega)⟩
          unfold goodL
          rw [this]
          rfl
        clear hno
        go_wp2_with fail
        go_ret
        exact ⟨ret_bool hf.out.symm, rfl⟩
      | false =>
        have hs2 : Hid (∀ j, j < k + 1 → s.data.toList[j]? ≠ some 10) := fun j hj => by
          by_cases e : j = k
          · subst e
            rw [HB.out]
            intro e2
            have e3 : s[j] = 10 := Option.some.inj e2
            rw [e3] at hd
            simp at hd
          · exact hno.out j (by omega)
        clear hno
        go_wp2_with fail
        go_roundw
        case rel => exact ⟨k + 1, by omega, by go_num, hs2, trivial⟩
        case measure => simp [intOf]; omega
    · obtain rfl : k = s.size := by omega
      have hf : Hid (r = decide ((s.size : Int) < (sz : Int))) := by
        show _ = _
        rw [HR.out]
        have : hasNl s = false := by
          rw [← Bool.not_eq_true, hasNl_iff]
          rintro ⟨j, hj⟩
          have hl := (List.getElem?_eq_some_iff.1 hj).1
          exact hno.out j (by simpa using hl) hj
        unfold goodL
        rw [this]
        simp
      clear hno
      go_wp2_with fail
      go_ret
      exact ⟨by rw [hf.out]; first | rfl | (apply ret_bool; simp), rfl⟩
set_option maxRecDepth 100000 in
set_option maxHeartbeats 1000000 in
theorem keep_c (A : Option Addr) (n c sz : Nat) (l : List ByteArray) (w : World) (h : Hid (RdRows w w.heap.size strC 1 A n l)) (hn : n ≤ 1000000) (hl : sumW l ≤ 1000000) (hsz : sz ≤ 65536) :
    Calls Tryd.prog 47 #[.slice A n c, .int .i64 sz] w fun e w' => e = .returned (.int .i64 ((trim sz l).length : Nat)) ∧ w = w' := by
  obtain ⟨r, hr⟩ : ∃ r, r = (trim sz l).length := ⟨_, rfl⟩
  rw [← hr]
  have HR := Lib.hid hr
  have hln := h.out.1
  clear hr
  go_enter Tryd.func47, Tryd.ntmps47
  go_wp2_with fail
  go_loopw [5, 6, 7] (fun s5 s6 s7 wx => ∃ m : Nat, m ≤ n ∧ s5 = .int .i64 ((n - m : Nat) : Int) ∧ s6 = .int .i64 ((sumW (l.drop m) : Nat) : Int) ∧ s7 = .int .i64 ((m : Int) - 1) ∧ Hid (sumW (l.drop m) ≤ sz) ∧ w = wx) (fun _ _ s7 _ => (intOf s7 + 1).toNat)
  case atStart => exact ⟨n, by omega, by rw [Nat.sub_self]; rfl, by rw [List.drop_of_length_le (by omega)]; rfl, rfl, (by rw [List.drop_of_length_le (by omega)]; exact Nat.zero_le _ : sumW (l.drop n) ≤ sz), rfl⟩
  case round =>
    obtain ⟨m, hm, rfl, rfl, rfl, hfit, rfl⟩ := hrel
    cases m with
    | zero =>
      have hf : Hid (r = n - 0) := by
        show _ = _
        have := hfit.out
        rw [List.drop_zero] at this
        rw [HR.out, trim_fits this, hln]
        rfl
      clear hfit
      go_wp2_with fail
      go_ret
      exact ⟨by rw [hf.out]; rfl, rfl⟩
    | succ j =>
      obtain ⟨b, off, rfl, hb, hrow⟩ := h.out.2 (by omega)
      obtain ⟨x, hx⟩ : ∃ x, l[j]? = some x := ⟨_, List.getElem?_eq_getElem (by omega)⟩
      have cx := strC_at hrow j x hx
      have hd := drop_cons hx
      have hsum : sumW (l.drop j) = x.size + 1 + sumW (l.drop (j + 1)) := by rw [hd]; rfl
      have hle := sumW_drop_le l j
      have e : (((j + 1 : Nat) : Int) - 1) = (j : Int) := by omega
      have HS := Lib.hid hsum
      have hjn : (j : Int) < (n : Int) := by omega
      rw [e]
      clear hrow hx hd e
      generalize hU : sumW (l.drop (j + 1)) = U at HS hfit hsum
      have hxs : x.size ≤ 1000000 := by omega
      have hus : U ≤ 1000000 := by omega
      have HU := Lib.hid hU
      clear hU hsum
      by_cases hgt : sz < x.size + 1 + U
      · have hgt' : (sz : Int) < (U : Int) + (x.size : Int) + 1 := by omega
        have hf : Hid (r = n - (j + 1)) := by
          show _ = _
          have := keep_drop sz l (n - (j + 1)) (by omega) (by rw [show l.length - (n - (j + 1)) = j + 1 by omega, HU.out]; exact hfit.out) (.inr (by rw [show l.length - (n - (j + 1)) - 1 = j by omega, HS.out]; exact hgt))
          rw [HR.out, this, List.length_drop]
          omega
        clear hfit hgt
        go_wp2_with fail
        go_ret
        exact ⟨by rw [hf.out]; rfl, rfl⟩
      · have hgt' : ¬ (sz : Int) < (U : Int) + (x.size : Int) + 1 := by omega
        have hf2 : Hid (sumW (l.drop j) ≤ sz) := by show _ ≤ _; rw [HS.out]; omega
        clear hfit hgt
        go_wp2_with fail
        go_roundw
        case rel => exact ⟨j, by omega, by congr 1; omega, by rw [HS.out]; congr 1; push_cast; omega, rfl, hf2, trivial⟩
        case measure => simp [intOf]
set_option maxRecDepth 100000 in
theorem rlines_nil (w : World) : Calls Tryd.prog 32 #[.pointer none] w fun e w' => e = .returned (.slice none 0 0) ∧ w = w' := by
  go_enter Tryd.func32, Tryd.ntmps32
  go_wp2_with fail
  go_ret
  exact ⟨rfl, rfl⟩
set_option maxRecDepth 100000 in
theorem rfirst_nil (w : World) : Calls Tryd.prog 34 #[.pointer none] w fun e w' => e = .returned (.int .i64 0) ∧ w = w' := by
  go_enter Tryd.func34, Tryd.ntmps34
  go_wp2_with fail
  go_ret
  exact ⟨rfl, rfl⟩
set_option maxRecDepth 100000 in
theorem rcount_nil (w : World) : Calls Tryd.prog 35 #[.pointer none] w fun e w' => e = .returned (.int .i64 0) ∧ w = w' := by
  go_enter Tryd.func35, Tryd.ntmps35
  go_wp2_with fail
  go_ret
  exact ⟨rfl, rfl⟩
set_option maxRecDepth 100000 in
theorem rsize_nil (w : World) : Calls Tryd.prog 33 #[.pointer none] w fun e w' => e = .returned (.int .i64 0) ∧ w = w' := by
  go_enter Tryd.func33, Tryd.ntmps33
  go_wp2_with fail
  go_ret
  exact ⟨rfl, rfl⟩
set_option maxRecDepth 100000 in
theorem rsince_nil (w : World) : Calls Tryd.prog 37 #[.pointer none, .int .i64 0] w fun e w' => e = .returned (.slice none 0 0) ∧ w = w' := by
  go_enter Tryd.func37, Tryd.ntmps37
  go_wp2_with fail
  refine (rlines_nil w).mono ?_
  rintro e w1 ⟨rfl, rfl⟩
  go_wp2_with fail
  refine (rfirst_nil w).mono ?_
  rintro e w1 ⟨rfl, rfl⟩
  go_wp2_with fail
  refine (rfirst_nil w).mono ?_
  rintro e w1 ⟨rfl, rfl⟩
  go_wp2_with fail
  go_ret
  exact ⟨rfl, rfl⟩
/-- A short row of strings laid by the call itself. -/
theorem rows_lit {w w' : World} {cs : List ByteArray} (h : Blk w w'.heap.size (cs.map Value.string).toArray 9) : RdRows w w.heap.size strC 1 (some ⟨w'.heap.size, 0, none⟩) cs.length cs :=
  ⟨rfl, fun _ => ⟨_, 0, rfl, h.lt, fun i x hi j u hu => by
    cases j with
    | zero =>
      simp [strC] at hu
      subst hu
      refine h.cell _ _ ?_
      rw [List.getElem?_toArray, Nat.mul_one, Nat.zero_add, Nat.add_zero, List.getElem?_map, hi]
      rfl
    | succ j => simp [strC] at hu⟩⟩
theorem same38_eq (A C : Option Addr) (n ca cb : Nat) (l : List ByteArray) (w : World) (ha : Hid (RdRows w w.heap.size strC 1 A n l)) (hb : Hid (RdRows w w.heap.size strC 1 C n l)) (hn : n ≤ 1000000) :
    Calls Tryd.prog 36 #[.slice A n ca, .slice C n cb] w fun e w' => e = .returned (.bool true) ∧ Below w.heap.size w w' :=
  (same38_c A C n n ca cb l l w ha hb hn hn).mono fun e w' ⟨he, hw⟩ => ⟨he.trans (ret_bool (decide_eq_true rfl)), hw⟩
theorem below_grw (w : World) (o : Obj) : Below w.heap.size w (w.alloc o) := (Below.refl _ w).alloc (Nat.le_refl _) o
def AB : ByteArray := ⟨#[97, 98]⟩
def CD : ByteArray := ⟨#[99, 100]⟩
def EX : ByteArray := ⟨#[101]⟩
set_option maxRecDepth 100000 in
set_option maxHeartbeats 2000000 in
theorem awake38_c (w : World) :
    Calls Tryd.prog 29 #[] w fun e w' => e = .returned (.bool true) ∧ Below w.heap.size w w' := by
  have kAB : trim 6 ([] ++ [AB]) = [AB] := by decide
  have kCD : trim 6 ([AB] ++ [CD]) = [AB, CD] := by decide
  have kEX : trim 6 ([AB, CD] ++ [EX]) = [CD, EX] := by decide
  have KAB := Lib.hid kAB
  have KCD := Lib.hid kCD
  have KEX := Lib.hid kEX
  clear kAB kCD kEX
  go_enter Tryd.func29, Tryd.ntmps29
  go_wp2_with fail
  refine (rnew_c 6 w (by omega) (by omega)).mono ?_
  rintro e w1 ⟨rfl, hr1, hb1⟩
  have HR1 := Lib.hid hr1
  have hs1 := hb1.size
  clear hr1
  go_wp2_with fail
  refine (rnew_none 0 w1 (by omega)).mono ?_
  rintro e w' ⟨rfl, rfl⟩
  go_wp2_with fail
  refine (radd_ok w.heap.size w.heap.size 6 [] 0 _ AB w1 hs1 HR1 (by decide) (by decide) (by omega) (by decide) (by omega)).mono ?_
  rintro e w2 ⟨rfl, v2, hr2, ht2, _⟩
  have hb2 := hb1.trans (ht2.below (B := w.heap.size) hs1 (fun k hk => by rcases hk with hk | hk; exact Nat.le_of_eq hk.symm; exact (HR1.out.row.lt k hk).1))
  rw [KAB.out] at hr2
  have HR2 := Lib.hid hr2
  clear hr2 ht2 HR1 hs1 hb1
  go_wp2_with fail
  refine (radd_ok w.heap.size w.heap.size 6 [AB] 1 v2 CD w2 hb2.size HR2 (by decide) (by decide) (by omega) (by decide) (by omega)).mono ?_
  rintro e w3 ⟨rfl, v3, hr3, ht3, _⟩
  have hb3 := hb2.trans (ht3.below (B := w.heap.size) hb2.size (fun k hk => by rcases hk with hk | hk; exact Nat.le_of_eq hk.symm; exact (HR2.out.row.lt k hk).1))
  rw [KCD.out] at hr3
  have HR3 := Lib.hid hr3
  clear hr3 ht3 HR2 hb2
  go_wp2_with fail
  refine (rlines_c w.heap.size w.heap.size 6 [AB, CD] 2 v3 w3 HR3 (by decide)).mono ?_
  rintro e w4 ⟨v4, rfl, ho4, hb4⟩
  obtain ⟨A4, c4, hv4, _, hrd4⟩ := own_rows (l := [AB, CD]) strC_k ho4 rfl
  subst hv4
  have HR4 := Lib.hid (HR3.out.below hb4)
  have HRD4 := Lib.hid hrd4
  have hb4' := hb3.trans (hb4.mono hb3.size)
  clear ho4 hrd4 hb4 HR3 hb3
  go_wp2_with fail
  refine (same38_eq A4 (some ⟨w4.heap.size, 0, none⟩) 2 c4 2 [AB, CD] (w4.alloc (.cells #[.string AB, .string CD] 9)) (show Hid _ from (HRD4.out.below (below_grw w4 _) (Nat.le_refl _)).mono (by simp)) (show Hid _ from rows_lit (Blk.new w4 _ _)) (by omega)).mono ?_
  rintro e w5 ⟨rfl, hb5⟩
  have hb45 := (below_grw w4 (.cells #[.string AB, .string CD] 9)).trans (hb5.mono (by simp))
  have HR5 := Lib.hid (HR4.out.below hb45)
  have hb5' := hb4'.trans (hb45.mono hb4'.size)
  clear hb5 hb45 hb4' HR4 HRD4
  go_wp2_with fail
  refine (radd_ok w.heap.size w.heap.size 6 [AB, CD] 2 v3 EX w5 hb5'.size HR5 (by decide) (by decide) (by omega) (by decide) (by omega)).mono ?_
  rintro e w6 ⟨rfl, v6, hr6, ht6, _⟩
  have hb6 := hb5'.trans (ht6.below (B := w.heap.size) hb5'.size (fun k hk => by rcases hk with hk | hk; exact Nat.le_of_eq hk.symm; exact (HR5.out.row.lt k hk).1))
  rw [KEX.out] at hr6
  have HR6 := Lib.hid hr6
  clear hr6 ht6 HR5 hb5'
  go_wp2_with fail
  refine (rlines_c w.heap.size w.heap.size 6 [CD, EX] 3 v6 w6 HR6 (by decide)).mono ?_
  rintro e w7 ⟨v7, rfl, ho7, hb7⟩
  obtain ⟨A7, c7, hv7, _, hrd7⟩ := own_rows (l := [CD, EX]) strC_k ho7 rfl
  subst hv7
  have HR7 := Lib.hid (HR6.out.below hb7)
  have HRD7 := Lib.hid hrd7
  have hb7' := hb6.trans (hb7.mono hb6.size)
  clear ho7 hrd7 hb7 HR6 hb6
  go_wp2_with fail
  refine (same38_eq A7 (some ⟨w7.heap.size, 0, none⟩) 2 c7 2 [CD, EX] (w7.alloc (.cells #[.string CD, .string EX] 9)) (show Hid _ from (HRD7.out.below (below_grw w7 _) (Nat.le_refl _)).mono (by simp)) (show Hid _ from rows_lit (Blk.new w7 _ _)) (by omega)).mono ?_
  rintro e w8 ⟨rfl, hb8⟩
  have hb78 := (below_grw w7 (.cells #[.string CD, .string EX] 9)).trans (hb8.mono (by simp))
  have HR8 := Lib.hid (HR7.out.below hb78)
  have hb8' := hb7'.trans (hb78.mono hb7'.size)
  clear hb8 hb78 hb7' HR7 HRD7
  go_wp2_with fail
  refine (rfirst_c w.heap.size w.heap.size 6 [CD, EX] 3 v6 w8 HR8 (by decide) (by omega)).mono ?_
  rintro e w9 ⟨rfl, hb9⟩
  have HR9 := Lib.hid (HR8.out.below hb9)
  have hb9' := hb8'.trans (hb9.mono hb8'.size)
  clear hb9 hb8' HR8
  go_wp2_with fail
  refine (rcount_c w.heap.size w.heap.size 6 [CD, EX] 3 v6 w9 HR9).mono ?_
  rintro e w' ⟨rfl, rfl⟩
  go_wp2_with fail
  refine (rsize_c w.heap.size w.heap.size 6 [CD, EX] 3 v6 w9 HR9).mono ?_
  rintro e w' ⟨rfl, rfl⟩
  go_wp2_with fail
  go_ret
  exact ⟨rfl, hb9'⟩
end Go.Proofs.YtkinbidpbgkaoaaDoor
