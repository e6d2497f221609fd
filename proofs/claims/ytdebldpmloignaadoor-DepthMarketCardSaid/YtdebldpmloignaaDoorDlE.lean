/-
  deal: the laws' awake; lots of a side.
-/
import Derived.Test.YtdebldpmloignaaDoorDlC
namespace Go.Proofs.YtdebldpmloignaaDoor
open Go.RowKit
set_option linter.unusedVariables false
set_option linter.unusedSimpArgs false

theorem match_any (E : Nat → Addr) (B q : Nat) (l : Bool → List Ord) (v : Bool → Value) (came : Nat) (o : Ord) (w : World) (h : Hid (BV w B q l v came)) (hE : Hid (EnvK w E)) (hI : Inv l came) (hc : came ≤ 1000000) (hBw : B ≤ w.heap.size) :
    Calls Tryd.prog 49 #[.pointer (some ⟨q, 0, none⟩), .agg o.cells.toArray] w fun e w' => (addK l o ≠ 0 ∧ e = .returned (.tuple #[.slice none 0 0, .int .i64 0, erV E (addK l o)]) ∧ Below w.heap.size w w') ∨ (addK l o = 0 ∧ MatchQ w B q v l o came e w') := by
  by_cases hk : addK l o = 0
  · exact (match_ok B q l v came o w h hI hc hBw hk).mono fun e w' hq => .inr ⟨hk, hq⟩
  · exact (match_err E B q l v came o w h hE hI.small hk).mono fun e w' ⟨h1, h2⟩ => .inl ⟨hk, h1, h2⟩
theorem fill_eql_same (a b c d e f : Int) (w : World) : (binOp .eql 82 (.agg #[.int .i64 a, .int .i64 b, .int .i64 c, .int .i64 d, .int .i64 e, .int .i64 f]) (.agg #[.int .i64 a, .int .i64 b, .int .i64 c, .int .i64 d, .int .i64 e, .int .i64 f])).run Tryd.prog w = .ok (.bool true) w := by
  have hp : Tryd.prog.stoodInHeld 82 = false := by kernel_rfl
  rw [run_eql_struct, show (10000 : Nat) = 9999 + 1 from rfl, run_equalIn_agg w 9999 82 _ _ (by kernel_rfl) hp]
  have u3 := Tryd.underlying3
  simp only [Program.fieldsOf, Tryd.underlying82]
  go_simp
theorem fill_guard (op : BinOp) (x y : Operand) (xs ys : Array Value) (w : World) : (eqGuard op 82 x y (.agg xs) (.agg ys)).run Tryd.prog w = .ok () w := run_eqGuard_agg w op 82 x y _ _ (by kernel_rfl)
def D1 : Ord := ⟨1, 7, true, 5, 2, 0⟩
def D2 : Ord := ⟨2, 8, true, 4, 3, 0⟩
def D3 : Ord := ⟨3, 9, false, 5, 4, 0⟩
def DL1 : Bool → List Ord := fun _ => []
def DL2 : Bool → List Ord := addL DL1 D1 0
def DL3 : Bool → List Ord := addL DL2 D2 1
theorem dwI2 : Inv DL2 1 := Inv.empty.add (by kernel_rfl)
theorem dwI3 : Inv DL3 2 := dwI2.add (by kernel_rfl)
theorem dw_ok : addK DL3 D3 = 0 := by kernel_rfl
theorem dw_F : dealF DL3 D3 = [⟨2, 3, 8, 9, 4, 3⟩, ⟨1, 3, 7, 9, 5, 1⟩] := by kernel_rfl
theorem dw_Z : dealZ DL3 D3 = 0 := by kernel_rfl
theorem dw_len : (dealL DL3 D3 2 true).length + (dealL DL3 D3 2 false).length = 1 := by kernel_rfl
theorem dw_sm : ∀ s, (dealL DL3 D3 2 s).length ≤ 1000000 := fun s => by cases s <;> exact Nat.le_trans (by have := dw_len; omega) (show 1 ≤ 1000000 by decide)
set_option maxRecDepth 100000 in
set_option maxHeartbeats 2000000 in
theorem awake14_c (w : World) : Calls Tryd.prog 48 #[] w fun e w' => e = .returned (.bool true) ∧ Below w.heap.size w w' := by
  obtain ⟨q, hq⟩ : ∃ q, q = w.heap.size := ⟨_, rfl⟩
  have HQ : Hid (w.heap.size ≤ q) := by show _ ≤ _; omega
  have HNEW := Lib.hid (bnew_c w)
  rw [← hq] at HNEW
  clear hq
  go_enter Tryd.func48, Tryd.ntmps48
  go_wp2_with fail
  refine HNEW.out.mono ?_
  rintro e W1 ⟨rfl, hv1, hb1⟩
  obtain ⟨v1, hv1e⟩ : ∃ v1 : Bool → Value, v1 = fun _ => .slice none 0 0 := ⟨_, rfl⟩
  have HV1 : Hid (BV W1 q q DL1 v1 0) := by show BV _ _ _ _ _ _; rw [hv1e]; exact hv1
  have HB1 : Hid (Below w.heap.size w W1) := hb1.mono HQ.out
  clear hv1 hb1 hv1e HNEW
  go_wp2_with fail
  refine (add_c q q DL1 v1 0 D1 W1 HV1 (fun s => Nat.zero_le 1000) Inv.empty (by decide) (Nat.le_of_lt HV1.out.lt) (by kernel_rfl)).mono ?_
  rintro e W2 ⟨rfl, v2, hs⟩
  have HB2 := Lib.hid (HB1.out.trans (hs.below HV1.out HQ.out))
  have HV2 : Hid (BV W2 q q DL2 v2 1) := hs.out
  clear hs
  go_wp2_with fail
  refine (add_c q q DL2 v2 1 D2 W2 HV2 (fun s => Nat.le_trans (dwI2.len s) (by decide)) dwI2 (by decide) (Nat.le_of_lt HV2.out.lt) (by kernel_rfl)).mono ?_
  rintro e W3 ⟨rfl, v3, hs⟩
  have HB3 := Lib.hid (HB2.out.trans (hs.below HV2.out HQ.out))
  have HV3 : Hid (BV W3 q q DL3 v3 2) := hs.out
  clear hs
  go_wp2_with fail
  refine (match_ok q q DL3 v3 2 D3 W3 HV3 dwI3 (by decide) (Nat.le_of_lt HV3.out.lt) dw_ok).mono ?_
  rintro e W4 ⟨s8, v4, rfl, hown, hs⟩
  rw [dw_Z]
  rw [dw_F] at hown
  have HB4 := Lib.hid (HB3.out.trans (hs.below HV3.out HQ.out))
  have HV4 := Lib.hid hs.out
  obtain ⟨g, cap, cur, rfl, _, _, _, hblk, _, hrows⟩ := own_rows' Fill.k6 hown rfl (by simp)
  have r0 : W4.rangeAt g 0 [.int .i64 2, .int .i64 3, .int .i64 8, .int .i64 9, .int .i64 4, .int .i64 3] := by
    have := hrows 0 _ rfl
    simpa [Fill.cells] using this
  have r1 := hrows 1 _ rfl
  have p4 : W4.cell? ⟨g, 1 * 6 + 4, none⟩ = some (.int .i64 5) := by
    have := r1 4 _ rfl
    simpa using this
  have p5 : W4.cell? ⟨g, 1 * 6 + 5, none⟩ = some (.int .i64 1) := by
    have := r1 5 _ rfl
    simpa using this
  simp only [Nat.one_mul, Nat.reduceAdd] at p4 p5
  have HWO : Hid (Calls Tryd.prog 54 #[.slice (some ⟨g, 0, none⟩) 2 cap] W4 fun e w' => e = .returned (.int .i64 17) ∧ Below W4.heap.size W4 w') := by
    obtain ⟨A9, c9, he, _, hrd⟩ := own_rows Fill.k6 hown rfl
    cases he
    exact worth_c _ 2 cap _ W4 (Lib.hid hrd) (by decide) (Lib.hid (fun f hf => by simp at hf; rcases hf with rfl | rfl <;> (unfold OkF; decide)))
  have ho := fill_eql_same 2 3 8 9 4 3
  have hgd := fill_guard
  clear hs hown hrows hblk r1
  have k0 := r0 0 _ rfl
  have k1 := r0 1 _ rfl
  have k2 := r0 2 _ rfl
  have k3 := r0 3 _ rfl
  have k4 := r0 4 _ rfl
  have k5 := r0 5 _ rfl
  simp only [Nat.zero_add] at k0 k1 k2 k3 k4 k5
  go_wp2_with fail
  clear k0 k1 k2 k3 k4 k5
  refine HWO.out.mono ?_
  rintro e W5 ⟨rfl, hb5⟩
  have HB5 := Lib.hid (HB4.out.trans (hb5.mono HB4.out.size))
  have HV5 := Lib.hid (HV4.out.below hb5)
  clear hb5 r0 p4 p5
  go_wp2_with fail
  refine (blen_c q q _ v4 _ W5 HV5 dw_sm).mono ?_
  rw [dw_len]
  rintro e W6 ⟨rfl, hb6⟩
  have HB6 := Lib.hid (HB5.out.trans (hb6.mono HB5.out.size))
  clear hb6
  go_wp2_with fail
  go_ret
  exact ⟨rfl, HB6.out⟩
def lotsL (xs : List Ord) : Int := (xs.map Ord.lots).sum
theorem lotsL_take (xs : List Ord) (k : Nat) (x : Ord) (h : xs[k]? = some x) : lotsL (xs.take (k + 1)) = lotsL (xs.take k) + x.lots := by
  obtain ⟨hk, rfl⟩ := List.getElem?_eq_some_iff.1 h
  unfold lotsL
  rw [List.take_succ_eq_append_getElem hk, List.map_append, List.sum_append]
  simp
theorem lotsL_range (xs : List Ord) (h : ∀ x ∈ xs, 1 ≤ x.lots ∧ x.lots ≤ 1000) : 0 ≤ lotsL xs ∧ lotsL xs ≤ 1000 * xs.length := by
  induction xs with
  | nil => simp [lotsL]
  | cons a r ih =>
    have h1 := h a (by simp)
    have h2 := ih (fun x hx => h x (by simp [hx]))
    unfold lotsL at *
    simp only [List.map_cons, List.sum_cons, List.length_cons] at *
    omega
theorem Inv.lotsR {l : Bool → List Ord} {came : Nat} (h : Inv l came) (s : Bool) : ∀ x ∈ l s, 1 ≤ x.lots ∧ x.lots ≤ 1000 := fun x hx => by
  obtain ⟨i, hi⟩ := List.getElem?_of_mem hx
  exact h.lots hi
set_option maxRecDepth 100000 in
set_option maxHeartbeats 1000000 in
theorem lots14_c (B q : Nat) (l : Bool → List Ord) (v : Bool → Value) (came : Nat) (s : Bool) (w : World) (h : Hid (BV w B q l v came)) (hI : Inv l came) :
    Calls Tryd.prog 50 #[.pointer (some ⟨q, 0, none⟩), .bool s] w fun e w' => e = .returned (.int .i64 (lotsL (l s))) ∧ Below w.heap.size w w' := by
  have HL := Lib.hid (blist_c B q l v came s w h hI.small)
  have HLR := Lib.hid (hI.lotsR s)
  have HLN := Lib.hid (hI.len s)
  clear h hI
  generalize l s = xs at *
  go_enter Tryd.func50, Tryd.ntmps50
  go_wp2_with fail
  refine HL.out.mono ?_
  rintro e w1 ⟨va, rfl, hown, hb1⟩
  obtain ⟨Aa, ca, rfl, _, _, hrd⟩ := own_form Ord.k6 hown
  have HRD := Lib.hid hrd
  have HB1 := Lib.hid hb1
  clear hown hb1 hrd
  go_wp2_with fail
  go_loop [5, 7] (fun s5 s7 => ∃ kk : Nat, kk ≤ xs.length ∧ s7 = .int .i64 kk ∧ s5 = .int .i64 (lotsL (xs.take kk))) (fun _ s7 => xs.length - (intOf s7).toNat)
  case atStart => exact ⟨0, Nat.zero_le _, rfl, rfl⟩
  case round =>
    obtain ⟨kk, hkk, rfl, rfl⟩ := hrel
    have hN := HLN.out
    by_cases hlt : kk < xs.length
    · obtain ⟨b, off, rfl, hb, hrows⟩ := HRD.out.2 (by omega)
      obtain ⟨x, hx⟩ : ∃ x, xs[kk]? = some x := ⟨_, List.getElem?_eq_getElem hlt⟩
      have c4 : w1.cell? ⟨b, off + kk * 6 + 4, none⟩ = some (.int .i64 x.lots) := hrows kk x hx 4 _ rfl
      have HT := Lib.hid (lotsL_take xs kk x hx)
      have h1 := HLR.out x (List.mem_of_getElem? hx)
      have h2 := lotsL_range (xs.take kk) (fun y hy => HLR.out y (List.mem_of_mem_take hy))
      have h3 : (xs.take kk).length ≤ 32 := by rw [List.length_take]; omega
      have h4 : lotsL (xs.take kk) ≤ 32000 := by omega
      have h5 := h2.1
      clear hrows hx h2 h3
      go_wp2_with fail
      go_round
      case rel => exact ⟨kk + 1, by omega, by go_num, by rw [HT.out]⟩
      case measure => simp [intOf]; omega
    · obtain rfl : kk = xs.length := by omega
      rw [List.take_of_length_le (Nat.le_refl _)]
      go_wp2_with fail
      go_ret
      exact ⟨rfl, HB1.out⟩
end Go.Proofs.YtdebldpmloignaaDoor
