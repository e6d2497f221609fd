/-
  queue: Grow, Concat.
-/
import Derived.Test.YtkinbidpbgkaoaaDoorQueA
namespace Go.Proofs.YtkinbidpbgkaoaaDoor
open Go.RowKit
set_option linter.unusedVariables false

def catT (l : Nat → List Tsk) : Nat → List Tsk
  | 0 => []
  | k + 1 => catT l k ++ l k
theorem catT_len (l : Nat → List Tsk) (k : Nat) : (catT l (k + 1)).length = (catT l k).length + (l k).length := by simp [catT]
theorem catT_mono (l : Nat → List Tsk) {j k : Nat} (h : j ≤ k) : (catT l j).length ≤ (catT l k).length := by
  induction h with
  | refl => exact Nat.le_refl _
  | step _ ih => rw [catT_len]; omega
set_option maxRecDepth 100000 in
set_option maxHeartbeats 1000000 in
theorem grow_task (n : Nat) (w : World) (hn : n ≤ 1000000) :
    Calls Tryd.prog 66 #[.slice none 0 0, .int .i64 n] w fun e w' => ∃ v, e = .returned v ∧ w'.ownsRow w.heap.size 45 2 v 0 [] ∧ Below w.heap.size w w' := by
  obtain ⟨i0, hi, hz0, hz1, hz2⟩ := info_parts info_task
  by_cases h0 : n = 0
  · subst h0
    go_enter Tryd.func66, Tryd.ntmps66
    go_wp2_with fail
    go_ret
    exact ⟨_, rfl, ⟨rfl, .inl ⟨rfl, rfl⟩⟩, Below.refl _ _⟩
  · have hmk := fun ty => Lib.run_append_nil_zeros w 47 3 ty 45 i0 _ .i64 .i64 Tryd.underlying47 Tryd.underlying3 hi hz0 n (by omega) (by rw [hz1]; omega) (by omega) (by rw [hz2]; omega)
    have hcap := grownCap_ge w n 0 45
    have hcapm := grownCap_le_maxLen w n 0 45 (by unfold maxLen; omega)
    have hn1 : ¬ ((n : Int) < 0) := by omega
    have hn2 : ((0 : Int) < n) := by omega
    have hd1 : decide ((n : Int) < 0) = false := by simp
    have hd2 : decide ((0 : Int) < n) = true := by simp; omega
    generalize grownCap w n 0 45 = cp at hmk hcap hcapm
    clear h0
    go_enter Tryd.func66, Tryd.ntmps66
    go_wp2_with (at_builtin; refine Lib.wpList_append_run _ rfl _ _ _ _ rfl _ _ rfl rfl _ _ (hmk _) ?_)
    all_goals (
      go_ret
      refine ⟨_, rfl, ⟨rfl, .inr ⟨w.heap.size, cp, _, rfl, Nat.le_refl _, alloc_new' (w := w.drew) rfl, Nat.zero_le _, hcapm, ?_, by simp⟩⟩, ((below_drewN' (q := 1) (Below.refl _ w)).alloc (Nat.le_refl _) _)⟩
      simp [Builtin.zeroCells, Value.cells]
      omega)
/-- A row's cells, as the source of an append. -/
theorem news_of_rd {α : Type} {enc : α → List Value} {k : Nat} (hk : ∀ x, (enc x).length = k) (hk0 : 0 < k) {w : World} {B : Nat} {ad : Addr} {n : Nat} {l : List α} (h : RdRows w B enc k (some ad) n l) : ∀ j u, (flatOf enc l)[j]? = some u → w.cell? (ad.add j) = some u := by
  intro j u hj
  have hjn : j < n * k := by have := (List.getElem?_eq_some_iff.1 hj).1; rw [flatOf_length hk, h.1] at this; exact this
  have hn : 0 < n := by
    rcases Nat.eq_zero_or_pos n with h0 | h0
    · subst h0; simp at hjn
    · exact h0
  obtain ⟨b, off, ha, _, hrows⟩ := h.2 hn
  cases ha
  obtain ⟨x, hx, he⟩ := flat_split hk hk0 l j (by rw [h.1]; exact hjn)
  rw [he] at hj
  have := hrows (j / k) x hx (j % k) u hj
  rw [Addr.add_mid, show off + j = off + j / k * k + j % k by have := Nat.div_add_mod j k; rw [Nat.mul_comm] at this; omega]
  exact this
set_option maxRecDepth 100000 in
set_option maxHeartbeats 1000000 in
theorem concat_c (q : Nat) (l : Nat → List Tsk) (A : Nat → Option Addr) (c : Nat → Nat) (w : World) (hq0 : q < w.heap.size) (hq : Hid (∀ i, i < 3 → w.cell? ⟨q, i, none⟩ = some (.slice (A i) (l i).length (c i))))
    (hA : Hid (∀ i, i < 3 → A i = none → l i = [] ∧ c i = 0)) (hr : Hid (∀ i, i < 3 → RdRows w w.heap.size Tsk.cells 2 (A i) (l i).length (l i))) (hN : (catT l 3).length ≤ 1000000) :
    Calls Tryd.prog 50 #[.slice (some ⟨q, 0, none⟩) 3 3] w fun e w' => ∃ v, e = .returned v ∧ w'.ownsRow w.heap.size 45 2 v (catT l 3).length (flatOf Tsk.cells (catT l 3)) ∧ Below w.heap.size w w' := by
  obtain ⟨i0, hi, hz0, hz1, hz2⟩ := info_parts info_task
  have HM : Hid (∀ k, k ≤ 3 → (catT l k).length ≤ 1000000) := fun k hk => Nat.le_trans (catT_mono l hk) hN
  go_enter Tryd.func50, Tryd.ntmps50
  go_wp2_with fail
  go_loopw [3, 5, 11] (fun s3 _ s11 wr => ∃ kk : Nat, kk ≤ 3 ∧ s11 = .int .i64 kk ∧ s3 = .int .i64 ((catT l kk).length : Nat) ∧ w = wr) (fun _ _ s11 _ => 3 - (intOf s11).toNat)
  case atStart => exact ⟨0, by omega, rfl, rfl, rfl⟩
  case round =>
    obtain ⟨kk, hkk, rfl, rfl, rfl⟩ := hrel
    have hm0 := HM.out kk hkk
    by_cases hlt : kk < 3
    · have hc := hq.out kk hlt
      have hsz := Lib.hid (catT_len l kk)
      have hm1 := HM.out (kk + 1) (by omega)
      rw [catT_len] at hm1
      generalize (catT l kk).length = S at hsz hm0 hm1 ⊢
      generalize (l kk).length = m at hsz hm1 hc
      have e1 : wrap64 ((S : Int) + (m : Int)) = (S : Int) + (m : Int) := by unfold wrap64; omega
      have d1 : decide ((S : Int) + (m : Int) < 0) = false := by simp; omega
      have d2 : ¬ ((S : Int) + (m : Int) < 0) := by omega
      go_wp2_with fail
      go_roundw
      case rel => exact ⟨kk + 1, by omega, by go_num, by rw [hsz.out]; first | rfl | (rw [e1]; rfl) | (push_cast; rw [e1]), trivial⟩
      case measure => simp [intOf]; omega
    · obtain rfl : kk = 3 := by omega
      go_wp2_with fail
      refine (grow_task (catT l 3).length w hN).mono ?_
      rintro e w1 ⟨v, rfl, hown1, hb1⟩
      have HB1 := Lib.hid hb1
      clear hb1
      go_wp2_with fail
      go_loopw [6, 8, 27] (fun s6 _ s27 wr => ∃ kk : Nat, kk ≤ 3 ∧ s27 = .int .i64 kk ∧ wr.ownsRow w.heap.size 45 2 s6 (catT l kk).length (flatOf Tsk.cells (catT l kk)) ∧ Below w.heap.size w wr) (fun _ _ s27 _ => 3 - (intOf s27).toNat)
      case atStart => exact ⟨0, by omega, rfl, hown1, HB1.out⟩
      case round =>
        obtain ⟨kk, hkk, rfl, hown, hbl⟩ := hrel
        by_cases hlt : kk < 3
        · have hc := (hbl.cell (p := ⟨q, kk, none⟩) hq0).trans (hq.out kk hlt)
          have hm1 := HM.out (kk + 1) (by omega)
          rw [catT_len] at hm1
          have hszr := hbl.size
          have hrk : Hid (RdRows wr w.heap.size Tsk.cells 2 (A kk) (l kk).length (l kk)) := (hr.out kk hlt).below hbl (Nat.le_refl _)
          cases hAk : A kk with
          | none =>
            obtain ⟨hl0, hc0⟩ := hA.out kk hlt hAk
            rw [hAk, hl0, hc0] at hc
            have hst : Hid (catT l (kk + 1) = catT l kk) := by show catT l kk ++ l kk = _; rw [hl0, List.append_nil]
            clear hl0 hc0
            go_wp2_with (at_builtin; refine wpList_append_own_none rfl _ _ 47 rfl w.heap.size 45 i0 2 Tryd.underlying47 hi _ _ _ rfl hown rfl ?_)
            go_roundw
            case rel => exact ⟨kk + 1, by omega, by go_num, by rw [hst.out]; exact hown, hbl⟩
            case measure => simp [intOf]; omega
          | some ad =>
            rw [hAk] at hc hrk
            go_wp2_with (at_builtin; refine wpList_append_own _ rfl _ _ 47 rfl w.heap.size 45 i0 (.agg #[.int .i64 0, .int .i64 0]) 2 16 Tryd.underlying47 hi hz0 hz1 hz2 rfl (by decide) _ _ _ rfl hown ad (l kk).length (c kk) (flatOf Tsk.cells (l kk)) rfl ?qc1 ?qc2 ?qc3 ?qc4 ?qc5 ?qc6 ?_)
            case qc1 => exact flatOf_length Tsk.k2 _
            case qc2 => exact news_of_rd Tsk.k2 (by omega) hrk.out
            case qc3 => exact flatOf_mem Tsk.one _
            case qc4 => unfold maxLen; omega
            case qc5 => omega
            case qc6 => exact hszr
            intro v' w4 hown' hg4 _
            have hbl4 := below_app hbl hszr (Nat.le_refl _) hown hg4
            clear hc hown hg4 hbl
            go_wp2_with fail
            go_roundw
            case rel => exact ⟨kk + 1, by omega, by go_num, by rw [catT_len, show catT l (kk + 1) = catT l kk ++ l kk from rfl, flatOf_append]; exact hown', hbl4⟩
            case measure => simp [intOf]; omega
        · obtain rfl : kk = 3 := by omega
          go_wp2_with fail
          go_ret
          exact ⟨_, rfl, hown, hbl⟩
end Go.Proofs.YtkinbidpbgkaoaaDoor
