/-
  depth: Cost.
-/
import Derived.Test.YtkinbidpbgkaoaaDoorDepC
namespace Go.Proofs.YtkinbidpbgkaoaaDoor
open Go.RowKit
set_option linter.unusedVariables false

def OkO (o : Ord) : Prop := 1 ≤ o.price ∧ o.price ≤ 1000000 ∧ 1 ≤ o.lots ∧ o.lots ≤ 1000
theorem okO_of_side {xs : List Ord} (h : side xs = true) : xs.length ≤ 1000 ∧ ∀ o ∈ xs, OkO o := by
  unfold side at h
  rw [Bool.and_eq_true] at h
  refine ⟨by simpa using h.1, fun o ho => ?_⟩
  obtain ⟨i, hi, rfl⟩ := List.mem_iff_getElem.1 ho
  have := List.all_eq_true.1 h.2 i (by simpa using hi)
  rw [List.getElem?_eq_getElem hi] at this
  simp only [okAt, Bool.and_eq_true, Ord.good, decide_eq_true_eq] at this
  unfold OkO
  omega
/-- So many lots of one order. -/
def takeO (L d : Int) (o : Ord) : Int := if L - d < o.lots then L - d else o.lots
def topL (lots : Int) : Int := if lots < 0 then 0 else lots
def costStep (L : Int) (s : Int × Int) (o : Ord) : Int × Int := (s.1 + takeO L s.2 o * o.price, s.2 + takeO L s.2 o)
def costF' (xs : List Ord) (lots : Int) : Int × Int := if side xs = true then xs.foldl (costStep (topL lots)) (0, 0) else (0, 0)
theorem take_range {L d : Int} {o : Ord} (h : OkO o) (hd : d ≤ L) : 0 ≤ takeO L d o ∧ takeO L d o ≤ 1000 ∧ takeO L d o ≤ L - d ∧ 0 ≤ takeO L d o * o.price ∧ takeO L d o * o.price ≤ 1000000000 := by
  unfold OkO at h
  have h1 : 0 ≤ takeO L d o ∧ takeO L d o ≤ 1000 ∧ takeO L d o ≤ L - d := by unfold takeO; split <;> omega
  refine ⟨h1.1, h1.2.1, h1.2.2, Int.mul_nonneg h1.1 (by omega), ?_⟩
  have h2 := Int.mul_le_mul_of_nonneg_left h.2.1 h1.1
  omega
theorem cost_range (L : Int) (hL : 0 ≤ L) (xs : List Ord) (h : ∀ o ∈ xs, OkO o) (k : Nat) (hk : k ≤ xs.length) : 0 ≤ (foldTo (costStep L) (0, 0) xs k).1 ∧ (foldTo (costStep L) (0, 0) xs k).1 ≤ k * 1000000000 ∧ 0 ≤ (foldTo (costStep L) (0, 0) xs k).2 ∧ (foldTo (costStep L) (0, 0) xs k).2 ≤ k * 1000 ∧ (foldTo (costStep L) (0, 0) xs k).2 ≤ L := by
  induction k with
  | zero => simp [foldTo]; exact hL
  | succ k ih =>
    have hx := List.getElem?_eq_getElem (l := xs) (i := k) (by omega)
    rw [foldTo_succ (costStep L) _ xs k _ hx]
    obtain ⟨a, b, c, d, e⟩ := ih (by omega)
    have ho := h _ (List.getElem_mem (l := xs) (n := k) (by omega))
    generalize foldTo (costStep L) (0, 0) xs k = t at a b c d e ⊢
    obtain ⟨t1, t2⟩ := t
    simp only at a b c d e
    obtain ⟨p, q, r, s, u⟩ := take_range ho e
    simp only [costStep]
    omega
set_option maxRecDepth 100000 in
set_option maxHeartbeats 2000000 in
theorem cost_c (A : Option Addr) (n c : Nat) (xs : List Ord) (lots : Int) (w : World) (hl0 : -9223372036854775808 ≤ lots) (hl1 : lots ≤ 9223372036854775807) (hr : Hid (RdRows w w.heap.size Ord.cells 6 A n xs)) (hn : n ≤ maxLen) :
    Calls Tryd.prog 40 #[.slice A n c, .int .i64 lots] w fun e w' => e = .returned (.tuple #[.int .i64 (costF' xs lots).1, .int .i64 (costF' xs lots).2]) ∧ Below w.heap.size w w' := by
  have hl := hr.out.1
  have hside := Lib.hid (isSide_c A n c xs w hr hn)
  cases hs : side xs with
  | false =>
    have hsp : Hid (costF' xs lots = (0, 0)) := by show _ = _; unfold costF'; rw [hs]; rfl
    rw [hs] at hside
    generalize costF' xs lots = cc at hsp ⊢
    obtain rfl := hsp.out
    clear hs hsp
    go_enter Tryd.func40, Tryd.ntmps40
    go_wp2_with fail
    refine hside.out.mono ?_
    rintro e w1 ⟨rfl, hb1⟩
    go_wp2_with fail
    go_ret2
    exact ⟨rfl, hb1⟩
  | true =>
    obtain ⟨hlen, hok⟩ := okO_of_side hs
    rw [hs] at hside
    have hL : Hid ((if lots < 0 then 0 else lots) = topL lots) := rfl
    have hL0 : 0 ≤ topL lots ∧ topL lots ≤ 9223372036854775807 := by unfold topL; split <;> omega
    have hfin : Hid (foldTo (costStep (topL lots)) (0, 0) xs n = costF' xs lots) := by show _ = _; unfold costF'; rw [hs, ← hl]; exact foldTo_all _ _ _
    generalize costF' xs lots = cc at hfin ⊢
    generalize topL lots = L at hL hL0 hfin
    have HOK := Lib.hid hok
    clear hs hok
    go_enter Tryd.func40, Tryd.ntmps40
    go_wp2_with fail
    refine hside.out.mono ?_
    rintro e w1 ⟨rfl, hb1⟩
    have hrd : Hid (RdRows w1 w.heap.size Ord.cells 6 A n xs) := hr.out.below hb1 (Nat.le_refl _)
    have HB1 := Lib.hid hb1
    have hsz1 := hb1.size
    clear hb1 hside
    go_wp2_with fail
    go_loopw [6, 7, 9, 10, 16] (fun s6 s7 _ _ s16 wr => ∃ kk : Nat, kk ≤ n ∧ s16 = .int .i64 kk ∧ s6 = .int .i64 (foldTo (costStep L) (0, 0) xs kk).1 ∧ s7 = .int .i64 (foldTo (costStep L) (0, 0) xs kk).2 ∧ Below w1.heap.size w1 wr) (fun _ _ _ _ s16 _ => n - (intOf s16).toNat)
    case atStart => exact ⟨0, Nat.zero_le _, rfl, by rw [foldTo_zero], by rw [foldTo_zero], Below.refl _ _⟩
    case round =>
      obtain ⟨kk, hkk, rfl, rfl, rfl, hbl⟩ := hrel
      obtain ⟨q1, q2, q3, q4, q5⟩ := cost_range L hL0.1 xs HOK.out kk (by omega)
      by_cases hlt : kk < n
      · obtain ⟨b, off, rfl, hb, hrows⟩ := hrd.out.2 (by omega)
        obtain ⟨x, hx⟩ : ∃ x, xs[kk]? = some x := ⟨_, List.getElem?_eq_getElem (by omega)⟩
        have r1 := rangeAt_below (hrows kk x hx) hbl (by omega)
        have hst := Lib.hid (foldTo_succ (costStep L) (0, 0) xs kk x hx)
        have ho := HOK.out x (List.mem_of_getElem? hx)
        clear hrows hx
        generalize foldTo (costStep L) (0, 0) xs kk = t at hst q1 q2 q3 q4 q5 ⊢
        obtain ⟨t1, t2⟩ := t
        simp only at q1 q2 q3 q4 q5 ⊢
        obtain ⟨p1, p2, p3, p4, p5⟩ := take_range ho q5
        have hm : Hid ((if L - t2 < x.lots then L - t2 else x.lots) = takeO L t2 x) := rfl
        have hst' : Hid (foldTo (costStep L) (0, 0) xs (kk + 1) = (t1 + takeO L t2 x * x.price, t2 + takeO L t2 x)) := hst.out
        obtain ⟨id, tenant, sell, price, lotsx, seq⟩ := x
        simp only at hm hst' p1 p2 p3 p4 p5
        generalize takeO L t2 ⟨id, tenant, sell, price, lotsx, seq⟩ = m at hm hst' p1 p2 p3 p4 p5
        have e1 : wrap64 (L - t2) = L - t2 := by unfold wrap64; omega
        have e2 : wrap64 (m * price) = m * price := by unfold wrap64; omega
        have e3 : wrap64 (t1 + m * price) = t1 + m * price := by unfold wrap64; omega
        have e4 : wrap64 (t2 + m) = t2 + m := by unfold wrap64; omega
        have hm1 := hm.out
        have hL1 := hL.out
        clear hst ho q1 q2 q3 q4 q5 p1 p2 p3 p4 p5
        go_wp2_with (refine wpList_load_mid rfl 86 _ rfl b (off + kk * 6) rfl [.int .i64 id, .int .i64 tenant, .bool sell, .int .i64 price, .int .i64 lotsx, .int .i64 seq] _ r1 Tryd.underlying86 rfl size_ord ?_)
        go_roundw
        case rel => exact ⟨kk + 1, by omega, by go_num, by rw [hst'.out, e3], by rw [hst'.out, e4], hbl.alloc hbl.size _⟩
        case measure => simp [intOf]; omega
      · obtain rfl : kk = n := by omega
        rw [hfin.out]
        clear q1 q2 q3 q4 q5
        go_wp2_with fail
        go_ret2
        exact ⟨rfl, HB1.out.trans (hbl.mono hsz1)⟩
end Go.Proofs.YtkinbidpbgkaoaaDoor
