/-
  book.Order: slices' functions by contract; the order in which orders count.
-/
import Derived.Test.YtdebldpmloignaaDoorSlG
import Derived.Laws.StructEq
namespace Go.Proofs.YtdebldpmloignaaDoor
open Go.RowKit
set_option linter.unusedVariables false
set_option linter.unusedSimpArgs false

structure Ord where
  (id tenant : Int)
  sell : Bool
  (price lots seq : Int)
def Ord.cells (o : Ord) : List Value := [.int .i64 o.id, .int .i64 o.tenant, .bool o.sell, .int .i64 o.price, .int .i64 o.lots, .int .i64 o.seq]
theorem Ord.k6 (o : Ord) : o.cells.length = 6 := rfl
theorem Ord.one (o : Ord) : ∀ u ∈ o.cells, u.oneCell' = true := by intro u hu; simp [Ord.cells] at hu; rcases hu with rfl | rfl | rfl | rfl | rfl | rfl <;> rfl
def Ord.good (o : Ord) : Bool := decide (1 ≤ o.id) && decide (o.id ≤ 1073741824) && decide (1 ≤ o.price) && decide (o.price ≤ 1000000) && decide (1 ≤ o.lots) && decide (o.lots ≤ 1000)

theorem info_ord : (Tryd.prog.info? 67).map (fun i => (i.zero, i.size, i.bytes)) = some (some (.agg #[.int .i64 0, .int .i64 0, .bool false, .int .i64 0, .int .i64 0, .int .i64 0]), 6, 48) := by kernel_rfl
theorem size_ord : (Tryd.prog.info? 67).map (·.size) = some 6 := by kernel_rfl
set_option maxRecDepth 100000 in
set_option maxHeartbeats 1000000 in
theorem indexFunc_ord {α : Type} (enc : α → List Value) (hk : ∀ x, (enc x).length = 6) (p : α → Bool) (g : Nat) (lb : Array Value) (eg : ∀ args w, (callFunc g args).run Tryd.prog w = .ok (.enter g args) w) (I : World → Prop)
    (A : Option Addr) (n c : Nat) (xs : List α) (w : World) (hr : Hid (RdRows w w.heap.size enc 6 A n xs)) (hn : n ≤ 9223372036854775807) (hI : Hid (∀ W W', I W → W.grownBy W' none → I W')) (hIw : I w)
    (hp : Hid (∀ W x, I W → Calls Tryd.prog g (#[.agg (enc x).toArray] ++ lb) W fun e w' => e = .returned (.bool (p x)) ∧ Below W.heap.size W w')) :
    Calls Tryd.prog 98 #[.slice A n c, .func (.func g) #[] lb] w fun e w' => e = .returned (.int .i64 (idxOf p xs)) ∧ Below w.heap.size w w' ∧ I w' := by
  have HI := Lib.hid hIw
  clear hIw
  go_enter Tryd.func98, Tryd.ntmps98
  go_wp2_with fail
  go_loopw [5, 8] (fun _ s8 wr => ∃ kk : Nat, kk ≤ n ∧ s8 = .int .i64 kk ∧ Below w.heap.size w wr ∧ I wr ∧ Hid (∀ (j : Nat) (y : α), j < kk → xs[j]? = some y → p y = false)) (fun _ s8 _ => n - (intOf s8).toNat)
  case atStart => exact ⟨0, Nat.zero_le _, rfl, Below.refl _ w, HI.out, fun j y hj => absurd hj (Nat.not_lt_zero _)⟩
  case round =>
    obtain ⟨kk, hkk, rfl, hbl, hIr, hno⟩ := hrel
    have hl := hr.out.1
    by_cases hlt : kk < n
    · obtain ⟨b, off, rfl, hb, hrows⟩ := hr.out.2 (by omega)
      obtain ⟨x, hx⟩ : ∃ x, xs[kk]? = some x := ⟨_, List.getElem?_eq_getElem (by omega)⟩
      have r1 := rangeAt_below (hrows kk x hx) hbl hb
      have hcall := hp.out wr x hIr
      have hsz : (Tryd.prog.info? 67).map (·.size) = some (enc x).length := by rw [hk]; exact size_ord
      clear hrows hl
      have HX := Lib.hid hx
      clear hx
      cases hq : p x with
      | true =>
        rw [hq] at hcall
        have HC := Lib.hid hcall
        clear hcall
        go_wp2_with (first | (refine wpList_load_mid rfl 67 _ rfl b (off + kk * 6) rfl (enc x) _ r1 Tryd.underlying67 rfl hsz ?_) | (go_at_fn g; refine HC.out.mono ?_; rintro e w' ⟨rfl, hb'⟩))
        go_ret
        exact ⟨by rw [idxOf_hit p xs kk x HX.out hq hno.out]; rfl, hbl.trans (hb'.mono hbl.size), hI.out _ _ hIr (grown_of_below hb' none)⟩
      | false =>
        rw [hq] at hcall
        have HC := Lib.hid hcall
        clear hcall
        go_wp2_with (first | (refine wpList_load_mid rfl 67 _ rfl b (off + kk * 6) rfl (enc x) _ r1 Tryd.underlying67 rfl hsz ?_) | (go_at_fn g; refine HC.out.mono ?_; rintro e w' ⟨rfl, hb'⟩))
        go_roundw
        case rel =>
          refine ⟨kk + 1, by omega, by go_num, hbl.trans (hb'.mono hbl.size), hI.out _ _ hIr (grown_of_below hb' none), (show Hid _ from fun j y hj hy => ?_)⟩
          by_cases e : j = kk
          · subst e
            rw [HX.out] at hy
            cases hy
            exact hq
          · exact hno.out j y (by omega) hy
        case measure => simp [intOf]; omega
    · obtain rfl : kk = n := by omega
      go_wp2_with fail
      go_ret
      exact ⟨by rw [idxOf_miss p xs (fun j y hy => hno.out j y (by have := (List.getElem?_eq_some_iff.1 hy).1; omega) hy)]; rfl, hbl, hIr⟩

set_option maxRecDepth 100000 in
set_option maxHeartbeats 1000000 in
theorem clone_ord {α : Type} (enc : α → List Value) (hk : ∀ x, (enc x).length = 6) (h1 : ∀ x, ∀ u ∈ enc x, u.oneCell' = true) (A : Option Addr) (n c : Nat) (xs : List α) (w : World) (hA : A = none → n = 0) (hr : Hid (RdRows w w.heap.size enc 6 A n xs)) (hn : n ≤ maxLen) (hb : n * 48 ≤ 140737488355328) :
    Calls Tryd.prog 86 #[.slice A n c] w fun e w' => ∃ v, e = .returned v ∧ w'.ownsRow w.heap.size 67 6 v n (flatOf enc xs) ∧ Below w.heap.size w w' := by
  obtain ⟨i0, hi, hz0, hz1, hz2⟩ := info_parts info_ord
  have hl : (flatOf enc xs).length = n * 6 := by rw [flatOf_length hk, hr.out.1]
  have q22 : ∀ (w : World) (a : Option Addr) (n c n' c' : Nat), (binOp .eql 62 (.slice a n c) (.slice none n' c')).run Tryd.prog w = .ok (.bool a.isNone) w := fun w a n c n' c' => Lib.run_eql_slice_nil w _ _ a n c n' c' Tryd.underlying62
  cases A with
  | none =>
    have h0 := hA rfl
    subst h0
    have hx : xs = [] := List.eq_nil_of_length_eq_zero hr.out.1
    subst hx
    go_enter Tryd.func86, Tryd.ntmps86
    go_wp2_with fail
    go_ret
    exact ⟨_, rfl, ⟨by simp [flatOf], .inl ⟨rfl, rfl⟩⟩, Below.refl _ _⟩
  | some ad =>
    have hnews : ∀ j u, (flatOf enc xs)[j]? = some u → w.cell? (ad.add j) = some u := by
      intro j u hj
      have hjn : j < n * 6 := by have := (List.getElem?_eq_some_iff.1 hj).1; rw [hl] at this; exact this
      obtain ⟨b, off, ha, _, hrows⟩ := hr.out.2 (by omega)
      cases ha
      obtain ⟨x, hx, he⟩ := flat_split hk (by omega) xs j (by rw [hr.out.1]; exact hjn)
      rw [he] at hj
      have := hrows (j / 6) x hx (j % 6) u hj
      rw [Addr.add_mid, show off + j = off + j / 6 * 6 + j % 6 by omega]
      exact this
    have HN := Lib.hid hnews
    clear hnews
    go_enter Tryd.func86, Tryd.ntmps86
    go_wp2_with (at_builtin; refine wpList_append_own _ rfl _ _ 62 rfl w.heap.size 67 i0 (.agg #[.int .i64 0, .int .i64 0, .bool false, .int .i64 0, .int .i64 0, .int .i64 0]) 6 48 Tryd.underlying62 hi hz0 hz1 hz2 rfl (by decide) _ _ _ rfl (World.ownsRow_made w #[] 0 (Nat.le_refl _) (Nat.zero_le _) (by simp)) ad n c (flatOf enc xs) rfl ?qc1 ?qc2 ?qc3 ?qc4 ?qc5 ?qc6 ?_)
    case qc1 => exact hl
    case qc2 =>
      intro j u hj
      exact Lib.cell?_alloc_some _ (HN.out j u hj)
    case qc3 => exact flatOf_mem h1 xs
    case qc4 => omega
    case qc5 => omega
    case qc6 => simp
    intro v' w' hown hg hv
    go_wp2_with fail
    go_ret
    refine ⟨_, rfl, ?_, ?_⟩
    · simpa using hown
    · exact below_app (size := 6) (xs := []) (n := 0) ((Below.refl _ w).alloc (Nat.le_refl _) _) (by simp) (Nat.le_refl _) (World.ownsRow_made w #[] 0 (Nat.le_refl _) (Nat.zero_le _) (by simp)) hg
set_option maxRecDepth 100000 in
theorem good_c (o : Ord) (w : World) : Calls Tryd.prog 53 #[.agg o.cells.toArray] w fun e w' => e = .returned (.bool (Ord.good o)) ∧ Below w.heap.size w w' := by
  obtain ⟨id, tenant, sell, price, lots, seq⟩ := o
  simp only [Ord.cells]
  by_cases c0 : 1 ≤ id
  rotate_left
  · have e : Ord.good ⟨id, tenant, sell, price, lots, seq⟩ = false := by simp [Ord.good]; omega
    rw [e]
    have d0 : decide (1 ≤ id) = false := by simpa using c0
    clear c0
    go_enter Tryd.func53, Tryd.ntmps53
    go_wp2_with fail
    go_ret
    exact ⟨rfl, (Below.refl _ w).alloc (Nat.le_refl _) _⟩
  by_cases c1 : id ≤ 1073741824
  rotate_left
  · have e : Ord.good ⟨id, tenant, sell, price, lots, seq⟩ = false := by simp [Ord.good]; omega
    rw [e]
    have d0 : decide (1 ≤ id) = true := by simpa using c0
    have d1 : decide (id ≤ 1073741824) = false := by simpa using c1
    clear c0 c1
    go_enter Tryd.func53, Tryd.ntmps53
    go_wp2_with fail
    go_ret
    exact ⟨rfl, (Below.refl _ w).alloc (Nat.le_refl _) _⟩
  by_cases c2 : 1 ≤ price
  rotate_left
  · have e : Ord.good ⟨id, tenant, sell, price, lots, seq⟩ = false := by simp [Ord.good]; omega
    rw [e]
    have d0 : decide (1 ≤ id) = true := by simpa using c0
    have d1 : decide (id ≤ 1073741824) = true := by simpa using c1
    have d2 : decide (1 ≤ price) = false := by simpa using c2
    clear c0 c1 c2
    go_enter Tryd.func53, Tryd.ntmps53
    go_wp2_with fail
    go_ret
    exact ⟨rfl, (Below.refl _ w).alloc (Nat.le_refl _) _⟩
  by_cases c3 : price ≤ 1000000
  rotate_left
  · have e : Ord.good ⟨id, tenant, sell, price, lots, seq⟩ = false := by simp [Ord.good]; omega
    rw [e]
    have d0 : decide (1 ≤ id) = true := by simpa using c0
    have d1 : decide (id ≤ 1073741824) = true := by simpa using c1
    have d2 : decide (1 ≤ price) = true := by simpa using c2
    have d3 : decide (price ≤ 1000000) = false := by simpa using c3
    clear c0 c1 c2 c3
    go_enter Tryd.func53, Tryd.ntmps53
    go_wp2_with fail
    go_ret
    exact ⟨rfl, (Below.refl _ w).alloc (Nat.le_refl _) _⟩
  by_cases c4 : 1 ≤ lots
  rotate_left
  · have e : Ord.good ⟨id, tenant, sell, price, lots, seq⟩ = false := by simp [Ord.good]; omega
    rw [e]
    have d0 : decide (1 ≤ id) = true := by simpa using c0
    have d1 : decide (id ≤ 1073741824) = true := by simpa using c1
    have d2 : decide (1 ≤ price) = true := by simpa using c2
    have d3 : decide (price ≤ 1000000) = true := by simpa using c3
    have d4 : decide (1 ≤ lots) = false := by simpa using c4
    clear c0 c1 c2 c3 c4
    go_enter Tryd.func53, Tryd.ntmps53
    go_wp2_with fail
    go_ret
    exact ⟨rfl, (Below.refl _ w).alloc (Nat.le_refl _) _⟩
  by_cases c5 : lots ≤ 1000
  rotate_left
  · have e : Ord.good ⟨id, tenant, sell, price, lots, seq⟩ = false := by simp [Ord.good]; omega
    rw [e]
    have d0 : decide (1 ≤ id) = true := by simpa using c0
    have d1 : decide (id ≤ 1073741824) = true := by simpa using c1
    have d2 : decide (1 ≤ price) = true := by simpa using c2
    have d3 : decide (price ≤ 1000000) = true := by simpa using c3
    have d4 : decide (1 ≤ lots) = true := by simpa using c4
    have d5 : decide (lots ≤ 1000) = false := by simpa using c5
    clear c0 c1 c2 c3 c4 c5
    go_enter Tryd.func53, Tryd.ntmps53
    go_wp2_with fail
    go_ret
    exact ⟨rfl, (Below.refl _ w).alloc (Nat.le_refl _) _⟩
  have e : Ord.good ⟨id, tenant, sell, price, lots, seq⟩ = true := by simp [Ord.good]; omega
  rw [e]
  have d0 : decide (1 ≤ id) = true := by simpa using c0
  have d1 : decide (id ≤ 1073741824) = true := by simpa using c1
  have d2 : decide (1 ≤ price) = true := by simpa using c2
  have d3 : decide (price ≤ 1000000) = true := by simpa using c3
  have d4 : decide (1 ≤ lots) = true := by simpa using c4
  have d5 : decide (lots ≤ 1000) = true := by simpa using c5
  clear c0 c1 c2 c3 c4 c5
  go_enter Tryd.func53, Tryd.ntmps53
  go_wp2_with fail
  go_ret
  exact ⟨rfl, (Below.refl _ w).alloc (Nat.le_refl _) _⟩
end Go.Proofs.YtdebldpmloignaaDoor
