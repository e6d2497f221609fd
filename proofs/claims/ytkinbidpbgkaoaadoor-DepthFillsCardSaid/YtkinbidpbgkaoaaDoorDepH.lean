/-
  DepthFills: the walk.
-/
import Derived.Test.YtkinbidpbgkaoaaDoorDepF
import Derived.Test.YtkinbidpbgkaoaaDoorDepG
namespace Go.Proofs.YtkinbidpbgkaoaaDoor
open Go.RowKit
set_option linter.unusedVariables false

theorem info_rfill : (Tryd.prog.info? 27).map (fun i => (i.zero, i.size, i.bytes)) = some (some (.agg #[.int .i64 0, .int .i64 0, .int .i64 0, .int .i64 0, .int .i64 0, .int .i64 0]), 6, 48) := by kernel_rfl
theorem take_snoc {α : Type} (xs : List α) (k : Nat) (x : α) (h : xs[k]? = some x) : xs.take (k + 1) = xs.take k ++ [x] := by rw [List.take_add_one, h]; rfl
set_option maxRecDepth 100000 in
set_option maxHeartbeats 1000000 in
theorem depthFills_long (A : Option Addr) (n cap : Nat) (xs : List Fill) (w : World) (hA : A = Option.none → n = 0) (hr : Hid (RdRows w w.heap.size Fill.cells 6 A n xs)) (hcap : n ≤ cap) (hn : 40 < n) :
    Calls Tryd.prog 3 #[.slice A n cap] w fun e w' => e = .returned (.bool true) ∧ Below w.heap.size w w' := by
  go_enter Tryd.func3, Tryd.ntmps3
  go_wp2_with fail
  refine (awake34_c w).mono ?_
  rintro e w1 ⟨rfl, hb1⟩
  have hd : decide ((40 : Int) < n) = true := by simp; omega
  go_wp2_with fail
  go_ret
  exact ⟨rfl, hb1⟩
set_option maxRecDepth 100000 in
set_option maxHeartbeats 1000000 in
theorem depthFills_bad (A : Option Addr) (n cap : Nat) (xs : List Fill) (w : World) (hA : A = Option.none → n = 0) (hr : Hid (RdRows w w.heap.size Fill.cells 6 A n xs)) (hcap : n ≤ cap) (hn : n ≤ 40) (hall : allF xs = false) :
    Calls Tryd.prog 3 #[.slice A n cap] w fun e w' => e = .returned (.bool true) ∧ Below w.heap.size w w' := by
  have hg : goodF xs = false := by
    unfold allF at hall
    unfold goodF
    rw [hall, Bool.and_false]
  have hk : keptF xs = [] := by simp [keptF, hg]
  have HMEAN : Hid (meanF xs = [.int .i64 0, .int .i64 0, .int .i64 0]) := by show _ = _; rw [meanF, if_pos hk]
  have HIS : Hid (isF xs = false) := by show _ = _; rw [isF, hk]; rfl
  have HRANGE : Hid (rangeF (keptF xs) = (0, 0)) := by show _ = _; rw [hk]; rfl
  have HALL := Lib.hid hall
  clear hall hg hk
  have hl := hr.out.1
  have hd : decide ((40 : Int) < n) = false := by simp; omega
  obtain ⟨i0, hi, hz0, hz1, hz2⟩ := info_parts info_rfill
  go_enter Tryd.func3, Tryd.ntmps3
  go_wp2_with fail
  refine (awake34_c w).mono ?_
  rintro e w1 ⟨rfl, hb1⟩
  go_wp2_with fail
  go_loopw [3, 4, 5] (fun s3 s4 _ wr => ∃ kk : Nat, kk ≤ n ∧ s4 = .int .i64 kk ∧ wr.ownsRow w.heap.size 27 6 s3 kk (flatOf Fill.cells (xs.take kk)) ∧ Below w.heap.size w wr) (fun _ s4 _ _ => n - (intOf s4).toNat)
  case atStart => exact ⟨0, Nat.zero_le _, rfl, by simpa [flatOf] using World.ownsRow_made w1 #[] 0 hb1.size (Nat.zero_le _) (by simp), hb1.alloc hb1.size _⟩
  case round =>
    obtain ⟨kk, hkk, rfl, hown, hbl⟩ := hrel
    by_cases hlt : kk < n
    · obtain ⟨b, off, rfl, hb, hrows⟩ := hr.out.2 (by omega)
      obtain ⟨x, hx⟩ : ∃ x, xs[kk]? = some x := ⟨_, List.getElem?_eq_getElem (by omega)⟩
      have r1 := rangeAt_below (hrows kk x hx) hbl hb
      have htk := Lib.hid (take_snoc xs kk x hx)
      have hszr := hbl.size
      clear hrows hx
      obtain ⟨ask, bid, seller, buyer, price, lots⟩ := x
      go_wp2_with (first
        | (refine wpList_load_mid rfl 26 _ rfl b (off + kk * 6) rfl [.int .i64 ask, .int .i64 bid, .int .i64 seller, .int .i64 buyer, .int .i64 price, .int .i64 lots] _ r1 Tryd.underlying26 rfl size_fill ?_)
        | (at_builtin; refine wpList_app1 rfl _ _ 24 rfl w.heap.size 27 i0 (.agg #[.int .i64 0, .int .i64 0, .int .i64 0, .int .i64 0, .int .i64 0, .int .i64 0]) 6 48 Tryd.underlying24 hi hz0 hz1 hz2 rfl (by decide) _ _ _ rfl (hown.alloc _) _ _ rfl ?ca0 ?ca1 ?ca2 ?ca3 ?ca4 ?ca5 ?_))
      case ca0 => simp
      case ca1 => rfl
      case ca2 => simp [Value.oneCell']
      case ca3 => unfold maxLen; omega
      case ca4 => omega
      case ca5 => simp; omega
      intro v' w4 hown' hg4 _
      have hbl4 := below_app (hbl.alloc hszr (.cells #[.int .i64 ask, .int .i64 bid, .int .i64 seller, .int .i64 buyer, .int .i64 price, .int .i64 lots] 26)) (by simp; omega) (Nat.le_refl _) (hown.alloc _) hg4
      clear hown hbl hg4 r1
      go_wp2_with fail
      go_roundw
      case rel => exact ⟨kk + 1, by omega, by go_num, by rw [htk.out, flatOf_append, flatOf_one]; exact hown', hbl4⟩
      case measure => simp [intOf]; omega
    · obtain rfl : kk = n := by omega
      have htk : xs.take kk = xs := List.take_of_length_le (by omega)
      rw [htk] at hown
      obtain ⟨A2, cap2, rfl, hc2, hrd2⟩ := own_rows Fill.k6 hown hl
      have hlo := hown.lt
      have HR2 := Lib.hid hrd2
      have hr3 : Hid (RdRows wr wr.heap.size Fill.cells 6 A kk xs) := (hr.out.below hbl (Nat.le_refl _)).mono hbl.size
      clear htk hown hrd2 hlo
      go_wp2_with fail
      refine (average_c A kk cap xs wr hA hr3 (by unfold maxLen; omega)).mono ?_
      rintro e w5 ⟨rfl, hb5⟩
      rw [HMEAN.out, HIS.out]
      have hbl5 := hbl.trans (hb5.mono hbl.size)
      have hr5 : Hid (RdRows w5 w5.heap.size Fill.cells 6 A2 kk xs) := (HR2.out.below hb5 (Nat.le_refl _)).mono hb5.size
      have hr5' : Hid (RdRows w5 w5.heap.size Fill.cells 6 A kk xs) := (hr3.out.below hb5 (Nat.le_refl _)).mono hb5.size
      clear hb5 HR2 hr3 hbl
      go_upto_region 12 with fail
      obtain ⟨W6, hW6⟩ : ∃ Z : World, Z = w5.alloc (.cells #[.int .i64 0, .int .i64 0, .int .i64 0] 29) := ⟨_, rfl⟩
      rw [← hW6]
      have hb6 : Below w5.heap.size w5 W6 := by rw [hW6]; exact below_grow w5 _
      have hm6 : Hid (W6.heap[w5.heap.size]? = some (.cells #[.int .i64 0, .int .i64 0, .int .i64 0] 29 (0, 0))) := by rw [hW6]; exact alloc_new' rfl
      have hbl6 := hbl5.trans (hb6.mono hbl5.size)
      have hr6 : Hid (RdRows W6 W6.heap.size Fill.cells 6 A2 kk xs) := (hr5.out.below hb6 (Nat.le_refl _)).mono hb6.size
      have hr6' : Hid (RdRows W6 W6.heap.size Fill.cells 6 A kk xs) := (hr5'.out.below hb6 (Nat.le_refl _)).mono hb6.size
      have hgl6 : w5.heap.size < W6.heap.size := by rw [hW6]; simp
      clear hW6 hb6 hr5 hr5' hbl5
      go_wp2_with fail
      refine (range_c A kk cap xs W6 hA hr6' (by unfold maxLen; omega)).mono ?_
      rintro e w7 ⟨rfl, hb7⟩
      rw [HRANGE.out]
      have hm7 : Hid (w7.heap[w5.heap.size]? = some (.cells #[.int .i64 0, .int .i64 0, .int .i64 0] 29 (0, 0))) := (hb7.block _ hgl6).trans hm6.out
      have hbl7 := hbl6.trans (hb7.mono hbl6.size)
      have hr7 : Hid (RdRows w7 w7.heap.size Fill.cells 6 A2 kk xs) := (hr6.out.below hb7 (Nat.le_refl _)).mono hb7.size
      have hgl7 : w5.heap.size < w7.heap.size := Nat.lt_of_lt_of_le hgl6 hb7.size
      clear hb7 hm6 hr6 hr6' hbl6
      go_wp2_with fail
      refine (rfills_c A2 kk cap2 xs w7 hr7 (by omega)).mono ?_
      rintro e w8 ⟨rfl, hb8⟩
      rw [HALL.out]
      have hm8 : w8.heap[w5.heap.size]? = some (.cells #[.int .i64 0, .int .i64 0, .int .i64 0] 29 (0, 0)) := (hb8.block _ hgl7).trans hm7.out
      have hbl8 := hbl7.trans (hb8.mono hbl7.size)
      have hr8 : Hid (RdRows w8 w8.heap.size Fill.cells 6 A2 kk xs) := (hr7.out.below hb8 (Nat.le_refl _)).mono hb8.size
      have hgl8 : w5.heap.size < w8.heap.size := Nat.lt_of_lt_of_le hgl7 hb8.size
      clear hb8 hm7 hr7 hbl7
      have m0 := cell_of_row w8 w5.heap.size 0 _ _ _ hm8
      have m1 := cell_of_row w8 w5.heap.size 1 _ _ _ hm8
      have m2 := cell_of_row w8 w5.heap.size 2 _ _ _ hm8
      simp only [List.getElem?_toArray, List.getElem?_cons_zero, List.getElem?_cons_succ] at m0 m1 m2
      have HME := fun w => mean_eql 0 0 0 0 0 0 w
      have HMG := mean_guard .eql
      simp at HME
      clear hm8 hr8
      go_wp2_with fail
      go_ret
      exact ⟨rfl, hbl8⟩
set_option maxRecDepth 100000 in
set_option maxHeartbeats 2000000 in
theorem depthFills_none (A : Option Addr) (n cap : Nat) (xs : List Fill) (w : World) (hA : A = Option.none → n = 0) (hr : Hid (RdRows w w.heap.size Fill.cells 6 A n xs)) (hcap : n ≤ cap) (hn : n ≤ 40) (hall : allF xs = true) (hk : keptF xs = []) :
    Calls Tryd.prog 3 #[.slice A n cap] w fun e w' => e = .returned (.bool true) ∧ Below w.heap.size w w' := by
  have hg : goodF xs = true := by
    unfold allF at hall
    unfold goodF
    rw [hall, Bool.and_true]
    have := hr.out.1
    simp; omega
  have hok := (okF_of_good hg).2
  have hkf : keptF xs = xs.filter (fun f => !Fill.none f) := by simp [keptF, hg]
  have hsum := sum_spec xs hok
  rw [← hkf] at hsum
  have HK2 := (okF_kept (xs := xs)).2
  have HOK : Hid (∀ f ∈ xs, OkF f) := hok
  have HALL := Lib.hid hall
  clear hall hg hkf hok
  have HMEAN : Hid (meanF xs = [.int .i64 0, .int .i64 0, .int .i64 0]) := by show _ = _; rw [meanF, if_pos hk]
  have HIS : Hid (isF xs = false) := by show _ = _; rw [isF, hk]; rfl
  have HRANGE : Hid (rangeF (keptF xs) = (0, 0)) := by show _ = _; rw [hk]; rfl
  have HSUM : Hid (sumF xs = (0, 0, 0, 0)) := by show _ = _; rw [hsum, hk]; rfl
  clear hsum hk HK2
  have hl := hr.out.1
  have hd : decide ((40 : Int) < n) = false := by simp; omega
  obtain ⟨i0, hi, hz0, hz1, hz2⟩ := info_parts info_rfill
  go_enter Tryd.func3, Tryd.ntmps3
  go_wp2_with fail
  refine (awake34_c w).mono ?_
  rintro e w1 ⟨rfl, hb1⟩
  go_wp2_with fail
  go_loopw [3, 4, 5] (fun s3 s4 _ wr => ∃ kk : Nat, kk ≤ n ∧ s4 = .int .i64 kk ∧ wr.ownsRow w.heap.size 27 6 s3 kk (flatOf Fill.cells (xs.take kk)) ∧ Below w.heap.size w wr) (fun _ s4 _ _ => n - (intOf s4).toNat)
  case atStart => exact ⟨0, Nat.zero_le _, rfl, by simpa [flatOf] using World.ownsRow_made w1 #[] 0 hb1.size (Nat.zero_le _) (by simp), hb1.alloc hb1.size _⟩
  case round =>
    obtain ⟨kk, hkk, rfl, hown, hbl⟩ := hrel
    by_cases hlt : kk < n
    · obtain ⟨b, off, rfl, hb, hrows⟩ := hr.out.2 (by omega)
      obtain ⟨x, hx⟩ : ∃ x, xs[kk]? = some x := ⟨_, List.getElem?_eq_getElem (by omega)⟩
      have r1 := rangeAt_below (hrows kk x hx) hbl hb
      have htk := Lib.hid (take_snoc xs kk x hx)
      have hszr := hbl.size
      clear hrows hx
      obtain ⟨ask, bid, seller, buyer, price, lots⟩ := x
      go_wp2_with (first
        | (refine wpList_load_mid rfl 26 _ rfl b (off + kk * 6) rfl [.int .i64 ask, .int .i64 bid, .int .i64 seller, .int .i64 buyer, .int .i64 price, .int .i64 lots] _ r1 Tryd.underlying26 rfl size_fill ?_)
        | (at_builtin; refine wpList_app1 rfl _ _ 24 rfl w.heap.size 27 i0 (.agg #[.int .i64 0, .int .i64 0, .int .i64 0, .int .i64 0, .int .i64 0, .int .i64 0]) 6 48 Tryd.underlying24 hi hz0 hz1 hz2 rfl (by decide) _ _ _ rfl (hown.alloc _) _ _ rfl ?ca0 ?ca1 ?ca2 ?ca3 ?ca4 ?ca5 ?_))
      case ca0 => simp
      case ca1 => rfl
      case ca2 => simp [Value.oneCell']
      case ca3 => unfold maxLen; omega
      case ca4 => omega
      case ca5 => simp; omega
      intro v' w4 hown' hg4 _
      have hbl4 := below_app (hbl.alloc hszr (.cells #[.int .i64 ask, .int .i64 bid, .int .i64 seller, .int .i64 buyer, .int .i64 price, .int .i64 lots] 26)) (by simp; omega) (Nat.le_refl _) (hown.alloc _) hg4
      clear hown hbl hg4 r1
      go_wp2_with fail
      go_roundw
      case rel => exact ⟨kk + 1, by omega, by go_num, by rw [htk.out, flatOf_append, flatOf_one]; exact hown', hbl4⟩
      case measure => simp [intOf]; omega
    · obtain rfl : kk = n := by omega
      have htk : xs.take kk = xs := List.take_of_length_le (by omega)
      rw [htk] at hown
      obtain ⟨A2, cap2, rfl, hc2, hrd2⟩ := own_rows Fill.k6 hown hl
      have hlo := hown.lt
      have HR2 := Lib.hid hrd2
      have hr3 : Hid (RdRows wr wr.heap.size Fill.cells 6 A kk xs) := (hr.out.below hbl (Nat.le_refl _)).mono hbl.size
      clear htk hown hrd2 hlo
      go_wp2_with fail
      refine (average_c A kk cap xs wr hA hr3 (by unfold maxLen; omega)).mono ?_
      rintro e w5 ⟨rfl, hb5⟩
      rw [HMEAN.out, HIS.out]
      have hbl5 := hbl.trans (hb5.mono hbl.size)
      have hr5 : Hid (RdRows w5 w5.heap.size Fill.cells 6 A2 kk xs) := (HR2.out.below hb5 (Nat.le_refl _)).mono hb5.size
      have hr5' : Hid (RdRows w5 w5.heap.size Fill.cells 6 A kk xs) := (hr3.out.below hb5 (Nat.le_refl _)).mono hb5.size
      clear hb5 HR2 hr3 hbl
      go_upto_region 12 with fail
      obtain ⟨W6, hW6⟩ : ∃ Z : World, Z = w5.alloc (.cells #[.int .i64 0, .int .i64 0, .int .i64 0] 29) := ⟨_, rfl⟩
      rw [← hW6]
      have hb6 : Below w5.heap.size w5 W6 := by rw [hW6]; exact below_grow w5 _
      have hm6 : Hid (W6.heap[w5.heap.size]? = some (.cells #[.int .i64 0, .int .i64 0, .int .i64 0] 29 (0, 0))) := by rw [hW6]; exact alloc_new' rfl
      have hbl6 := hbl5.trans (hb6.mono hbl5.size)
      have hr6 : Hid (RdRows W6 W6.heap.size Fill.cells 6 A2 kk xs) := (hr5.out.below hb6 (Nat.le_refl _)).mono hb6.size
      have hr6' : Hid (RdRows W6 W6.heap.size Fill.cells 6 A kk xs) := (hr5'.out.below hb6 (Nat.le_refl _)).mono hb6.size
      have hgl6 : w5.heap.size < W6.heap.size := by rw [hW6]; simp
      clear hW6 hb6 hr5 hr5' hbl5
      go_wp2_with fail
      refine (range_c A kk cap xs W6 hA hr6' (by unfold maxLen; omega)).mono ?_
      rintro e w7 ⟨rfl, hb7⟩
      rw [HRANGE.out]
      have hm7 : Hid (w7.heap[w5.heap.size]? = some (.cells #[.int .i64 0, .int .i64 0, .int .i64 0] 29 (0, 0))) := (hb7.block _ hgl6).trans hm6.out
      have hbl7 := hbl6.trans (hb7.mono hbl6.size)
      have hr7 : Hid (RdRows w7 w7.heap.size Fill.cells 6 A2 kk xs) := (hr6.out.below hb7 (Nat.le_refl _)).mono hb7.size
      have hgl7 : w5.heap.size < w7.heap.size := Nat.lt_of_lt_of_le hgl6 hb7.size
      clear hb7 hm6 hr6 hr6' hbl6
      go_wp2_with fail
      refine (rfills_c A2 kk cap2 xs w7 hr7 (by omega)).mono ?_
      rintro e w8 ⟨rfl, hb8⟩
      rw [HALL.out]
      have hm8 : w8.heap[w5.heap.size]? = some (.cells #[.int .i64 0, .int .i64 0, .int .i64 0] 29 (0, 0)) := (hb8.block _ hgl7).trans hm7.out
      have hbl8 := hbl7.trans (hb8.mono hbl7.size)
      have hr8 : Hid (RdRows w8 w8.heap.size Fill.cells 6 A2 kk xs) := (hr7.out.below hb8 (Nat.le_refl _)).mono hb8.size
      have hgl8 : w5.heap.size < w8.heap.size := Nat.lt_of_lt_of_le hgl7 hb8.size
      clear hb8 hm7 hr7 hbl7
      go_wp2_with fail
      refine (rsum_c A2 kk cap2 xs w8 hr8 (by omega) HOK).mono ?_
      rintro e w9 ⟨rfl, hb9⟩
      rw [HSUM.out]
      have hm9 : w9.heap[w5.heap.size]? = some (.cells #[.int .i64 0, .int .i64 0, .int .i64 0] 29 (0, 0)) := (hb9.block _ hgl8).trans hm8
      have hbl9 := hbl8.trans (hb9.mono hbl8.size)
      clear hb9 hm8 hr8 hbl8
      have m0 := cell_of_row w9 w5.heap.size 0 _ _ _ hm9
      have m1 := cell_of_row w9 w5.heap.size 1 _ _ _ hm9
      have m2 := cell_of_row w9 w5.heap.size 2 _ _ _ hm9
      simp only [List.getElem?_toArray, List.getElem?_cons_zero, List.getElem?_cons_succ] at m0 m1 m2
      have HME := fun w => mean_eql 0 0 0 0 0 0 w
      have HMG := mean_guard .eql
      simp at HME
      clear hm9
      go_wp2_with fail
      refine wp_region_noPanic ?_
      refine wp_region_held_drew (S := (fun w' => w'.cell? ⟨w5.heap.size, 0, none⟩ = some (.int .i64 0) ∧ w'.cell? ⟨w5.heap.size, 1, none⟩ = some (.int .i64 0) ∧ w'.cell? ⟨w5.heap.size, 2, none⟩ = some (.int .i64 0))) (by kernel_rfl) ⟨m0, m1, m2⟩ (fun hHeld => ?_)
      refine wpAnyH_take (i := 0) (v := ?_) rfl (by kernel_rfl) (by kernel_rfl) (by kernel_rfl) (fun _ _ _ h => h) (Or.inl ⟨by rfl, ?_⟩) hHeld ?_
      rotate_left
      focus
        intro w hSw
        clear hSw
        go_simp
        try with_reducible rfl
      try simp only [Act.put, List.getElem_toArray, List.getElem_cons_zero, List.getElem_cons_succ, List.setIfInBounds_toArray, List.set_cons_zero, List.set_cons_succ]
      refine wpAnyH_take (i := 1) (v := ?_) rfl (by kernel_rfl) (by kernel_rfl) (by kernel_rfl) (fun _ _ _ h => h) (Or.inl ⟨by rfl, ?_⟩) hHeld ?_
      rotate_left
      focus
        intro w hSw
        clear hSw
        go_simp
        try with_reducible rfl
      try simp only [Act.put, List.getElem_toArray, List.getElem_cons_zero, List.getElem_cons_succ, List.setIfInBounds_toArray, List.set_cons_zero, List.set_cons_succ]
      refine wpAnyH_take (i := 2) (v := ?_) rfl (by kernel_rfl) (by kernel_rfl) (by kernel_rfl) (fun _ _ _ h => h) (Or.inl ⟨by rfl, ?_⟩) hHeld ?_
      rotate_left
      focus
        intro w hSw
        clear hSw
        go_simp
        try with_reducible rfl
      try simp only [Act.put, List.getElem_toArray, List.getElem_cons_zero, List.getElem_cons_succ, List.setIfInBounds_toArray, List.set_cons_zero, List.set_cons_succ]
      refine wpAnyH_take (i := 3) (v := ?_) rfl (by kernel_rfl) (by kernel_rfl) (by kernel_rfl) (fun _ _ _ h => h) (Or.inl ⟨by rfl, ?_⟩) hHeld ?_
      rotate_left
      focus
        intro w hSw
        (try dsimp only at hSw)
        go_simp
        try with_reducible rfl
      try simp only [Act.put, List.getElem_toArray, List.getElem_cons_zero, List.getElem_cons_succ, List.setIfInBounds_toArray, List.set_cons_zero, List.set_cons_succ]
      refine wpAnyH_take (i := 4) (v := ?_) rfl (by kernel_rfl) (by kernel_rfl) (by kernel_rfl) (fun _ _ _ h => h) (Or.inl ⟨by rfl, ?_⟩) hHeld ?_
      rotate_left
      focus
        intro w hSw
        clear hSw
        go_simp
        try with_reducible rfl
      try simp only [Act.put, List.getElem_toArray, List.getElem_cons_zero, List.getElem_cons_succ, List.setIfInBounds_toArray, List.set_cons_zero, List.set_cons_succ]
      refine wpAnyH_take (i := 5) (v := ?_) rfl (by kernel_rfl) (by kernel_rfl) (by kernel_rfl) (fun _ _ _ h => h) (Or.inl ⟨by rfl, ?_⟩) hHeld ?_
      rotate_left
      focus
        intro w hSw
        clear hSw
        go_simp
        try with_reducible rfl
      try simp only [Act.put, List.getElem_toArray, List.getElem_cons_zero, List.getElem_cons_succ, List.setIfInBounds_toArray, List.set_cons_zero, List.set_cons_succ]
      refine wpAnyH_take (i := 6) (v := ?_) rfl (by kernel_rfl) (by kernel_rfl) (by kernel_rfl) (fun _ _ _ h => h) (Or.inl ⟨by rfl, ?_⟩) hHeld ?_
      rotate_left
      focus
        intro w hSw
        clear hSw
        go_simp
        try with_reducible rfl
      try simp only [Act.put, List.getElem_toArray, List.getElem_cons_zero, List.getElem_cons_succ, List.setIfInBounds_toArray, List.set_cons_zero, List.set_cons_succ]
      refine wpAnyH_take (i := 7) (v := ?_) rfl (by kernel_rfl) (by kernel_rfl) (by kernel_rfl) (fun _ _ _ h => h) (Or.inl ⟨by rfl, ?_⟩) hHeld ?_
      rotate_left
      focus
        intro w hSw
        clear hSw
        go_simp
        try with_reducible rfl
      try simp only [Act.put, List.getElem_toArray, List.getElem_cons_zero, List.getElem_cons_succ, List.setIfInBounds_toArray, List.set_cons_zero, List.set_cons_succ]
      refine wpAnyH_take (i := 8) (v := undef) rfl (by kernel_rfl) (by kernel_rfl) (by kernel_rfl) (fun _ _ _ h => h) (Or.inr ⟨by rfl, rfl⟩) hHeld ?_
      try simp only [Act.put, List.getElem_toArray, List.getElem_cons_zero, List.getElem_cons_succ, List.setIfInBounds_toArray, List.set_cons_zero, List.set_cons_succ]
      refine wpAnyH_take (i := 9) (v := undef) rfl (by kernel_rfl) (by kernel_rfl) (by kernel_rfl) (fun _ _ _ h => h) (Or.inr ⟨by rfl, rfl⟩) hHeld ?_
      try simp only [Act.put, List.getElem_toArray, List.getElem_cons_zero, List.getElem_cons_succ, List.setIfInBounds_toArray, List.set_cons_zero, List.set_cons_succ]
      refine wpAnyH_take (i := 10) (v := undef) rfl (by kernel_rfl) (by kernel_rfl) (by kernel_rfl) (fun _ _ _ h => h) (Or.inr ⟨by rfl, rfl⟩) hHeld ?_
      try simp only [Act.put, List.getElem_toArray, List.getElem_cons_zero, List.getElem_cons_succ, List.setIfInBounds_toArray, List.set_cons_zero, List.set_cons_succ]
      refine wpAnyH_take (i := 11) (v := undef) rfl (by kernel_rfl) (by kernel_rfl) (by kernel_rfl) (fun _ _ _ h => h) (Or.inr ⟨by rfl, rfl⟩) hHeld ?_
      try simp only [Act.put, List.getElem_toArray, List.getElem_cons_zero, List.getElem_cons_succ, List.setIfInBounds_toArray, List.set_cons_zero, List.set_cons_succ]
      refine wpAnyH_take (i := 12) (v := undef) rfl (by kernel_rfl) (by kernel_rfl) (by kernel_rfl) (fun _ _ _ h => h) (Or.inr ⟨by rfl, rfl⟩) hHeld ?_
      try simp only [Act.put, List.getElem_toArray, List.getElem_cons_zero, List.getElem_cons_succ, List.setIfInBounds_toArray, List.set_cons_zero, List.set_cons_succ]
      refine wpAnyH_take (i := 13) (v := undef) rfl (by kernel_rfl) (by kernel_rfl) (by kernel_rfl) (fun _ _ _ h => h) (Or.inr ⟨by rfl, rfl⟩) hHeld ?_
      try simp only [Act.put, List.getElem_toArray, List.getElem_cons_zero, List.getElem_cons_succ, List.setIfInBounds_toArray, List.set_cons_zero, List.set_cons_succ]
      refine wpAnyH_take (i := 14) (v := undef) rfl (by kernel_rfl) (by kernel_rfl) (by kernel_rfl) (fun _ _ _ h => h) (Or.inr ⟨by rfl, rfl⟩) hHeld ?_
      try simp only [Act.put, List.getElem_toArray, List.getElem_cons_zero, List.getElem_cons_succ, List.setIfInBounds_toArray, List.set_cons_zero, List.set_cons_succ]
      refine wpAnyH_take (i := 15) (v := undef) rfl (by kernel_rfl) (by kernel_rfl) (by kernel_rfl) (fun _ _ _ h => h) (Or.inr ⟨by rfl, rfl⟩) hHeld ?_
      try simp only [Act.put, List.getElem_toArray, List.getElem_cons_zero, List.getElem_cons_succ, List.setIfInBounds_toArray, List.set_cons_zero, List.set_cons_succ]
      refine wpAnyH_take (i := 16) (v := undef) rfl (by kernel_rfl) (by kernel_rfl) (by kernel_rfl) (fun _ _ _ h => h) (Or.inr ⟨by rfl, rfl⟩) hHeld ?_
      try simp only [Act.put, List.getElem_toArray, List.getElem_cons_zero, List.getElem_cons_succ, List.setIfInBounds_toArray, List.set_cons_zero, List.set_cons_succ]
      refine wpAnyH_take (i := 17) (v := undef) rfl (by kernel_rfl) (by kernel_rfl) (by kernel_rfl) (fun _ _ _ h => h) (Or.inr ⟨by rfl, rfl⟩) hHeld ?_
      try simp only [Act.put, List.getElem_toArray, List.getElem_cons_zero, List.getElem_cons_succ, List.setIfInBounds_toArray, List.set_cons_zero, List.set_cons_succ]
      refine wpAnyH_take (i := 18) (v := undef) rfl (by kernel_rfl) (by kernel_rfl) (by kernel_rfl) (fun _ _ _ h => h) (Or.inr ⟨by rfl, rfl⟩) hHeld ?_
      try simp only [Act.put, List.getElem_toArray, List.getElem_cons_zero, List.getElem_cons_succ, List.setIfInBounds_toArray, List.set_cons_zero, List.set_cons_succ]
      refine wpAnyH_take (i := 19) (v := undef) rfl (by kernel_rfl) (by kernel_rfl) (by kernel_rfl) (fun _ _ _ h => h) (Or.inr ⟨by rfl, rfl⟩) hHeld ?_
      try simp only [Act.put, List.getElem_toArray, List.getElem_cons_zero, List.getElem_cons_succ, List.setIfInBounds_toArray, List.set_cons_zero, List.set_cons_succ]
      refine wpAnyH_take (i := 20) (v := undef) rfl (by kernel_rfl) (by kernel_rfl) (by kernel_rfl) (fun _ _ _ h => h) (Or.inr ⟨by rfl, rfl⟩) hHeld ?_
      try simp only [Act.put, List.getElem_toArray, List.getElem_cons_zero, List.getElem_cons_succ, List.setIfInBounds_toArray, List.set_cons_zero, List.set_cons_succ]
      refine wpAnyH_take (i := 21) (v := undef) rfl (by kernel_rfl) (by kernel_rfl) (by kernel_rfl) (fun _ _ _ h => h) (Or.inr ⟨by rfl, rfl⟩) hHeld ?_
      try simp only [Act.put, List.getElem_toArray, List.getElem_cons_zero, List.getElem_cons_succ, List.setIfInBounds_toArray, List.set_cons_zero, List.set_cons_succ]
      refine wpAnyH_take (i := 22) (v := undef) rfl (by kernel_rfl) (by kernel_rfl) (by kernel_rfl) (fun _ _ _ h => h) (Or.inr ⟨by rfl, rfl⟩) hHeld ?_
      try simp only [Act.put, List.getElem_toArray, List.getElem_cons_zero, List.getElem_cons_succ, List.setIfInBounds_toArray, List.set_cons_zero, List.set_cons_succ]
      refine wpAnyH_take (i := 23) (v := ?_) rfl (by kernel_rfl) (by kernel_rfl) (by kernel_rfl) (fun _ _ _ h => h) (Or.inl ⟨by rfl, ?_⟩) hHeld ?_
      rotate_left
      focus
        intro w hSw
        clear hSw
        go_simp
        try with_reducible rfl
      try simp only [Act.put, List.getElem_toArray, List.getElem_cons_zero, List.getElem_cons_succ, List.setIfInBounds_toArray, List.set_cons_zero, List.set_cons_succ]
      refine wpAnyH_take (i := 24) (v := ?_) rfl (by kernel_rfl) (by kernel_rfl) (by kernel_rfl) (fun _ _ _ h => h) (Or.inl ⟨by rfl, ?_⟩) hHeld ?_
      rotate_left
      focus
        intro w hSw
        clear hSw
        go_simp
        try with_reducible rfl
      try simp only [Act.put, List.getElem_toArray, List.getElem_cons_zero, List.getElem_cons_succ, List.setIfInBounds_toArray, List.set_cons_zero, List.set_cons_succ]
      refine wpAnyH_done (by kernel_rfl) ?_ _
      refine NoPanic.normal ?_
      go_wp2_with fail
      go_ret
      exact ⟨rfl, below_drew hbl9⟩
set_option maxRecDepth 100000 in
set_option maxHeartbeats 2000000 in
theorem depthFills_some (A : Option Addr) (n cap : Nat) (xs : List Fill) (w : World) (hA : A = Option.none → n = 0) (hr : Hid (RdRows w w.heap.size Fill.cells 6 A n xs)) (hcap : n ≤ cap) (hn : n ≤ 40) (hall : allF xs = true) (hk : keptF xs ≠ []) :
    Calls Tryd.prog 3 #[.slice A n cap] w fun e w' => e = .returned (.bool true) ∧ Below w.heap.size w w' := by
  have hg : goodF xs = true := by
    unfold allF at hall
    unfold goodF
    rw [hall, Bool.and_true]
    have := hr.out.1
    simp; omega
  have hok := (okF_of_good hg).2
  have hkf : keptF xs = xs.filter (fun f => !Fill.none f) := by simp [keptF, hg]
  have hsum := sum_spec xs hok
  rw [← hkf] at hsum
  have HK2 := (okF_kept (xs := xs)).2
  have HOK : Hid (∀ f ∈ xs, OkF f) := hok
  have HALL := Lib.hid hall
  clear hall hg hkf hok
  have hpos := sum_pos HK2 hk
  have HMEAN : Hid (meanF xs = [.int .i64 ((worthF (keptF xs)).tdiv (lotsF (keptF xs))), .int .i64 ((worthF (keptF xs)).tmod (lotsF (keptF xs))), .int .i64 (lotsF (keptF xs))]) := by show _ = _; rw [meanF, if_neg hk]
  have HIS : Hid (isF xs = true) := by show _ = _; simp [isF, hk]
  have hlen1 := (okF_kept (xs := xs)).1
  obtain ⟨q1, q2⟩ := sumTo_range costF 1000000000 (keptF xs) (fun f hf => costF_range (HK2 f hf).1) (keptF xs).length (Nat.le_refl _)
  rw [sumTo_all] at q1 q2
  change 0 ≤ worthF (keptF xs) at q1
  change worthF (keptF xs) ≤ _ at q2
  obtain ⟨ra, rb, hrab⟩ : ∃ ra rb, rangeF (keptF xs) = (ra, rb) := ⟨_, _, rfl⟩
  have HRANGE : Hid (rangeF (keptF xs) = (ra, rb)) := hrab
  have HSUM : Hid (sumF xs = (worthF (keptF xs), lotsF (keptF xs), ra, rb)) := by show _ = _; rw [hsum, hrab]
  generalize worthF (keptF xs) = wf at HMEAN HSUM q1 q2
  generalize lotsF (keptF xs) = ll at HMEAN HSUM hpos
  obtain ⟨pp, hpp⟩ : ∃ z, z = wf.tdiv ll := ⟨_, rfl⟩
  obtain ⟨rr, hrr⟩ : ∃ z, z = wf.tmod ll := ⟨_, rfl⟩
  rw [← hpp, ← hrr] at HMEAN
  have hdv : Hid (IntKind.i64.wrap (wf.tdiv ll) = pp) := by
    show _ = _
    rw [hpp, Int.tdiv_eq_ediv_of_nonneg q1, IntKind.wrap_i64]
    have h1 := Int.ediv_nonneg q1 (Int.le_of_lt hpos)
    have h2 := Int.ediv_le_self ll q1
    omega
  have hrv : Hid (wf.tmod ll = rr) := hrr.symm
  have hpos' := Lib.hid hpos
  clear hsum hk HK2 hrab q1 q2 hpp hrr hlen1 hpos
  have hl := hr.out.1
  have hd : decide ((40 : Int) < n) = false := by simp; omega
  obtain ⟨i0, hi, hz0, hz1, hz2⟩ := info_parts info_rfill
  go_enter Tryd.func3, Tryd.ntmps3
  go_wp2_with fail
  refine (awake34_c w).mono ?_
  rintro e w1 ⟨rfl, hb1⟩
  go_wp2_with fail
  go_loopw [3, 4, 5] (fun s3 s4 _ wr => ∃ kk : Nat, kk ≤ n ∧ s4 = .int .i64 kk ∧ wr.ownsRow w.heap.size 27 6 s3 kk (flatOf Fill.cells (xs.take kk)) ∧ Below w.heap.size w wr) (fun _ s4 _ _ => n - (intOf s4).toNat)
  case atStart => exact ⟨0, Nat.zero_le _, rfl, by simpa [flatOf] using World.ownsRow_made w1 #[] 0 hb1.size (Nat.zero_le _) (by simp), hb1.alloc hb1.size _⟩
  case round =>
    obtain ⟨kk, hkk, rfl, hown, hbl⟩ := hrel
    by_cases hlt : kk < n
    · obtain ⟨b, off, rfl, hb, hrows⟩ := hr.out.2 (by omega)
      obtain ⟨x, hx⟩ : ∃ x, xs[kk]? = some x := ⟨_, List.getElem?_eq_getElem (by omega)⟩
      have r1 := rangeAt_below (hrows kk x hx) hbl hb
      have htk := Lib.hid (take_snoc xs kk x hx)
      have hszr := hbl.size
      clear hrows hx
      obtain ⟨ask, bid, seller, buyer, price, lots⟩ := x
      go_wp2_with (first
        | (refine wpList_load_mid rfl 26 _ rfl b (off + kk * 6) rfl [.int .i64 ask, .int .i64 bid, .int .i64 seller, .int .i64 buyer, .int .i64 price, .int .i64 lots] _ r1 Tryd.underlying26 rfl size_fill ?_)
        | (at_builtin; refine wpList_app1 rfl _ _ 24 rfl w.heap.size 27 i0 (.agg #[.int .i64 0, .int .i64 0, .int .i64 0, .int .i64 0, .int .i64 0, .int .i64 0]) 6 48 Tryd.underlying24 hi hz0 hz1 hz2 rfl (by decide) _ _ _ rfl (hown.alloc _) _ _ rfl ?ca0 ?ca1 ?ca2 ?ca3 ?ca4 ?ca5 ?_))
      case ca0 => simp
      case ca1 => rfl
      case ca2 => simp [Value.oneCell']
      case ca3 => unfold maxLen; omega
      case ca4 => omega
      case ca5 => simp; omega
      intro v' w4 hown' hg4 _
      have hbl4 := below_app (hbl.alloc hszr (.cells #[.int .i64 ask, .int .i64 bid, .int .i64 seller, .int .i64 buyer, .int .i64 price, .int .i64 lots] 26)) (by simp; omega) (Nat.le_refl _) (hown.alloc _) hg4
      clear hown hbl hg4 r1
      go_wp2_with fail
      go_roundw
      case rel => exact ⟨kk + 1, by omega, by go_num, by rw [htk.out, flatOf_append, flatOf_one]; exact hown', hbl4⟩
      case measure => simp [intOf]; omega
    · obtain rfl : kk = n := by omega
      have htk : xs.take kk = xs := List.take_of_length_le (by omega)
      rw [htk] at hown
      obtain ⟨A2, cap2, rfl, hc2, hrd2⟩ := own_rows Fill.k6 hown hl
      have hlo := hown.lt
      have HR2 := Lib.hid hrd2
      have hr3 : Hid (RdRows wr wr.heap.size Fill.cells 6 A kk xs) := (hr.out.below hbl (Nat.le_refl _)).mono hbl.size
      clear htk hown hrd2 hlo
      go_wp2_with fail
      refine (average_c A kk cap xs wr hA hr3 (by unfold maxLen; omega)).mono ?_
      rintro e w5 ⟨rfl, hb5⟩
      rw [HMEAN.out, HIS.out]
      have hbl5 := hbl.trans (hb5.mono hbl.size)
      have hr5 : Hid (RdRows w5 w5.heap.size Fill.cells 6 A2 kk xs) := (HR2.out.below hb5 (Nat.le_refl _)).mono hb5.size
      have hr5' : Hid (RdRows w5 w5.heap.size Fill.cells 6 A kk xs) := (hr3.out.below hb5 (Nat.le_refl _)).mono hb5.size
      clear hb5 HR2 hr3 hbl
      go_upto_region 12 with fail
      obtain ⟨W6, hW6⟩ : ∃ Z : World, Z = w5.alloc (.cells #[.int .i64 pp, .int .i64 rr, .int .i64 ll] 29) := ⟨_, rfl⟩
      rw [← hW6]
      have hb6 : Below w5.heap.size w5 W6 := by rw [hW6]; exact below_grow w5 _
      have hm6 : Hid (W6.heap[w5.heap.size]? = some (.cells #[.int .i64 pp, .int .i64 rr, .int .i64 ll] 29 (0, 0))) := by rw [hW6]; exact alloc_new' rfl
      have hbl6 := hbl5.trans (hb6.mono hbl5.size)
      have hr6 : Hid (RdRows W6 W6.heap.size Fill.cells 6 A2 kk xs) := (hr5.out.below hb6 (Nat.le_refl _)).mono hb6.size
      have hr6' : Hid (RdRows W6 W6.heap.size Fill.cells 6 A kk xs) := (hr5'.out.below hb6 (Nat.le_refl _)).mono hb6.size
      have hgl6 : w5.heap.size < W6.heap.size := by rw [hW6]; simp
      clear hW6 hb6 hr5 hr5' hbl5
      go_wp2_with fail
      refine (range_c A kk cap xs W6 hA hr6' (by unfold maxLen; omega)).mono ?_
      rintro e w7 ⟨rfl, hb7⟩
      rw [HRANGE.out]
      have hm7 : Hid (w7.heap[w5.heap.size]? = some (.cells #[.int .i64 pp, .int .i64 rr, .int .i64 ll] 29 (0, 0))) := (hb7.block _ hgl6).trans hm6.out
      have hbl7 := hbl6.trans (hb7.mono hbl6.size)
      have hr7 : Hid (RdRows w7 w7.heap.size Fill.cells 6 A2 kk xs) := (hr6.out.below hb7 (Nat.le_refl _)).mono hb7.size
      have hgl7 : w5.heap.size < w7.heap.size := Nat.lt_of_lt_of_le hgl6 hb7.size
      clear hb7 hm6 hr6 hr6' hbl6
      go_wp2_with fail
      refine (rfills_c A2 kk cap2 xs w7 hr7 (by omega)).mono ?_
      rintro e w8 ⟨rfl, hb8⟩
      rw [HALL.out]
      have hm8 : w8.heap[w5.heap.size]? = some (.cells #[.int .i64 pp, .int .i64 rr, .int .i64 ll] 29 (0, 0)) := (hb8.block _ hgl7).trans hm7.out
      have hbl8 := hbl7.trans (hb8.mono hbl7.size)
      have hr8 : Hid (RdRows w8 w8.heap.size Fill.cells 6 A2 kk xs) := (hr7.out.below hb8 (Nat.le_refl _)).mono hb8.size
      have hgl8 : w5.heap.size < w8.heap.size := Nat.lt_of_lt_of_le hgl7 hb8.size
      clear hb8 hm7 hr7 hbl7
      go_wp2_with fail
      refine (rsum_c A2 kk cap2 xs w8 hr8 (by omega) HOK).mono ?_
      rintro e w9 ⟨rfl, hb9⟩
      rw [HSUM.out]
      have hm9 : w9.heap[w5.heap.size]? = some (.cells #[.int .i64 pp, .int .i64 rr, .int .i64 ll] 29 (0, 0)) := (hb9.block _ hgl8).trans hm8
      have hbl9 := hbl8.trans (hb9.mono hbl8.size)
      clear hb9 hm8 hr8 hbl8
      have m0 := cell_of_row w9 w5.heap.size 0 _ _ _ hm9
      have m1 := cell_of_row w9 w5.heap.size 1 _ _ _ hm9
      have m2 := cell_of_row w9 w5.heap.size 2 _ _ _ hm9
      simp only [List.getElem?_toArray, List.getElem?_cons_zero, List.getElem?_cons_succ] at m0 m1 m2
      have hdl : decide (0 < ll) = true := by have := hpos'.out; simpa using this
      have hl1 : (if ll < 1 then 1 else ll) = ll := by have := hpos'.out; rw [if_neg (by omega)]
      have hl0 : ¬ ll = 0 := by have := hpos'.out; omega
      have hdv1 := hdv.out
      have hrv1 := hrv.out
      have HME := fun w => mean_eql pp rr ll pp rr ll w
      have HMG := mean_guard .eql
      simp at HME
      clear hm9
      go_wp2_with fail
      refine wp_region_noPanic ?_
      refine wp_region_held_drew (S := (fun w' => w'.cell? ⟨w5.heap.size, 0, none⟩ = some (.int .i64 pp) ∧ w'.cell? ⟨w5.heap.size, 1, none⟩ = some (.int .i64 rr) ∧ w'.cell? ⟨w5.heap.size, 2, none⟩ = some (.int .i64 ll))) (by kernel_rfl) ⟨m0, m1, m2⟩ (fun hHeld => ?_)
      refine wpAnyH_take (i := 0) (v := ?_) rfl (by kernel_rfl) (by kernel_rfl) (by kernel_rfl) (fun _ _ _ h => h) (Or.inl ⟨by rfl, ?_⟩) hHeld ?_
      rotate_left
      focus
        intro w hSw
        clear hSw
        go_simp
        try with_reducible rfl
      try simp only [Act.put, List.getElem_toArray, List.getElem_cons_zero, List.getElem_cons_succ, List.setIfInBounds_toArray, List.set_cons_zero, List.set_cons_succ]
      refine wpAnyH_take (i := 1) (v := ?_) rfl (by kernel_rfl) (by kernel_rfl) (by kernel_rfl) (fun _ _ _ h => h) (Or.inl ⟨by rfl, ?_⟩) hHeld ?_
      rotate_left
      focus
        intro w hSw
        clear hSw
        go_simp
        try with_reducible rfl
      try simp only [Act.put, List.getElem_toArray, List.getElem_cons_zero, List.getElem_cons_succ, List.setIfInBounds_toArray, List.set_cons_zero, List.set_cons_succ]
      refine wpAnyH_take (i := 2) (v := ?_) rfl (by kernel_rfl) (by kernel_rfl) (by kernel_rfl) (fun _ _ _ h => h) (Or.inl ⟨by rfl, ?_⟩) hHeld ?_
      rotate_left
      focus
        intro w hSw
        clear hSw
        go_simp
        try with_reducible rfl
      try simp only [Act.put, List.getElem_toArray, List.getElem_cons_zero, List.getElem_cons_succ, List.setIfInBounds_toArray, List.set_cons_zero, List.set_cons_succ]
      refine wpAnyH_take (i := 3) (v := undef) rfl (by kernel_rfl) (by kernel_rfl) (by kernel_rfl) (fun _ _ _ h => h) (Or.inr ⟨by rfl, rfl⟩) hHeld ?_
      try simp only [Act.put, List.getElem_toArray, List.getElem_cons_zero, List.getElem_cons_succ, List.setIfInBounds_toArray, List.set_cons_zero, List.set_cons_succ]
      refine wpAnyH_take (i := 4) (v := undef) rfl (by kernel_rfl) (by kernel_rfl) (by kernel_rfl) (fun _ _ _ h => h) (Or.inr ⟨by rfl, rfl⟩) hHeld ?_
      try simp only [Act.put, List.getElem_toArray, List.getElem_cons_zero, List.getElem_cons_succ, List.setIfInBounds_toArray, List.set_cons_zero, List.set_cons_succ]
      refine wpAnyH_take (i := 5) (v := undef) rfl (by kernel_rfl) (by kernel_rfl) (by kernel_rfl) (fun _ _ _ h => h) (Or.inr ⟨by rfl, rfl⟩) hHeld ?_
      try simp only [Act.put, List.getElem_toArray, List.getElem_cons_zero, List.getElem_cons_succ, List.setIfInBounds_toArray, List.set_cons_zero, List.set_cons_succ]
      refine wpAnyH_take (i := 6) (v := ?_) rfl (by kernel_rfl) (by kernel_rfl) (by kernel_rfl) (fun _ _ _ h => h) (Or.inl ⟨by rfl, ?_⟩) hHeld ?_
      rotate_left
      focus
        intro w hSw
        clear hSw
        go_simp
        try with_reducible rfl
      try simp only [Act.put, List.getElem_toArray, List.getElem_cons_zero, List.getElem_cons_succ, List.setIfInBounds_toArray, List.set_cons_zero, List.set_cons_succ]
      refine wpAnyH_take (i := 7) (v := ?_) rfl (by kernel_rfl) (by kernel_rfl) (by kernel_rfl) (fun _ _ _ h => h) (Or.inl ⟨by rfl, ?_⟩) hHeld ?_
      rotate_left
      focus
        intro w hSw
        clear hSw
        go_simp
        try with_reducible rfl
      try simp only [Act.put, List.getElem_toArray, List.getElem_cons_zero, List.getElem_cons_succ, List.setIfInBounds_toArray, List.set_cons_zero, List.set_cons_succ]
      refine wpAnyH_take (i := 8) (v := ?_) rfl (by kernel_rfl) (by kernel_rfl) (by kernel_rfl) (fun _ _ _ h => h) (Or.inl ⟨by rfl, ?_⟩) hHeld ?_
      rotate_left
      focus
        intro w hSw
        clear hSw
        go_simp
        try with_reducible rfl
      try simp only [Act.put, List.getElem_toArray, List.getElem_cons_zero, List.getElem_cons_succ, List.setIfInBounds_toArray, List.set_cons_zero, List.set_cons_succ]
      refine wpAnyH_take (i := 9) (v := ?_) rfl (by kernel_rfl) (by kernel_rfl) (by kernel_rfl) (fun _ _ _ h => h) (Or.inl ⟨by rfl, ?_⟩) hHeld ?_
      rotate_left
      focus
        intro w hSw
        clear hSw
        go_simp
        try with_reducible rfl
      try simp only [Act.put, List.getElem_toArray, List.getElem_cons_zero, List.getElem_cons_succ, List.setIfInBounds_toArray, List.set_cons_zero, List.set_cons_succ]
      refine wpAnyH_take (i := 10) (v := ?_) rfl (by kernel_rfl) (by kernel_rfl) (by kernel_rfl) (fun _ _ _ h => h) (Or.inl ⟨by rfl, ?_⟩) hHeld ?_
      rotate_left
      focus
        intro w hSw
        (try dsimp only at hSw)
        go_simp
        try with_reducible rfl
      try simp only [Act.put, List.getElem_toArray, List.getElem_cons_zero, List.getElem_cons_succ, List.setIfInBounds_toArray, List.set_cons_zero, List.set_cons_succ]
      refine wpAnyH_take (i := 11) (v := ?_) rfl (by kernel_rfl) (by kernel_rfl) (by kernel_rfl) (fun _ _ _ h => h) (Or.inl ⟨by rfl, ?_⟩) hHeld ?_
      rotate_left
      focus
        intro w hSw
        clear hSw
        go_simp
        try with_reducible rfl
      try simp only [Act.put, List.getElem_toArray, List.getElem_cons_zero, List.getElem_cons_succ, List.setIfInBounds_toArray, List.set_cons_zero, List.set_cons_succ]
      refine wpAnyH_take (i := 12) (v := ?_) rfl (by kernel_rfl) (by kernel_rfl) (by kernel_rfl) (fun _ _ _ h => h) (Or.inl ⟨by rfl, ?_⟩) hHeld ?_
      rotate_left
      focus
        intro w hSw
        clear hSw
        go_simp
        try with_reducible rfl
      try simp only [Act.put, List.getElem_toArray, List.getElem_cons_zero, List.getElem_cons_succ, List.setIfInBounds_toArray, List.set_cons_zero, List.set_cons_succ]
      refine wpAnyH_take (i := 13) (v := ?_) rfl (by kernel_rfl) (by kernel_rfl) (by kernel_rfl) (fun _ _ _ h => h) (Or.inl ⟨by rfl, ?_⟩) hHeld ?_
      rotate_left
      focus
        intro w hSw
        clear hSw
        go_simp
        try with_reducible rfl
      try simp only [Act.put, List.getElem_toArray, List.getElem_cons_zero, List.getElem_cons_succ, List.setIfInBounds_toArray, List.set_cons_zero, List.set_cons_succ]
      refine wpAnyH_take (i := 14) (v := ?_) rfl (by kernel_rfl) (by kernel_rfl) (by kernel_rfl) (fun _ _ _ h => h) (Or.inl ⟨by rfl, ?_⟩) hHeld ?_
      rotate_left
      focus
        intro w hSw
        clear hSw
        go_simp
        try with_reducible rfl
      try simp only [Act.put, List.getElem_toArray, List.getElem_cons_zero, List.getElem_cons_succ, List.setIfInBounds_toArray, List.set_cons_zero, List.set_cons_succ]
      refine wpAnyH_take (i := 15) (v := ?_) rfl (by kernel_rfl) (by kernel_rfl) (by kernel_rfl) (fun _ _ _ h => h) (Or.inl ⟨by rfl, ?_⟩) hHeld ?_
      rotate_left
      focus
        intro w hSw
        clear hSw
        go_simp
        try with_reducible rfl
      try simp only [Act.put, List.getElem_toArray, List.getElem_cons_zero, List.getElem_cons_succ, List.setIfInBounds_toArray, List.set_cons_zero, List.set_cons_succ]
      refine wpAnyH_take (i := 16) (v := ?_) rfl (by kernel_rfl) (by kernel_rfl) (by kernel_rfl) (fun _ _ _ h => h) (Or.inl ⟨by rfl, ?_⟩) hHeld ?_
      rotate_left
      focus
        intro w hSw
        clear hSw
        go_simp
        try with_reducible rfl
      try simp only [Act.put, List.getElem_toArray, List.getElem_cons_zero, List.getElem_cons_succ, List.setIfInBounds_toArray, List.set_cons_zero, List.set_cons_succ]
      refine wpAnyH_take (i := 17) (v := ?_) rfl (by kernel_rfl) (by kernel_rfl) (by kernel_rfl) (fun _ _ _ h => h) (Or.inl ⟨by rfl, ?_⟩) hHeld ?_
      rotate_left
      focus
        intro w hSw
        clear hSw
        go_simp
        try with_reducible rfl
      try simp only [Act.put, List.getElem_toArray, List.getElem_cons_zero, List.getElem_cons_succ, List.setIfInBounds_toArray, List.set_cons_zero, List.set_cons_succ]
      refine wpAnyH_take (i := 18) (v := ?_) rfl (by kernel_rfl) (by kernel_rfl) (by kernel_rfl) (fun _ _ _ h => h) (Or.inl ⟨by rfl, ?_⟩) hHeld ?_
      rotate_left
      focus
        intro w hSw
        clear hSw
        go_simp
        try with_reducible rfl
      try simp only [Act.put, List.getElem_toArray, List.getElem_cons_zero, List.getElem_cons_succ, List.setIfInBounds_toArray, List.set_cons_zero, List.set_cons_succ]
      refine wpAnyH_take (i := 19) (v := ?_) rfl (by kernel_rfl) (by kernel_rfl) (by kernel_rfl) (fun _ _ _ h => h) (Or.inl ⟨by rfl, ?_⟩) hHeld ?_
      rotate_left
      focus
        intro w hSw
        clear hSw
        go_simp
        try with_reducible rfl
      try simp only [Act.put, List.getElem_toArray, List.getElem_cons_zero, List.getElem_cons_succ, List.setIfInBounds_toArray, List.set_cons_zero, List.set_cons_succ]
      refine wpAnyH_take (i := 20) (v := ?_) rfl (by kernel_rfl) (by kernel_rfl) (by kernel_rfl) (fun _ _ _ h => h) (Or.inl ⟨by rfl, ?_⟩) hHeld ?_
      rotate_left
      focus
        intro w hSw
        clear hSw
        go_simp
        try with_reducible rfl
      try simp only [Act.put, List.getElem_toArray, List.getElem_cons_zero, List.getElem_cons_succ, List.setIfInBounds_toArray, List.set_cons_zero, List.set_cons_succ]
      refine wpAnyH_take (i := 21) (v := ?_) rfl (by kernel_rfl) (by kernel_rfl) (by kernel_rfl) (fun _ _ _ h => h) (Or.inl ⟨by rfl, ?_⟩) hHeld ?_
      rotate_left
      focus
        intro w hSw
        clear hSw
        go_simp
        try with_reducible rfl
      try simp only [Act.put, List.getElem_toArray, List.getElem_cons_zero, List.getElem_cons_succ, List.setIfInBounds_toArray, List.set_cons_zero, List.set_cons_succ]
      refine wpAnyH_take (i := 22) (v := ?_) rfl (by kernel_rfl) (by kernel_rfl) (by kernel_rfl) (fun _ _ _ h => h) (Or.inl ⟨by rfl, ?_⟩) hHeld ?_
      rotate_left
      focus
        intro w hSw
        clear hSw
        go_simp
        try with_reducible rfl
      try simp only [Act.put, List.getElem_toArray, List.getElem_cons_zero, List.getElem_cons_succ, List.setIfInBounds_toArray, List.set_cons_zero, List.set_cons_succ]
      refine wpAnyH_take (i := 23) (v := ?_) rfl (by kernel_rfl) (by kernel_rfl) (by kernel_rfl) (fun _ _ _ h => h) (Or.inl ⟨by rfl, ?_⟩) hHeld ?_
      rotate_left
      focus
        intro w hSw
        clear hSw
        go_simp
        try with_reducible rfl
      try simp only [Act.put, List.getElem_toArray, List.getElem_cons_zero, List.getElem_cons_succ, List.setIfInBounds_toArray, List.set_cons_zero, List.set_cons_succ]
      refine wpAnyH_take (i := 24) (v := ?_) rfl (by kernel_rfl) (by kernel_rfl) (by kernel_rfl) (fun _ _ _ h => h) (Or.inl ⟨by rfl, ?_⟩) hHeld ?_
      rotate_left
      focus
        intro w hSw
        clear hSw
        go_simp
        try with_reducible rfl
      try simp only [Act.put, List.getElem_toArray, List.getElem_cons_zero, List.getElem_cons_succ, List.setIfInBounds_toArray, List.set_cons_zero, List.set_cons_succ]
      refine wpAnyH_done (by kernel_rfl) ?_ _
      refine NoPanic.normal ?_
      go_wp2_with fail
      go_ret
      exact ⟨rfl, below_drew hbl9⟩
theorem depthFills_walk (A : Option Addr) (n cap : Nat) (xs : List Fill) (w : World) (hA : A = Option.none → n = 0) (hr : Hid (RdRows w w.heap.size Fill.cells 6 A n xs)) (hcap : n ≤ cap) :
    Calls Tryd.prog 3 #[.slice A n cap] w fun e w' => e = .returned (.bool true) ∧ Below w.heap.size w w' := by
  by_cases hn : n ≤ 40
  · cases hall : allF xs with
    | false => exact depthFills_bad A n cap xs w hA hr hcap hn hall
    | true =>
      by_cases hk : keptF xs = []
      · exact depthFills_none A n cap xs w hA hr hcap hn hall hk
      · exact depthFills_some A n cap xs w hA hr hcap hn hall hk
  · exact depthFills_long A n cap xs w hA hr hcap (by omega)
end Go.Proofs.YtkinbidpbgkaoaaDoor
