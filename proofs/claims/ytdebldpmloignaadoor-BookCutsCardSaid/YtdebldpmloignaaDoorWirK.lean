/-
  wire: vectors written; the document's texts, vectors, bools.
-/
import Derived.Test.YtdebldpmloignaaDoorWirJ
namespace Go.Proofs.YtdebldpmloignaaDoor
open Go.RowKit
set_option linter.unusedVariables false

def vecV (a b c d : Int) : Value := .agg #[.int .i64 a, .int .i64 b, .int .i64 c, .int .i64 d]
theorem vec_at0 (a b c d : Int) (w : World) : (Instr.index 43 (.agg #[.int .i64 a, .int .i64 b, .int .i64 c, .int .i64 d]) (.int .i64 0)).run Tryd.prog w = .ok (.int .i64 a) w := by kernel_rfl
theorem vec_at1 (a b c d : Int) (w : World) : (Instr.index 43 (.agg #[.int .i64 a, .int .i64 b, .int .i64 c, .int .i64 d]) (.int .i64 1)).run Tryd.prog w = .ok (.int .i64 b) w := by kernel_rfl
theorem vec_at2 (a b c d : Int) (w : World) : (Instr.index 43 (.agg #[.int .i64 a, .int .i64 b, .int .i64 c, .int .i64 d]) (.int .i64 2)).run Tryd.prog w = .ok (.int .i64 c) w := by kernel_rfl
theorem vec_at3 (a b c d : Int) (w : World) : (Instr.index 43 (.agg #[.int .i64 a, .int .i64 b, .int .i64 c, .int .i64 d]) (.int .i64 3)).run Tryd.prog w = .ok (.int .i64 d) w := by kernel_rfl
def encV (a b c d : Int) : List UInt8 := encI a ++ encI b ++ encI c ++ encI d
def I64 (a : Int) : Prop := -9223372036854775808 ≤ a ∧ a ≤ 9223372036854775807
set_option maxRecDepth 100000 in
set_option maxHeartbeats 4000000 in
theorem ovec_c (B b : Nat) (p0 v0 : Value) (l : List UInt8) (x1 x2 x3 x4 : Int) (hx1 : Hid (I64 x1)) (hx2 : Hid (I64 x2)) (hx3 : Hid (I64 x3)) (hx4 : Hid (I64 x4)) (w : World) (h : Hid (OutV w B b p0 v0 l)) (hl : l.length ≤ 800000) (hBb : B ≤ w.heap.size) :
    Calls Tryd.prog 35 #[.pointer (some ⟨b, 0, none⟩), vecV x1 x2 x3 x4] w (OutQ w B b v0 (l ++ encV x1 x2 x3 x4)) := by
  have Lx1 := Lib.hid (encI_len hx1.out.1 hx1.out.2)
  have Lx2 := Lib.hid (encI_len hx2.out.1 hx2.out.2)
  have Lx3 := Lib.hid (encI_len hx3.out.1 hx3.out.2)
  have Lx4 := Lib.hid (encI_len hx4.out.1 hx4.out.2)
  have i1 := vec_at0 x1 x2 x3 x4
  have i2 := vec_at1 x1 x2 x3 x4
  have i3 := vec_at2 x1 x2 x3 x4
  have i4 := vec_at3 x1 x2 x3 x4
  unfold vecV
  go_enter Tryd.func35, Tryd.ntmps35
  go_wp2_with fail
  obtain ⟨w0, hw0⟩ : ∃ w0, w0 = w.alloc (.cells #[.int .i64 x1, .int .i64 x2, .int .i64 x3, .int .i64 x4] 43) := ⟨_, rfl⟩
  have HO0 : Hid (OutV w0 B b p0 v0 l) := by show OutV _ _ _ _ _ _; rw [hw0]; exact h.out.below ((Below.refl _ w).alloc (Nat.le_refl _) _)
  have HW0 : Hid (Below w.heap.size w w0) := by show Below _ _ _; rw [hw0]; exact (Below.refl _ w).alloc (Nat.le_refl _) _
  rw [← hw0]
  clear hw0
  refine wp_loop_rounds 5 ?_
  rw [rounds_succ]
  go_wp2_with fail
  refine (oint_c B b p0 v0 (l) x1 hx1.out.1 hx1.out.2 w0 HO0 (by (try simp only [List.length_append]); have := Lx1.out; have := Lx2.out; have := Lx3.out; have := Lx4.out; omega)).mono ?_
  rintro e w1 ⟨rfl, p1, v1, hs1⟩
  have HS1 : Hid (OutS w0 w1 B b v0 p1 v1 (l ++ encI x1)) := hs1
  have HO1 := Lib.hid HS1.out.out
  clear hs1
  go_wp2_with fail
  rw [rounds_succ]
  go_wp2_with fail
  refine (oint_c B b p1 v1 (l ++ encI x1) x2 hx2.out.1 hx2.out.2 w1 HO1 (by (try simp only [List.length_append]); have := Lx1.out; have := Lx2.out; have := Lx3.out; have := Lx4.out; omega)).mono ?_
  rintro e w2 ⟨rfl, p2, v2, hs2⟩
  have HS2 : Hid (OutS w0 w2 B b v0 p2 v2 (l ++ encI x1 ++ encI x2)) := HS1.out.trans hs2
  have HO2 := Lib.hid HS2.out.out
  clear hs2
  go_wp2_with fail
  rw [rounds_succ]
  go_wp2_with fail
  refine (oint_c B b p2 v2 (l ++ encI x1 ++ encI x2) x3 hx3.out.1 hx3.out.2 w2 HO2 (by (try simp only [List.length_append]); have := Lx1.out; have := Lx2.out; have := Lx3.out; have := Lx4.out; omega)).mono ?_
  rintro e w3 ⟨rfl, p3, v3, hs3⟩
  have HS3 : Hid (OutS w0 w3 B b v0 p3 v3 (l ++ encI x1 ++ encI x2 ++ encI x3)) := HS2.out.trans hs3
  have HO3 := Lib.hid HS3.out.out
  clear hs3
  go_wp2_with fail
  rw [rounds_succ]
  go_wp2_with fail
  refine (oint_c B b p3 v3 (l ++ encI x1 ++ encI x2 ++ encI x3) x4 hx4.out.1 hx4.out.2 w3 HO3 (by (try simp only [List.length_append]); have := Lx1.out; have := Lx2.out; have := Lx3.out; have := Lx4.out; omega)).mono ?_
  rintro e w4 ⟨rfl, p4, v4, hs4⟩
  have HS4 : Hid (OutS w0 w4 B b v0 p4 v4 (l ++ encI x1 ++ encI x2 ++ encI x3 ++ encI x4)) := HS3.out.trans hs4
  have HO4 := Lib.hid HS4.out.out
  clear hs4
  go_wp2_with fail
  rw [rounds_succ]
  go_wp2_with fail
  go_end0
  refine ⟨rfl, p4, v4, ?_⟩
  have hfin : OutS w0 w4 B b v0 p4 v4 (l ++ encV x1 x2 x3 x4) := by
    have := HS4.out
    unfold encV
    simpa only [List.append_assoc] using this
  exact ⟨hfin.out, (Turns.of_below (F := OutF b v0) HW0.out).trans hfin.turns (fun _ _ h => h), fun g hg => (hfin.own g hg).elim .inl (fun e => .inr (Nat.le_trans HW0.out.size e))⟩
theorem ret_str {a b : ByteArray} (h : a = b) : Ending.returned (.string a) = .returned (.string b) := by rw [h]
theorem ba_app (a b : List UInt8) : (⟨a.toArray⟩ : ByteArray) ++ ⟨b.toArray⟩ = ⟨(a ++ b).toArray⟩ := by
  apply ByteArray.ext
  simp
theorem enc_text (s : ByteArray) : (⟨(encI s.size).toArray⟩ : ByteArray) ++ s = ⟨(encT s).toArray⟩ := by
  unfold encT
  rw [← ba_app]
theorem enc_vec (a b c d : Int) : (⟨(encI a).toArray⟩ : ByteArray) ++ ⟨(encI b).toArray⟩ ++ ⟨(encI c).toArray⟩ ++ ⟨(encI d).toArray⟩ = ⟨(encV a b c d).toArray⟩ := by
  unfold encV
  rw [ba_app, ba_app, ba_app]
set_option maxRecDepth 100000 in
theorem rtext_c (s : ByteArray) (hs : s.size ≤ 1000000) (w : World) : Calls Tryd.prog 34 #[.string s] w fun e w' => e = .returned (.string ⟨(encT s).toArray⟩) ∧ Below w.heap.size w w' := by
  have HI := Lib.hid (rint_c s.size (by omega) (by omega) w)
  have la := encI_len (n := (s.size : Int)) (by omega) (by omega)
  have m1 : ¬ 9223372036854775807 < (encI (s.size : Int)).length + s.size := by omega
  clear la
  go_enter Tryd.func34, Tryd.ntmps34
  go_wp2_with fail
  refine HI.out.mono ?_
  rintro e w1 ⟨rfl, hb⟩
  have HB := Lib.hid hb
  clear hb
  go_wp2_with fail
  go_ret
  exact ⟨ret_str (enc_text s), HB.out⟩
set_option maxRecDepth 100000 in
theorem rbool_c (x : Bool) (w : World) : Calls Tryd.prog 38 #[.bool x] w fun e w' => e = .returned (.string ⟨(encB x).toArray⟩) ∧ Below w.heap.size w w' := by
  cases x with
  | true =>
    go_enter Tryd.func38, Tryd.ntmps38
    go_wp2_with fail
    refine (rint_c 1 (by omega) (by omega) w).mono ?_
    rintro e w1 ⟨rfl, hb⟩
    have HB := Lib.hid hb
    clear hb
    go_wp2_with fail
    go_ret
    exact ⟨rfl, HB.out⟩
  | false =>
    go_enter Tryd.func38, Tryd.ntmps38
    go_wp2_with fail
    refine (rint_c 0 (by omega) (by omega) w).mono ?_
    rintro e w1 ⟨rfl, hb⟩
    have HB := Lib.hid hb
    clear hb
    go_wp2_with fail
    go_ret
    exact ⟨rfl, HB.out⟩
set_option maxRecDepth 100000 in
set_option maxHeartbeats 8000000 in
theorem rvec_c (a b c d : Int) (ka : Hid (I64 a)) (kb : Hid (I64 b)) (kc : Hid (I64 c)) (kd : Hid (I64 d)) (w : World) : Calls Tryd.prog 36 #[vecV a b c d] w fun e w' => e = .returned (.string ⟨(encV a b c d).toArray⟩) ∧ Below w.heap.size w w' := by
  unfold vecV
  go_enter Tryd.func36, Tryd.ntmps36
  go_wp2_with fail
  obtain ⟨WW, hW⟩ : ∃ W, W = w.alloc (.cells #[.int .i64 a, .int .i64 b, .int .i64 c, .int .i64 d] 43) := ⟨_, rfl⟩
  have hblk : Blk WW w.heap.size #[.int .i64 a, .int .i64 b, .int .i64 c, .int .i64 d] 43 := by rw [hW]; exact Blk.new w _ _
  have HBW : Hid (Below w.heap.size w WW) := by show Below _ _ _; rw [hW]; exact (Below.refl _ w).alloc (Nat.le_refl _) _
  rw [← hW]
  have d0 : ∀ w', Below WW.heap.size WW w' → w'.cell? ⟨w.heap.size, 0, none⟩ = some (.int .i64 a) := fun w' h => (hblk.below h).cell 0 _ rfl
  have d1 : ∀ w', Below WW.heap.size WW w' → w'.cell? ⟨w.heap.size, 1, none⟩ = some (.int .i64 b) := fun w' h => (hblk.below h).cell 1 _ rfl
  have d2 : ∀ w', Below WW.heap.size WW w' → w'.cell? ⟨w.heap.size, 2, none⟩ = some (.int .i64 c) := fun w' h => (hblk.below h).cell 2 _ rfl
  have d3 : ∀ w', Below WW.heap.size WW w' → w'.cell? ⟨w.heap.size, 3, none⟩ = some (.int .i64 d) := fun w' h => (hblk.below h).cell 3 _ rfl
  have HB0 : Below WW.heap.size WW WW.drew := ⟨rfl, rfl, rfl, Nat.le_refl _, fun _ _ => rfl⟩
  clear hW hblk
  have la := encI_len ka.out.1 ka.out.2
  have lb := encI_len kb.out.1 kb.out.2
  have lc := encI_len kc.out.1 kc.out.2
  have ld := encI_len kd.out.1 kd.out.2
  have m1 : ¬ 9223372036854775807 < (encI a).length + (encI b).length := by omega
  have m2 : ¬ 9223372036854775807 < (encI a).length + (encI b).length + (encI c).length := by omega
  have m3 : ¬ 9223372036854775807 < (encI a).length + (encI b).length + (encI c).length + (encI d).length := by omega
  clear la lb lc ld
  refine wp_region_noPanic ?_
  refine wp_region_held_drew (S := (fun w' => Below WW.heap.size WW w')) (by kernel_rfl) HB0 (fun hHeld => ?_)
  have HB : Below WW.heap.size WW WW.drew := ⟨rfl, rfl, rfl, Nat.le_refl _, fun _ _ => rfl⟩
  refine wpAnyH_take (i := 0) (v := ?_) rfl (by kernel_rfl) (by kernel_rfl) (by kernel_rfl) (fun _ _ _ h => h) (Or.inl ⟨by rfl, ?_⟩) hHeld ?_
  rotate_left
  focus
    intro w hSw
    clear hSw
    go_simp
    try with_reducible rfl
  try simp only [Act.put, List.getElem_toArray, List.getElem_cons_zero, List.getElem_cons_succ, List.setIfInBounds_toArray, List.set_cons_zero, List.set_cons_succ]
  refine wpAnyH_take (i := 1) (v := ?_) rfl (by kernel_rfl) (by kernel_rfl) (by kernel_rfl) (fun _ _ _ h => h) (Or.inl ⟨by rfl, ?_⟩) hHeld ?_
  rotate_left
  focus
    intro w hSw
    (try dsimp only at hSw)
    go_simp
    try with_reducible rfl
  try simp only [Act.put, List.getElem_toArray, List.getElem_cons_zero, List.getElem_cons_succ, List.setIfInBounds_toArray, List.set_cons_zero, List.set_cons_succ]
  refine wpAnyH_take (i := 3) (v := ?_) rfl (by kernel_rfl) (by kernel_rfl) (by kernel_rfl) (fun _ _ _ h => h) (Or.inl ⟨by rfl, ?_⟩) hHeld ?_
  rotate_left
  focus
    intro w hSw
    clear hSw
    go_simp
    try with_reducible rfl
  try simp only [Act.put, List.getElem_toArray, List.getElem_cons_zero, List.getElem_cons_succ, List.setIfInBounds_toArray, List.set_cons_zero, List.set_cons_succ]
  refine wpAnyH_take (i := 4) (v := ?_) rfl (by kernel_rfl) (by kernel_rfl) (by kernel_rfl) (fun _ _ _ h => h) (Or.inl ⟨by rfl, ?_⟩) hHeld ?_
  rotate_left
  focus
    intro w hSw
    (try dsimp only at hSw)
    go_simp
    try with_reducible rfl
  try simp only [Act.put, List.getElem_toArray, List.getElem_cons_zero, List.getElem_cons_succ, List.setIfInBounds_toArray, List.set_cons_zero, List.set_cons_succ]
  refine wpAnyH_take (i := 7) (v := ?_) rfl (by kernel_rfl) (by kernel_rfl) (by kernel_rfl) (fun _ _ _ h => h) (Or.inl ⟨by rfl, ?_⟩) hHeld ?_
  rotate_left
  focus
    intro w hSw
    clear hSw
    go_simp
    try with_reducible rfl
  try simp only [Act.put, List.getElem_toArray, List.getElem_cons_zero, List.getElem_cons_succ, List.setIfInBounds_toArray, List.set_cons_zero, List.set_cons_succ]
  refine wpAnyH_take (i := 8) (v := ?_) rfl (by kernel_rfl) (by kernel_rfl) (by kernel_rfl) (fun _ _ _ h => h) (Or.inl ⟨by rfl, ?_⟩) hHeld ?_
  rotate_left
  focus
    intro w hSw
    (try dsimp only at hSw)
    go_simp
    try with_reducible rfl
  try simp only [Act.put, List.getElem_toArray, List.getElem_cons_zero, List.getElem_cons_succ, List.setIfInBounds_toArray, List.set_cons_zero, List.set_cons_succ]
  refine wpAnyH_take (i := 11) (v := ?_) rfl (by kernel_rfl) (by kernel_rfl) (by kernel_rfl) (fun _ _ _ h => h) (Or.inl ⟨by rfl, ?_⟩) hHeld ?_
  rotate_left
  focus
    intro w hSw
    clear hSw
    go_simp
    try with_reducible rfl
  try simp only [Act.put, List.getElem_toArray, List.getElem_cons_zero, List.getElem_cons_succ, List.setIfInBounds_toArray, List.set_cons_zero, List.set_cons_succ]
  refine wpAnyH_take (i := 12) (v := ?_) rfl (by kernel_rfl) (by kernel_rfl) (by kernel_rfl) (fun _ _ _ h => h) (Or.inl ⟨by rfl, ?_⟩) hHeld ?_
  rotate_left
  focus
    intro w hSw
    (try dsimp only at hSw)
    go_simp
    try with_reducible rfl
  try simp only [Act.put, List.getElem_toArray, List.getElem_cons_zero, List.getElem_cons_succ, List.setIfInBounds_toArray, List.set_cons_zero, List.set_cons_succ]
  refine wpAnyH_ready (rs := [2]) (by kernel_rfl) (by simp) ?_
  refine AllReadyH.cons rfl (fun K hK => ?_) AllReadyH.nil
  go_simp
  refine (rint_c a ka.out.1 ka.out.2 _).mono ?_
  rintro e y ⟨rfl, hb⟩
  have HB := HB.trans (hb.mono HB.size)
  refine hK.out _ _ HB (fun hHeld => ?_)
  clear hK K
  try simp only [Act.put, List.getElem_toArray, List.getElem_cons_zero, List.getElem_cons_succ, List.setIfInBounds_toArray, List.set_cons_zero, List.set_cons_succ]
  refine wpAnyH_ready (rs := [5]) (by kernel_rfl) (by simp) ?_
  refine AllReadyH.cons rfl (fun K hK => ?_) AllReadyH.nil
  go_simp
  refine (rint_c b kb.out.1 kb.out.2 _).mono ?_
  rintro e y ⟨rfl, hb⟩
  have HB := HB.trans (hb.mono HB.size)
  refine hK.out _ _ HB (fun hHeld => ?_)
  clear hK K
  try simp only [Act.put, List.getElem_toArray, List.getElem_cons_zero, List.getElem_cons_succ, List.setIfInBounds_toArray, List.set_cons_zero, List.set_cons_succ]
  refine wpAnyH_take (i := 6) (v := ?_) rfl (by kernel_rfl) (by kernel_rfl) (by kernel_rfl) (fun _ _ _ h => h) (Or.inl ⟨by rfl, ?_⟩) hHeld ?_
  rotate_left
  focus
    intro w hSw
    clear hSw
    go_simp
    try with_reducible rfl
  try simp only [Act.put, List.getElem_toArray, List.getElem_cons_zero, List.getElem_cons_succ, List.setIfInBounds_toArray, List.set_cons_zero, List.set_cons_succ]
  refine wpAnyH_ready (rs := [9]) (by kernel_rfl) (by simp) ?_
  refine AllReadyH.cons rfl (fun K hK => ?_) AllReadyH.nil
  go_simp
  refine (rint_c c kc.out.1 kc.out.2 _).mono ?_
  rintro e y ⟨rfl, hb⟩
  have HB := HB.trans (hb.mono HB.size)
  refine hK.out _ _ HB (fun hHeld => ?_)
  clear hK K
  try simp only [Act.put, List.getElem_toArray, List.getElem_cons_zero, List.getElem_cons_succ, List.setIfInBounds_toArray, List.set_cons_zero, List.set_cons_succ]
  refine wpAnyH_take (i := 10) (v := ?_) rfl (by kernel_rfl) (by kernel_rfl) (by kernel_rfl) (fun _ _ _ h => h) (Or.inl ⟨by rfl, ?_⟩) hHeld ?_
  rotate_left
  focus
    intro w hSw
    clear hSw
    go_simp
    try with_reducible rfl
  try simp only [Act.put, List.getElem_toArray, List.getElem_cons_zero, List.getElem_cons_succ, List.setIfInBounds_toArray, List.set_cons_zero, List.set_cons_succ]
  refine wpAnyH_ready (rs := [13]) (by kernel_rfl) (by simp) ?_
  refine AllReadyH.cons rfl (fun K hK => ?_) AllReadyH.nil
  go_simp
  refine (rint_c d kd.out.1 kd.out.2 _).mono ?_
  rintro e y ⟨rfl, hb⟩
  have HB := HB.trans (hb.mono HB.size)
  refine hK.out _ _ HB (fun hHeld => ?_)
  clear hK K
  try simp only [Act.put, List.getElem_toArray, List.getElem_cons_zero, List.getElem_cons_succ, List.setIfInBounds_toArray, List.set_cons_zero, List.set_cons_succ]
  refine wpAnyH_take (i := 14) (v := ?_) rfl (by kernel_rfl) (by kernel_rfl) (by kernel_rfl) (fun _ _ _ h => h) (Or.inl ⟨by rfl, ?_⟩) hHeld ?_
  rotate_left
  focus
    intro w hSw
    clear hSw
    go_simp
    try with_reducible rfl
  try simp only [Act.put, List.getElem_toArray, List.getElem_cons_zero, List.getElem_cons_succ, List.setIfInBounds_toArray, List.set_cons_zero, List.set_cons_succ]
  refine wpAnyH_take (i := 15) (v := ?_) rfl (by kernel_rfl) (by kernel_rfl) (by kernel_rfl) (fun _ _ _ h => h) (Or.inl ⟨by rfl, ?_⟩) hHeld ?_
  rotate_left
  focus
    intro w hSw
    clear hSw
    go_simp
    try with_reducible rfl
  try simp only [Act.put, List.getElem_toArray, List.getElem_cons_zero, List.getElem_cons_succ, List.setIfInBounds_toArray, List.set_cons_zero, List.set_cons_succ]
  refine wpAnyH_done (by kernel_rfl) ?_ _
  refine NoPanic.normal ?_
  go_wp2_with fail
  go_ret
  exact ⟨ret_str (enc_vec a b c d), HBW.out.trans (HB.mono HBW.out.size)⟩
end Go.Proofs.YtdebldpmloignaaDoor
