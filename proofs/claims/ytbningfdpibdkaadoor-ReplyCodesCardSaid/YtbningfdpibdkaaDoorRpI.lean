/-
  reply: the bytes of the empty answer; At.
-/
import Derived.Test.YtbningfdpibdkaaDoorRpH
import Derived.Test.YtbningfdpibdkaaDoorAsM
import Derived.Test.YtbningfdpibdkaaDoorRpA
namespace Go.Proofs.YtbningfdpibdkaaDoor
open Go.RowKit
set_option linter.unusedVariables false
set_option linter.unusedSimpArgs false

theorem OutV.fresh (w : World) : OutV (w.alloc (.cells #[.pointer none, .slice none 0 0] 139)) w.heap.size w.heap.size (.pointer none) (.slice none 0 0) [] :=
  ⟨Nat.le_refl _, Blk.new w _ _, World.ownsRowF_nil _ _ _ _, by simp [Value.ownBlock], fun _ => rfl, .inl rfl⟩
theorem e0 : (encI 0).length ≤ 10 := encI_len (by omega) (by omega)
set_option maxRecDepth 100000 in
theorem wfills_nil (B b : Nat) (p v : Value) (l : List UInt8) (w : World) (h : Hid (OutV w B b p v l)) (hl : l.length ≤ 100000) :
    Calls Tryd.prog 83 #[.pointer (some ⟨b, 0, none⟩), .slice none 0 0] w (OutQ w B b v (l ++ encI 0)) := by
  have HI0 := Lib.hid (oint_c B b p v l 0 (by omega) (by omega) w h (by omega))
  go_enter Tryd.func83, Tryd.ntmps83
  go_wp2_with fail
  refine HI0.out.mono ?_
  rintro e w1 ⟨rfl, p1, v1, hs1⟩
  have HS1 := Lib.hid hs1
  clear hs1 HI0
  go_wp2_with fail
  refine wp_loop_rounds 1 ?_
  rw [rounds_succ]
  go_wp2_with fail
  exact bodyPost_ret (results_none (by kernel_rfl) _ _ _) rfl ⟨rfl, p1, v1, HS1.out⟩
set_option maxRecDepth 100000 in
set_option maxHeartbeats 2000000 in
theorem bytes0_c (w : World) : Calls Tryd.prog 41 #[.agg #[.int .i64 0, .int .i64 0, .slice none 0 0, .slice none 0 0, .slice none 0 0, .slice none 0 0, .slice none 0 0]] w fun e w' => e = .returned (.string ⟨(encI 0 ++ (encI 0 ++ (encI 0 ++ (encI 0 ++ (encI 0 ++ (encI 0 ++ encI 0)))))).toArray⟩) ∧ Below w.heap.size w w' := by
  obtain ⟨R, hR⟩ : ∃ z, z = w.heap.size := ⟨_, rfl⟩
  obtain ⟨V, hV⟩ : ∃ z, z = w.alloc (.cells #[.int .i64 0, .int .i64 0, .slice none 0 0, .slice none 0 0, .slice none 0 0, .slice none 0 0, .slice none 0 0] 73) := ⟨_, rfl⟩
  obtain ⟨b, hb⟩ : ∃ z, z = w.heap.size + 1 := ⟨_, rfl⟩
  have hbV : V.heap.size = b := by rw [hV, hb]; simp
  obtain ⟨W0, hW0⟩ : ∃ z, z = V.alloc (.cells #[.pointer none, .slice none 0 0] 139) := ⟨_, rfl⟩
  obtain ⟨p0, hp0⟩ : ∃ z, z = Value.pointer none := ⟨_, rfl⟩
  obtain ⟨v0, hv0⟩ : ∃ z, z = Value.slice none 0 0 := ⟨_, rfl⟩
  have HO0 : Hid (OutV W0 b b p0 v0 []) := by show OutV _ _ _ _ _ _; rw [hW0, ← hbV, hp0, hv0]; exact OutV.fresh V
  have hv1 : Below w.heap.size w V := by rw [hV]; exact (Below.refl _ _).alloc (Nat.le_refl _) _
  have hv2 : Below V.heap.size V W0 := by rw [hW0]; exact (Below.refl _ _).alloc (Nat.le_refl _) _
  have HW0 := Lib.hid (hv1.trans (hv2.mono hv1.size))
  have HRK : Hid (Blk W0 R #[.int .i64 0, .int .i64 0, .slice none 0 0, .slice none 0 0, .slice none 0 0, .slice none 0 0, .slice none 0 0] 73) := by
    have h1 : Blk V R #[.int .i64 0, .int .i64 0, .slice none 0 0, .slice none 0 0, .slice none 0 0, .slice none 0 0, .slice none 0 0] 73 := by rw [hV, hR]; exact Blk.new w _ _
    exact h1.below hv2
  have HBL : Hid (w.heap.size ≤ b) := by show _ ≤ _; omega
  have HRB : Hid (R < b) := by show _ < _; omega
  have HBK : Hid (∀ (W : World) {p' v' : Value} {l' : List UInt8}, OutS W0 W b b v0 p' v' l' → Blk W R #[.int .i64 0, .int .i64 0, .slice none 0 0, .slice none 0 0, .slice none 0 0, .slice none 0 0, .slice none 0 0] 73) := fun W p' v' l' hs => HRK.out.of ((hs.below HO0.out (Nat.le_refl _)).block R HRB.out)
  have HS0 : Hid (OutS W0 W0 b b v0 p0 v0 []) := OutS.refl HO0.out
  have HVE := Lib.hid hV
  have HWE := Lib.hid hW0
  have HRE := Lib.hid hR
  have HBE := Lib.hid hb
  clear hR hV hb hbV hW0 hv1 hv2 hp0 hv0
  go_enter Tryd.func41, Tryd.ntmps41
  go_upto_region 2 with fail
  rw [← HBE.out, ← HRE.out, ← HVE.out, ← HWE.out]
  have k0 : W0.cell? ⟨R, 0, none⟩ = some (Value.int .i64 0) := (HBK.out W0 HS0.out).cell 0 _ rfl
  go_wp2_with fail
  refine (oint_c b b p0 v0 [] 0 (by omega) (by omega) W0 (Lib.hid HS0.out.out) (by have h := e0; simp only [List.length_append, List.length_nil]; omega)).mono ?_
  rintro e W1 ⟨rfl, p1, v1, hs⟩
  have HS1 : Hid (OutS W0 W1 b b v0 p1 v1 ([] ++ encI 0)) := HS0.out.trans hs
  clear hs k0
  have k1 : W1.cell? ⟨R, 1, none⟩ = some (Value.int .i64 0) := (HBK.out W1 HS1.out).cell 1 _ rfl
  go_wp2_with fail
  refine (oint_c b b p1 v1 ([] ++ encI 0) 0 (by omega) (by omega) W1 (Lib.hid HS1.out.out) (by have h := e0; simp only [List.length_append, List.length_nil]; omega)).mono ?_
  rintro e W2 ⟨rfl, p2, v2, hs⟩
  have HS2 : Hid (OutS W0 W2 b b v0 p2 v2 (([] ++ encI 0) ++ encI 0)) := HS1.out.trans hs
  clear hs k1
  have k2 : W2.cell? ⟨R, 2, none⟩ = some (Value.slice none 0 0) := (HBK.out W2 HS2.out).cell 2 _ rfl
  go_wp2_with fail
  refine (oint_c b b p2 v2 (([] ++ encI 0) ++ encI 0) 0 (by omega) (by omega) W2 (Lib.hid HS2.out.out) (by have h := e0; simp only [List.length_append, List.length_nil]; omega)).mono ?_
  rintro e W3 ⟨rfl, p3, v3, hs⟩
  have HS3 : Hid (OutS W0 W3 b b v0 p3 v3 ((([] ++ encI 0) ++ encI 0) ++ encI 0)) := HS2.out.trans hs
  clear hs k2
  have k2 : W3.cell? ⟨R, 2, none⟩ = some (Value.slice none 0 0) := (HBK.out W3 HS3.out).cell 2 _ rfl
  go_wp2_with fail
  refine wp_loop_rounds 1 ?_
  rw [rounds_succ]
  have k3 : W3.cell? ⟨R, 3, none⟩ = some (Value.slice none 0 0) := (HBK.out W3 HS3.out).cell 3 _ rfl
  go_wp2_with fail
  refine (wtasks_c b b p3 v3 ((([] ++ encI 0) ++ encI 0) ++ encI 0) none 0 0 [] W3 (Lib.hid HS3.out.out) (by have h := e0; simp only [List.length_append, List.length_nil]; omega) (Lib.hid ⟨rfl, fun h => by omega⟩) (by omega) (Lib.hid fun t ht => by cases ht) (Lib.hid fun k => by have h := e0; simp; omega) (Lib.hid (Nat.le_of_lt HS3.out.out.lt))).mono ?_
  rintro e W4 ⟨rfl, p4, v4, hs⟩
  have hs : OutS W3 W4 b b v3 p4 v4 (((([] ++ encI 0) ++ encI 0) ++ encI 0) ++ encI 0) := by simpa using hs
  have HS4 : Hid (OutS W0 W4 b b v0 p4 v4 (((([] ++ encI 0) ++ encI 0) ++ encI 0) ++ encI 0)) := HS3.out.trans hs
  clear hs k3
  have k4 : W4.cell? ⟨R, 4, none⟩ = some (Value.slice none 0 0) := (HBK.out W4 HS4.out).cell 4 _ rfl
  go_wp2_with fail
  refine (wtasks_c b b p4 v4 (((([] ++ encI 0) ++ encI 0) ++ encI 0) ++ encI 0) none 0 0 [] W4 (Lib.hid HS4.out.out) (by have h := e0; simp only [List.length_append, List.length_nil]; omega) (Lib.hid ⟨rfl, fun h => by omega⟩) (by omega) (Lib.hid fun t ht => by cases ht) (Lib.hid fun k => by have h := e0; simp; omega) (Lib.hid (Nat.le_of_lt HS4.out.out.lt))).mono ?_
  rintro e W5 ⟨rfl, p5, v5, hs⟩
  have hs : OutS W4 W5 b b v4 p5 v5 ((((([] ++ encI 0) ++ encI 0) ++ encI 0) ++ encI 0) ++ encI 0) := by simpa using hs
  have HS5 : Hid (OutS W0 W5 b b v0 p5 v5 ((((([] ++ encI 0) ++ encI 0) ++ encI 0) ++ encI 0) ++ encI 0)) := HS4.out.trans hs
  clear hs k4
  have k5 : W5.cell? ⟨R, 5, none⟩ = some (Value.slice none 0 0) := (HBK.out W5 HS5.out).cell 5 _ rfl
  go_wp2_with fail
  refine (wfills_nil b b p5 v5 ((((([] ++ encI 0) ++ encI 0) ++ encI 0) ++ encI 0) ++ encI 0) W5 (Lib.hid HS5.out.out) (by have h := e0; simp only [List.length_append, List.length_nil]; omega)).mono ?_
  rintro e W6 ⟨rfl, p6, v6, hs⟩
  have HS6 : Hid (OutS W0 W6 b b v0 p6 v6 (((((([] ++ encI 0) ++ encI 0) ++ encI 0) ++ encI 0) ++ encI 0) ++ encI 0)) := HS5.out.trans hs
  clear hs k5
  have k6 : W6.cell? ⟨R, 6, none⟩ = some (Value.slice none 0 0) := (HBK.out W6 HS6.out).cell 6 _ rfl
  go_wp2_with fail
  refine (oint_c b b p6 v6 (((((([] ++ encI 0) ++ encI 0) ++ encI 0) ++ encI 0) ++ encI 0) ++ encI 0) 0 (by omega) (by omega) W6 (Lib.hid HS6.out.out) (by have h := e0; simp only [List.length_append, List.length_nil]; omega)).mono ?_
  rintro e W7 ⟨rfl, p7, v7, hs⟩
  have HS7 : Hid (OutS W0 W7 b b v0 p7 v7 ((((((([] ++ encI 0) ++ encI 0) ++ encI 0) ++ encI 0) ++ encI 0) ++ encI 0) ++ encI 0)) := HS6.out.trans hs
  clear hs k6
  have k6 : W7.cell? ⟨R, 6, none⟩ = some (Value.slice none 0 0) := (HBK.out W7 HS7.out).cell 6 _ rfl
  go_wp2_with fail
  refine wp_loop_rounds 1 ?_
  rw [rounds_succ]
  go_wp2_with fail
  refine (obytes_c b b p7 v7 ((((((([] ++ encI 0) ++ encI 0) ++ encI 0) ++ encI 0) ++ encI 0) ++ encI 0) ++ encI 0) W7 (Lib.hid HS7.out.out) (by have h := e0; simp only [List.length_append, List.length_nil]; omega)).mono ?_
  rintro e W8 ⟨rfl, hs⟩
  have HS8 := Lib.hid (HS7.out.trans hs)
  clear hs
  go_wp2_with fail
  go_ret
  exact ⟨rfl, HW0.out.trans ((HS8.out.below HO0.out (Nat.le_refl _)).mono HBL.out)⟩
end Go.Proofs.YtbningfdpibdkaaDoor
