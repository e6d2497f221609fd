/-
  MintExact: the walk, at more than 60 bounds.
-/
import Derived.Test.YtkinbidpbgkaoaaMintM
namespace Go.Proofs.Ytkinbidpbgkaoaa
open Go.RowKit
set_option linter.unusedVariables false

set_option maxRecDepth 100000 in
set_option maxHeartbeats 2000000 in
theorem mintExact_long (n count : Int) (A : Option Addr) (len cap : Nat) (zs : List Int) (w : World) (hn0 : 0 ≤ n) (hn1 : Hid (n < 18446744073709551616)) (hcap : len ≤ cap) (hlen : 60 < len)
    (hz : Hid (RdInts w w.heap.size A len zs)) (hzw : Hid (∀ z ∈ zs, z ≤ 9223372036854775807)) :
    Calls Try.prog 3 #[.int .u64 n, .slice A len cap, .int .i64 count] w fun e w' => e = .returned (.bool true) ∧ Below w.heap.size w w' := by
  go_enter Try.func3, Try.ntmps3
  go_wp2_with fail
  refine (awake41_c w).mono ?_
  rintro e w1 ⟨rfl, hb1⟩
  go_wp2_with fail
  refine (new_c n w1 hn0 hn1.out).mono ?_
  rintro e w2 ⟨rfl, hw2⟩
  have hm2 : MintAt w2 w1.heap.size (Mi.seed n) := by
    rw [hw2]
    refine ⟨alloc_new' rfl, ?_⟩
    unfold Mi.seed
    have := hn1.out
    split <;> omega
  have hb2 : Below w.heap.size w w2 := by rw [hw2]; exact hb1.alloc hb1.size _
  have hlt2 : w1.heap.size < w2.heap.size := by rw [hw2]; simp
  have HM2 := Lib.hid hm2
  clear hw2 hm2
  go_wp2_with fail
  refine (rnew_c n w2 hn0 hn1.out).mono ?_
  rintro e w3 ⟨rfl, hw3⟩
  have hm3 : RMintAt w3 w2.heap.size (Mi.seed n) := by
    rw [hw3]
    refine ⟨alloc_new' rfl, ?_⟩
    unfold Mi.seed
    have := hn1.out
    split <;> omega
  have hb3 : Below w.heap.size w w3 := by rw [hw3]; exact hb2.alloc hb2.size _
  have hlt3 : w2.heap.size < w3.heap.size := by rw [hw3]; simp
  have HM3 := Lib.hid hm3
  have HM4 : Hid (MintAt w3 w1.heap.size (Mi.seed n)) := by rw [hw3]; exact HM2.out.kept (World.grownBy_alloc _ _ none) (by simp)
  have hs1 := hb1.size
  clear hw3 hm3 HM2 hb2 hb1
  go_wp2_with fail
  go_loopw [9] (fun i wr => ∃ (k : Nat) (st : Int), k ≤ 60 ∧ i = .int .i64 k ∧ MintAt wr w1.heap.size st ∧ RMintAt wr w2.heap.size st ∧ Below w.heap.size w wr ∧ w2.heap.size < wr.heap.size) (fun i _ => 60 - (intOf i).toNat)
  case atStart => exact ⟨0, Mi.seed n, by omega, rfl, HM4.out, HM3.out, hb3, hlt3⟩
  case round =>
    obtain ⟨k, st, hk, rfl, hA, hB, hbl, hls⟩ := hrel
    have HA := Lib.hid hA
    have HB := Lib.hid hB
    clear hA hB HM3 HM4
    by_cases hlt : k < 60
    · have hkl : (k : Int) < len := by omega
      obtain ⟨b, off, rfl, hbw, hcell⟩ := hz.out.2 (by omega)
      have cq : wr.cell? ⟨b, off + k, none⟩ = some (.int .i64 (zs.getD k 0)) := (hbl.cell (p := ⟨b, off + k, none⟩) hbw).trans (hcell k (by omega))
      have hzl := hz.out.1
      have hzr : zs.getD k 0 ≤ 9223372036854775807 := hzw.out _ (by rw [List.getD_eq_getElem?_getD, List.getElem?_eq_getElem (by omega)]; simp)
      generalize zs.getD k 0 = z at cq hzr
      clear hcell hzl
      go_wp2_with fail
      by_cases hzs : z ≤ 1
      · clear hzr
        go_region_held3 (fun w' => w'.cell? ⟨b, off + k, none⟩ = some (.int .i64 z)) (exact cq) ((first
        | (go_at_call 7; refine (under_small w1.heap.size z _ hzs).mono ?_; rintro e W1 ⟨rfl, rfl⟩)
        | (go_at_call 8; refine (runder_small w2.heap.size z _ hzs).mono ?_; rintro e W2 ⟨rfl, rfl⟩)
        | (go_at_call 9; refine (next_c w1.heap.size st _ HA.out.drew).mono ?_; rintro e W3 ⟨rfl, m3, g3⟩; have M3 := Lib.hid m3; have G3 := Lib.hid (grownBy_undrew g3); have cq := g3.cell cq (by simp; omega); clear m3 g3)
        | (go_at_call 10; refine (rnext_c w2.heap.size st _ (HB.out.kept G3.out (by simp; omega))).mono ?_; rintro e W4 ⟨rfl, m4, g4⟩; have M4 := Lib.hid m4; have G4 := Lib.hid g4; have cq := g4.cell cq (by simp; omega); clear m4 g4)))
        go_wp2_with fail
        go_roundw
        case rel => exact ⟨k + 1, Mi.nx st, by omega, by go_num, M3.out.kept G4.out (by simp; omega), M4.out, (hbl.grown G3.out hbl.size (by intro j hj; simp at hj; omega)).grown G4.out (by have := G3.out.size; simp at this ⊢; omega) (by intro j hj; simp at hj; omega), by have := G3.out.size; have := G4.out.size; simp at *; omega⟩
        case measure => simp [intOf]; omega
      · have hzb : 1 < z := by omega
        clear hzs
        go_region_held3 (fun w' => w'.cell? ⟨b, off + k, none⟩ = some (.int .i64 z)) (exact cq) ((first
        | (go_at_call 7; refine (under_big w1.heap.size st z _ HA.out.drew hzb hzr).mono ?_; rintro e W1 ⟨rfl, m1, g1⟩; have M1 := Lib.hid m1; have G1 := Lib.hid (grownBy_undrew g1); have cq := g1.cell cq (by simp; omega); clear m1 g1)
        | (go_at_call 8; refine (runder_big w2.heap.size st z _ (HB.out.kept G1.out (by simp; omega)) hzb hzr).mono ?_; rintro e W2 ⟨rfl, m2, g2⟩; have M2 := Lib.hid m2; have G2 := Lib.hid g2; have cq := g2.cell cq (by simp; omega); clear m2 g2)
        | (go_at_call 9; refine (next_c w1.heap.size (Mi.nx st) _ (M1.out.kept G2.out (by simp; omega))).mono ?_; rintro e W3 ⟨rfl, m3, g3⟩; have M3 := Lib.hid m3; have G3 := Lib.hid g3; have cq := g3.cell cq (by simp; omega); clear m3 g3)
        | (go_at_call 10; refine (rnext_c w2.heap.size (Mi.nx st) _ (M2.out.kept G3.out (by simp; omega))).mono ?_; rintro e W4 ⟨rfl, m4, g4⟩; have M4 := Lib.hid m4; have G4 := Lib.hid g4; have cq := g4.cell cq (by simp; omega); clear m4 g4)))
        go_wp2_with fail
        go_roundw
        case rel => exact ⟨k + 1, Mi.nx (Mi.nx st), by omega, by go_num, M3.out.kept G4.out (by simp; omega), M4.out, (((hbl.grown G1.out hbl.size (by intro j hj; simp at hj; omega)).grown G2.out (by have := G1.out.size; simp at this ⊢; omega) (by intro j hj; simp at hj; omega)).grown G3.out (by have := G1.out.size; have := G2.out.size; simp at *; omega) (by intro j hj; simp at hj; omega)).grown G4.out (by have := G1.out.size; have := G2.out.size; have := G3.out.size; simp at *; omega) (by intro j hj; simp at hj; omega), by have := G1.out.size; have := G2.out.size; have := G3.out.size; have := G4.out.size; simp at *; omega⟩
        case measure => simp [intOf]; omega
    · obtain rfl : k = 60 := by omega
      have hk6 : (60 : Int) < len := by omega
      go_wp2_with fail
      refine (mcommand_c w1.heap.size st _ (by omega) HA.out).mono ?_
      rintro e w5 ⟨rfl, hm5, hg5⟩
      have HB5 : Hid (RMintAt w5 w2.heap.size st) := HB.out.kept hg5 (by simp; omega)
      have hbl5 : Below w.heap.size w w5 := hbl.grown hg5 hbl.size (by intro j hj; simp at hj; omega)
      have hs5 := hg5.size
      clear hm5 hg5 HA HB hbl
      obtain ⟨cc, hcc⟩ : ∃ cc, cc = Mi.cmdOf st := ⟨_, rfl⟩
      have HCC := Lib.hid hcc
      rw [← hcc]
      clear hcc
      go_wp2_with fail
      refine (form_c cc _).mono ?_
      rintro e w6 ⟨rfl, hw6⟩
      have hbl6 : Below w.heap.size w w6 := by rw [hw6]; exact (hbl5.alloc hbl5.size _).alloc (by have := hbl5.size; simp; omega) _
      have HB6 : Hid (RMintAt w6 w2.heap.size st) := by rw [hw6]; exact (HB5.out.kept (World.grownBy_alloc _ _ none) (by simp)).kept (World.grownBy_alloc _ _ none) (by simp)
      have hs6 : w5.heap.size ≤ w6.heap.size := by rw [hw6]; simp; omega
      clear hw6 HB5 hbl5
      go_wp2_with fail
      refine (rcommand_c w2.heap.size st _ (by omega) HB6.out).mono ?_
      rintro e w7 ⟨rfl, hm7, hg7⟩
      rw [← HCC.out]
      have hbl7 : Below w.heap.size w w7 := hbl6.grown hg7 hbl6.size (by intro j hj; simp at hj; omega)
      clear hm7 hg7 HB6 hbl6
      have hne := fun w => rcmd_neq cc w
      have hgd := fun x y w => cmd_guard .neq cc x y w
      go_upto_region 13 with fail
      clear hne hgd
      obtain ⟨t1, t2⟩ := umod_range count 63 (by omega) (by omega)
      generalize wrap64 ((IntKind.u64.wrap count).tmod 63) = kk at *
      go_wp2_with fail
      generalize wrap64 (kk - 3) = cnt at *
      clear t1 t2
      refine (script_c n cnt w7 hn0 hn1).mono ?_
      rintro e w8 ⟨v1, rfl, hown1, hb8⟩
      have hbl8 : Below w.heap.size w w8 := hbl7.trans (hb8.mono hbl7.size)
      clear hb8
      go_wp2_with fail
      refine (rscript_c n cnt w8 hn0 hn1).mono ?_
      rintro e w9 ⟨v2, rfl, hown2, hb9⟩
      obtain ⟨g1, cap1, rfl, hc1, hbg1, hgl1, hR1⟩ := own_ranges hown1 (by omega) (script_length n cnt)
      obtain ⟨g2, cap2, rfl, hc2, hbg2, hgl2, hR2⟩ := own_ranges hown2 (by omega) (script_length n cnt)
      have HR1 : Hid (∀ i c, (Mi.script n cnt)[i]? = some c → w9.rangeAt g1 (i * 15) c.cells) := fun i c h => rangeAt_grown (hR1 i c h) (grown_of_below' hb9 none) (by simp)
      have HR2 := Lib.hid hR2
      have hbl9 : Below w.heap.size w w9 := hbl8.trans (hb9.mono hbl8.size)
      have hL := script_length n cnt
      have hN : 5 + Mi.many cnt ≤ 400 := by unfold Mi.many; omega
      clear hown1 hown2 hb9 hR1 hR2 hbl8 hbl7 hbg1 hbg2
      generalize Mi.script n cnt = L at *
      generalize 5 + Mi.many cnt = N at *
      have HL := Lib.hid hL
      clear hL
      go_wp2_with fail
      go_loopw [13] (fun i wr => ∃ k : Nat, k ≤ N ∧ i = .int .i64 k ∧ w9.grownBy wr none) (fun i _ => N - (intOf i).toNat)
      case atStart => exact ⟨0, by omega, rfl, World.grownBy.refl _ _⟩
      case round =>
        obtain ⟨j, hj, rfl, hgr⟩ := hrel
        by_cases hjl : j < N
        · obtain ⟨c, hc⟩ : ∃ c, L[j]? = some c := ⟨L[j]'(by have := HL.out; omega), List.getElem?_eq_getElem _⟩
          have r1 := rangeAt_grown (HR1.out j c hc) hgr (by simp)
          have r2 := rangeAt_grown (HR2.out j c hc) hgr (by simp)
          have hne : ∀ w, (binOp .neq 36 c.val (.agg c.cells.toArray)).run Try.prog w = .ok (.bool false) w := fun w => rcmd_neq c w
          have hgd : ∀ x y w, (eqGuard .neq 36 x y c.val (.agg c.cells.toArray)).run Try.prog w = .ok () w := fun x y w => cmd_guard .neq c x y w
          have hsz := hgr.size
          clear hc
          go_wp2_with fail
          refine wp_region_noPanic ?_
          refine wp_region_held_drew (S := fun w' => w'.rangeAt g1 (j * 15) c.cells ∧ w'.rangeAt g2 (j * 15) c.cells) (by kernel_rfl) ⟨r1, r2⟩ (fun hHeld => ?_)
          refine wpAnyH_take (i := 0) (v := ?_) rfl (by kernel_rfl) (by kernel_rfl) (by kernel_rfl) (fun _ _ _ h => h) (Or.inl ⟨by rfl, ?_⟩) hHeld ?_
          rotate_left
          focus
            intro w hSw
            clear hSw
            go_simp
            try with_reducible rfl
          try simp only [Act.put, List.setIfInBounds_toArray, List.set_cons_zero, List.set_cons_succ]
          refine wpAnyH_take (i := 1) (v := ?_) rfl (by kernel_rfl) (by kernel_rfl) (by kernel_rfl) (fun _ _ _ h => h) (Or.inl ⟨by rfl, ?_⟩) hHeld ?_
          rotate_left
          focus
            intro w hSw
            clear hSw
            go_simp
            try with_reducible rfl
          try simp only [Act.put, List.setIfInBounds_toArray, List.set_cons_zero, List.set_cons_succ]
          refine wpAnyH_take (i := 2) (v := ?_) rfl (by kernel_rfl) (by kernel_rfl) (by kernel_rfl) (fun _ _ _ h => h) (Or.inl ⟨by rfl, ?_⟩) hHeld ?_
          rotate_left
          focus
            intro w hSw
            clear hSw
            go_simp
            try with_reducible rfl
          try simp only [Act.put, List.setIfInBounds_toArray, List.set_cons_zero, List.set_cons_succ]
          refine wpAnyH_take (i := 3) rfl (by kernel_rfl) (by kernel_rfl) (by kernel_rfl) (fun _ _ _ h => h) (yieldsIf_load_mid (by rfl) 38 _ rfl g1 (j * 15) rfl c.cells _ (fun w h => h.1) Try.underlying38 rfl (by rw [cells_length]; exact cmdSize)) hHeld ?_
          try simp only [Act.put, List.setIfInBounds_toArray, List.set_cons_zero, List.set_cons_succ]
          refine wpAnyH_take (i := 5) (v := ?_) rfl (by kernel_rfl) (by kernel_rfl) (by kernel_rfl) (fun _ _ _ h => h) (Or.inl ⟨by rfl, ?_⟩) hHeld ?_
          rotate_left
          focus
            intro w hSw
            clear hSw
            go_simp
            try with_reducible rfl
          try simp only [Act.put, List.setIfInBounds_toArray, List.set_cons_zero, List.set_cons_succ]
          refine wpAnyH_take (i := 6) (v := ?_) rfl (by kernel_rfl) (by kernel_rfl) (by kernel_rfl) (fun _ _ _ h => h) (Or.inl ⟨by rfl, ?_⟩) hHeld ?_
          rotate_left
          focus
            intro w hSw
            clear hSw
            go_simp
            try with_reducible rfl
          try simp only [Act.put, List.setIfInBounds_toArray, List.set_cons_zero, List.set_cons_succ]
          refine wpAnyH_take (i := 7) (v := ?_) rfl (by kernel_rfl) (by kernel_rfl) (by kernel_rfl) (fun _ _ _ h => h) (Or.inl ⟨by rfl, ?_⟩) hHeld ?_
          rotate_left
          focus
            intro w hSw
            clear hSw
            go_simp
            try with_reducible rfl
          try simp only [Act.put, List.setIfInBounds_toArray, List.set_cons_zero, List.set_cons_succ]
          refine wpAnyH_take (i := 8) rfl (by kernel_rfl) (by kernel_rfl) (by kernel_rfl) (fun _ _ _ h => h) (yieldsIf_load_mid (by rfl) 36 _ rfl g2 (j * 15) rfl c.cells _ (fun w h => h.2) Try.underlying36 rfl (by rw [cells_length]; exact rcmdSize')) hHeld ?_
          try simp only [Act.put, List.setIfInBounds_toArray, List.set_cons_zero, List.set_cons_succ]
          refine wpAnyH_ready (rs := [4]) (by kernel_rfl) (by simp) ?_
          refine AllReadyH.cons rfl (fun K hK => ?_) AllReadyH.nil
          go_simp
          refine (form_c c _).mono ?_
          rintro e w' ⟨rfl, rfl⟩
          refine hK.out _ _ ⟨World.rangeAt_alloc (World.rangeAt_alloc r1 _) _, World.rangeAt_alloc (World.rangeAt_alloc r2 _) _⟩ (fun hHeld => ?_)
          clear hK K
          try simp only [Act.put, List.setIfInBounds_toArray, List.set_cons_zero, List.set_cons_succ]
          refine wpAnyH_take (i := 9) (v := ?_) rfl (by kernel_rfl) (by kernel_rfl) (by kernel_rfl) (fun _ _ _ h => h) (Or.inl ⟨by rfl, ?_⟩) hHeld ?_
          rotate_left
          focus
            intro w hSw
            clear hSw
            go_simp
            try with_reducible rfl
          try simp only [Act.put, List.setIfInBounds_toArray, List.set_cons_zero, List.set_cons_succ]
          refine wpAnyH_done (by kernel_rfl) ?_ _
          refine NoPanic.normal ?_
          clear hne hgd r1 r2
          go_wp2_with fail
          go_roundw
          case rel => exact ⟨j + 1, by omega, by go_num, grownBy_redrew (grownBy_trans (grownBy_trans hgr (World.grownBy_alloc _ _ _)) (World.grownBy_alloc _ _ _))⟩
          case measure => simp [intOf]; omega
        · obtain rfl : j = N := by omega
          have hbf : Below w.heap.size w wr := hbl9.grown hgr hbl9.size (by intro j hj; simp at hj)
          have h0 : ∀ w, (binOp .eql 38 Cmd.zero.val (.agg #[.int .i64 0, .int .i64 0, .int .i64 0, .int .i64 0, .int .i64 0, .int .i64 0, .int .i64 0, .int .i64 0, .int .i64 0, .int .i64 0, .int .i64 0, .int .i64 0, .int .i64 0, .int .i64 0, .bool false])).run Try.prog w = .ok (.bool true) w := fun w => cmd_eql Cmd.zero w
          have hg0 : ∀ x y w, (eqGuard .eql 38 x y Cmd.zero.val (.agg #[.int .i64 0, .int .i64 0, .int .i64 0, .int .i64 0, .int .i64 0, .int .i64 0, .int .i64 0, .int .i64 0, .int .i64 0, .int .i64 0, .int .i64 0, .int .i64 0, .int .i64 0, .int .i64 0, .bool false])).run Try.prog w = .ok () w := fun x y w => cmd_guard' .eql Cmd.zero x y w
          clear hgr HR1 HR2 HL hbl9
          go_wp2_with (first | (go_at_call 9; refine (next_nil _).mono ?_; rintro e w' ⟨rfl, rfl⟩) | (go_at_call 7; refine (under_nil _).mono ?_; rintro e w' ⟨rfl, q, rfl⟩) | (go_at_call 12; refine (command_nil _).mono ?_; rintro e w' ⟨rfl, rfl⟩))
          go_ret
          exact ⟨rfl, ((below_drewN hbf q).alloc (by have := hbf.size; simp; omega) _)⟩

theorem mintExact_walk (n count : Int) (A : Option Addr) (len cap : Nat) (zs : List Int) (w : World) (hn0 : 0 ≤ n) (hn1 : n < 18446744073709551616) (hcap : len ≤ cap)
    (hz : RdInts w w.heap.size A len zs) (hzw : ∀ z ∈ zs, z ≤ 9223372036854775807) :
    Calls Try.prog 3 #[.int .u64 n, .slice A len cap, .int .i64 count] w fun e w' => e = .returned (.bool true) ∧ Below w.heap.size w w' := by
  by_cases h : len ≤ 60
  · exact mintExact_short n count A len cap zs w hn0 hn1 hcap h hz hzw
  · exact mintExact_long n count A len cap zs w hn0 hn1 hcap (by omega) hz hzw
end Go.Proofs.Ytkinbidpbgkaoaa
