/-
  reply: awake of law 24.
-/
import Derived.Test.YtbningfdpibdkaaDoorRpJ
namespace Go.Proofs.YtbningfdpibdkaaDoor
open Go.RowKit
set_option linter.unusedVariables false
set_option linter.unusedSimpArgs false

def NX : ByteArray := ⟨#[120]⟩
def aw24 : ByteArray := ⟨#[0, 0, 0, 0, 0, 0, 2, 10]⟩
theorem aw24_rep : rdRep aw24 = ((⟨0, 0, [], [], [], [], [5]⟩, false), (8, none)) := by kernel_rfl
theorem enc00 : encI 0 = [0] := by kernel_rfl
theorem bytes00_c (w : World) : Calls Tryd.prog 41 #[.agg #[.int .i64 0, .int .i64 0, .slice none 0 0, .slice none 0 0, .slice none 0 0, .slice none 0 0, .slice none 0 0]] w fun e w' => e = .returned (.string ⟨#[0, 0, 0, 0, 0, 0, 0]⟩) ∧ Below w.heap.size w w' := by
  have := bytes0_c w
  rw [enc00] at this
  exact this
set_option maxRecDepth 100000 in
set_option maxHeartbeats 2000000 in
theorem awake24_c {B : Nat} {E : Nat → Addr} (w : World) (hB : B ≤ w.heap.size) (hE : Errs B w allKinds E) (hg : w.cell? ⟨14, 0, none⟩ = some etV) :
    Calls Tryd.prog 35 #[] w fun e w' => e = .returned (.bool true) ∧ Below w.heap.size w w' := by
  have HERW : Hid (∀ W, Below w.heap.size w W → Errs B W allKinds E) := fun W hb => hE.below (hb.mono hB)
  have v9 : w.cell? ⟨8, 0, none⟩ = some (.iface 104 (.pointer (some (E 9)))) := (hE.var 9 (mem_allKinds (by omega) (by omega))).2
  have v3 : w.cell? ⟨1, 0, none⟩ = some (erV E 3) := (hE.var 3 (mem_allKinds (by omega) (by omega))).2
  have v12 : w.cell? ⟨11, 0, none⟩ = some (.iface 104 (.pointer (some (E 12)))) := (hE.var 12 (mem_allKinds (by omega) (by omega))).2
  obtain ⟨F, hF⟩ : ∃ z, z = w.heap.size := ⟨_, rfl⟩
  obtain ⟨w1, hw1⟩ : ∃ z, z = w.alloc (.cells #[.string ⟨#[120]⟩, .int .i64 7, .iface 104 (.pointer (some (E 9)))] 34) := ⟨_, rfl⟩
  have hb1 : Below w.heap.size w w1 := by rw [hw1]; exact (Below.refl _ _).alloc (Nat.le_refl _) _
  have hF1 : Blk w1 F #[.string ⟨#[120]⟩, .int .i64 7, .iface 104 (.pointer (some (E 9)))] 34 := by rw [hw1, hF]; exact Blk.new w _ _
  have HC1 : Hid (Chain w1 E [(NX, 7)] 9 (faultV F)) := ⟨F, _, rfl, hF1, (erV_some E 9 (by decide)).symm⟩
  have HB1w := Lib.hid hb1
  have HBB := Lib.hid hB
  have HW1 := Lib.hid hw1
  have HF := Lib.hid hF
  have HG := Lib.hid hg
  have HV12 := Lib.hid v12
  have HRD := Lib.hid (read_ok E aw24 w1 (by decide) (show ErrForm w1 E from (hb1.cell (p := ⟨1, 0, none⟩) (World.block_lt_of_cell? w ⟨1, 0, none⟩ v3)).trans v3) (by rw [aw24_rep]; exact ⟨rfl, rfl⟩))
  rw [aw24_rep] at HRD
  have haw : aw24 = ⟨#[0, 0, 0, 0, 0, 0, 2, 10]⟩ := rfl
  rw [haw] at HRD
  clear hb1 hF1 hB hE hw1 hF hg v3 v12 haw
  go_enter Tryd.func35, Tryd.ntmps35
  go_wp2_with fail
  rw [← HW1.out, ← HF.out]
  refine HRD.out.mono ?_
  rintro e w2 ⟨v, rfl, ⟨v2, v3, v4, v5, v6, rfl, ho2, ho3, ho4, ho5, ho6⟩, hb2⟩
  obtain ⟨a2, c2, rfl⟩ := own_len ho2
  obtain ⟨a3, c3, rfl⟩ := own_len ho3
  obtain ⟨a4, c4, rfl⟩ := own_len ho4
  obtain ⟨a5, c5, rfl⟩ := own_len ho5
  obtain ⟨gn, cn, cur, hv6, _, _, hgn, hblk, _, hrows⟩ := own_rows' (k := 1) (enc := intE) (fun _ => rfl) ho6 rfl (by simp)
  subst hv6
  have c5a : w2.cell? ⟨gn, 0, none⟩ = some (.int .i64 5) := hrows 0 5 rfl 0 _ rfl
  have hgl : gn < w2.heap.size := (Array.getElem?_eq_some_iff.1 hblk).1
  simp only [List.length_nil, List.length_singleton]
  obtain ⟨RB, hRB⟩ : ∃ z, z = w2.heap.size := ⟨_, rfl⟩
  obtain ⟨w3, hw3⟩ : ∃ z, z = w2.alloc (.cells #[.int .i64 0, .int .i64 0, .slice a2 0 c2, .slice a3 0 c3, .slice a4 0 c4, .slice a5 0 c5, .slice (some ⟨gn, 0, none⟩) 1 cn] 73) := ⟨_, rfl⟩
  have hb3 : Below w2.heap.size w2 w3 := by rw [hw3]; exact (Below.refl _ _).alloc (Nat.le_refl _) _
  have hkr : Blk w3 RB #[.int .i64 0, .int .i64 0, .slice a2 0 c2, .slice a3 0 c3, .slice a4 0 c4, .slice a5 0 c5, .slice (some ⟨gn, 0, none⟩) 1 cn] 73 := by rw [hw3, hRB]; exact Blk.new w2 _ _
  have hb13 : Below w1.heap.size w1 w3 := hb2.trans (hb3.mono hb2.size)
  have hbw3 : Below w.heap.size w w3 := HB1w.out.trans (hb13.mono HB1w.out.size)
  have HBW3 := Lib.hid hbw3
  have HK6 : Hid (∀ W, Below w3.heap.size w3 W → W.cell? ⟨RB, 6, none⟩ = some (.slice (some ⟨gn, 0, none⟩) 1 cn)) := fun W hb => (hkr.below hb).cell 6 _ rfl
  have hc53 : w3.cell? ⟨gn, 0, none⟩ = some (.int .i64 5) := (hb3.cell (p := ⟨gn, 0, none⟩) hgl).trans c5a
  have HK5 : Hid (∀ W, Below w3.heap.size w3 W → W.cell? ⟨gn, 0, none⟩ = some (.int .i64 5)) := fun W hb => (hb.cell (p := ⟨gn, 0, none⟩) (Nat.lt_of_lt_of_le hgl hb3.size)).trans hc53
  have HBG : Hid (∀ W, Below w3.heap.size w3 W → Below w.heap.size w W) := fun W hb => hbw3.trans (hb.mono hbw3.size)
  have HKF : Hid (∀ W, Below w3.heap.size w3 W → W.cell? ⟨11, 0, none⟩ = some (.iface 104 (.pointer (some (E 12))))) := fun W hb => ((HBG.out W hb).cell (p := ⟨11, 0, none⟩) (World.block_lt_of_cell? w ⟨11, 0, none⟩ HV12.out)).trans HV12.out
  have HET : Hid (∀ W, Below w3.heap.size w3 W → W.cell? ⟨14, 0, none⟩ = some etV) := fun W hb => ((HBG.out W hb).cell (p := ⟨14, 0, none⟩) (World.block_lt_of_cell? w ⟨14, 0, none⟩ HG.out)).trans HG.out
  have HER : Hid (∀ W, Below w3.heap.size w3 W → Errs B W allKinds E) := fun W hb => HERW.out W (HBG.out W hb)
  have HSB : Hid (∀ W, Below w3.heap.size w3 W → B ≤ W.heap.size) := fun W hb => Nat.le_trans HBB.out (HBG.out W hb).size
  have HCH : Hid (∀ W, Below w3.heap.size w3 W → Chain W E [(NX, 7)] 9 (faultV F)) := fun W hb => (HC1.out.below hb13).below hb
  have c60 := HK6.out w3 (Below.refl _ _)
  have c50 := HK5.out w3 (Below.refl _ _)
  have cf0 := HKF.out w3 (Below.refl _ _)
  have HW3 := Lib.hid hw3
  have HRB := Lib.hid hRB
  clear ho2 ho3 ho4 ho5 ho6 hblk hrows c5a hgl hb2 hb3 hkr hb13 hbw3 hc53 hw3 hRB v9
  unfold faultV at HCH
  go_upto_region 3 with fail
  rw [← HW3.out, ← HRB.out]
  refine wp_region_noPanic ?_
  refine wp_region_held_drew (S := (fun w' => w'.cell? ⟨RB, 6, none⟩ = some (.slice (some ⟨gn, 0, none⟩) 1 cn) ∧ w'.cell? ⟨gn, 0, none⟩ = some (.int .i64 5) ∧ w'.cell? ⟨11, 0, none⟩ = some (.iface 104 (.pointer (some (E 12)))))) (by kernel_rfl) ⟨c60, c50, cf0⟩ (fun hHeld => ?_)
  refine wpAnyH_take (i := 0) (v := ?_) rfl (by kernel_rfl) (by kernel_rfl) (by kernel_rfl) (fun _ _ _ h => h) (Or.inl ⟨by rfl, ?_⟩) hHeld ?_
  rotate_left
  focus
    intro w hSw
    clear hSw
    go_simp
    try with_reducible rfl
  try simp only [Act.put, List.getElem_toArray, List.getElem_cons_zero, List.getElem_cons_succ, List.setIfInBounds_toArray, List.set_cons_zero, List.set_cons_succ]
  refine wpAnyH_ready (rs := [1]) (by kernel_rfl) (by simp) ?_
  refine AllReadyH.cons rfl (fun K hK => ?_) AllReadyH.nil
  go_simp
  refine (bytes00_c _).mono ?_
  rintro e z1 ⟨rfl, hb⟩
  have HB1 : Hid (Below w3.heap.size w3 z1) := ⟨hb.os, hb.tape, hb.output, hb.size, hb.block⟩
  clear hb
  have c61 : z1.cell? ⟨RB, 6, none⟩ = some (.slice (some ⟨gn, 0, none⟩) 1 cn) := (HK6.out z1 HB1.out)
  have c51 : z1.cell? ⟨gn, 0, none⟩ = some (.int .i64 5) := (HK5.out z1 HB1.out)
  have cf1 := HKF.out z1 HB1.out
  refine hK.out _ _ ⟨c61, c51, cf1⟩ (fun hHeld => ?_)
  clear hK K
  try simp only [Act.put, List.getElem_toArray, List.getElem_cons_zero, List.getElem_cons_succ, List.setIfInBounds_toArray, List.set_cons_zero, List.set_cons_succ]
  refine wpAnyH_take (i := 2) (v := ?_) rfl (by kernel_rfl) (by kernel_rfl) (by kernel_rfl) (fun _ _ _ h => h) (Or.inl ⟨by rfl, ?_⟩) hHeld ?_
  rotate_left
  focus
    intro w hSw
    clear hSw
    go_simp
    try with_reducible rfl
  try simp only [Act.put, List.getElem_toArray, List.getElem_cons_zero, List.getElem_cons_succ, List.setIfInBounds_toArray, List.set_cons_zero, List.set_cons_succ]
  refine wpAnyH_take (i := 3) (v := ?_) rfl (by kernel_rfl) (by kernel_rfl) (by kernel_rfl) (fun _ _ _ h => h) (Or.inl ⟨by rfl, ?_⟩) hHeld ?_
  rotate_left
  focus
    intro w hSw
    clear hSw
    go_simp
    try with_reducible rfl
  try simp only [Act.put, List.getElem_toArray, List.getElem_cons_zero, List.getElem_cons_succ, List.setIfInBounds_toArray, List.set_cons_zero, List.set_cons_succ]
  refine wpAnyH_take (i := 4) (v := ?_) rfl (by kernel_rfl) (by kernel_rfl) (by kernel_rfl) (fun _ _ _ h => h) (Or.inl ⟨by rfl, ?_⟩) hHeld ?_
  rotate_left
  focus
    intro w hSw
    clear hSw
    go_simp
    try with_reducible rfl
  try simp only [Act.put, List.getElem_toArray, List.getElem_cons_zero, List.getElem_cons_succ, List.setIfInBounds_toArray, List.set_cons_zero, List.set_cons_succ]
  refine wpAnyH_ready (rs := [5]) (by kernel_rfl) (by simp) ?_
  refine AllReadyH.cons rfl (fun K hK => ?_) AllReadyH.nil
  go_simp
  refine hK.out _ _ ⟨c61, c51, cf1⟩ (fun hHeld => ?_)
  clear hK K
  try simp only [Act.put, List.getElem_toArray, List.getElem_cons_zero, List.getElem_cons_succ, List.setIfInBounds_toArray, List.set_cons_zero, List.set_cons_succ]
  refine wpAnyH_ready (rs := [6]) (by kernel_rfl) (by simp) ?_
  refine AllReadyH.cons rfl (fun K hK => ?_) AllReadyH.nil
  go_simp
  refine (code_c z1 (HSB.out z1 HB1.out) (HER.out z1 HB1.out) [(NX, 7)] 9 (by omega) _ (Lib.hid (HCH.out z1 HB1.out))).mono ?_
  rintro e z2 ⟨rfl, hb⟩
  have HB2 := Lib.hid (HB1.out.trans (hb.mono HB1.out.size))
  clear hb
  have c62 : z2.cell? ⟨RB, 6, none⟩ = some (.slice (some ⟨gn, 0, none⟩) 1 cn) := (HK6.out z2 HB2.out)
  have c52 : z2.cell? ⟨gn, 0, none⟩ = some (.int .i64 5) := (HK5.out z2 HB2.out)
  have cf2 := HKF.out z2 HB2.out
  refine hK.out _ _ ⟨c62, c52, cf2⟩ (fun hHeld => ?_)
  clear hK K
  try simp only [Act.put, List.getElem_toArray, List.getElem_cons_zero, List.getElem_cons_succ, List.setIfInBounds_toArray, List.set_cons_zero, List.set_cons_succ]
  refine wpAnyH_take (i := 7) (v := ?_) rfl (by kernel_rfl) (by kernel_rfl) (by kernel_rfl) (fun _ _ _ h => h) (Or.inl ⟨by rfl, ?_⟩) hHeld ?_
  rotate_left
  focus
    intro w hSw
    clear hSw
    go_simp
    try with_reducible rfl
  try simp only [Act.put, List.getElem_toArray, List.getElem_cons_zero, List.getElem_cons_succ, List.setIfInBounds_toArray, List.set_cons_zero, List.set_cons_succ]
  refine wpAnyH_take (i := 8) (v := ?_) rfl (by kernel_rfl) (by kernel_rfl) (by kernel_rfl) (fun _ _ _ h => h) (Or.inl ⟨by rfl, ?_⟩) hHeld ?_
  rotate_left
  focus
    intro w hSw
    clear hSw
    go_simp
    try with_reducible rfl
  try simp only [Act.put, List.getElem_toArray, List.getElem_cons_zero, List.getElem_cons_succ, List.setIfInBounds_toArray, List.set_cons_zero, List.set_cons_succ]
  refine wpAnyH_take (i := 9) (v := ?_) rfl (by kernel_rfl) (by kernel_rfl) (by kernel_rfl) (fun _ _ _ h => h) (Or.inl ⟨by rfl, ?_⟩) hHeld ?_
  rotate_left
  focus
    intro w hSw
    clear hSw
    go_simp
    try with_reducible rfl
  try simp only [Act.put, List.getElem_toArray, List.getElem_cons_zero, List.getElem_cons_succ, List.setIfInBounds_toArray, List.set_cons_zero, List.set_cons_succ]
  refine wpAnyH_take (i := 10) (v := ?_) rfl (by kernel_rfl) (by kernel_rfl) (by kernel_rfl) (fun _ _ _ h => h) (Or.inl ⟨by rfl, ?_⟩) hHeld ?_
  rotate_left
  focus
    intro w hSw
    clear hSw
    go_simp
    try with_reducible rfl
  try simp only [Act.put, List.getElem_toArray, List.getElem_cons_zero, List.getElem_cons_succ, List.setIfInBounds_toArray, List.set_cons_zero, List.set_cons_succ]
  refine wpAnyH_ready (rs := [11]) (by kernel_rfl) (by simp) ?_
  refine AllReadyH.cons rfl (fun K hK => ?_) AllReadyH.nil
  go_simp
  refine hK.out _ _ ⟨c62, c52, cf2⟩ (fun hHeld => ?_)
  clear hK K
  try simp only [Act.put, List.getElem_toArray, List.getElem_cons_zero, List.getElem_cons_succ, List.setIfInBounds_toArray, List.set_cons_zero, List.set_cons_succ]
  refine wpAnyH_ready (rs := [12]) (by kernel_rfl) (by simp) ?_
  refine AllReadyH.cons rfl (fun K hK => ?_) AllReadyH.nil
  go_simp
  refine (at_c E [(NX, 7)] 9 _ z2 (HET.out z2 HB2.out) (Lib.hid (HCH.out z2 HB2.out))).mono ?_
  rintro e z3 ⟨rfl, hb⟩
  have HB3 := Lib.hid (HB2.out.trans (hb.mono HB2.out.size))
  clear hb
  have c63 : z3.cell? ⟨RB, 6, none⟩ = some (.slice (some ⟨gn, 0, none⟩) 1 cn) := (HK6.out z3 HB3.out)
  have c53 : z3.cell? ⟨gn, 0, none⟩ = some (.int .i64 5) := (HK5.out z3 HB3.out)
  have cf3 := HKF.out z3 HB3.out
  refine hK.out _ _ ⟨c63, c53, cf3⟩ (fun hHeld => ?_)
  clear hK K
  try simp only [Act.put, List.getElem_toArray, List.getElem_cons_zero, List.getElem_cons_succ, List.setIfInBounds_toArray, List.set_cons_zero, List.set_cons_succ]
  refine wpAnyH_take (i := 13) (v := ?_) rfl (by kernel_rfl) (by kernel_rfl) (by kernel_rfl) (fun _ _ _ h => h) (Or.inl ⟨by rfl, ?_⟩) hHeld ?_
  rotate_left
  focus
    intro w hSw
    clear hSw
    go_simp
    try with_reducible rfl
  try simp only [Act.put, List.getElem_toArray, List.getElem_cons_zero, List.getElem_cons_succ, List.setIfInBounds_toArray, List.set_cons_zero, List.set_cons_succ]
  refine wpAnyH_take (i := 14) (v := ?_) rfl (by kernel_rfl) (by kernel_rfl) (by kernel_rfl) (fun _ _ _ h => h) (Or.inl ⟨by rfl, ?_⟩) hHeld ?_
  rotate_left
  focus
    intro w hSw
    clear hSw
    go_simp
    try with_reducible rfl
  try simp only [Act.put, List.getElem_toArray, List.getElem_cons_zero, List.getElem_cons_succ, List.setIfInBounds_toArray, List.set_cons_zero, List.set_cons_succ]
  refine wpAnyH_take (i := 15) (v := ?_) rfl (by kernel_rfl) (by kernel_rfl) (by kernel_rfl) (fun _ _ _ h => h) (Or.inl ⟨by rfl, ?_⟩) hHeld ?_
  rotate_left
  focus
    intro w hSw
    clear hSw
    go_simp
    try with_reducible rfl
  try simp only [Act.put, List.getElem_toArray, List.getElem_cons_zero, List.getElem_cons_succ, List.setIfInBounds_toArray, List.set_cons_zero, List.set_cons_succ]
  refine wpAnyH_ready (rs := [16]) (by kernel_rfl) (by simp) ?_
  refine AllReadyH.cons rfl (fun K hK => ?_) AllReadyH.nil
  go_simp
  refine (code_c z3 (HSB.out z3 HB3.out) (HER.out z3 HB3.out) [] 0 (by omega) .nilIface (Lib.hid rfl)).mono ?_
  rintro e z4 ⟨rfl, hb⟩
  have HB4 := Lib.hid (HB3.out.trans (hb.mono HB3.out.size))
  clear hb
  have c64 : z4.cell? ⟨RB, 6, none⟩ = some (.slice (some ⟨gn, 0, none⟩) 1 cn) := (HK6.out z4 HB4.out)
  have c54 : z4.cell? ⟨gn, 0, none⟩ = some (.int .i64 5) := (HK5.out z4 HB4.out)
  have cf4 := HKF.out z4 HB4.out
  refine hK.out _ _ ⟨c64, c54, cf4⟩ (fun hHeld => ?_)
  clear hK K
  try simp only [Act.put, List.getElem_toArray, List.getElem_cons_zero, List.getElem_cons_succ, List.setIfInBounds_toArray, List.set_cons_zero, List.set_cons_succ]
  refine wpAnyH_take (i := 17) (v := ?_) rfl (by kernel_rfl) (by kernel_rfl) (by kernel_rfl) (fun _ _ _ h => h) (Or.inl ⟨by rfl, ?_⟩) hHeld ?_
  rotate_left
  focus
    intro w hSw
    clear hSw
    go_simp
    try with_reducible rfl
  try simp only [Act.put, List.getElem_toArray, List.getElem_cons_zero, List.getElem_cons_succ, List.setIfInBounds_toArray, List.set_cons_zero, List.set_cons_succ]
  refine wpAnyH_take (i := 18) (v := ?_) rfl (by kernel_rfl) (by kernel_rfl) (by kernel_rfl) (fun _ _ _ h => h) (Or.inl ⟨by rfl, ?_⟩) hHeld ?_
  rotate_left
  focus
    intro w hSw
    clear hSw
    go_simp
    try with_reducible rfl
  try simp only [Act.put, List.getElem_toArray, List.getElem_cons_zero, List.getElem_cons_succ, List.setIfInBounds_toArray, List.set_cons_zero, List.set_cons_succ]
  refine wpAnyH_take (i := 19) (v := ?_) rfl (by kernel_rfl) (by kernel_rfl) (by kernel_rfl) (fun _ _ _ h => h) (Or.inl ⟨by rfl, ?_⟩) hHeld ?_
  rotate_left
  focus
    intro w hSw
    clear hSw
    go_simp
    try with_reducible rfl
  try simp only [Act.put, List.getElem_toArray, List.getElem_cons_zero, List.getElem_cons_succ, List.setIfInBounds_toArray, List.set_cons_zero, List.set_cons_succ]
  refine wpAnyH_take (i := 20) (v := ?_) rfl (by kernel_rfl) (by kernel_rfl) (by kernel_rfl) (fun _ _ _ h => h) (Or.inl ⟨by rfl, ?_⟩) hHeld ?_
  rotate_left
  focus
    intro w hSw
    clear hSw
    go_simp
    try with_reducible rfl
  try simp only [Act.put, List.getElem_toArray, List.getElem_cons_zero, List.getElem_cons_succ, List.setIfInBounds_toArray, List.set_cons_zero, List.set_cons_succ]
  refine wpAnyH_take (i := 21) (v := ?_) rfl (by kernel_rfl) (by kernel_rfl) (by kernel_rfl) (fun _ _ _ h => h) (Or.inl ⟨by rfl, ?_⟩) hHeld ?_
  rotate_left
  focus
    intro w hSw
    clear hSw
    go_simp
    try with_reducible rfl
  try simp only [Act.put, List.getElem_toArray, List.getElem_cons_zero, List.getElem_cons_succ, List.setIfInBounds_toArray, List.set_cons_zero, List.set_cons_succ]
  refine wpAnyH_take (i := 22) (v := ?_) rfl (by kernel_rfl) (by kernel_rfl) (by kernel_rfl) (fun _ _ _ h => h) (Or.inl ⟨by rfl, ?_⟩) hHeld ?_
  rotate_left
  focus
    intro w hSw
    clear hSw
    go_simp
    try with_reducible rfl
  try simp only [Act.put, List.getElem_toArray, List.getElem_cons_zero, List.getElem_cons_succ, List.setIfInBounds_toArray, List.set_cons_zero, List.set_cons_succ]
  refine wpAnyH_take (i := 23) (v := ?_) rfl (by kernel_rfl) (by kernel_rfl) (by kernel_rfl) (fun _ _ _ h => h) (Or.inl ⟨by rfl, ?_⟩) hHeld ?_
  rotate_left
  focus
    intro w hSw
    clear hSw
    go_simp
    try with_reducible rfl
  try simp only [Act.put, List.getElem_toArray, List.getElem_cons_zero, List.getElem_cons_succ, List.setIfInBounds_toArray, List.set_cons_zero, List.set_cons_succ]
  refine wpAnyH_take (i := 24) (v := ?_) rfl (by kernel_rfl) (by kernel_rfl) (by kernel_rfl) (fun _ _ _ h => h) (Or.inl ⟨by rfl, ?_⟩) hHeld ?_
  rotate_left
  focus
    intro w hSw
    clear hSw
    go_simp
    try with_reducible rfl
  try simp only [Act.put, List.getElem_toArray, List.getElem_cons_zero, List.getElem_cons_succ, List.setIfInBounds_toArray, List.set_cons_zero, List.set_cons_succ]
  refine wpAnyH_take (i := 25) (v := ?_) rfl (by kernel_rfl) (by kernel_rfl) (by kernel_rfl) (fun _ _ _ h => h) (Or.inl ⟨by rfl, ?_⟩) hHeld ?_
  rotate_left
  focus
    intro w hSw
    (try dsimp only at hSw)
    go_simp
    try with_reducible rfl
  try simp only [Act.put, List.getElem_toArray, List.getElem_cons_zero, List.getElem_cons_succ, List.setIfInBounds_toArray, List.set_cons_zero, List.set_cons_succ]
  refine wpAnyH_take (i := 26) (v := ?_) rfl (by kernel_rfl) (by kernel_rfl) (by kernel_rfl) (fun _ _ _ h => h) (Or.inl ⟨by rfl, ?_⟩) hHeld ?_
  rotate_left
  focus
    intro w hSw
    clear hSw
    go_simp
    try with_reducible rfl
  try simp only [Act.put, List.getElem_toArray, List.getElem_cons_zero, List.getElem_cons_succ, List.setIfInBounds_toArray, List.set_cons_zero, List.set_cons_succ]
  refine wpAnyH_take (i := 27) (v := ?_) rfl (by kernel_rfl) (by kernel_rfl) (by kernel_rfl) (fun _ _ _ h => h) (Or.inl ⟨by rfl, ?_⟩) hHeld ?_
  rotate_left
  focus
    intro w hSw
    clear hSw
    go_simp
    try with_reducible rfl
  try simp only [Act.put, List.getElem_toArray, List.getElem_cons_zero, List.getElem_cons_succ, List.setIfInBounds_toArray, List.set_cons_zero, List.set_cons_succ]
  refine wpAnyH_take (i := 28) (v := ?_) rfl (by kernel_rfl) (by kernel_rfl) (by kernel_rfl) (fun _ _ _ h => h) (Or.inl ⟨by rfl, ?_⟩) hHeld ?_
  rotate_left
  focus
    intro w hSw
    clear hSw
    go_simp
    try with_reducible rfl
  try simp only [Act.put, List.getElem_toArray, List.getElem_cons_zero, List.getElem_cons_succ, List.setIfInBounds_toArray, List.set_cons_zero, List.set_cons_succ]
  refine wpAnyH_take (i := 29) (v := ?_) rfl (by kernel_rfl) (by kernel_rfl) (by kernel_rfl) (fun _ _ _ h => h) (Or.inl ⟨by rfl, ?_⟩) hHeld ?_
  rotate_left
  focus
    intro w hSw
    clear hSw
    go_simp
    try with_reducible rfl
  try simp only [Act.put, List.getElem_toArray, List.getElem_cons_zero, List.getElem_cons_succ, List.setIfInBounds_toArray, List.set_cons_zero, List.set_cons_succ]
  refine wpAnyH_take (i := 30) (v := ?_) rfl (by kernel_rfl) (by kernel_rfl) (by kernel_rfl) (fun _ _ _ h => h) (Or.inl ⟨by rfl, ?_⟩) hHeld ?_
  rotate_left
  focus
    intro w hSw
    clear hSw
    go_simp
    try with_reducible rfl
  try simp only [Act.put, List.getElem_toArray, List.getElem_cons_zero, List.getElem_cons_succ, List.setIfInBounds_toArray, List.set_cons_zero, List.set_cons_succ]
  refine wpAnyH_take (i := 31) (v := ?_) rfl (by kernel_rfl) (by kernel_rfl) (by kernel_rfl) (fun _ _ _ h => h) (Or.inl ⟨by rfl, ?_⟩) hHeld ?_
  rotate_left
  focus
    intro w hSw
    (try dsimp only at hSw)
    go_simp
    try with_reducible rfl
  try simp only [Act.put, List.getElem_toArray, List.getElem_cons_zero, List.getElem_cons_succ, List.setIfInBounds_toArray, List.set_cons_zero, List.set_cons_succ]
  refine wpAnyH_take (i := 32) (v := ?_) rfl (by kernel_rfl) (by kernel_rfl) (by kernel_rfl) (fun _ _ _ h => h) (Or.inl ⟨by rfl, ?_⟩) hHeld ?_
  rotate_left
  focus
    intro w hSw
    clear hSw
    go_simp
    try with_reducible rfl
  try simp only [Act.put, List.getElem_toArray, List.getElem_cons_zero, List.getElem_cons_succ, List.setIfInBounds_toArray, List.set_cons_zero, List.set_cons_succ]
  refine wpAnyH_take (i := 33) (v := ?_) rfl (by kernel_rfl) (by kernel_rfl) (by kernel_rfl) (fun _ _ _ h => h) (Or.inl ⟨by rfl, ?_⟩) hHeld ?_
  rotate_left
  focus
    intro w hSw
    (try dsimp only at hSw)
    go_simp
    try with_reducible rfl
  try simp only [Act.put, List.getElem_toArray, List.getElem_cons_zero, List.getElem_cons_succ, List.setIfInBounds_toArray, List.set_cons_zero, List.set_cons_succ]
  refine wpAnyH_take (i := 34) (v := ?_) rfl (by kernel_rfl) (by kernel_rfl) (by kernel_rfl) (fun _ _ _ h => h) (Or.inl ⟨by rfl, ?_⟩) hHeld ?_
  rotate_left
  focus
    intro w hSw
    clear hSw
    go_simp
    try with_reducible rfl
  try simp only [Act.put, List.getElem_toArray, List.getElem_cons_zero, List.getElem_cons_succ, List.setIfInBounds_toArray, List.set_cons_zero, List.set_cons_succ]
  refine wpAnyH_take (i := 35) (v := ?_) rfl (by kernel_rfl) (by kernel_rfl) (by kernel_rfl) (fun _ _ _ h => h) (Or.inl ⟨by rfl, ?_⟩) hHeld ?_
  rotate_left
  focus
    intro w hSw
    clear hSw
    go_simp
    try with_reducible rfl
  try simp only [Act.put, List.getElem_toArray, List.getElem_cons_zero, List.getElem_cons_succ, List.setIfInBounds_toArray, List.set_cons_zero, List.set_cons_succ]
  refine wpAnyH_take (i := 36) (v := ?_) rfl (by kernel_rfl) (by kernel_rfl) (by kernel_rfl) (fun _ _ _ h => h) (Or.inl ⟨by rfl, ?_⟩) hHeld ?_
  rotate_left
  focus
    intro w hSw
    clear hSw
    go_simp
    try with_reducible rfl
  try simp only [Act.put, List.getElem_toArray, List.getElem_cons_zero, List.getElem_cons_succ, List.setIfInBounds_toArray, List.set_cons_zero, List.set_cons_succ]
  refine wpAnyH_take (i := 38) (v := ?_) rfl (by kernel_rfl) (by kernel_rfl) (by kernel_rfl) (fun _ _ _ h => h) (Or.inl ⟨by rfl, ?_⟩) hHeld ?_
  rotate_left
  focus
    intro w hSw
    (try dsimp only at hSw)
    go_simp
    try with_reducible rfl
  try simp only [Act.put, List.getElem_toArray, List.getElem_cons_zero, List.getElem_cons_succ, List.setIfInBounds_toArray, List.set_cons_zero, List.set_cons_succ]
  refine wpAnyH_ready (rs := [37]) (by kernel_rfl) (by simp) ?_
  refine AllReadyH.cons rfl (fun K hK => ?_) AllReadyH.nil
  go_simp
  refine (rerr_c 12 z4 (HER.out z4 HB4.out)).mono ?_
  rintro e z5 ⟨rfl, hb⟩
  have HB5 := Lib.hid (HB4.out.trans (hb.mono HB4.out.size))
  clear hb
  have c65 : z5.cell? ⟨RB, 6, none⟩ = some (.slice (some ⟨gn, 0, none⟩) 1 cn) := (HK6.out z5 HB5.out)
  have c55 : z5.cell? ⟨gn, 0, none⟩ = some (.int .i64 5) := (HK5.out z5 HB5.out)
  have cf5 := HKF.out z5 HB5.out
  refine hK.out _ _ ⟨c65, c55, cf5⟩ (fun hHeld => ?_)
  clear hK K
  try simp only [Act.put, List.getElem_toArray, List.getElem_cons_zero, List.getElem_cons_succ, List.setIfInBounds_toArray, List.set_cons_zero, List.set_cons_succ]
  refine wpAnyH_ready (rs := [39]) (by kernel_rfl) (by simp) ?_
  refine AllReadyH.cons rfl (fun K hK => ?_) AllReadyH.nil
  go_simp
  refine (is_same (E 12) z5).mono ?_
  rintro e z6 ⟨rfl, rfl⟩
  refine hK.out _ _ ⟨c65, c55, cf5⟩ (fun hHeld => ?_)
  clear hK K
  try simp only [Act.put, List.getElem_toArray, List.getElem_cons_zero, List.getElem_cons_succ, List.setIfInBounds_toArray, List.set_cons_zero, List.set_cons_succ]
  refine wpAnyH_take (i := 40) (v := ?_) rfl (by kernel_rfl) (by kernel_rfl) (by kernel_rfl) (fun _ _ _ h => h) (Or.inl ⟨by rfl, ?_⟩) hHeld ?_
  rotate_left
  focus
    intro w hSw
    clear hSw
    go_simp
    try with_reducible rfl
  try simp only [Act.put, List.getElem_toArray, List.getElem_cons_zero, List.getElem_cons_succ, List.setIfInBounds_toArray, List.set_cons_zero, List.set_cons_succ]
  refine wpAnyH_take (i := 41) (v := ?_) rfl (by kernel_rfl) (by kernel_rfl) (by kernel_rfl) (fun _ _ _ h => h) (Or.inl ⟨by rfl, ?_⟩) hHeld ?_
  rotate_left
  focus
    intro w hSw
    clear hSw
    go_simp
    try with_reducible rfl
  try simp only [Act.put, List.getElem_toArray, List.getElem_cons_zero, List.getElem_cons_succ, List.setIfInBounds_toArray, List.set_cons_zero, List.set_cons_succ]
  refine wpAnyH_done (by kernel_rfl) ?_ _
  refine NoPanic.normal ?_
  go_wp2_with fail
  go_ret
  exact ⟨rfl, HBG.out _ HB5.out⟩
end Go.Proofs.YtbningfdpibdkaaDoor
