/-
  RingLast: the walk.
-/
import Derived.Test.YtkinbidpbgkaoaaDoorRinD
import Derived.Laws.IdiomStrings
namespace Go.Proofs.YtkinbidpbgkaoaaDoor
open Go.RowKit
set_option linter.unusedVariables false

theorem info_u8 : (Tryd.prog.info? 5).map (fun i => (i.zero, i.size, i.bytes)) = some (some (.int .u8 0), 1, 1) := by kernel_rfl
/-- Behind a line that fits by itself: that line is kept, and the newest of those that went would have been too much. -/
theorem trim_last2 (size : Nat) (l : List ByteArray) (s : ByteArray) (hs : wt s ≤ size) : ∃ k, k ≤ l.length ∧ trim size (l ++ [s]) = l.drop k ++ [s] ∧ (0 < k → ∃ x, l[k - 1]? = some x ∧ size < wt x + sumW (l.drop k ++ [s])) := by
  obtain ⟨j, h1, h2, h3⟩ := trim_drop size (l ++ [s])
  by_cases hj : j ≤ l.length
  · refine ⟨j, hj, by rw [h2, List.drop_append_of_le_length hj], fun hj0 => ?_⟩
    rcases h3 with h3 | h3
    · omega
    · refine ⟨l[j - 1], List.getElem?_eq_getElem (by omega), ?_⟩
      rw [List.drop_append_of_le_length (by omega), drop_cons (List.getElem?_eq_getElem (show j - 1 < l.length by omega)), show j - 1 + 1 = j by omega] at h3
      exact h3
  · rw [List.length_append, List.length_singleton] at h1
    obtain rfl : j = l.length + 1 := by omega
    rcases h3 with h3 | h3
    · omega
    · rw [Nat.add_sub_cancel, List.drop_append_of_le_length (Nat.le_refl _), List.drop_length, List.nil_append] at h3
      simp only [sumW] at h3
      omega
theorem wt_mem {l : List ByteArray} {x : ByteArray} (h : x ∈ l) : wt x ≤ sumW l := by
  induction l with
  | nil => simp at h
  | cons y r ih =>
    rcases List.mem_cons.1 h with rfl | h
    · simp only [sumW]; omega
    · have := ih h
      simp only [sumW]; omega
def um (z m : Int) : Int := (IntKind.u64.wrap z).tmod m
theorem um_range (z m : Int) (hm : 0 < m) : 0 ≤ um z m ∧ um z m < m := by
  have h0 : 0 ≤ IntKind.u64.wrap z := by simp [IntKind.wrap, IntKind.signed, IntKind.bits]; omega
  unfold um
  rw [Int.tmod_eq_emod_of_nonneg h0]
  exact ⟨Int.emod_nonneg _ (by omega), Int.emod_lt_of_pos _ hm⟩
/-- The k-th line: q times one letter. -/
def lineB (k q : Nat) : ByteArray := ⟨(List.replicate q (UInt8.ofNat (97 + k % 26))).toArray⟩
theorem lineB_size (k q : Nat) : (lineB k q).size = q := by
  show (lineB k q).data.size = q
  simp [lineB]
theorem lineB_nl (k q : Nat) : hasNl (lineB k q) = false := by
  rw [← Bool.not_eq_true, hasNl_iff]
  rintro ⟨j, hj⟩
  simp only [lineB, List.getElem?_replicate] at hj
  split at hj
  · have e : UInt8.ofNat (97 + k % 26) = 10 := by simpa using hj
    have := congrArg UInt8.toNat e
    rw [UInt8.toNat_ofNat_of_lt' (by show _ < 256; omega)] at this
    simp at this
    omega
  · cases hj
set_option maxRecDepth 100000 in
set_option maxHeartbeats 8000000 in
theorem ringLast_walk (Er : Nat → Addr) (size : Int) (A : Option Addr) (len cap : Nat) (zs : List Int) (w : World) (hE : Errs w.heap.size w [1, 2] Er) (hz : Hid (RdInts w w.heap.size A len zs)) (hcap : len ≤ cap) (hcm : cap ≤ maxLen)
    (hs1 : -9223372036854775808 ≤ size) (hs2 : size ≤ 9223372036854775807) :
    Calls Tryd.prog 7 #[.int .i64 size, .slice A len cap] w fun e w' => e = .returned (.bool true) ∧ Below w.heap.size w w' := by
  obtain ⟨i0, hi, hz0, hz1, hz2⟩ := info_parts info_str
  obtain ⟨iu, hiu, hu0, hu1, hu2⟩ := info_parts info_u8
  have hlM : (len : Int) ≤ 9223372036854775807 := by unfold maxLen at hcm; omega
  clear hE
  have hr80 := um_range size 80 (by omega)
  obtain ⟨m80, hm80⟩ : ∃ m : Nat, um size 80 = m := ⟨(um size 80).toNat, by omega⟩
  obtain ⟨sz, hsz⟩ : ∃ sz : Nat, sz = 21 + m80 := ⟨_, rfl⟩
  have hszI : (21 : Int) + (m80 : Int) = (sz : Int) := by omega
  have hw80 : wrap64 ((IntKind.u64.wrap size).tmod 80) = (m80 : Int) := by
    show wrap64 (um size 80) = _
    rw [hm80]
    unfold wrap64
    omega
  have hsz1 : 21 ≤ sz := by omega
  have hsz2 : sz ≤ 100 := by omega
  clear hr80 hm80 hsz
  go_enter Tryd.func7, Tryd.ntmps7
  go_wp2_with fail
  refine (awake38_c w).mono ?_
  rintro e w1 ⟨rfl, hb1⟩
  go_wp2_with fail
  refine (rnew_c sz w1 (by omega) (by omega)).mono ?_
  rintro e w2 ⟨rfl, hr2, hb2⟩
  have hbw2 := hb1.trans (hb2.mono hb1.size)
  have hs1 := hb1.size
  have HR2 := Lib.hid (hr2.below (below_grw w2 (.cells #[] 9)))
  have HBW2 := Lib.hid (hbw2.trans ((below_grw w2 (.cells #[] 9)).mono hbw2.size))
  have hlt12 := hr2.blk.lt
  clear hr2 hb2 hb1 hbw2 hw80 hszI
  go_wp2_with fail
  go_loopw [7, 8, 9, 10, 11, 12] (fun s7 s8 _ _ _ _ wx => ∃ (k : Nat) (v : Value) (was : List ByteArray) (Aw : Option Addr) (cw : Nat) (wr : World), wr = wx ∧ k ≤ 60 ∧ k ≤ len ∧ s8 = .int .i64 k ∧ s7 = .slice Aw was.length cw ∧ RngV wr w1.heap.size w1.heap.size sz was k v ∧ was = trim sz was ∧ was.length ≤ k ∧ RdRows wr wr.heap.size strC 1 Aw was.length was ∧ Hid (∀ b o, Aw = some ⟨b, o, none⟩ → 0 < was.length → ¬ RngF w1.heap.size v b) ∧ was.length ≤ cw ∧ Below w.heap.size w wr) (fun _ s8 _ _ _ _ _ => 60 - (intOf s8).toNat)
  case atStart => exact ⟨0, _, [], _, _, _, rfl, by omega, by omega, rfl, rfl, HR2.out, rfl, Nat.le_refl _, ⟨rfl, fun h => absurd h (by simp)⟩, fun _ _ _ h => absurd h (by simp), Nat.le_refl _, HBW2.out⟩
  case round =>
    obtain ⟨k, v, was, Aw, cw, wr, rfl, hk, hkl, rfl, rfl, hrg, hwt, hwk, hwas, hap, hcw, hbl⟩ := hrel
    have HRG := Lib.hid hrg
    have HWAS0 := Lib.hid hwas
    have HWT := Lib.hid hwt
    have hwl : was.length ≤ 100 := by
      have := sumW_len was
      have := trim_le sz was
      rw [← hwt] at this
      omega
    clear hrg hwas hwt
    by_cases h1 : k < len
    · by_cases h2 : k < 60
      · obtain ⟨b, off, rfl, hb, hcell⟩ := hz.out.2 (by omega)
        have cx : wr.cell? ⟨b, off + k, none⟩ = some (.int .i64 (zs.getD k 0)) := (hbl.cell (p := ⟨b, off + k, none⟩) hb).trans (hcell k h1)
        have hk1 : (k : Int) < (len : Int) := by omega
        have hk2 : (k : Int) < 60 := by omega
        have hr21 := um_range (zs.getD k 0) 21 (by omega)
        obtain ⟨q, hq⟩ : ∃ q : Nat, um (zs.getD k 0) 21 = q := ⟨(um (zs.getD k 0) 21).toNat, by omega⟩
        have hw21 : wrap64 ((IntKind.u64.wrap (zs.getD k 0)).tmod 21) = (q : Int) := by
          show wrap64 (um (zs.getD k 0) 21) = _
          rw [hq]
          unfold wrap64
          omega
        have hq21 : q ≤ 20 := by omega
        clear hcell hr21 hq
        generalize zs.getD k 0 = zk at cx hw21
        have hslt := HRG.out.blk.lt
        go_wp2_with (refine wpList_make_full _ rfl _ _ _ rfl wr.heap.size 5 iu (.int .u8 0) 1 Tryd.underlying69 hiu hu0 hu1 .i64 .i64 _ _ q rfl rfl hw21 hw21 (by rw [hu2]; omega) (by unfold maxLen; omega) (Nat.le_refl _) ?_)
        intro w3 hown3 hg3
        have hB3 : ∃ cur, Blk w3 wr.heap.size cur 5 ∧ cur.size = q := by
          rcases hown3.2 with ⟨h0, _⟩ | ⟨g, c3, cur, hv, _, hc, _, _, hcs, _⟩
          · cases h0
          · cases hv
            exact ⟨cur, hc, by omega⟩
        obtain ⟨cur3, hB3, hcs3⟩ := hB3
        have hbl3 : Below wr.heap.size wr w3 := ⟨hg3.os, hg3.tape, hg3.output, hg3.size, fun k hk => hg3.block k hk (by simp)⟩
        clear hown3 hg3 cx hw21
        go_wp2_with fail
        go_loopw [10] (fun s10 wx => ∃ (j : Nat) (cur : Array Value) (wy : World), wy = wx ∧ j ≤ q ∧ s10 = .int .i64 j ∧ Blk wy wr.heap.size cur 5 ∧ cur.size = q ∧ Hid (∀ i, i < j → cur[i]? = some (.int .u8 ((97 + k % 26 : Nat) : Int))) ∧ Below wr.heap.size wr wy) (fun s10 _ => q - (intOf s10).toNat)
        case atStart => exact ⟨0, cur3, _, rfl, by omega, rfl, hB3, hcs3, fun i hi => absurd hi (by omega), hbl3⟩
        case round =>
          obtain ⟨j, cur, wy, rfl, hj, rfl, hB, hcs, hset, hby⟩ := hrel
          have HBk := Lib.hid hB
          by_cases hlt : j < q
          · have cc := hB.cell j cur[j] (Array.getElem?_eq_getElem (by omega))
            have fc := hB.free j
            have hjq : (j : Int) < (q : Int) := by omega
            have hcv : ((97 : Int) + (k : Int) % 26) = ((97 + k % 26 : Nat) : Int) := by omega
            have HB2 : Hid (Blk (wy.setCell ⟨wr.heap.size, j, none⟩ (.int .u8 ((97 + k % 26 : Nat) : Int))) wr.heap.size (cur.setIfInBounds j (.int .u8 ((97 + k % 26 : Nat) : Int))) 5) := hB.set j _
            have HBY : Hid (Below wr.heap.size wr (wy.setCell ⟨wr.heap.size, j, none⟩ (.int .u8 ((97 + k % 26 : Nat) : Int)))) := hby.setCell (p := ⟨wr.heap.size, j, none⟩) (Nat.le_refl _) _
            have HSET : Hid (∀ i, i < j + 1 → (cur.setIfInBounds j (.int .u8 ((97 + k % 26 : Nat) : Int)))[i]? = some (.int .u8 ((97 + k % 26 : Nat) : Int))) := fun i hi => by
              by_cases e : i = j
              · subst e; rw [Array.getElem?_setIfInBounds_self_of_lt (by omega)]
              · rw [Array.getElem?_setIfInBounds_ne (by omega)]
                exact hset.out i (by omega)
            have hcm' : IntKind.u8.wrap ((97 + k % 26 : Nat) : Int) = ((97 + k % 26 : Nat) : Int) := by
              simp [IntKind.wrap, IntKind.signed, IntKind.bits]; omega
            clear hset hB
            generalize (97 + k % 26 : Nat) = ch at *
            go_wp2_with fail
            go_roundw
            case rel => exact ⟨j + 1, _, _, rfl, by omega, by go_num, HB2.out, by rw [Array.size_setIfInBounds]; exact hcs, HSET.out, HBY.out⟩
            case measure => simp [intOf]; omega
          · obtain rfl : j = q := by omega
            have hwtl : wt (lineB k j) ≤ sz := by unfold wt; rw [lineB_size]; omega
            have HCONV : Hid (∀ w', w'.heap[wr.heap.size]? = wy.heap[wr.heap.size]? → (convert 69 9 (.slice (some ⟨wr.heap.size, 0, none⟩) j j)).run Tryd.prog w' = .ok (.string (lineB k j)) w') := fun w' hb => by
              have := run_convert_bytes_back (P := Tryd.prog) w' 69 9 5 ⟨wr.heap.size, 0, none⟩ j (List.replicate j (UInt8.ofNat (97 + k % 26))) Tryd.underlying69 Tryd.underlying5 Tryd.underlying9 (fun i hi => by
                have hi' : i < j := by simpa using hi
                rw [Addr.add_mid, Nat.zero_add, (hB.of hb).cell i _ (hset.out i hi')]
                congr 2
                simp only [List.getElem_replicate]
                rw [UInt8.toNat_ofNat_of_lt' (by show _ < 256; omega)])
              rw [List.length_replicate] at this
              exact this
            have hconv0 := HCONV.out wy rfl
            have hbly := hbl.trans (hby.mono hbl.size)
            have HRGY := Lib.hid (HRG.out.below hby)
            have HADD := Lib.hid (radd_ok w1.heap.size w1.heap.size sz was k v (lineB k j) wy (Nat.le_of_lt HRGY.out.blk.lt) HRGY (lineB_nl _ _) hwtl (by omega) (by rw [HWT.out]; exact trim_le _ _) (by omega))
            obtain ⟨kk, hkk, htr, hgone⟩ := trim_last2 sz was (lineB k j) hwtl
            have HTRIM := Lib.hid htr
            have HGONE0 := Lib.hid hgone
            have HSZ : Hid ((lineB k j).size = j) := lineB_size k j
            clear htr hgone hset hwtl
            generalize lineB k j = s at *
            go_wp2_with fail
            refine HADD.out.mono ?_
            rintro e w5 ⟨rfl, v5, hr5, ht5, hl5⟩
            obtain ⟨NW, hNW⟩ : ∃ NW, NW = trim sz (was ++ [s]) := ⟨_, rfl⟩
            rw [← hNW] at hr5
            have HNWD : Hid (trim sz NW = NW) := by show _ = _; rw [hNW]; exact trim_fits (trim_le _ _)
            have HNWE : Hid (NW = was.drop kk ++ [s]) := hNW.trans HTRIM.out
            have hbl5 := hbly.trans (ht5.below (B := w.heap.size) hbly.size (fun g hf => by
              rcases hf with hf | hf
              · have := hbl.size; omega
              · have := (HRGY.out.row.lt g hf).1; omega))
            have HWAS5 : Hid (RdRows w5 w5.heap.size strC 1 Aw was.length was) := ht5.rows ((HWAS0.out.below hby (Nat.le_refl _)).mono hby.size) (fun b o hp hA => hap.out b o hA hp)
            have hg5 : w5.heap[wr.heap.size]? = wy.heap[wr.heap.size]? := ht5.block _ hB.lt (fun hf => by
              rcases hf with hf | hf
              · omega
              · have := (HRG.out.row.lt _ hf).2; omega)
            have HCONV5 : Hid (∀ w', Below w5.heap.size w5 w' → (convert 69 9 (.slice (some ⟨wr.heap.size, 0, none⟩) j j)).run Tryd.prog w' = .ok (.string s) w') := fun w' hb => HCONV.out w' ((hb.block _ (Nat.lt_of_lt_of_le hB.lt ht5.size)).trans hg5)
            have HR5 := Lib.hid hr5
            have hnl := congrArg List.length HNWE.out
            rw [List.length_append, List.length_drop, List.length_singleton] at hnl
            obtain ⟨M, hM⟩ : ∃ M, M = was.length - kk := ⟨_, rfl⟩
            have HM := Lib.hid hM
            have hNM : NW.length = M + 1 := by omega
            have HNM := Lib.hid hNM
            have hMl : M ≤ 100 := by omega
            have hMk : (M : Int) + (kk : Int) = (was.length : Int) := by omega
            clear hM hr5 ht5 hl5 hNW hbly hg5 hconv0 hB hnl hNM HADD
            go_wp2_with fail
            refine (rlines_c w1.heap.size w1.heap.size sz NW (k + 1) v5 w5 HR5 (by rw [HNM.out]; omega)).mono ?_
            rintro e w6 ⟨v6, rfl, ho6, hb6⟩
            rw [HNM.out] at ho6
            obtain ⟨An, cn, hv6, hcn, hrd6⟩ := own_rows strC_k ho6 HNM.out
            subst hv6
            have HR6 := Lib.hid (HR5.out.below hb6)
            have HNOW6 := Lib.hid hrd6
            have HWAS6 := Lib.hid ((HWAS5.out.below hb6 (Nat.le_refl _)).mono hb6.size)
            have HBW6 := Lib.hid (hbl5.trans (hb6.mono hbl5.size))
            have HNAP : Hid (∀ b o, An = some ⟨b, o, none⟩ → 0 < M + 1 → ¬ RngF w1.heap.size v5 b) := fun b o hA _ hf => by
              have h3 := (ho6.lt b (by rw [hA]; rfl)).1
              rcases hf with hf | hf
              · have := HR5.out.blk.lt; omega
              · have := (HR5.out.row.lt b hf).2; omega
            obtain ⟨b3, o3, hA3, hb3, hrow3⟩ := hrd6.2 (by omega)
            have hlast : ∀ w', Below w6.heap.size w6 w' → w'.cell? ⟨b3, o3 + M, none⟩ = some (.string s) := fun w' hb => strC_at (hrow3.below hb hb3) M s (by rw [HNWE.out, List.getElem?_append_right (by rw [List.length_drop]; omega), List.length_drop, show M - (was.length - kk) = 0 by omega]; rfl)
            have hconv : ∀ w', Below w6.heap.size w6 w' → (convert 69 9 (.slice (some ⟨wr.heap.size, 0, none⟩) j j)).run Tryd.prog w' = .ok (.string s) w' := fun w' hb => HCONV5.out w' (hb6.trans (hb.mono hb6.size))
            subst hA3
            have HSL : Hid (sumW NW ≤ 100) := by
              have := trim_le sz NW
              rw [HNWD.out] at this
              show _ ≤ _
              omega
            have hsn : decide (sz < sumW NW) = false := by
              have := trim_le sz NW
              rw [HNWD.out] at this
              simp
              omega
            clear ho6 hrd6 hrow3 hb6 HR5 HWAS5 HCONV5 hbl5
            go_wp2_with fail
            have HGONE : Hid (0 < kk → ∃ x, was[kk - 1]? = some x ∧ sz < wt x + sumW NW) := fun h => by
              obtain ⟨x, h3, h4⟩ := HGONE0.out h
              exact ⟨x, h3, by rw [HNWE.out]; exact h4⟩
            have HXS : Hid (∀ x ∈ was, x.size ≤ 1000) := fun x hx => by
              have h3 := wt_mem hx
              have h4 := trim_le sz was
              rw [← HWT.out] at h4
              unfold wt at h3
              omega
            have HTK : Hid (NW.take M = was.drop kk) := by
              show _ = _
              rw [HNWE.out, List.take_left' (by rw [List.length_drop]; exact HM.out.symm)]
            obtain ⟨F, hF⟩ : ∃ F : Int, F = ((k + 1 : Nat) : Int) - (NW.length : Int) + 1 := ⟨_, rfl⟩
            have HFI := Lib.hid hF
            have hF1 : IntKind.i64.wrap (F + ((M : Int) + 1)) = (k : Int) + 1 + 1 := by
              have h3 := HNM.out
              rw [IntWalk.i64_in _ (by omega)]
              omega
            have hF2 : IntKind.i64.wrap ((k : Int) + 1 + 1) = (k : Int) + 1 + 1 := IntWalk.i64_in _ (by omega)
            have hM1 : IntKind.i64.wrap (M : Int) = (M : Int) := IntWalk.i64_in _ (by omega)
            have hMM : (M : Int) < (M : Int) + 1 := by omega
            have hM0 : ((M : Int) + 1 == 0) = false := by simp; omega
            clear hF
            refine wp_region_noPanic ?_
            refine wp_region_held_drew (S := (fun w' => Below w6.heap.size w6 w')) (by kernel_rfl) (show Below w6.heap.size w6 w6.drew from ⟨rfl, rfl, rfl, Nat.le_refl _, fun _ _ => rfl⟩) (fun hHeld => ?_)
            have HB : Below w6.heap.size w6 w6.drew := ⟨rfl, rfl, rfl, Nat.le_refl _, fun _ _ => rfl⟩
            refine wpAnyH_take (i := 0) (v := ?_) rfl (by kernel_rfl) (by kernel_rfl) (by kernel_rfl) (fun _ _ _ h => h) (Or.inl ⟨by rfl, ?_⟩) hHeld ?_
            rotate_left
            focus
              intro w hSw
              clear hSw
              go_simp
              try with_reducible rfl
            try simp only [Act.put, List.getElem_toArray, List.getElem_cons_zero, List.getElem_cons_succ, List.setIfInBounds_toArray, List.set_cons_zero, List.set_cons_succ]
            refine wpAnyH_take (i := 2) (v := ?_) rfl (by kernel_rfl) (by kernel_rfl) (by kernel_rfl) (fun _ _ _ h => h) (Or.inl ⟨by rfl, ?_⟩) hHeld ?_
            rotate_left
            focus
              intro w hSw
              clear hSw
              go_simp
              try with_reducible rfl
            try simp only [Act.put, List.getElem_toArray, List.getElem_cons_zero, List.getElem_cons_succ, List.setIfInBounds_toArray, List.set_cons_zero, List.set_cons_succ]
            refine wpAnyH_ready (rs := [1]) (by kernel_rfl) (by simp) ?_
            refine AllReadyH.cons rfl (fun K hK => ?_) AllReadyH.nil
            go_simp
            refine (rsize_c w1.heap.size w1.heap.size sz NW (k + 1) v5 _ (show Hid _ from HR6.out.below HB)).mono ?_
            rintro e y2 ⟨rfl, rfl⟩
            refine hK.out _ _ HB (fun hHeld => ?_)
            clear hK K
            try simp only [Act.put, List.getElem_toArray, List.getElem_cons_zero, List.getElem_cons_succ, List.setIfInBounds_toArray, List.set_cons_zero, List.set_cons_succ]
            refine wpAnyH_take (i := 3) (v := ?_) rfl (by kernel_rfl) (by kernel_rfl) (by kernel_rfl) (fun _ _ _ h => h) (Or.inl ⟨by rfl, ?_⟩) hHeld ?_
            rotate_left
            focus
              intro w hSw
              clear hSw
              go_simp
              try with_reducible rfl
            try simp only [Act.put, List.getElem_toArray, List.getElem_cons_zero, List.getElem_cons_succ, List.setIfInBounds_toArray, List.set_cons_zero, List.set_cons_succ]
            refine wpAnyH_take (i := 4) (v := ?_) rfl (by kernel_rfl) (by kernel_rfl) (by kernel_rfl) (fun _ _ _ h => h) (Or.inl ⟨by rfl, ?_⟩) hHeld ?_
            rotate_left
            focus
              intro w hSw
              clear hSw
              go_simp
              try with_reducible rfl
            try simp only [Act.put, List.getElem_toArray, List.getElem_cons_zero, List.getElem_cons_succ, List.setIfInBounds_toArray, List.set_cons_zero, List.set_cons_succ]
            refine wpAnyH_take (i := 5) (v := ?_) rfl (by kernel_rfl) (by kernel_rfl) (by kernel_rfl) (fun _ _ _ h => h) (Or.inl ⟨by rfl, ?_⟩) hHeld ?_
            rotate_left
            focus
              intro w hSw
              clear hSw
              go_simp
              try with_reducible rfl
            try simp only [Act.put, List.getElem_toArray, List.getElem_cons_zero, List.getElem_cons_succ, List.setIfInBounds_toArray, List.set_cons_zero, List.set_cons_succ]
            refine wpAnyH_take (i := 6) (v := ?_) rfl (by kernel_rfl) (by kernel_rfl) (by kernel_rfl) (fun _ _ _ h => h) (Or.inl ⟨by rfl, ?_⟩) hHeld ?_
            rotate_left
            focus
              intro w hSw
              clear hSw
              go_simp
              try with_reducible rfl
            try simp only [Act.put, List.getElem_toArray, List.getElem_cons_zero, List.getElem_cons_succ, List.setIfInBounds_toArray, List.set_cons_zero, List.set_cons_succ]
            refine wpAnyH_take (i := 7) (v := ?_) rfl (by kernel_rfl) (by kernel_rfl) (by kernel_rfl) (fun _ _ _ h => h) (Or.inl ⟨by rfl, ?_⟩) hHeld ?_
            rotate_left
            focus
              intro w hSw
              clear hSw
              go_simp
              try with_reducible rfl
            try simp only [Act.put, List.getElem_toArray, List.getElem_cons_zero, List.getElem_cons_succ, List.setIfInBounds_toArray, List.set_cons_zero, List.set_cons_succ]
            refine wpAnyH_take (i := 8) (v := ?_) rfl (by kernel_rfl) (by kernel_rfl) (by kernel_rfl) (fun _ _ _ h => h) (Or.inl ⟨by rfl, ?_⟩) hHeld ?_
            rotate_left
            focus
              intro w hSw
              clear hSw
              go_simp
              try with_reducible rfl
            try simp only [Act.put, List.getElem_toArray, List.getElem_cons_zero, List.getElem_cons_succ, List.setIfInBounds_toArray, List.set_cons_zero, List.set_cons_succ]
            refine wpAnyH_take (i := 9) (v := ?_) rfl (by kernel_rfl) (by kernel_rfl) (by kernel_rfl) (fun _ _ _ h => h) (Or.inl ⟨by rfl, ?_⟩) hHeld ?_
            rotate_left
            focus
              intro w hSw
              clear hSw
              go_simp
              try with_reducible rfl
            try simp only [Act.put, List.getElem_toArray, List.getElem_cons_zero, List.getElem_cons_succ, List.setIfInBounds_toArray, List.set_cons_zero, List.set_cons_succ]
            refine wpAnyH_take (i := 10) (v := ?_) rfl (by kernel_rfl) (by kernel_rfl) (by kernel_rfl) (fun _ _ _ h => h) (Or.inl ⟨by rfl, ?_⟩) hHeld ?_
            rotate_left
            focus
              intro w hSw
              clear hSw
              go_simp
              try with_reducible rfl
            try simp only [Act.put, List.getElem_toArray, List.getElem_cons_zero, List.getElem_cons_succ, List.setIfInBounds_toArray, List.set_cons_zero, List.set_cons_succ]
            refine wpAnyH_take (i := 11) (v := ?_) rfl (by kernel_rfl) (by kernel_rfl) (by kernel_rfl) (fun _ _ _ h => h) (Or.inl ⟨by rfl, ?_⟩) hHeld ?_
            rotate_left
            focus
              intro w hSw
              clear hSw
              go_simp
              try with_reducible rfl
            try simp only [Act.put, List.getElem_toArray, List.getElem_cons_zero, List.getElem_cons_succ, List.setIfInBounds_toArray, List.set_cons_zero, List.set_cons_succ]
            refine wpAnyH_take (i := 12) (v := ?_) rfl (by kernel_rfl) (by kernel_rfl) (by kernel_rfl) (fun _ _ _ h => h) (Or.inl ⟨by rfl, ?_⟩) hHeld ?_
            rotate_left
            focus
              intro w hSw
              clear hSw
              go_simp
              try with_reducible rfl
            try simp only [Act.put, List.getElem_toArray, List.getElem_cons_zero, List.getElem_cons_succ, List.setIfInBounds_toArray, List.set_cons_zero, List.set_cons_succ]
            refine wpAnyH_take (i := 13) (v := ?_) rfl (by kernel_rfl) (by kernel_rfl) (by kernel_rfl) (fun _ _ _ h => h) (Or.inl ⟨by rfl, ?_⟩) hHeld ?_
            rotate_left
            focus
              intro w hSw
              clear hSw
              go_simp
              try with_reducible rfl
            try simp only [Act.put, List.getElem_toArray, List.getElem_cons_zero, List.getElem_cons_succ, List.setIfInBounds_toArray, List.set_cons_zero, List.set_cons_succ]
            refine wpAnyH_take (i := 14) (v := ?_) rfl (by kernel_rfl) (by kernel_rfl) (by kernel_rfl) (fun _ _ _ h => h) (Or.inl ⟨by rfl, ?_⟩) hHeld ?_
            rotate_left
            focus
              intro w hSw
              clear hSw
              go_simp
              try with_reducible rfl
            try simp only [Act.put, List.getElem_toArray, List.getElem_cons_zero, List.getElem_cons_succ, List.setIfInBounds_toArray, List.set_cons_zero, List.set_cons_succ]
            refine wpAnyH_take (i := 15) (v := ?_) rfl (by kernel_rfl) (by kernel_rfl) (by kernel_rfl) (fun _ _ _ h => h) (Or.inl ⟨by rfl, ?_⟩) hHeld ?_
            rotate_left
            focus
              intro w hSw
              (try dsimp only at hSw)
              go_simp
              try with_reducible rfl
            try simp only [Act.put, List.getElem_toArray, List.getElem_cons_zero, List.getElem_cons_succ, List.setIfInBounds_toArray, List.set_cons_zero, List.set_cons_succ]
            refine wpAnyH_take (i := 16) (v := ?_) rfl (by kernel_rfl) (by kernel_rfl) (by kernel_rfl) (fun _ _ _ h => h) (Or.inl ⟨by rfl, ?_⟩) hHeld ?_
            rotate_left
            focus
              intro w hSw
              clear hSw
              go_simp
              try with_reducible rfl
            try simp only [Act.put, List.getElem_toArray, List.getElem_cons_zero, List.getElem_cons_succ, List.setIfInBounds_toArray, List.set_cons_zero, List.set_cons_succ]
            refine wpAnyH_take (i := 17) (v := ?_) rfl (by kernel_rfl) (by kernel_rfl) (by kernel_rfl) (fun _ _ _ h => h) (Or.inl ⟨by rfl, ?_⟩) hHeld ?_
            rotate_left
            focus
              intro w hSw
              (try dsimp only at hSw)
              go_simp
              try with_reducible rfl
            try simp only [Act.put, List.getElem_toArray, List.getElem_cons_zero, List.getElem_cons_succ, List.setIfInBounds_toArray, List.set_cons_zero, List.set_cons_succ]
            refine wpAnyH_take (i := 18) (v := ?_) rfl (by kernel_rfl) (by kernel_rfl) (by kernel_rfl) (fun _ _ _ h => h) (Or.inl ⟨by rfl, ?_⟩) hHeld ?_
            rotate_left
            focus
              intro w hSw
              clear hSw
              go_simp
              try with_reducible rfl
            try simp only [Act.put, List.getElem_toArray, List.getElem_cons_zero, List.getElem_cons_succ, List.setIfInBounds_toArray, List.set_cons_zero, List.set_cons_succ]
            refine wpAnyH_take (i := 19) (v := ?_) rfl (by kernel_rfl) (by kernel_rfl) (by kernel_rfl) (fun _ _ _ h => h) (Or.inl ⟨by rfl, ?_⟩) hHeld ?_
            rotate_left
            focus
              intro w hSw
              clear hSw
              go_simp
              try with_reducible rfl
            try simp only [Act.put, List.getElem_toArray, List.getElem_cons_zero, List.getElem_cons_succ, List.setIfInBounds_toArray, List.set_cons_zero, List.set_cons_succ]
            refine wpAnyH_take (i := 20) (v := ?_) rfl (by kernel_rfl) (by kernel_rfl) (by kernel_rfl) (fun _ _ _ h => h) (Or.inl ⟨by rfl, ?_⟩) hHeld ?_
            rotate_left
            focus
              intro w hSw
              clear hSw
              go_simp
              try with_reducible rfl
            try simp only [Act.put, List.getElem_toArray, List.getElem_cons_zero, List.getElem_cons_succ, List.setIfInBounds_toArray, List.set_cons_zero, List.set_cons_succ]
            refine wpAnyH_take (i := 21) (v := ?_) rfl (by kernel_rfl) (by kernel_rfl) (by kernel_rfl) (fun _ _ _ h => h) (Or.inl ⟨by rfl, ?_⟩) hHeld ?_
            rotate_left
            focus
              intro w hSw
              clear hSw
              go_simp
              try with_reducible rfl
            try simp only [Act.put, List.getElem_toArray, List.getElem_cons_zero, List.getElem_cons_succ, List.setIfInBounds_toArray, List.set_cons_zero, List.set_cons_succ]
            refine wpAnyH_take (i := 23) (v := ?_) rfl (by kernel_rfl) (by kernel_rfl) (by kernel_rfl) (fun _ _ _ h => h) (Or.inl ⟨by rfl, ?_⟩) hHeld ?_
            rotate_left
            focus
              intro w hSw
              clear hSw
              go_simp
              try with_reducible rfl
            try simp only [Act.put, List.getElem_toArray, List.getElem_cons_zero, List.getElem_cons_succ, List.setIfInBounds_toArray, List.set_cons_zero, List.set_cons_succ]
            refine wpAnyH_take (i := 24) (v := ?_) rfl (by kernel_rfl) (by kernel_rfl) (by kernel_rfl) (fun _ _ _ h => h) (Or.inl ⟨by rfl, ?_⟩) hHeld ?_
            rotate_left
            focus
              intro w hSw
              clear hSw
              go_simp
              try with_reducible rfl
            try simp only [Act.put, List.getElem_toArray, List.getElem_cons_zero, List.getElem_cons_succ, List.setIfInBounds_toArray, List.set_cons_zero, List.set_cons_succ]
            refine wpAnyH_take (i := 26) (v := ?_) rfl (by kernel_rfl) (by kernel_rfl) (by kernel_rfl) (fun _ _ _ h => h) (Or.inl ⟨by rfl, ?_⟩) hHeld ?_
            rotate_left
            focus
              intro w hSw
              clear hSw
              go_simp
              try with_reducible rfl
            try simp only [Act.put, List.getElem_toArray, List.getElem_cons_zero, List.getElem_cons_succ, List.setIfInBounds_toArray, List.set_cons_zero, List.set_cons_succ]
            refine wpAnyH_ready (rs := [22]) (by kernel_rfl) (by simp) ?_
            refine AllReadyH.cons rfl (fun K hK => ?_) AllReadyH.nil
            go_simp
            refine (rfirst_c w1.heap.size w1.heap.size sz NW (k + 1) v5 _ (show Hid _ from HR6.out.below HB) (by rw [HNM.out]; omega) (by omega)).mono ?_
            rintro e y ⟨rfl, hb⟩
            rw [← HFI.out]
            have HB := HB.trans (hb.mono HB.size)
            refine hK.out _ _ HB (fun hHeld => ?_)
            clear hK K
            try simp only [Act.put, List.getElem_toArray, List.getElem_cons_zero, List.getElem_cons_succ, List.setIfInBounds_toArray, List.set_cons_zero, List.set_cons_succ]
            refine wpAnyH_take (i := 25) (v := ?_) rfl (by kernel_rfl) (by kernel_rfl) (by kernel_rfl) (fun _ _ _ h => h) (Or.inl ⟨by rfl, ?_⟩) hHeld ?_
            rotate_left
            focus
              intro w hSw
              clear hSw
              go_simp
              try with_reducible rfl
            try simp only [Act.put, List.getElem_toArray, List.getElem_cons_zero, List.getElem_cons_succ, List.setIfInBounds_toArray, List.set_cons_zero, List.set_cons_succ]
            refine wpAnyH_ready (rs := [27]) (by kernel_rfl) (by simp) ?_
            refine AllReadyH.cons rfl (fun K hK => ?_) AllReadyH.nil
            go_simp
            refine (rcount_c w1.heap.size w1.heap.size sz NW (k + 1) v5 _ (show Hid _ from HR6.out.below HB)).mono ?_
            rintro e y2 ⟨rfl, rfl⟩
            refine hK.out _ _ HB (fun hHeld => ?_)
            clear hK K
            try simp only [Act.put, List.getElem_toArray, List.getElem_cons_zero, List.getElem_cons_succ, List.setIfInBounds_toArray, List.set_cons_zero, List.set_cons_succ]
            refine wpAnyH_take (i := 28) (v := ?_) rfl (by kernel_rfl) (by kernel_rfl) (by kernel_rfl) (fun _ _ _ h => h) (Or.inl ⟨by rfl, ?_⟩) hHeld ?_
            rotate_left
            focus
              intro w hSw
              clear hSw
              go_simp
              try with_reducible rfl
            try simp only [Act.put, List.getElem_toArray, List.getElem_cons_zero, List.getElem_cons_succ, List.setIfInBounds_toArray, List.set_cons_zero, List.set_cons_succ]
            refine wpAnyH_take (i := 29) (v := ?_) rfl (by kernel_rfl) (by kernel_rfl) (by kernel_rfl) (fun _ _ _ h => h) (Or.inl ⟨by rfl, ?_⟩) hHeld ?_
            rotate_left
            focus
              intro w hSw
              clear hSw
              go_simp
              try with_reducible rfl
            try simp only [Act.put, List.getElem_toArray, List.getElem_cons_zero, List.getElem_cons_succ, List.setIfInBounds_toArray, List.set_cons_zero, List.set_cons_succ]
            refine wpAnyH_take (i := 30) (v := ?_) rfl (by kernel_rfl) (by kernel_rfl) (by kernel_rfl) (fun _ _ _ h => h) (Or.inl ⟨by rfl, ?_⟩) hHeld ?_
            rotate_left
            focus
              intro w hSw
              clear hSw
              go_simp
              try with_reducible rfl
            try simp only [Act.put, List.getElem_toArray, List.getElem_cons_zero, List.getElem_cons_succ, List.setIfInBounds_toArray, List.set_cons_zero, List.set_cons_succ]
            refine wpAnyH_done (by kernel_rfl) ?_ _
            refine NoPanic.normal ?_
            go_wp2_with fail
            obtain ⟨w7, hw7⟩ : ∃ Z : World, Z = y := ⟨_, rfl⟩
            rw [← hw7] at HB ⊢
            have HR7 := Lib.hid (HR6.out.below HB)
            have HWAS := Lib.hid ((HWAS6.out.below HB (Nat.le_refl _)).mono HB.size)
            have HNOW := Lib.hid ((HNOW6.out.below HB (Nat.le_refl _)).mono HB.size)
            have HBW7 := Lib.hid (HBW6.out.trans (HB.mono HBW6.out.size))
            clear hw7 HB hlast hconv
            obtain ⟨A1, hA1, hsA⟩ := run_cut_h (P := Tryd.prog) 68 9 i0 Tryd.underlying68 hi 1 hz1 (some ⟨b3, o3, none⟩) (M + 1) cn M .i64 (by omega) hcn w7 w7.heap.size NW HNOW.out
            obtain ⟨A2, hA2, hsB⟩ := run_cut (P := Tryd.prog) 68 9 i0 Tryd.underlying68 hi 1 hz1 Aw was.length cw kk .i64 hkk hcw w7 w7.heap.size was HWAS.out
            rw [HTK.out] at hA1
            have HA1 := Lib.hid hA1
            have hML : was.length - kk = M := HM.out.symm
            rw [hML] at hA2 hsB
            have HA2 := Lib.hid hA2
            have hgn : (was.length : Int) + 1 - ((M : Int) + 1) = (kk : Int) := by omega
            have hgn2 : (was.length : Int) - (M : Int) = (kk : Int) := by omega
            have hk1 : decide ((kk : Int) < 0) = false := by simp
            have hw1 : IntKind.i64.wrap (M : Int) = (M : Int) := IntWalk.i64_in _ (by omega)
            clear hA1 hA2 hML
            go_wp2_with fail
            refine wp_region_noPanic ?_
            refine wp_region_held_drew (S := (fun w' => Below w7.heap.size w7 w')) (by kernel_rfl) (show Below w7.heap.size w7 w7.drew from ⟨rfl, rfl, rfl, Nat.le_refl _, fun _ _ => rfl⟩) (fun hHeld => ?_)
            have HB : Below w7.heap.size w7 w7.drew := ⟨rfl, rfl, rfl, Nat.le_refl _, fun _ _ => rfl⟩
            refine wpAnyH_take (i := 0) (v := ?_) rfl (by kernel_rfl) (by kernel_rfl) (by kernel_rfl) (fun _ _ _ h => h) (Or.inl ⟨by rfl, ?_⟩) hHeld ?_
            rotate_left
            focus
              intro w hSw
              clear hSw
              go_simp
              try with_reducible rfl
            try simp only [Act.put, List.getElem_toArray, List.getElem_cons_zero, List.getElem_cons_succ, List.setIfInBounds_toArray, List.set_cons_zero, List.set_cons_succ]
            refine wpAnyH_take (i := 1) (v := ?_) rfl (by kernel_rfl) (by kernel_rfl) (by kernel_rfl) (fun _ _ _ h => h) (Or.inl ⟨by rfl, ?_⟩) hHeld ?_
            rotate_left
            focus
              intro w hSw
              clear hSw
              go_simp
              try with_reducible rfl
            try simp only [Act.put, List.getElem_toArray, List.getElem_cons_zero, List.getElem_cons_succ, List.setIfInBounds_toArray, List.set_cons_zero, List.set_cons_succ]
            refine wpAnyH_take (i := 2) (v := ?_) rfl (by kernel_rfl) (by kernel_rfl) (by kernel_rfl) (fun _ _ _ h => h) (Or.inl ⟨by rfl, ?_⟩) hHeld ?_
            rotate_left
            focus
              intro w hSw
              clear hSw
              go_simp
              try with_reducible rfl
            try simp only [Act.put, List.getElem_toArray, List.getElem_cons_zero, List.getElem_cons_succ, List.setIfInBounds_toArray, List.set_cons_zero, List.set_cons_succ]
            refine wpAnyH_take (i := 3) (v := ?_) rfl (by kernel_rfl) (by kernel_rfl) (by kernel_rfl) (fun _ _ _ h => h) (Or.inl ⟨by rfl, ?_⟩) hHeld ?_
            rotate_left
            focus
              intro w hSw
              clear hSw
              go_simp
              try with_reducible rfl
            try simp only [Act.put, List.getElem_toArray, List.getElem_cons_zero, List.getElem_cons_succ, List.setIfInBounds_toArray, List.set_cons_zero, List.set_cons_succ]
            refine wpAnyH_take (i := 4) (v := ?_) rfl (by kernel_rfl) (by kernel_rfl) (by kernel_rfl) (fun _ _ _ h => h) (Or.inl ⟨by rfl, ?_⟩) hHeld ?_
            rotate_left
            focus
              intro w hSw
              clear hSw
              go_simp
              try with_reducible rfl
            try simp only [Act.put, List.getElem_toArray, List.getElem_cons_zero, List.getElem_cons_succ, List.setIfInBounds_toArray, List.set_cons_zero, List.set_cons_succ]
            refine wpAnyH_take (i := 5) (v := ?_) rfl (by kernel_rfl) (by kernel_rfl) (by kernel_rfl) (fun _ _ _ h => h) (Or.inl ⟨by rfl, ?_⟩) hHeld ?_
            rotate_left
            focus
              intro w hSw
              clear hSw
              go_simp
              try with_reducible rfl
            try simp only [Act.put, List.getElem_toArray, List.getElem_cons_zero, List.getElem_cons_succ, List.setIfInBounds_toArray, List.set_cons_zero, List.set_cons_succ]
            refine wpAnyH_take (i := 6) (v := ?_) rfl (by kernel_rfl) (by kernel_rfl) (by kernel_rfl) (fun _ _ _ h => h) (Or.inl ⟨by rfl, ?_⟩) hHeld ?_
            rotate_left
            focus
              intro w hSw
              clear hSw
              go_simp
              try with_reducible rfl
            try simp only [Act.put, List.getElem_toArray, List.getElem_cons_zero, List.getElem_cons_succ, List.setIfInBounds_toArray, List.set_cons_zero, List.set_cons_succ]
            refine wpAnyH_take (i := 7) (v := ?_) rfl (by kernel_rfl) (by kernel_rfl) (by kernel_rfl) (fun _ _ _ h => h) (Or.inl ⟨by rfl, ?_⟩) hHeld ?_
            rotate_left
            focus
              intro w hSw
              clear hSw
              go_simp
              try with_reducible rfl
            try simp only [Act.put, List.getElem_toArray, List.getElem_cons_zero, List.getElem_cons_succ, List.setIfInBounds_toArray, List.set_cons_zero, List.set_cons_succ]
            refine wpAnyH_take (i := 8) (v := ?_) rfl (by kernel_rfl) (by kernel_rfl) (by kernel_rfl) (fun _ _ _ h => h) (Or.inl ⟨by rfl, ?_⟩) hHeld ?_
            rotate_left
            focus
              intro w hSw
              clear hSw
              go_simp
              try with_reducible rfl
            try simp only [Act.put, List.getElem_toArray, List.getElem_cons_zero, List.getElem_cons_succ, List.setIfInBounds_toArray, List.set_cons_zero, List.set_cons_succ]
            refine wpAnyH_take (i := 9) (v := ?_) rfl (by kernel_rfl) (by kernel_rfl) (by kernel_rfl) (fun _ _ _ h => h) (Or.inl ⟨by rfl, ?_⟩) hHeld ?_
            rotate_left
            focus
              intro w hSw
              clear hSw
              go_simp
              try with_reducible rfl
            try simp only [Act.put, List.getElem_toArray, List.getElem_cons_zero, List.getElem_cons_succ, List.setIfInBounds_toArray, List.set_cons_zero, List.set_cons_succ]
            refine wpAnyH_take (i := 10) (v := ?_) rfl (by kernel_rfl) (by kernel_rfl) (by kernel_rfl) (fun _ _ _ h => h) (Or.inl ⟨by rfl, ?_⟩) hHeld ?_
            rotate_left
            focus
              intro w hSw
              clear hSw
              go_simp
              try with_reducible rfl
            try simp only [Act.put, List.getElem_toArray, List.getElem_cons_zero, List.getElem_cons_succ, List.setIfInBounds_toArray, List.set_cons_zero, List.set_cons_succ]
            refine wpAnyH_ready (rs := [11]) (by kernel_rfl) (by simp) ?_
            refine AllReadyH.cons rfl (fun K hK => ?_) AllReadyH.nil
            go_simp
            refine (same38_eq A1 A2 M cn (cw - kk) (was.drop kk) _ (show Hid _ from (HA1.out.below HB (Nat.le_refl _)).mono HB.size) (show Hid _ from (HA2.out.below HB (Nat.le_refl _)).mono HB.size) (by omega)).mono ?_
            rintro e y ⟨rfl, hb⟩
            have HB := HB.trans (hb.mono HB.size)
            refine hK.out _ _ HB (fun hHeld => ?_)
            clear hK K
            try simp only [Act.put, List.getElem_toArray, List.getElem_cons_zero, List.getElem_cons_succ, List.setIfInBounds_toArray, List.set_cons_zero, List.set_cons_succ]
            refine wpAnyH_take (i := 12) (v := ?_) rfl (by kernel_rfl) (by kernel_rfl) (by kernel_rfl) (fun _ _ _ h => h) (Or.inl ⟨by rfl, ?_⟩) hHeld ?_
            rotate_left
            focus
              intro w hSw
              clear hSw
              go_simp
              try with_reducible rfl
            try simp only [Act.put, List.getElem_toArray, List.getElem_cons_zero, List.getElem_cons_succ, List.setIfInBounds_toArray, List.set_cons_zero, List.set_cons_succ]
            refine wpAnyH_take (i := 13) (v := ?_) rfl (by kernel_rfl) (by kernel_rfl) (by kernel_rfl) (fun _ _ _ h => h) (Or.inl ⟨by rfl, ?_⟩) hHeld ?_
            rotate_left
            focus
              intro w hSw
              clear hSw
              go_simp
              try with_reducible rfl
            try simp only [Act.put, List.getElem_toArray, List.getElem_cons_zero, List.getElem_cons_succ, List.setIfInBounds_toArray, List.set_cons_zero, List.set_cons_succ]
            refine wpAnyH_done (by kernel_rfl) ?_ _
            refine NoPanic.normal ?_
            go_wp2_with fail
            obtain ⟨w8, hw8⟩ : ∃ Z : World, Z = y := ⟨_, rfl⟩
            rw [← hw8] at HB ⊢
            have HR7 := Lib.hid (HR7.out.below HB)
            have HWAS := Lib.hid ((HWAS.out.below HB (Nat.le_refl _)).mono HB.size)
            have HNOW := Lib.hid ((HNOW.out.below HB (Nat.le_refl _)).mono HB.size)
            have HBW7 := Lib.hid (HBW7.out.trans (HB.mono HBW7.out.size))
            clear hw8 HB
            by_cases hk0 : kk = 0
            · subst hk0
              have hxg1 : decide ((0 : Int) < ((0 : Nat) : Int)) = false := by simp
              refine wp_region_noPanic ?_
              refine wp_region_held_drew (S := (fun w' => Below w8.heap.size w8 w')) (by kernel_rfl) (show Below w8.heap.size w8 w8.drew from ⟨rfl, rfl, rfl, Nat.le_refl _, fun _ _ => rfl⟩) (fun hHeld => ?_)
              have HB : Below w8.heap.size w8 w8.drew := ⟨rfl, rfl, rfl, Nat.le_refl _, fun _ _ => rfl⟩
              refine wpAnyH_take (i := 0) (v := ?_) rfl (by kernel_rfl) (by kernel_rfl) (by kernel_rfl) (fun _ _ _ h => h) (Or.inl ⟨by rfl, ?_⟩) hHeld ?_
              rotate_left
              focus
                intro w hSw
                clear hSw
                go_simp
                try with_reducible rfl
              try simp only [Act.put, List.getElem_toArray, List.getElem_cons_zero, List.getElem_cons_succ, List.setIfInBounds_toArray, List.set_cons_zero, List.set_cons_succ]
              refine wpAnyH_take (i := 1) (v := ?_) rfl (by kernel_rfl) (by kernel_rfl) (by kernel_rfl) (fun _ _ _ h => h) (Or.inl ⟨by rfl, ?_⟩) hHeld ?_
              rotate_left
              focus
                intro w hSw
                clear hSw
                go_simp
                try with_reducible rfl
              try simp only [Act.put, List.getElem_toArray, List.getElem_cons_zero, List.getElem_cons_succ, List.setIfInBounds_toArray, List.set_cons_zero, List.set_cons_succ]
              refine wpAnyH_take (i := 2) (v := ?_) rfl (by kernel_rfl) (by kernel_rfl) (by kernel_rfl) (fun _ _ _ h => h) (Or.inl ⟨by rfl, ?_⟩) hHeld ?_
              rotate_left
              focus
                intro w hSw
                clear hSw
                go_simp
                try with_reducible rfl
              try simp only [Act.put, List.getElem_toArray, List.getElem_cons_zero, List.getElem_cons_succ, List.setIfInBounds_toArray, List.set_cons_zero, List.set_cons_succ]
              refine wpAnyH_take (i := 3) (v := undef) rfl (by kernel_rfl) (by kernel_rfl) (by kernel_rfl) (fun _ _ _ h => h) (Or.inr ⟨by rfl, rfl⟩) hHeld ?_
              try simp only [Act.put, List.getElem_toArray, List.getElem_cons_zero, List.getElem_cons_succ, List.setIfInBounds_toArray, List.set_cons_zero, List.set_cons_succ]
              refine wpAnyH_take (i := 4) (v := undef) rfl (by kernel_rfl) (by kernel_rfl) (by kernel_rfl) (fun _ _ _ h => h) (Or.inr ⟨by rfl, rfl⟩) hHeld ?_
              try simp only [Act.put, List.getElem_toArray, List.getElem_cons_zero, List.getElem_cons_succ, List.setIfInBounds_toArray, List.set_cons_zero, List.set_cons_succ]
              refine wpAnyH_take (i := 5) (v := undef) rfl (by kernel_rfl) (by kernel_rfl) (by kernel_rfl) (fun _ _ _ h => h) (Or.inr ⟨by rfl, rfl⟩) hHeld ?_
              try simp only [Act.put, List.getElem_toArray, List.getElem_cons_zero, List.getElem_cons_succ, List.setIfInBounds_toArray, List.set_cons_zero, List.set_cons_succ]
              refine wpAnyH_take (i := 6) (v := undef) rfl (by kernel_rfl) (by kernel_rfl) (by kernel_rfl) (fun _ _ _ h => h) (Or.inr ⟨by rfl, rfl⟩) hHeld ?_
              try simp only [Act.put, List.getElem_toArray, List.getElem_cons_zero, List.getElem_cons_succ, List.setIfInBounds_toArray, List.set_cons_zero, List.set_cons_succ]
              refine wpAnyH_take (i := 7) (v := undef) rfl (by kernel_rfl) (by kernel_rfl) (by kernel_rfl) (fun _ _ _ h => h) (Or.inr ⟨by rfl, rfl⟩) hHeld ?_
              try simp only [Act.put, List.getElem_toArray, List.getElem_cons_zero, List.getElem_cons_succ, List.setIfInBounds_toArray, List.set_cons_zero, List.set_cons_succ]
              refine wpAnyH_take (i := 8) (v := undef) rfl (by kernel_rfl) (by kernel_rfl) (by kernel_rfl) (fun _ _ _ h => h) (Or.inr ⟨by rfl, rfl⟩) hHeld ?_
              try simp only [Act.put, List.getElem_toArray, List.getElem_cons_zero, List.getElem_cons_succ, List.setIfInBounds_toArray, List.set_cons_zero, List.set_cons_succ]
              refine wpAnyH_take (i := 9) (v := undef) rfl (by kernel_rfl) (by kernel_rfl) (by kernel_rfl) (fun _ _ _ h => h) (Or.inr ⟨by rfl, rfl⟩) hHeld ?_
              try simp only [Act.put, List.getElem_toArray, List.getElem_cons_zero, List.getElem_cons_succ, List.setIfInBounds_toArray, List.set_cons_zero, List.set_cons_succ]
              refine wpAnyH_take (i := 10) (v := undef) rfl (by kernel_rfl) (by kernel_rfl) (by kernel_rfl) (fun _ _ _ h => h) (Or.inr ⟨by rfl, rfl⟩) hHeld ?_
              try simp only [Act.put, List.getElem_toArray, List.getElem_cons_zero, List.getElem_cons_succ, List.setIfInBounds_toArray, List.set_cons_zero, List.set_cons_succ]
              refine wpAnyH_take (i := 11) (v := undef) rfl (by kernel_rfl) (by kernel_rfl) (by kernel_rfl) (fun _ _ _ h => h) (Or.inr ⟨by rfl, rfl⟩) hHeld ?_
              try simp only [Act.put, List.getElem_toArray, List.getElem_cons_zero, List.getElem_cons_succ, List.setIfInBounds_toArray, List.set_cons_zero, List.set_cons_succ]
              refine wpAnyH_take (i := 12) (v := undef) rfl (by kernel_rfl) (by kernel_rfl) (by kernel_rfl) (fun _ _ _ h => h) (Or.inr ⟨by rfl, rfl⟩) hHeld ?_
              try simp only [Act.put, List.getElem_toArray, List.getElem_cons_zero, List.getElem_cons_succ, List.setIfInBounds_toArray, List.set_cons_zero, List.set_cons_succ]
              refine wpAnyH_take (i := 13) (v := undef) rfl (by kernel_rfl) (by kernel_rfl) (by kernel_rfl) (fun _ _ _ h => h) (Or.inr ⟨by rfl, rfl⟩) hHeld ?_
              try simp only [Act.put, List.getElem_toArray, List.getElem_cons_zero, List.getElem_cons_succ, List.setIfInBounds_toArray, List.set_cons_zero, List.set_cons_succ]
              refine wpAnyH_take (i := 14) (v := undef) rfl (by kernel_rfl) (by kernel_rfl) (by kernel_rfl) (fun _ _ _ h => h) (Or.inr ⟨by rfl, rfl⟩) hHeld ?_
              try simp only [Act.put, List.getElem_toArray, List.getElem_cons_zero, List.getElem_cons_succ, List.setIfInBounds_toArray, List.set_cons_zero, List.set_cons_succ]
              refine wpAnyH_take (i := 15) (v := ?_) rfl (by kernel_rfl) (by kernel_rfl) (by kernel_rfl) (fun _ _ _ h => h) (Or.inl ⟨by rfl, ?_⟩) hHeld ?_
              rotate_left
              focus
                intro w hSw
                clear hSw
                go_simp
                try with_reducible rfl
              try simp only [Act.put, List.getElem_toArray, List.getElem_cons_zero, List.getElem_cons_succ, List.setIfInBounds_toArray, List.set_cons_zero, List.set_cons_succ]
              refine wpAnyH_done (by kernel_rfl) ?_ _
              refine NoPanic.normal ?_
              go_wp2_with fail
              go_roundw
              case rel => exact ⟨k + 1, v5, NW, _, cn, _, rfl, by omega, by omega, by go_num, by rw [HNM.out], HR7.out.below HB, HNWD.out.symm, by rw [HNM.out]; omega, by rw [HNM.out]; exact (HNOW.out.below HB (Nat.le_refl _)).mono HB.size, by rw [HNM.out]; exact HNAP.out, by rw [HNM.out]; exact hcn, HBW7.out.trans (HB.mono HBW7.out.size)⟩
              case measure => simp [intOf]; omega
            · obtain ⟨j2, rfl⟩ : ∃ j2, kk = j2 + 1 := ⟨kk - 1, by omega⟩
              obtain ⟨xg, hxg, hxs⟩ := HGONE.out (by omega)
              obtain ⟨bw, ow, hAw, hbw, hroww⟩ := HWAS.out.2 (by have := (List.getElem?_eq_some_iff.1 hxg).1; rw [HWAS.out.1] at this; omega)
              subst hAw
              have hlw : ∀ w', Below w8.heap.size w8 w' → w'.cell? ⟨bw, ow + j2, none⟩ = some (.string xg) := fun w' hb => strC_at (hroww.below hb hbw) j2 xg (by simpa using hxg)
              have hxl := (List.getElem?_eq_some_iff.1 hxg).1
              rw [HWAS.out.1] at hxl
              have hxl1 : (j2 : Int) < (was.length : Int) := by omega
              have hxg1 : decide (0 < (j2 : Int) + 1) = true := by simp <;> omega
              have hxs1 : xg.size ≤ 1000 := HXS.out xg (List.mem_of_getElem? hxg)
              unfold wt at hxs
              have hsl := HSL.out
              have hw1 : IntKind.i64.wrap ((j2 : Int) + 1) = (j2 : Int) + 1 := IntWalk.i64_in _ (by omega)
              have hw2 : IntKind.i64.wrap (j2 : Int) = (j2 : Int) := IntWalk.i64_in _ (by omega)
              have hw3 : IntKind.i64.wrap ((sumW NW : Int) + (xg.size : Int)) = (sumW NW : Int) + (xg.size : Int) := IntWalk.i64_in _ (by omega)
              have hw4 : IntKind.i64.wrap ((sumW NW : Int) + (xg.size : Int) + 1) = (sumW NW : Int) + (xg.size : Int) + 1 := IntWalk.i64_in _ (by omega)
              have hle : decide ((sumW NW : Int) + (xg.size : Int) + 1 ≤ (sz : Int)) = false := by simp; omega
              clear hroww hxg hxs hsl
              refine wp_region_noPanic ?_
              refine wp_region_held_drew (S := (fun w' => Below w8.heap.size w8 w')) (by kernel_rfl) (show Below w8.heap.size w8 w8.drew from ⟨rfl, rfl, rfl, Nat.le_refl _, fun _ _ => rfl⟩) (fun hHeld => ?_)
              have HB : Below w8.heap.size w8 w8.drew := ⟨rfl, rfl, rfl, Nat.le_refl _, fun _ _ => rfl⟩
              refine wpAnyH_take (i := 0) (v := ?_) rfl (by kernel_rfl) (by kernel_rfl) (by kernel_rfl) (fun _ _ _ h => h) (Or.inl ⟨by rfl, ?_⟩) hHeld ?_
              rotate_left
              focus
                intro w hSw
                clear hSw
                go_simp
                try with_reducible rfl
              try simp only [Act.put, List.getElem_toArray, List.getElem_cons_zero, List.getElem_cons_succ, List.setIfInBounds_toArray, List.set_cons_zero, List.set_cons_succ]
              refine wpAnyH_take (i := 1) (v := ?_) rfl (by kernel_rfl) (by kernel_rfl) (by kernel_rfl) (fun _ _ _ h => h) (Or.inl ⟨by rfl, ?_⟩) hHeld ?_
              rotate_left
              focus
                intro w hSw
                clear hSw
                go_simp
                try with_reducible rfl
              try simp only [Act.put, List.getElem_toArray, List.getElem_cons_zero, List.getElem_cons_succ, List.setIfInBounds_toArray, List.set_cons_zero, List.set_cons_succ]
              refine wpAnyH_take (i := 2) (v := ?_) rfl (by kernel_rfl) (by kernel_rfl) (by kernel_rfl) (fun _ _ _ h => h) (Or.inl ⟨by rfl, ?_⟩) hHeld ?_
              rotate_left
              focus
                intro w hSw
                clear hSw
                go_simp
                try with_reducible rfl
              try simp only [Act.put, List.getElem_toArray, List.getElem_cons_zero, List.getElem_cons_succ, List.setIfInBounds_toArray, List.set_cons_zero, List.set_cons_succ]
              refine wpAnyH_take (i := 3) (v := ?_) rfl (by kernel_rfl) (by kernel_rfl) (by kernel_rfl) (fun _ _ _ h => h) (Or.inl ⟨by rfl, ?_⟩) hHeld ?_
              rotate_left
              focus
                intro w hSw
                clear hSw
                go_simp
                try with_reducible rfl
              try simp only [Act.put, List.getElem_toArray, List.getElem_cons_zero, List.getElem_cons_succ, List.setIfInBounds_toArray, List.set_cons_zero, List.set_cons_succ]
              refine wpAnyH_take (i := 5) (v := ?_) rfl (by kernel_rfl) (by kernel_rfl) (by kernel_rfl) (fun _ _ _ h => h) (Or.inl ⟨by rfl, ?_⟩) hHeld ?_
              rotate_left
              focus
                intro w hSw
                clear hSw
                go_simp
                try with_reducible rfl
              try simp only [Act.put, List.getElem_toArray, List.getElem_cons_zero, List.getElem_cons_succ, List.setIfInBounds_toArray, List.set_cons_zero, List.set_cons_succ]
              refine wpAnyH_take (i := 6) (v := ?_) rfl (by kernel_rfl) (by kernel_rfl) (by kernel_rfl) (fun _ _ _ h => h) (Or.inl ⟨by rfl, ?_⟩) hHeld ?_
              rotate_left
              focus
                intro w hSw
                clear hSw
                go_simp
                try with_reducible rfl
              try simp only [Act.put, List.getElem_toArray, List.getElem_cons_zero, List.getElem_cons_succ, List.setIfInBounds_toArray, List.set_cons_zero, List.set_cons_succ]
              refine wpAnyH_take (i := 7) (v := ?_) rfl (by kernel_rfl) (by kernel_rfl) (by kernel_rfl) (fun _ _ _ h => h) (Or.inl ⟨by rfl, ?_⟩) hHeld ?_
              rotate_left
              focus
                intro w hSw
                clear hSw
                go_simp
                try with_reducible rfl
              try simp only [Act.put, List.getElem_toArray, List.getElem_cons_zero, List.getElem_cons_succ, List.setIfInBounds_toArray, List.set_cons_zero, List.set_cons_succ]
              refine wpAnyH_take (i := 8) (v := ?_) rfl (by kernel_rfl) (by kernel_rfl) (by kernel_rfl) (fun _ _ _ h => h) (Or.inl ⟨by rfl, ?_⟩) hHeld ?_
              rotate_left
              focus
                intro w hSw
                clear hSw
                go_simp
                try with_reducible rfl
              try simp only [Act.put, List.getElem_toArray, List.getElem_cons_zero, List.getElem_cons_succ, List.setIfInBounds_toArray, List.set_cons_zero, List.set_cons_succ]
              refine wpAnyH_take (i := 9) (v := ?_) rfl (by kernel_rfl) (by kernel_rfl) (by kernel_rfl) (fun _ _ _ h => h) (Or.inl ⟨by rfl, ?_⟩) hHeld ?_
              rotate_left
              focus
                intro w hSw
                (try dsimp only at hSw)
                go_simp
                try with_reducible rfl
              try simp only [Act.put, List.getElem_toArray, List.getElem_cons_zero, List.getElem_cons_succ, List.setIfInBounds_toArray, List.set_cons_zero, List.set_cons_succ]
              refine wpAnyH_take (i := 10) (v := ?_) rfl (by kernel_rfl) (by kernel_rfl) (by kernel_rfl) (fun _ _ _ h => h) (Or.inl ⟨by rfl, ?_⟩) hHeld ?_
              rotate_left
              focus
                intro w hSw
                clear hSw
                go_simp
                try with_reducible rfl
              try simp only [Act.put, List.getElem_toArray, List.getElem_cons_zero, List.getElem_cons_succ, List.setIfInBounds_toArray, List.set_cons_zero, List.set_cons_succ]
              refine wpAnyH_take (i := 13) (v := ?_) rfl (by kernel_rfl) (by kernel_rfl) (by kernel_rfl) (fun _ _ _ h => h) (Or.inl ⟨by rfl, ?_⟩) hHeld ?_
              rotate_left
              focus
                intro w hSw
                clear hSw
                go_simp
                try with_reducible rfl
              try simp only [Act.put, List.getElem_toArray, List.getElem_cons_zero, List.getElem_cons_succ, List.setIfInBounds_toArray, List.set_cons_zero, List.set_cons_succ]
              refine wpAnyH_ready (rs := [4]) (by kernel_rfl) (by simp) ?_
              refine AllReadyH.cons rfl (fun K hK => ?_) AllReadyH.nil
              go_simp
              refine (rsize_c w1.heap.size w1.heap.size sz NW (k + 1) v5 _ (show Hid _ from HR7.out.below HB)).mono ?_
              rintro e y2 ⟨rfl, rfl⟩
              refine hK.out _ _ HB (fun hHeld => ?_)
              clear hK K
              try simp only [Act.put, List.getElem_toArray, List.getElem_cons_zero, List.getElem_cons_succ, List.setIfInBounds_toArray, List.set_cons_zero, List.set_cons_succ]
              refine wpAnyH_take (i := 11) (v := ?_) rfl (by kernel_rfl) (by kernel_rfl) (by kernel_rfl) (fun _ _ _ h => h) (Or.inl ⟨by rfl, ?_⟩) hHeld ?_
              rotate_left
              focus
                intro w hSw
                clear hSw
                go_simp
                try with_reducible rfl
              try simp only [Act.put, List.getElem_toArray, List.getElem_cons_zero, List.getElem_cons_succ, List.setIfInBounds_toArray, List.set_cons_zero, List.set_cons_succ]
              refine wpAnyH_take (i := 12) (v := ?_) rfl (by kernel_rfl) (by kernel_rfl) (by kernel_rfl) (fun _ _ _ h => h) (Or.inl ⟨by rfl, ?_⟩) hHeld ?_
              rotate_left
              focus
                intro w hSw
                clear hSw
                go_simp
                try with_reducible rfl
              try simp only [Act.put, List.getElem_toArray, List.getElem_cons_zero, List.getElem_cons_succ, List.setIfInBounds_toArray, List.set_cons_zero, List.set_cons_succ]
              refine wpAnyH_take (i := 14) (v := ?_) rfl (by kernel_rfl) (by kernel_rfl) (by kernel_rfl) (fun _ _ _ h => h) (Or.inl ⟨by rfl, ?_⟩) hHeld ?_
              rotate_left
              focus
                intro w hSw
                clear hSw
                go_simp
                try with_reducible rfl
              try simp only [Act.put, List.getElem_toArray, List.getElem_cons_zero, List.getElem_cons_succ, List.setIfInBounds_toArray, List.set_cons_zero, List.set_cons_succ]
              refine wpAnyH_take (i := 15) (v := ?_) rfl (by kernel_rfl) (by kernel_rfl) (by kernel_rfl) (fun _ _ _ h => h) (Or.inl ⟨by rfl, ?_⟩) hHeld ?_
              rotate_left
              focus
                intro w hSw
                clear hSw
                go_simp
                try with_reducible rfl
              try simp only [Act.put, List.getElem_toArray, List.getElem_cons_zero, List.getElem_cons_succ, List.setIfInBounds_toArray, List.set_cons_zero, List.set_cons_succ]
              refine wpAnyH_done (by kernel_rfl) ?_ _
              refine NoPanic.normal ?_
              go_wp2_with fail
              go_roundw
              case rel => exact ⟨k + 1, v5, NW, _, cn, _, rfl, by omega, by omega, by go_num, by rw [HNM.out], HR7.out.below HB, HNWD.out.symm, by rw [HNM.out]; omega, by rw [HNM.out]; exact (HNOW.out.below HB (Nat.le_refl _)).mono HB.size, by rw [HNM.out]; exact HNAP.out, by rw [HNM.out]; exact hcn, HBW7.out.trans (HB.mono HBW7.out.size)⟩
              case measure => simp [intOf]; omega
      · have hk1 : (k : Int) < (len : Int) := by omega
        have hk2 : ¬ (k : Int) < 60 := by omega
        have HG0 : Hid (0 = if ((k : Int) - was.length + 1) < (k : Int) - was.length + 1 then 0 else if ((k : Int) - was.length + 1) - ((k : Int) - was.length + 1) < was.length then (((k : Int) - was.length + 1) - ((k : Int) - was.length + 1)).toNat else was.length) := by
          show _ = _
          rw [if_neg (by omega)]
          split <;> omega
        have HG1 : Hid (was.length = if ((k : Int) + 1) < (k : Int) - was.length + 1 then 0 else if ((k : Int) + 1) - ((k : Int) - was.length + 1) < was.length then (((k : Int) + 1) - ((k : Int) - was.length + 1)).toNat else was.length) := by
          show _ = _
          rw [if_neg (by omega), if_neg (by omega)]
        clear hap
        go_wp2_with fail
        refine (rfirst_c w1.heap.size w1.heap.size sz was k v wr HRG (by omega) (by omega)).mono ?_
        rintro e y1 ⟨rfl, hb1⟩
        have HR1 := Lib.hid (HRG.out.below hb1)
        have HW1 := Lib.hid ((HWAS0.out.below hb1 (Nat.le_refl _)).mono hb1.size)
        have hbl1 := hbl.trans (hb1.mono hbl.size)
        go_wp2_with fail
        refine (rsince_c w1.heap.size w1.heap.size sz was k v ((k : Int) - was.length + 1) y1 HR1 hwk (by omega) (by omega) (by omega) 0 HG0).mono ?_
        rintro e y2 ⟨A8, c8, rfl, _, hrd8, hb2⟩
        have HR2 := Lib.hid (HR1.out.below hb2)
        have HW2 := Lib.hid ((HW1.out.below hb2 (Nat.le_refl _)).mono hb2.size)
        have HRD8 : Hid (RdRows y2 y2.heap.size strC 1 A8 was.length was) := hrd8
        have hbl2 := hbl1.trans (hb2.mono hbl1.size)
        clear hrd8
        go_wp2_with fail
        refine (same38_eq A8 Aw was.length c8 cw was y2 HRD8 HW2 (by omega)).mono ?_
        rintro e y3 ⟨rfl, hb3⟩
        have HR3 := Lib.hid (HR2.out.below hb3)
        have hbl3 := hbl2.trans (hb3.mono hbl2.size)
        go_wp2_with fail
        refine (rcount_c w1.heap.size w1.heap.size sz was k v y3 HR3).mono ?_
        rintro e y3' ⟨rfl, rfl⟩
        go_wp2_with fail
        refine (rsince_c w1.heap.size w1.heap.size sz was k v ((k : Int) + 1) y3 HR3 hwk (by omega) (by omega) (by omega) was.length HG1).mono ?_
        rintro e y4 ⟨A9, c9, rfl, _, _, hb4⟩
        have hbl4 := hbl3.trans (hb4.mono hbl3.size)
        go_wp2_with fail
        go_ret
        exact ⟨rfl, hbl4⟩
    · have hk1 : ¬ (k : Int) < (len : Int) := by omega
      have HG0 : Hid (0 = if ((k : Int) - was.length + 1) < (k : Int) - was.length + 1 then 0 else if ((k : Int) - was.length + 1) - ((k : Int) - was.length + 1) < was.length then (((k : Int) - was.length + 1) - ((k : Int) - was.length + 1)).toNat else was.length) := by
        show _ = _
        rw [if_neg (by omega)]
        split <;> omega
      have HG1 : Hid (was.length = if ((k : Int) + 1) < (k : Int) - was.length + 1 then 0 else if ((k : Int) + 1) - ((k : Int) - was.length + 1) < was.length then (((k : Int) + 1) - ((k : Int) - was.length + 1)).toNat else was.length) := by
        show _ = _
        rw [if_neg (by omega), if_neg (by omega)]
      clear hap
      go_wp2_with fail
      refine (rfirst_c w1.heap.size w1.heap.size sz was k v wr HRG (by omega) (by omega)).mono ?_
      rintro e y1 ⟨rfl, hb1⟩
      have HR1 := Lib.hid (HRG.out.below hb1)
      have HW1 := Lib.hid ((HWAS0.out.below hb1 (Nat.le_refl _)).mono hb1.size)
      have hbl1 := hbl.trans (hb1.mono hbl.size)
      go_wp2_with fail
      refine (rsince_c w1.heap.size w1.heap.size sz was k v ((k : Int) - was.length + 1) y1 HR1 hwk (by omega) (by omega) (by omega) 0 HG0).mono ?_
      rintro e y2 ⟨A8, c8, rfl, _, hrd8, hb2⟩
      have HR2 := Lib.hid (HR1.out.below hb2)
      have HW2 := Lib.hid ((HW1.out.below hb2 (Nat.le_refl _)).mono hb2.size)
      have HRD8 : Hid (RdRows y2 y2.heap.size strC 1 A8 was.length was) := hrd8
      have hbl2 := hbl1.trans (hb2.mono hbl1.size)
      clear hrd8
      go_wp2_with fail
      refine (same38_eq A8 Aw was.length c8 cw was y2 HRD8 HW2 (by omega)).mono ?_
      rintro e y3 ⟨rfl, hb3⟩
      have HR3 := Lib.hid (HR2.out.below hb3)
      have hbl3 := hbl2.trans (hb3.mono hbl2.size)
      go_wp2_with fail
      refine (rcount_c w1.heap.size w1.heap.size sz was k v y3 HR3).mono ?_
      rintro e y3' ⟨rfl, rfl⟩
      go_wp2_with fail
      refine (rsince_c w1.heap.size w1.heap.size sz was k v ((k : Int) + 1) y3 HR3 hwk (by omega) (by omega) (by omega) was.length HG1).mono ?_
      rintro e y4 ⟨A9, c9, rfl, _, _, hb4⟩
      have hbl4 := hbl3.trans (hb4.mono hbl3.size)
      go_wp2_with fail
      go_ret
      exact ⟨rfl, hbl4⟩
end Go.Proofs.YtkinbidpbgkaoaaDoor
