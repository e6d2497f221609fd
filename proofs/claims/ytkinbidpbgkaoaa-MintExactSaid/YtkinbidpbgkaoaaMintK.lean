/-
  mint: the reference's Command, whole, and its Script.
-/
import Derived.Test.YtkinbidpbgkaoaaMintJ
import Derived.Deep.DeepCutAuto
namespace Go.Proofs.Ytkinbidpbgkaoaa
open Go.RowKit
set_option linter.unusedVariables false

theorem rcommand_c (b : Nat) (x : Int) (w : World) (hb : b < w.heap.size) (hm : RMintAt w b x) :
    Calls Try.prog 13 #[.pointer (some ⟨b, 0, none⟩)] w fun e w' => e = .returned (Mi.cmdOf x).val ∧ RMintAt w' b (Mi.x6 x) ∧ w.grownBy w' (some b) := by
  by_cases k0 : Mi.und x 10 = 0
  · exact rcommand_0 b x w hb hm k0
  by_cases k1 : Mi.und x 10 = 1
  · exact rcommand_1 b x w hb hm k1
  by_cases k5 : Mi.und x 10 = 5
  · exact rcommand_5 b x w hb hm k5
  by_cases k6 : Mi.und x 10 = 6
  · exact rcommand_6 b x w hb hm k6
  by_cases k7 : Mi.und x 10 = 7
  · by_cases d1 : Mi.und (Mi.x4 x) 5 = 0
    · exact rcommand_71 b x w hb hm k7 d1
    · by_cases d2 : Mi.und (Mi.x4 x) 5 = 1
      · exact rcommand_72 b x w hb hm k7 d2
      · exact rcommand_73 b x w hb hm k7 d1 d2
  by_cases k8 : Mi.und x 10 = 8
  · exact rcommand_8 b x w hb hm k8
  by_cases k9 : Mi.und x 10 = 9
  · exact rcommand_9 b x w hb hm k9
  exact rcommand_x b x w hb hm k0 k1 k5 k6 k7 k8 k9
theorem rcmdInfo : (Try.prog.info? 36).map (fun i => (i.zero, i.size, i.bytes)) = some (some (.agg #[.int .i64 0, .int .i64 0, .int .i64 0, .int .i64 0, .int .i64 0, .int .i64 0, .int .i64 0, .int .i64 0, .int .i64 0, .int .i64 0, .int .i64 0, .int .i64 0, .int .i64 0, .int .i64 0, .bool false]), 15, 120) := by kernel_rfl
set_option maxRecDepth 100000 in
set_option maxHeartbeats 1000000 in
theorem rscript_c (n count : Int) (w : World) (hn0 : 0 ≤ n) (hn1 : Hid (n < 18446744073709551616)) :
    Calls Try.prog 15 #[.int .u64 n, .int .i64 count] w fun e w' => ∃ v, e = .returned v ∧ w'.ownsRow w.heap.size 36 15 v (5 + Mi.many count) (flat (Mi.script n count)) ∧ Below w.heap.size w w' := by
  obtain ⟨i0, hi, hz0, hz1, hz2⟩ := info_parts rcmdInfo
  obtain ⟨B, hB⟩ : ∃ B, B = w.heap.size := ⟨_, rfl⟩
  have HB := Lib.hid hB
  rw [← hB]
  clear hB
  go_enter Try.func15, Try.ntmps15
  go_wp2_with (go_at_call 18; refine (rall_c _ _).mono ?_; rintro e w' ⟨rfl, rfl⟩)
  go_loopw [5, 6] (fun v i wr => ∃ k : Nat, k ≤ 3 ∧ i = .int .i64 k ∧ wr.ownsRow B 36 15 v (k + 1) (flat (Mi.grants k)) ∧ Below B w wr) (fun _ i _ => 3 - (intOf i).toNat)
  case atStart =>
    refine ⟨0, by omega, rfl, ?_, ?_⟩
    · have := own_one (w := w.alloc (.cells #[.int .i64 30, .int .i64 30, .int .i64 30, .int .i64 30] 34)) (base := B) (e := 36) (flat (Mi.grants 0)) (by rw [HB.out]; simp) rfl
      simp only [World.size_alloc] at this
      exact this
    · rw [HB.out]
      exact (below_grow w _).alloc (by simp) _
  case round =>
    obtain ⟨k, hk, rfl, hown, hnx⟩ := hrel
    have hsz := hnx.size
    rw [← HB.out] at hsz
    by_cases hlt : k < 3
    · go_wp2_with (first
        | (go_at_call 18; refine (rall_c _ _).mono ?_; rintro e w' ⟨rfl, rfl⟩)
        | (at_builtin; (refine wpList_app1 rfl _ _ 44 rfl B 36 i0 (.agg #[.int .i64 0, .int .i64 0, .int .i64 0, .int .i64 0, .int .i64 0, .int .i64 0, .int .i64 0, .int .i64 0, .int .i64 0, .int .i64 0, .int .i64 0, .int .i64 0, .int .i64 0, .int .i64 0, .bool false]) 15 120 Try.underlying44 hi hz0 hz1 hz2 rfl (by decide) _ _ _ rfl (hown.alloc _) _ _ rfl ?c0 ?c1 ?c2 ?c3 ?c4 ?c5 ?_)))
      case c0 => simp
      case c1 => rfl
      case c2 => simp [Value.oneCell']
      case c3 => unfold maxLen; omega
      case c4 => omega
      case c5 => simp; omega
      intro v' w1 hown' hg _
      have hnx1 : Below B w (wr.alloc (.cells #[.int .i64 30, .int .i64 30, .int .i64 30, .int .i64 30] 34)) := hnx.alloc hsz _
      have hnx' := below_app hnx1 (by simp; omega) (Nat.le_refl _) (hown.alloc _) hg
      clear hown hnx hnx1 hg
      go_wp2_with fail
      go_roundw
      case rel => exact ⟨k + 1, by omega, by go_num, by rw [Mi.grants_succ, flat_append, flat_one]; exact hown', hnx'⟩
      case measure => simp [intOf]; omega
    · obtain rfl : k = 3 := by omega
      go_wp2_with (first
        | (at_builtin; refine wpList_app1 rfl _ _ 44 rfl B 36 i0 (.agg #[.int .i64 0, .int .i64 0, .int .i64 0, .int .i64 0, .int .i64 0, .int .i64 0, .int .i64 0, .int .i64 0, .int .i64 0, .int .i64 0, .int .i64 0, .int .i64 0, .int .i64 0, .int .i64 0, .bool false]) 15 120 Try.underlying44 hi hz0 hz1 hz2 rfl (by decide) _ _ _ rfl hown _ _ rfl ?d0 ?d1 ?d2 ?d3 ?d4 ?d5 ?_))
      case d0 => rfl
      case d1 => rfl
      case d2 => simp [Value.oneCell']
      case d3 => unfold maxLen; omega
      case d4 => omega
      case d5 => exact hsz
      intro v2 w2 hown2 hg2 _
      have hnx2 := below_app hnx hsz (Nat.le_refl _) hown hg2
      have hown3 : w2.ownsRow B 36 15 v2 5 (flat Mi.head) := hown2
      clear hown hnx hg2 hown2
      go_wp2_with fail
      refine (rnew_c n w2 hn0 hn1.out).mono ?_
      rintro e w3 ⟨rfl, hw3⟩
      have hm3 : Hid (RMintAt w3 w2.heap.size (Mi.seed n)) := by
        rw [hw3]
        refine ⟨alloc_new' rfl, ?_⟩
        unfold Mi.seed
        have := hn1.out
        split <;> omega
      have hown4 : w3.ownsRow B 36 15 v2 5 (flat Mi.head) := by rw [hw3]; exact hown3.alloc _
      have hnx3 : Below B w w3 := by rw [hw3]; exact hnx2.alloc (by have := hnx2.size; rw [← HB.out] at this; exact this) _
      have hbig : w2.heap.size < w3.heap.size := by rw [hw3]; simp
      have hnx2s : B ≤ w2.heap.size := by have := hnx2.size; rw [← HB.out] at this; exact this
      clear hw3 hown3 hnx2
      have hB2 : B ≤ w2.heap.size := hnx2s
      have hmany : (Mi.many count : Int) = min (max count 0) 395 := by unfold Mi.many; omega
      have HMY := Lib.hid hmany
      clear hmany
      have a3 : Mi.many count ≤ 395 := by have := HMY.out; omega
      go_wp2_with fail
      go_loopw [5, 8] (fun v i wr => ∃ k : Nat, k ≤ Mi.many count ∧ i = .int .i64 k ∧ wr.ownsRow B 36 15 v (5 + k) (flat (Mi.head ++ Mi.cmdsTo (Mi.seed n) k)) ∧ Below B w wr ∧ RMintAt wr w2.heap.size (Mi.stN (Mi.seed n) k) ∧ w2.heap.size < wr.heap.size) (fun _ i _ => Mi.many count - (intOf i).toNat)
      case atStart => exact ⟨0, Nat.zero_le _, rfl, by simpa [Mi.cmdsTo] using hown4, hnx3, hm3.out, hbig⟩
      case round =>
        obtain ⟨k, hk, rfl, hown, hnx, hm, hbg⟩ := hrel
        have HM := Lib.hid hm
        clear hm
        by_cases h1 : (k : Int) < count
        · by_cases h2 : (k : Int) < 395
          · have hlt : k < Mi.many count := by have := HMY.out; omega
            go_wp2_with fail
            refine (rcommand_c w2.heap.size (Mi.stN (Mi.seed n) k) _ hbg HM.out).mono ?_
            rintro e w4 ⟨rfl, hm4, hg4⟩
            have hown5 := hown.kept hg4 (.inr (own_ne_one hown HM.out.1 (by decide)))
            have hnx4 : Below B w w4 := hnx.grown hg4 (by have := hnx.size; rw [← HB.out] at this; exact this) (by intro j hj; simp at hj; omega)
            have hs4 := hg4.size
            have HM4 := Lib.hid hm4
            clear hm4 hg4 hown hnx HM
            obtain ⟨cc, hcc⟩ : ∃ cc, cc = Mi.cmdOf (Mi.stN (Mi.seed n) k) := ⟨_, rfl⟩
            rw [← hcc]
            have HCC := Lib.hid hcc
            clear hcc
            unfold Cmd.val
            go_wp2_with (first
              | (at_builtin; refine wpList_app1 rfl _ _ 44 rfl B 36 i0 (.agg #[.int .i64 0, .int .i64 0, .int .i64 0, .int .i64 0, .int .i64 0, .int .i64 0, .int .i64 0, .int .i64 0, .int .i64 0, .int .i64 0, .int .i64 0, .int .i64 0, .int .i64 0, .int .i64 0, .bool false]) 15 120 Try.underlying44 hi hz0 hz1 hz2 rfl (by decide) _ _ _ rfl hown5 cc.cells _ rfl ?ea0 ?ea1 ?ea2 ?ea3 ?ea4 ?ea5 ?_))
            case ea0 => rfl
            case ea1 => rfl
            case ea2 => exact cells_one _
            case ea3 => unfold maxLen; omega
            case ea4 => omega
            case ea5 => omega
            intro v5 w5 hown6 hg5 _
            have hne := own_ne_one hown5 HM4.out.1 (by decide)
            have hm5 : Hid (RMintAt w5 w2.heap.size (Mi.x6 (Mi.stN (Mi.seed n) k))) := by
              refine ⟨?_, HM4.out.2⟩
              have := HM4.out.1
              unfold One at this ⊢
              rw [hg5.block _ (by omega) (fun e => hne e.symm)]
              exact this
            have hnx5 := below_app hnx4 (by omega) (Nat.le_refl _) hown5 hg5
            have hs5 := hg5.size
            clear hown5 hnx4 hg5 HM4
            go_wp2_with fail
            go_roundw
            case rel => exact ⟨k + 1, by omega, by go_num, by rw [Mi.cmdsTo_succ, ← HCC.out, ← List.append_assoc, flat_append, flat_one]; exact hown6, hnx5, hm5.out, by omega⟩
            case measure => simp [intOf]; omega
          · obtain rfl : k = Mi.many count := by have := HMY.out; omega
            go_wp2_with fail
            go_ret
            exact ⟨_, rfl, hown, hnx⟩
        · obtain rfl : k = Mi.many count := by have := HMY.out; omega
          go_wp2_with fail
          go_ret
          exact ⟨_, rfl, hown, hnx⟩
end Go.Proofs.Ytkinbidpbgkaoaa
