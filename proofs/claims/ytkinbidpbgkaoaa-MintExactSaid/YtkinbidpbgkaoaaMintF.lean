/-
  mint: Script by contract.
-/
import Derived.Test.YtkinbidpbgkaoaaMintE
import Derived.Deep.DeepCutAuto
namespace Go.Proofs.Ytkinbidpbgkaoaa
open Go.RowKit
set_option linter.unusedVariables false

theorem own_one {w : World} {base : Nat} {e : TypeId} {size : Nat} (l : List Value) (hb : base ≤ w.heap.size) (hs : l.length = size) : (w.alloc (.cells l.toArray e)).ownsRow base e size (.slice (some ⟨w.heap.size, 0, none⟩) 1 1) 1 l :=
  ⟨by omega, .inr ⟨w.heap.size, 1, l.toArray, rfl, hb, heap_alloc_new w _, Nat.le_refl _, by unfold maxLen; omega, by simp; omega, by simp [← hs]⟩⟩
/-- A row's block and a block of another element type are two. -/
theorem own_ne_one {w : World} {base : Nat} {e t : TypeId} {size n : Nat} {v u : Value} {xs : List Value} {b : Nat} (h : w.ownsRow base e size v n xs) (ho : One w b u t) (hne : e ≠ t) : v.ownBlock ≠ some b := by
  rcases h.2 with ⟨rfl, _⟩ | ⟨g, cap, cur, rfl, _, hg, _⟩
  · simp [Value.ownBlock]
  · intro hk
    have : g = b := by simpa [Value.ownBlock] using hk
    subst this
    unfold One at ho
    rw [hg] at ho
    simp at ho
    exact hne ho.2
theorem int_eq {a b : Int} (h : a = b) : Value.int .i64 a = .int .i64 b := by rw [h]
theorem cmdInfo : (Try.prog.info? 38).map (fun i => (i.zero, i.size, i.bytes)) = some (some (.agg #[.int .i64 0, .int .i64 0, .int .i64 0, .int .i64 0, .int .i64 0, .int .i64 0, .int .i64 0, .int .i64 0, .int .i64 0, .int .i64 0, .int .i64 0, .int .i64 0, .int .i64 0, .int .i64 0, .bool false]), 15, 120) := by kernel_rfl

set_option maxRecDepth 100000 in
set_option maxHeartbeats 1000000 in
theorem script_c (n count : Int) (w : World) (hn0 : 0 ≤ n) (hn1 : Hid (n < 18446744073709551616)) :
    Calls Try.prog 14 #[.int .u64 n, .int .i64 count] w fun e w' => ∃ v, e = .returned v ∧ w'.ownsRow w.heap.size 38 15 v (5 + Mi.many count) (flat (Mi.script n count)) ∧ Below w.heap.size w w' := by
  obtain ⟨i0, hi, hz0, hz1, hz2⟩ := info_parts cmdInfo
  obtain ⟨B, hB⟩ : ∃ B, B = w.heap.size := ⟨_, rfl⟩
  have HB := Lib.hid hB
  rw [← hB]
  clear hB
  go_enter Try.func14, Try.ntmps14
  go_wp2_with (go_at_call 19; refine (all_c _ _).mono ?_; rintro e w' ⟨rfl, rfl⟩)
  go_loopw [5, 12] (fun v i wr => ∃ k : Nat, k ≤ 3 ∧ i = .int .i64 k ∧ wr.ownsRow B 38 15 v (k + 1) (flat (Mi.grants k)) ∧ Below B w wr) (fun _ i _ => 3 - (intOf i).toNat)
  case atStart =>
    refine ⟨0, by omega, rfl, ?_, ?_⟩
    · have := own_one (w := w.alloc (.cells #[.int .i64 30, .int .i64 30, .int .i64 30, .int .i64 30] 34)) (base := B) (e := 38) (flat (Mi.grants 0)) (by rw [HB.out]; simp) rfl
      simp only [World.size_alloc] at this
      exact this
    · rw [HB.out]
      exact (below_grow w _).alloc (by simp) _
  case round =>
    obtain ⟨k, hk, rfl, hown, hnx⟩ := hrel
    have hsz := hnx.size
    rw [← HB.out] at hsz
    by_cases hlt : k < 3
    · go_wp2_with (first
        | (go_at_call 19; refine (all_c _ _).mono ?_; rintro e w' ⟨rfl, rfl⟩)
        | (at_builtin; (refine wpList_app1 rfl _ _ 42 rfl B 38 i0 (.agg #[.int .i64 0, .int .i64 0, .int .i64 0, .int .i64 0, .int .i64 0, .int .i64 0, .int .i64 0, .int .i64 0, .int .i64 0, .int .i64 0, .int .i64 0, .int .i64 0, .int .i64 0, .int .i64 0, .bool false]) 15 120 Try.underlying42 hi hz0 hz1 hz2 rfl (by decide) _ _ _ rfl (hown.alloc _) _ _ rfl ?c0 ?c1 ?c2 ?c3 ?c4 ?c5 ?_)))
      case c0 => simp
      case c1 => rfl
      case c2 => simp [Value.oneCell']
      case c3 => unfold maxLen; omega
      case c4 => omega
      case c5 => simp; omega
      intro v' w1 hown' hg _
      have hnx1 : Below B w (wr.alloc (.cells #[.int .i64 30, .int .i64 30, .int .i64 30, .int .i64 30] 34)) := hnx.alloc hsz _
      have hnx' := below_app hnx1 (by simp; omega) (Nat.le_refl _) (hown.alloc _) hg
      clear hown hnx hnx1 hg
      go_wp2_with fail
      go_roundw
      case rel => exact ⟨k + 1, by omega, by go_num, by rw [Mi.grants_succ, flat_append, flat_one]; exact hown', hnx'⟩
      case measure => simp [intOf]; omega
    · obtain rfl : k = 3 := by omega
      go_wp2_with (first
        | (at_builtin; refine wpList_app1 rfl _ _ 42 rfl B 38 i0 (.agg #[.int .i64 0, .int .i64 0, .int .i64 0, .int .i64 0, .int .i64 0, .int .i64 0, .int .i64 0, .int .i64 0, .int .i64 0, .int .i64 0, .int .i64 0, .int .i64 0, .int .i64 0, .int .i64 0, .bool false]) 15 120 Try.underlying42 hi hz0 hz1 hz2 rfl (by decide) _ _ _ rfl hown _ _ rfl ?d0 ?d1 ?d2 ?d3 ?d4 ?d5 ?_))
      case d0 => rfl
      case d1 => rfl
      case d2 => simp [Value.oneCell']
      case d3 => unfold maxLen; omega
      case d4 => omega
      case d5 => exact hsz
      intro v2 w2 hown2 hg2 _
      have hnx2 := below_app hnx hsz (Nat.le_refl _) hown hg2
      have hown3 : w2.ownsRow B 38 15 v2 5 (flat Mi.head) := hown2
      clear hown hnx hg2 hown2
      go_wp2_with fail
      refine (new_c n w2 hn0 hn1.out).mono ?_
      rintro e w3 ⟨rfl, hw3⟩
      have hm3 : Hid (MintAt w3 w2.heap.size (Mi.seed n)) := by
        rw [hw3]
        refine ⟨alloc_new' rfl, ?_⟩
        unfold Mi.seed
        have := hn1.out
        split <;> omega
      have hown4 : w3.ownsRow B 38 15 v2 5 (flat Mi.head) := by rw [hw3]; exact hown3.alloc _
      have hnx3 : Below B w w3 := by rw [hw3]; exact hnx2.alloc (by have := hnx2.size; rw [← HB.out] at this; exact this) _
      have hbig : w2.heap.size < w3.heap.size := by rw [hw3]; simp
      have hnx2s : B ≤ w2.heap.size := by have := hnx2.size; rw [← HB.out] at this; exact this
      clear hw3 hown3 hnx2
      have hB2 : B ≤ w2.heap.size := hnx2s
      have hmany : (Mi.many count : Int) = min (max count 0) 395 := by unfold Mi.many; omega
      have HMY := Lib.hid hmany
      clear hmany
      go_upto_region 9 with fail
      go_cut [31, 32] (fun s31 s32 wx => s31 = .int .i64 (Mi.many count) ∧ s32 = .int .i64 0 ∧ w3 = wx)
      case first =>
        go_wp2_with fail
        all_goals (go_meet; exact ⟨int_eq (by have := HMY.out; omega), rfl, rfl⟩)
      case rest =>
        obtain ⟨rfl, rfl, rfl⟩ := hcut
        have a3 : Mi.many count ≤ 395 := by have := HMY.out; omega
        go_wp2_with fail
        go_loopw [5, 32] (fun v i wr => ∃ k : Nat, k ≤ Mi.many count ∧ i = .int .i64 k ∧ wr.ownsRow B 38 15 v (5 + k) (flat (Mi.head ++ Mi.cmdsTo (Mi.seed n) k)) ∧ Below B w wr ∧ MintAt wr w2.heap.size (Mi.stN (Mi.seed n) k) ∧ w2.heap.size < wr.heap.size) (fun _ i _ => Mi.many count - (intOf i).toNat)
        case atStart => exact ⟨0, Nat.zero_le _, rfl, by simpa [Mi.cmdsTo] using hown4, hnx3, hm3.out, hbig⟩
        case round =>
          obtain ⟨k, hk, rfl, hown, hnx, hm, hbg⟩ := hrel
          have HM := Lib.hid hm
          clear hm
          by_cases hlt : k < Mi.many count
          · go_wp2_with fail
            refine (mcommand_c w2.heap.size (Mi.stN (Mi.seed n) k) _ hbg HM.out).mono ?_
            rintro e w4 ⟨rfl, hm4, hg4⟩
            have hown5 := hown.kept hg4 (.inr (own_ne_one hown HM.out.1 (by decide)))
            have hnx4 : Below B w w4 := hnx.grown hg4 (by have := hnx.size; rw [← HB.out] at this; exact this) (by intro j hj; simp at hj; omega)
            have hs4 := hg4.size
            have HM4 := Lib.hid hm4
            clear hm4 hg4 hown hnx HM
            obtain ⟨cc, hcc⟩ : ∃ cc, cc = Mi.cmdOf (Mi.stN (Mi.seed n) k) := ⟨_, rfl⟩
            rw [← hcc]
            have HCC := Lib.hid hcc
            clear hcc
            unfold Cmd.val
            go_wp2_with (first
              | (at_builtin; refine wpList_app1 rfl _ _ 42 rfl B 38 i0 (.agg #[.int .i64 0, .int .i64 0, .int .i64 0, .int .i64 0, .int .i64 0, .int .i64 0, .int .i64 0, .int .i64 0, .int .i64 0, .int .i64 0, .int .i64 0, .int .i64 0, .int .i64 0, .int .i64 0, .bool false]) 15 120 Try.underlying42 hi hz0 hz1 hz2 rfl (by decide) _ _ _ rfl hown5 cc.cells _ rfl ?ea0 ?ea1 ?ea2 ?ea3 ?ea4 ?ea5 ?_))
            case ea0 => rfl
            case ea1 => rfl
            case ea2 => exact cells_one _
            case ea3 => unfold maxLen; omega
            case ea4 => omega
            case ea5 => omega
            intro v5 w5 hown6 hg5 _
            have hne := own_ne_one hown5 HM4.out.1 (by decide)
            have hm5 : Hid (MintAt w5 w2.heap.size (Mi.x6 (Mi.stN (Mi.seed n) k))) := by
              refine ⟨?_, HM4.out.2⟩
              have := HM4.out.1
              unfold One at this ⊢
              rw [hg5.block _ (by omega) (fun e => hne e.symm)]
              exact this
            have hnx5 := below_app hnx4 (by omega) (Nat.le_refl _) hown5 hg5
            have hs5 := hg5.size
            clear hown5 hnx4 hg5 HM4
            go_wp2_with fail
            go_roundw
            case rel => exact ⟨k + 1, by omega, by go_num, by rw [Mi.cmdsTo_succ, ← HCC.out, ← List.append_assoc, flat_append, flat_one]; exact hown6, hnx5, hm5.out, by omega⟩
            case measure => simp [intOf]; omega
          · obtain rfl : k = Mi.many count := by omega
            go_wp2_with fail
            go_ret
            exact ⟨_, rfl, hown, hnx⟩
end Go.Proofs.Ytkinbidpbgkaoaa
