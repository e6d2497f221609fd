/-
  MintUnder: the walk.
-/
import Derived.Test.YtdlcdlbaeomfcaaMintG
namespace Go.Proofs.Ytdlcdlbaeomfcaa
open Go.RowKit
set_option linter.unusedVariables false

set_option maxRecDepth 100000 in
theorem mintUnder_empty (n : Int) (A : Option Addr) (cap : Nat) (w : World) (hn0 : 0 ≤ n) (hn1 : Hid (n < 18446744073709551616)) :
    Calls Try.prog 4 #[.int .u64 n, .slice A 0 cap] w fun e w' => e = .returned (.bool true) ∧ Below w.heap.size w w' := by
  go_enter Try.func4, Try.ntmps4
  go_wp2_with fail
  refine (awake41_c w).mono ?_
  rintro e w1 ⟨rfl, hb1⟩
  go_wp2_with fail
  refine (new_c n w1 hn0 hn1.out).mono ?_
  rintro e w2 ⟨rfl, hw2⟩
  have hm2 : MintAt w2 w1.heap.size (Mi.seed n) := by
    rw [hw2]
    refine ⟨alloc_new' rfl, ?_⟩
    unfold Mi.seed
    have := hn1.out
    split <;> omega
  have hb2 : Below w.heap.size w w2 := by rw [hw2]; exact hb1.alloc hb1.size _
  have hlt2 : w1.heap.size < w2.heap.size := by rw [hw2]; simp
  have HM2 := Lib.hid hm2
  clear hw2 hm2
  go_wp2_with fail
  refine (new_c n w2 hn0 hn1.out).mono ?_
  rintro e w3 ⟨rfl, hw3⟩
  have hm3 : MintAt w3 w2.heap.size (Mi.seed n) := by
    rw [hw3]
    refine ⟨alloc_new' rfl, ?_⟩
    unfold Mi.seed
    have := hn1.out
    split <;> omega
  have hb3 : Below w.heap.size w w3 := by rw [hw3]; exact hb2.alloc hb2.size _
  have hlt3 : w2.heap.size < w3.heap.size := by rw [hw3]; simp
  have HM3 := Lib.hid hm3
  have HM4 : Hid (MintAt w3 w1.heap.size (Mi.seed n)) := by rw [hw3]; exact HM2.out.kept (World.grownBy_alloc _ _ none) (by simp)
  have hs1 := hb1.size
  clear hw3 hm3 HM2 hb2 hb1
  go_wp2_with fail
  refine wp_loop_rounds 1 ?_
  rw [rounds_succ]
  obtain ⟨st, hst⟩ : ∃ st, st = Mi.seed n := ⟨_, rfl⟩
  rw [← hst] at HM3 HM4
  obtain ⟨wr, hwr⟩ : ∃ wr, wr = w3 := ⟨_, rfl⟩
  have HA : Hid (MintAt wr w1.heap.size st) := by rw [hwr]; exact HM4
  have HB : Hid (MintAt wr w2.heap.size st) := by rw [hwr]; exact HM3
  have hbl : Below w.heap.size w wr := by rw [hwr]; exact hb3
  rw [← hwr]
  clear hst hwr hb3 HM3 HM4
  go_wp2_with fail
  refine (next_c w1.heap.size st wr HA.out).mono ?_
  rintro e w5 ⟨rfl, hm5, hg5⟩
  have HB5 : Hid (MintAt w5 w2.heap.size st) := HB.out.kept hg5 (by simp; omega)
  have hbl5 : Below w.heap.size w w5 := hbl.grown hg5 hbl.size (by intro j hj; simp at hj; omega)
  clear hm5 hg5
  go_wp2_with fail
  refine (next_c w2.heap.size st w5 HB5.out).mono ?_
  rintro e w6 ⟨rfl, hm6, hg6⟩
  have hbl6 : Below w.heap.size w w6 := hbl5.grown hg6 hbl5.size (by intro j hj; simp at hj; omega)
  clear hm6 hg6
  go_wp2_with fail
  go_ret
  exact ⟨rfl, hbl6⟩
set_option maxRecDepth 100000 in
set_option maxHeartbeats 1000000 in
theorem mintUnder_some (n : Int) (b off len cap : Nat) (zs : List Int) (w : World) (hn0 : 0 ≤ n) (hn1 : Hid (n < 18446744073709551616)) (hcap : len ≤ cap) (hbw : b < w.heap.size)
    (hz : Hid (∀ i, i < len → w.cell? ⟨b, off + i, none⟩ = some (.int .i64 (zs.getD i 0)))) :
    Calls Try.prog 4 #[.int .u64 n, .slice (some ⟨b, off, none⟩) len cap] w fun e w' => e = .returned (.bool true) ∧ Below w.heap.size w w' := by
  go_enter Try.func4, Try.ntmps4
  go_wp2_with fail
  refine (awake41_c w).mono ?_
  rintro e w1 ⟨rfl, hb1⟩
  go_wp2_with fail
  refine (new_c n w1 hn0 hn1.out).mono ?_
  rintro e w2 ⟨rfl, hw2⟩
  have hm2 : MintAt w2 w1.heap.size (Mi.seed n) := by
    rw [hw2]
    refine ⟨alloc_new' rfl, ?_⟩
    unfold Mi.seed
    have := hn1.out
    split <;> omega
  have hb2 : Below w.heap.size w w2 := by rw [hw2]; exact hb1.alloc hb1.size _
  have hlt2 : w1.heap.size < w2.heap.size := by rw [hw2]; simp
  have HM2 := Lib.hid hm2
  clear hw2 hm2
  go_wp2_with fail
  refine (new_c n w2 hn0 hn1.out).mono ?_
  rintro e w3 ⟨rfl, hw3⟩
  have hm3 : MintAt w3 w2.heap.size (Mi.seed n) := by
    rw [hw3]
    refine ⟨alloc_new' rfl, ?_⟩
    unfold Mi.seed
    have := hn1.out
    split <;> omega
  have hb3 : Below w.heap.size w w3 := by rw [hw3]; exact hb2.alloc hb2.size _
  have hlt3 : w2.heap.size < w3.heap.size := by rw [hw3]; simp
  have HM3 := Lib.hid hm3
  have HM4 : Hid (MintAt w3 w1.heap.size (Mi.seed n)) := by rw [hw3]; exact HM2.out.kept (World.grownBy_alloc _ _ none) (by simp)
  have hs1 := hb1.size
  clear hw3 hm3 HM2 hb2 hb1
  go_wp2_with fail
  go_loopw [7] (fun i wr => ∃ (k : Nat) (st : Int), k ≤ len ∧ k ≤ 60 ∧ i = .int .i64 k ∧ MintAt wr w1.heap.size st ∧ MintAt wr w2.heap.size st ∧ Below w.heap.size w wr ∧ w2.heap.size < wr.heap.size) (fun i _ => len - (intOf i).toNat)
  case atStart => exact ⟨0, Mi.seed n, by omega, by omega, rfl, HM4.out, HM3.out, hb3, hlt3⟩
  case round =>
    obtain ⟨k, st, hk, hk60, rfl, hA, hB, hbl, hls⟩ := hrel
    have HA := Lib.hid hA
    have HB := Lib.hid hB
    clear hA hB
    by_cases h60 : k < 60
    · by_cases hlt : k < len
      · have hc : wr.cell? ⟨b, off + k, none⟩ = some (.int .i64 (zs.getD k 0)) := (hbl.cell (p := ⟨b, off + k, none⟩) hbw).trans (hz.out k hlt)
        obtain ⟨z, hzk⟩ : ∃ z, z = zs.getD k 0 := ⟨_, rfl⟩
        rw [← hzk] at hc
        clear hzk
        go_upto_region 9 with fail
        obtain ⟨t1, t2⟩ := umod_range z 1000 (by omega) (by omega)
        generalize wrap64 ((IntKind.u64.wrap z).tmod 1000) = kk at *
        by_cases hkk : kk ≤ 1
        · go_wp2_with fail
          refine (under_small w1.heap.size kk wr hkk).mono ?_
          rintro e w' ⟨rfl, rfl⟩
          go_wp2_with fail
          go_roundw
          case rel => exact ⟨k + 1, st, by omega, by omega, by go_num, HA.out, HB.out, hbl, hls⟩
          case measure => simp [intOf]; omega
        · have hkk1 : 1 < kk := by omega
          obtain ⟨u1, u2⟩ := Mi.und_range st kk (by omega)
          obtain ⟨o1, _⟩ := Mi.out_range (Mi.nx st)
          clear hkk
          go_wp2_with fail
          refine (under_big w1.heap.size st kk wr HA.out hkk1 (by omega)).mono ?_
          rintro e w5 ⟨rfl, hm5, hg5⟩
          have HA5 := Lib.hid hm5
          have HB5 : Hid (MintAt w5 w2.heap.size st) := HB.out.kept hg5 (by simp; omega)
          have hbl5 : Below w.heap.size w w5 := hbl.grown hg5 hbl.size (by intro j hj; simp at hj; omega)
          have hs5 := hg5.size
          clear hm5 hg5 HA HB hbl hc
          have hw1 : IntKind.u64.wrap (Mi.und st kk) = Mi.und st kk := by simp [IntKind.wrap, IntKind.signed, IntKind.bits]; omega
          have hw2 : IntKind.u64.wrap kk = kk := by simp [IntKind.wrap, IntKind.signed, IntKind.bits]; omega
          have hfin : (IntKind.u64.wrap (Mi.und st kk) != (Mi.out (Mi.nx st)).tmod (IntKind.u64.wrap kk)) = false := by
            rw [hw1, hw2, Int.tmod_eq_emod_of_nonneg o1]
            unfold Mi.und
            simp
          have hz2 : ¬ IntKind.u64.wrap kk = 0 := by rw [hw2]; omega
          clear o1 hw1 hw2
          generalize hgu : Mi.und st kk = uu at *
          have hd1 : decide (uu < 0) = false := by simp; omega
          have hd2 : decide (kk ≤ uu) = false := by simp; omega
          clear hgu t2 u1 u2
          go_wp2_with fail
          refine (next_c w2.heap.size st w5 HB5.out).mono ?_
          rintro e w6 ⟨rfl, hm6, hg6⟩
          have HB6 := Lib.hid hm6
          have HA6 : Hid (MintAt w6 w1.heap.size (Mi.nx st)) := HA5.out.kept hg6 (by simp; omega)
          have hbl6 : Below w.heap.size w w6 := hbl5.grown hg6 hbl5.size (by intro j hj; simp at hj; omega)
          have hs6 := hg6.size
          clear hm6 hg6 HA5 HB5 hbl5
          go_wp2_with fail
          go_roundw
          case rel => exact ⟨k + 1, Mi.nx st, by omega, by omega, by go_num, HA6.out, HB6.out, hbl6, by omega⟩
          case measure => simp [intOf]; omega
      · have hkl : len ≤ k := by omega
        go_wp2_with fail
        refine (next_c w1.heap.size st wr HA.out).mono ?_
        rintro e w5 ⟨rfl, hm5, hg5⟩
        have HB5 : Hid (MintAt w5 w2.heap.size st) := HB.out.kept hg5 (by simp; omega)
        have hbl5 : Below w.heap.size w w5 := hbl.grown hg5 hbl.size (by intro j hj; simp at hj; omega)
        clear hm5 hg5
        go_wp2_with fail
        refine (next_c w2.heap.size st w5 HB5.out).mono ?_
        rintro e w6 ⟨rfl, hm6, hg6⟩
        have hbl6 : Below w.heap.size w w6 := hbl5.grown hg6 hbl5.size (by intro j hj; simp at hj; omega)
        clear hm6 hg6
        go_wp2_with fail
        go_ret
        exact ⟨rfl, hbl6⟩
    · have hk6 : 60 ≤ k := by omega
      by_cases hlt : k < len
      · go_wp2_with fail
        refine (next_c w1.heap.size st wr HA.out).mono ?_
        rintro e w5 ⟨rfl, hm5, hg5⟩
        have HB5 : Hid (MintAt w5 w2.heap.size st) := HB.out.kept hg5 (by simp; omega)
        have hbl5 : Below w.heap.size w w5 := hbl.grown hg5 hbl.size (by intro j hj; simp at hj; omega)
        clear hm5 hg5
        go_wp2_with fail
        refine (next_c w2.heap.size st w5 HB5.out).mono ?_
        rintro e w6 ⟨rfl, hm6, hg6⟩
        have hbl6 : Below w.heap.size w w6 := hbl5.grown hg6 hbl5.size (by intro j hj; simp at hj; omega)
        clear hm6 hg6
        go_wp2_with fail
        go_ret
        exact ⟨rfl, hbl6⟩
      · have hkl : len ≤ k := by omega
        go_wp2_with fail
        refine (next_c w1.heap.size st wr HA.out).mono ?_
        rintro e w5 ⟨rfl, hm5, hg5⟩
        have HB5 : Hid (MintAt w5 w2.heap.size st) := HB.out.kept hg5 (by simp; omega)
        have hbl5 : Below w.heap.size w w5 := hbl.grown hg5 hbl.size (by intro j hj; simp at hj; omega)
        clear hm5 hg5
        go_wp2_with fail
        refine (next_c w2.heap.size st w5 HB5.out).mono ?_
        rintro e w6 ⟨rfl, hm6, hg6⟩
        have hbl6 : Below w.heap.size w w6 := hbl5.grown hg6 hbl5.size (by intro j hj; simp at hj; omega)
        clear hm6 hg6
        go_wp2_with fail
        go_ret
        exact ⟨rfl, hbl6⟩
theorem mintUnder_walk (n : Int) (A : Option Addr) (len cap : Nat) (zs : List Int) (w : World) (hn0 : 0 ≤ n) (hn1 : n < 18446744073709551616) (hcap : len ≤ cap) (hz : RdInts w w.heap.size A len zs) :
    Calls Try.prog 4 #[.int .u64 n, .slice A len cap] w fun e w' => e = .returned (.bool true) ∧ Below w.heap.size w w' := by
  by_cases h : len = 0
  · subst h
    exact mintUnder_empty n A cap w hn0 hn1
  · obtain ⟨b, off, rfl, hb, hc⟩ := hz.2 (by omega)
    exact mintUnder_some n b off len cap zs w hn0 hn1 hcap hb hc
end Go.Proofs.Ytdlcdlbaeomfcaa
