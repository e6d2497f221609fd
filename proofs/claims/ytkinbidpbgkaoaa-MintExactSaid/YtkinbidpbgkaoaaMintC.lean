/-
  mint: the reference's row of numbers; vectors, places, commands, by contract.
-/
import Derived.Test.YtkinbidpbgkaoaaMintB
namespace Go.Proofs.Ytkinbidpbgkaoaa
open Go.RowKit

def RMintAt (w : World) (b : Nat) (x : Int) : Prop := One w b (.int .u64 x) 50 ∧ 0 ≤ x ∧ x < 18446744073709551616

theorem grownBy_set0 (w : World) (b : Nat) (u : Value) : w.grownBy (w.setCell ⟨b, 0, none⟩ u) (some b) :=
  ⟨rfl, rfl, rfl, by simp [World.setCell], fun k _ hne => Below.heap_setCell w _ u k (fun e => hne (by rw [e]))⟩
set_option maxRecDepth 100000 in
theorem rnext_c (b : Nat) (x : Int) (w : World) (hm : RMintAt w b x) :
    Calls Try.prog 10 #[.pointer (some ⟨b, 0, none⟩)] w fun e w' => e = .returned (.int .u64 (Mi.out (Mi.nx x))) ∧ RMintAt w' b (Mi.nx x) ∧ w.grownBy w' (some b) := by
  obtain ⟨ho, h0, h1⟩ := hm
  obtain ⟨a1, a2⟩ : 0 ≤ bits .xor .u64 x (x / 4096) ∧ bits .xor .u64 x (x / 4096) < 18446744073709551616 := Mi.bits_range _ _
  obtain ⟨b1, b2⟩ : 0 ≤ bits .xor .u64 (bits .xor .u64 x (x / 4096)) (IntKind.u64.wrap (bits .xor .u64 x (x / 4096) * 33554432)) ∧ bits .xor .u64 (bits .xor .u64 x (x / 4096)) (IntKind.u64.wrap (bits .xor .u64 x (x / 4096) * 33554432)) < 18446744073709551616 := Mi.bits_range _ _
  have hc := ho.cell
  have hf := ho.free
  have HO := Lib.hid ho
  clear ho
  go_enter Try.func10, Try.ntmps10
  go_wp2_with fail
  go_ret
  exact ⟨rfl, ⟨one_setCell HO.out, Mi.nx_range x⟩, grownBy_set0 w b _⟩
set_option maxRecDepth 100000 in
theorem runder_small (b : Nat) (n : Int) (w : World) (h : n ≤ 1) :
    Calls Try.prog 8 #[.pointer (some ⟨b, 0, none⟩), .int .i64 n] w fun e w' => e = .returned (.int .i64 0) ∧ w = w' := by
  go_enter Try.func8, Try.ntmps8
  go_wp2_with fail
  go_ret
  exact ⟨rfl, rfl⟩
set_option maxRecDepth 100000 in
theorem runder_big (b : Nat) (x n : Int) (w : World) (hm : RMintAt w b x) (h : 1 < n) (h2 : n ≤ 9223372036854775807) :
    Calls Try.prog 8 #[.pointer (some ⟨b, 0, none⟩), .int .i64 n] w fun e w' => e = .returned (.int .i64 (Mi.und x n)) ∧ RMintAt w' b (Mi.nx x) ∧ w.grownBy w' (some b) := by
  have hw : IntKind.u64.wrap n = n := by simp [IntKind.wrap, IntKind.signed, IntKind.bits]; omega
  have hfin : wrap64 ((Mi.out (Mi.nx x)).tmod (IntKind.u64.wrap n)) = Mi.und x n := by
    obtain ⟨r0, r1⟩ := Mi.und_range x n (by omega)
    obtain ⟨o0, _⟩ := Mi.out_range (Mi.nx x)
    rw [hw, Int.tmod_eq_emod_of_nonneg o0]
    unfold Mi.und at *
    unfold wrap64
    omega
  have hz : ¬ IntKind.u64.wrap n = 0 := by rw [hw]; omega
  have HF := Lib.hid hfin
  have HM := Lib.hid hm
  clear hm h2 hw hfin
  go_enter Try.func8, Try.ntmps8
  go_wp2_with fail
  refine (rnext_c b x w HM.out).mono ?_
  rintro e w' ⟨rfl, hm', hg⟩
  have HM' := Lib.hid hm'
  clear hm'
  go_wp2_with fail
  go_ret
  exact ⟨ret_int HF.out, HM'.out, hg⟩

theorem vecSize : (Try.prog.info? 34).map (·.size) = some 4 := by kernel_rfl
theorem below_grow (w : World) (o : Obj) : Below w.heap.size w (w.alloc o) := (Below.refl _ _).alloc (Nat.le_refl _) _
set_option maxRecDepth 100000 in
theorem new_c (x : Int) (w : World) (h0 : 0 ≤ x) (h1 : x < 18446744073709551616) :
    Calls Try.prog 5 #[.int .u64 x] w fun e w' => e = .returned (.pointer (some ⟨w.heap.size, 0, none⟩)) ∧ w' = w.alloc (.cells #[.int .u64 (if x ≤ 1 then 1 else x)] 48) := by
  by_cases h : x ≤ 1
  · rw [if_pos h]
    go_enter Try.func5, Try.ntmps5
    go_wp2_with fail
    all_goals (go_ret; first | exact ⟨rfl, rfl⟩ | (obtain rfl : x = 1 := (by (try simp at *); omega); exact ⟨rfl, rfl⟩))
  · rw [if_neg h]
    go_enter Try.func5, Try.ntmps5
    go_wp2_with fail
    all_goals (go_ret; first | exact ⟨rfl, rfl⟩ | (obtain rfl : x = 1 := (by (try simp at *); omega); exact ⟨rfl, rfl⟩))
set_option maxRecDepth 100000 in
theorem rnew_c (x : Int) (w : World) (h0 : 0 ≤ x) (h1 : x < 18446744073709551616) :
    Calls Try.prog 6 #[.int .u64 x] w fun e w' => e = .returned (.pointer (some ⟨w.heap.size, 0, none⟩)) ∧ w' = w.alloc (.cells #[.int .u64 (if x ≤ 1 then 1 else x)] 50) := by
  by_cases h : x ≤ 1
  · rw [if_pos h]
    go_enter Try.func6, Try.ntmps6
    go_wp2_with fail
    all_goals (go_ret; first | exact ⟨rfl, rfl⟩ | (obtain rfl : x = 1 := (by (try simp at *); omega); exact ⟨rfl, rfl⟩))
  · rw [if_neg h]
    have hz : (x == 0) = false := by simp; omega
    go_enter Try.func6, Try.ntmps6
    go_wp2_with fail
    go_ret
    exact ⟨rfl, rfl⟩
set_option maxRecDepth 100000 in
theorem all_c (n : Int) (w : World) :
    Calls Try.prog 19 #[.int .i64 n] w fun e w' => e = .returned (.agg #[.int .i64 n, .int .i64 n, .int .i64 n, .int .i64 n]) ∧ w' = w.alloc (.cells #[.int .i64 n, .int .i64 n, .int .i64 n, .int .i64 n] 34) := by
  go_enter Try.func19, Try.ntmps19
  go_wp2_with fail
  exact bodyPost_cell Try.results19 rfl w.heap.size rfl _ _ _ _ (heap_alloc_new w _) rfl Try.underlying34 vecSize ⟨rfl, rfl⟩
set_option maxRecDepth 100000 in
theorem rall_c (n : Int) (w : World) :
    Calls Try.prog 18 #[.int .i64 n] w fun e w' => e = .returned (.agg #[.int .i64 n, .int .i64 n, .int .i64 n, .int .i64 n]) ∧ w' = w.alloc (.cells #[.int .i64 n, .int .i64 n, .int .i64 n, .int .i64 n] 34) := by
  go_enter Try.func18, Try.ntmps18
  go_wp2_with fail
  exact bodyPost_cell Try.results18 rfl w.heap.size rfl _ _ _ _ (heap_alloc_new w _) rfl Try.underlying34 vecSize ⟨rfl, rfl⟩

/-- A command, as its fifteen cells. -/
structure Cmd where
  (k id other cell band win n m p q v0 v1 v2 v3 : Int)
  flag : Bool
def Cmd.cells (c : Cmd) : List Value := [.int .i64 c.k, .int .i64 c.id, .int .i64 c.other, .int .i64 c.cell, .int .i64 c.band, .int .i64 c.win, .int .i64 c.n, .int .i64 c.m, .int .i64 c.p, .int .i64 c.q, .int .i64 c.v0, .int .i64 c.v1, .int .i64 c.v2, .int .i64 c.v3, .bool c.flag]
def Cmd.val (c : Cmd) : Value := .agg #[.int .i64 c.k, .int .i64 c.id, .int .i64 c.other, .int .i64 c.cell, .int .i64 c.band, .int .i64 c.win, .int .i64 c.n, .int .i64 c.m, .int .i64 c.p, .int .i64 c.q, .int .i64 c.v0, .int .i64 c.v1, .int .i64 c.v2, .int .i64 c.v3, .bool c.flag]
def Cmd.zero : Cmd := ⟨0, 0, 0, 0, 0, 0, 0, 0, 0, 0, 0, 0, 0, 0, false⟩
namespace Mi
/-- The kind of a turn. -/
def turnK (d : Int) : Int := if d = 1 then 5 else if d = 2 then 6 else 7
/-- The command of a throw. -/
def cmd (k a b c d e : Int) : Cmd :=
  if k = 0 then ⟨3, a, 0, 1, 0, 0, 0, 0, 0, 0, 4 * d, 4 * d, 4 * d, 4 * d, false⟩
  else if k = 1 then ⟨8, 1, 0, 1, c, b - 1, 0, 0, 0, 0, 3 * d, 3 * d, 3 * d, 3 * d, false⟩
  else if k = 5 then ⟨16, e, 0, 0, 0, 0, 0, 0, 0, 0, 0, 0, 0, 0, false⟩
  else if k = 6 then ⟨18, 0, 0, 0, 0, 0, a, 0, 0, 0, 0, 0, 0, 0, false⟩
  else if k = 7 then ⟨turnK d, a, 0, 0, 0, 0, 0, 0, 0, 0, 0, 0, 0, 0, false⟩
  else if k = 8 then ⟨17, 0, 0, 0, 0, 0, 0, 0, 0, 0, 0, 0, 0, 0, false⟩
  else if k = 9 then ⟨13, e, 1, 1, c, b - 1, d, a, 0, 0, 0, 0, 0, 0, e % 2 == 0⟩
  else ⟨15, e, 1, 1, c, 0, b, 1, a, 0, d, 1, 1, 1, false⟩
end Mi
theorem cmdSize : (Try.prog.info? 38).map (·.size) = some 15 := by kernel_rfl
theorem placeSize : (Try.prog.info? 32).map (·.size) = some 3 := by kernel_rfl
set_option maxRecDepth 100000 in
theorem place_c (k a b c d e : Int) (w : World) (hb1 : 1 ≤ b) (hb2 : b ≤ 3) :
    Calls Try.prog 20 #[.agg #[.int .i64 k, .int .i64 a, .int .i64 b, .int .i64 c, .int .i64 d, .int .i64 e]] w fun r w' => r = .returned (.agg #[.int .i64 1, .int .i64 c, .int .i64 (b - 1)]) ∧ w' = (w.alloc (.cells #[.int .i64 k, .int .i64 a, .int .i64 b, .int .i64 c, .int .i64 d, .int .i64 e] 52)).alloc (.cells #[.int .i64 1, .int .i64 c, .int .i64 (b - 1)] 32) := by
  go_enter Try.func20, Try.ntmps20
  go_wp2_with fail
  exact bodyPost_last Try.results20 rfl (w.heap.size + 1) rfl (by simp) _ Try.underlying32 rfl 3 placeSize rfl ⟨rfl, rfl⟩
set_option maxRecDepth 100000 in
theorem turn_c (k a b c d e : Int) (w : World) :
    Calls Try.prog 21 #[.agg #[.int .i64 k, .int .i64 a, .int .i64 b, .int .i64 c, .int .i64 d, .int .i64 e]] w fun r w' => r = .returned (.agg #[.int .i64 (Mi.turnK d), .int .i64 a, .int .i64 0, .int .i64 0, .int .i64 0, .int .i64 0, .int .i64 0, .int .i64 0, .int .i64 0, .int .i64 0, .int .i64 0, .int .i64 0, .int .i64 0, .int .i64 0, .bool false]) ∧ w' = (w.alloc (.cells #[.int .i64 k, .int .i64 a, .int .i64 b, .int .i64 c, .int .i64 d, .int .i64 e] 52)).alloc (.cells #[.int .i64 (Mi.turnK d), .int .i64 a, .int .i64 0, .int .i64 0, .int .i64 0, .int .i64 0, .int .i64 0, .int .i64 0, .int .i64 0, .int .i64 0, .int .i64 0, .int .i64 0, .int .i64 0, .int .i64 0, .bool false] 38) := by
  by_cases h1 : d = 1
  · subst h1
    have hk1 : Mi.turnK 1 = 5 := by decide
    simp only [hk1]
    go_enter Try.func21, Try.ntmps21
    go_wp2_with fail
    exact bodyPost_last Try.results21 rfl (w.heap.size + 1) rfl (by simp) _ Try.underlying38 rfl 15 cmdSize rfl ⟨rfl, rfl⟩
  · have hd1 : (d == 1) = false := by simpa using h1
    by_cases h2 : d = 2
    · subst h2
      have hk2 : Mi.turnK 2 = 6 := by decide
      simp only [hk2]
      clear h1
      go_enter Try.func21, Try.ntmps21
      go_wp2_with fail
      exact bodyPost_last Try.results21 rfl (w.heap.size + 1) rfl (by simp) _ Try.underlying38 rfl 15 cmdSize rfl ⟨rfl, rfl⟩
    · have hk3 : Mi.turnK d = 7 := by simp [Mi.turnK, h1, h2]
      simp only [hk3]
      have hd2 : (d == 2) = false := by simpa using h2
      clear h1 h2
      go_enter Try.func21, Try.ntmps21
      go_wp2_with fail
      exact bodyPost_last Try.results21 rfl (w.heap.size + 1) rfl (by simp) _ Try.underlying38 rfl 15 cmdSize rfl ⟨rfl, rfl⟩
end Go.Proofs.Ytkinbidpbgkaoaa
