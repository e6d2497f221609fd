/-
  mint: Command and Script by contract.
-/
import Derived.Test.YtkinbidpbgkaoaaMintD
namespace Go.Proofs.Ytkinbidpbgkaoaa
open Go.RowKit
set_option linter.unusedVariables false

namespace Mi
def cmdOf (x : Int) : Cmd := cmd (tk x) (ta x) (tb x) (tc x) (td x) (te x)
/-- The state behind so many commands. -/
def stN (x : Int) : Nat → Int
  | 0 => x
  | k + 1 => x6 (stN x k)
def cmdsTo (x : Int) (k : Nat) : List Cmd := (List.range k).map fun i => cmdOf (stN x i)
theorem cmdsTo_succ (x : Int) (k : Nat) : cmdsTo x (k + 1) = cmdsTo x k ++ [cmdOf (stN x k)] := by
  unfold cmdsTo
  rw [List.range_succ, List.map_append]
  rfl
def grants (k : Nat) : List Cmd := ⟨3, 1, 0, 1, 0, 0, 0, 0, 0, 0, 30, 30, 30, 30, false⟩ :: (List.range k).map fun (i : Nat) => ⟨8, 1, 0, 1, (i : Int), 0, 0, 0, 0, 0, 30, 30, 30, 30, false⟩
theorem grants_succ (k : Nat) : grants (k + 1) = grants k ++ [⟨8, 1, 0, 1, (k : Int), 0, 0, 0, 0, 0, 30, 30, 30, 30, false⟩] := by
  unfold grants
  rw [List.range_succ, List.map_append]
  rfl
def head : List Cmd := grants 3 ++ [⟨11, 1, 0, 0, 0, 0, 1000, 0, 0, 0, 0, 0, 0, 0, false⟩]
def seed (n : Int) : Int := if n ≤ 1 then 1 else n
def many (count : Int) : Nat := (min (max count 0) 395).toNat
def script (n count : Int) : List Cmd := head ++ cmdsTo (seed n) (many count)
end Mi
def flat (l : List Cmd) : List Value := l.flatMap Cmd.cells
theorem cells_length (c : Cmd) : c.cells.length = 15 := rfl
theorem flat_length (l : List Cmd) : (flat l).length = l.length * 15 := by
  induction l with
  | nil => rfl
  | cons c r ih => unfold flat at *; rw [List.flatMap_cons, List.length_append, ih, cells_length, List.length_cons]; omega
theorem flat_append (a b : List Cmd) : flat (a ++ b) = flat a ++ flat b := by unfold flat; rw [List.flatMap_append]
theorem flat_one (c : Cmd) : flat [c] = c.cells := by unfold flat; simp
theorem cells_one (c : Cmd) : ∀ u ∈ c.cells, u.oneCell' = true := by intro u hu; simp [Cmd.cells] at hu; rcases hu with rfl | rfl | rfl | rfl | rfl | rfl | rfl | rfl | rfl | rfl | rfl | rfl | rfl | rfl | rfl <;> rfl

set_option maxRecDepth 100000 in
theorem mcommand_c (b : Nat) (x : Int) (w : World) (hb : b < w.heap.size) (hm : MintAt w b x) :
    Calls Try.prog 12 #[.pointer (some ⟨b, 0, none⟩)] w fun e w' => e = .returned (Mi.cmdOf x).val ∧ MintAt w' b (Mi.x6 x) ∧ w.grownBy w' (some b) := by
  obtain ⟨p1, q1⟩ := Mi.und_range (Mi.x2 x) 3 (by omega)
  obtain ⟨p2, q2⟩ := Mi.und_range (Mi.x4 x) 5 (by omega)
  obtain ⟨p3, q3⟩ := Mi.und_range (Mi.x5 x) 12 (by omega)
  have hm1 : MintAt (w.alloc (.cells #[.int .i64 0, .int .i64 0, .int .i64 0, .int .i64 0, .int .i64 0, .int .i64 0, .int .i64 0, .int .i64 0, .int .i64 0, .int .i64 0, .int .i64 0, .int .i64 0, .int .i64 0, .int .i64 0, .bool false] 38)) b x := by
    refine ⟨?_, hm.2⟩
    have := hm.1
    unfold One at this ⊢
    rw [alloc_old' hb]
    exact this
  have HM := Lib.hid hm1
  clear hm hm1
  go_enter Try.func12, Try.ntmps12
  go_wp2_with fail
  refine (throw_c b x _ (by simp; omega) HM.out).mono ?_
  rintro e w1 ⟨rfl, hm1, hg1⟩
  unfold Mi.thr
  go_wp2_with fail
  refine (command_c (Mi.tk x) (Mi.ta x) (Mi.tb x) (Mi.tc x) (Mi.td x) (Mi.te x) w1 (by unfold Mi.tb; omega) (by unfold Mi.tb; omega) (by unfold Mi.td; omega) (by unfold Mi.td; omega) (by unfold Mi.te; omega) (by unfold Mi.te; omega)).mono ?_
  rintro e w2 ⟨rfl, hb2⟩
  have hrow1 : w1.heap[w.heap.size]? = some (.cells #[.int .i64 0, .int .i64 0, .int .i64 0, .int .i64 0, .int .i64 0, .int .i64 0, .int .i64 0, .int .i64 0, .int .i64 0, .int .i64 0, .int .i64 0, .int .i64 0, .int .i64 0, .int .i64 0, .bool false] 38 (0, 0)) :=
    (hg1.block w.heap.size (by simp) (by simp; omega)).trans (alloc_new' rfl)
  have hrow : Hid (w2.heap[w.heap.size]? = some (.cells #[.int .i64 0, .int .i64 0, .int .i64 0, .int .i64 0, .int .i64 0, .int .i64 0, .int .i64 0, .int .i64 0, .int .i64 0, .int .i64 0, .int .i64 0, .int .i64 0, .int .i64 0, .int .i64 0, .bool false] 38 (0, 0))) :=
    (hb2.block w.heap.size (lt_of_block hrow1)).trans hrow1
  have hg2 : w.grownBy w2 (some b) := grownBy_trans (grownBy_trans (World.grownBy_alloc w _ _) hg1) ⟨hb2.os, hb2.tape, hb2.output, hb2.size, fun k hk _ => hb2.block k hk⟩
  have hm2 : Hid (MintAt w2 b (Mi.x6 x)) := by
    refine ⟨?_, hm1.2⟩
    have := hm1.1
    unfold One at this ⊢
    rw [hb2.block _ (lt_of_block this)]
    exact this
  clear hrow1 hm1 hg1 hb2
  go_wp2_with (refine wpList_store_row rfl 38 _ _ rfl _ (Mi.cmdOf x).cells.toArray rfl rfl _ _ hrow.out ?i1 ?i2 ?i3 ?_)
  case i1 => exact cmdSize
  case i2 => simp [cells_length]
  case i3 => simpa using cells_one (Mi.cmdOf x)
  go_wp2_with fail
  refine bodyPost_row Try.results12 rfl w.heap.size rfl (Mi.cmdOf x).cells.toArray _ (0, 0) (setRow_heap _ _ _ _ _ _ hrow.out) _ Try.underlying38 rfl 15 cmdSize (by simp [cells_length]) ⟨rfl, ?_⟩
  refine ⟨⟨?_, hm2.out.2⟩, ⟨hg2.os, hg2.tape, hg2.output, by simpa using hg2.size, fun k hk hne => ?_⟩⟩
  · have := hm2.out.1
    unfold One at this ⊢
    rw [setRow_other _ _ _ _ (by omega)]
    exact this
  · rw [setRow_other _ _ _ _ (by omega)]
    exact hg2.block k hk hne
end Go.Proofs.Ytkinbidpbgkaoaa
