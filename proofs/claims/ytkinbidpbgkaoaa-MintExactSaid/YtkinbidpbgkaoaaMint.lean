/-
  mint's functions by contract.
-/
import Derived.Test.YtkinbidpbgkaoaaKitP
import Derived.RegionTactic
import Derived.BigRegion
import Derived.Deep.QuietTactic
import Derived.BigQuiet
import Derived.Outline
import Derived.OneCell
namespace Go.Proofs.Ytkinbidpbgkaoaa
open Go.RowKit

namespace Mi
def s1 (x : Int) : Int := bits .xor .u64 x (x / 4096)
def s2 (x : Int) : Int := bits .xor .u64 x (IntKind.u64.wrap (x * 33554432))
def s3 (x : Int) : Int := bits .xor .u64 x (x / 134217728)
def nx (x : Int) : Int := s3 (s2 (s1 x))
def out (x : Int) : Int := IntKind.u64.wrap (x * 2685821657736338717)
theorem wrap_range (z : Int) : 0 ≤ IntKind.u64.wrap z ∧ IntKind.u64.wrap z < 18446744073709551616 := by
  simp [IntKind.wrap, IntKind.signed, IntKind.bits]; omega
theorem bits_range (x y : Int) : 0 ≤ bits .xor .u64 x y ∧ bits .xor .u64 x y < 18446744073709551616 := wrap_range _
theorem nx_range (x : Int) : 0 ≤ nx x ∧ nx x < 18446744073709551616 := bits_range _ _
end Mi

/-- A block of one cell. -/
def One (w : World) (b : Nat) (v : Value) (t : TypeId) : Prop := w.heap[b]? = some (.cells #[v] t (0, 0))
theorem One.cell {w : World} {b : Nat} {v : Value} {t : TypeId} (h : One w b v t) : w.cell? ⟨b, 0, none⟩ = some v := cell_of_one h
theorem One.free {w : World} {b : Nat} {v : Value} {t : TypeId} (h : One w b v t) : w.frozen? ⟨b, 0, none⟩ = false := free_of_one h
theorem One.store {w : World} {b : Nat} {v : Value} {t : TypeId} (h : One w b v t) (u : Value) : One (w.setCell ⟨b, 0, none⟩ u).drew b u t := one_setCell h
theorem grownBy_set (w : World) (b : Nat) (u : Value) : w.grownBy (w.setCell ⟨b, 0, none⟩ u).drew (some b) :=
  ⟨rfl, rfl, rfl, by simp [World.setCell, World.drew], fun k _ hne => by
    show (w.setCell ⟨b, 0, none⟩ u).heap[k]? = _
    exact Below.heap_setCell w _ u k (fun e => hne (by rw [e]))⟩
theorem grownBy_trans {a b c : World} {r : Option Nat} (h : a.grownBy b r) (k : b.grownBy c r) : a.grownBy c r :=
  ⟨k.os.trans h.os, k.tape.trans h.tape, k.output.trans h.output, Nat.le_trans h.size k.size, fun i hi hne => (k.block i (Nat.lt_of_lt_of_le hi h.size) hne).trans (h.block i hi hne)⟩

def MintAt (w : World) (b : Nat) (x : Int) : Prop := One w b (.int .u64 x) 48 ∧ 0 ≤ x ∧ x < 18446744073709551616

set_option maxRecDepth 100000 in
theorem next_c (b : Nat) (x : Int) (w : World) (hm : MintAt w b x) :
    Calls Try.prog 9 #[.pointer (some ⟨b, 0, none⟩)] w fun e w' => e = .returned (.int .u64 (Mi.out (Mi.nx x))) ∧ MintAt w' b (Mi.nx x) ∧ w.grownBy w' (some b) := by
  obtain ⟨ho, h0, h1⟩ := hm
  obtain ⟨a1, a2⟩ : 0 ≤ Mi.s1 x ∧ Mi.s1 x < 18446744073709551616 := Mi.bits_range _ _
  obtain ⟨b1, b2⟩ : 0 ≤ Mi.s2 (Mi.s1 x) ∧ Mi.s2 (Mi.s1 x) < 18446744073709551616 := Mi.bits_range _ _
  have hc := ho.cell
  have hf := ho.free
  have HO := Lib.hid ho
  clear ho
  go_enter Try.func9, Try.ntmps9
  go_wp2_with fail
  go_region
  rw [show bits .xor .u64 x (x / 4096) = Mi.s1 x from rfl]
  obtain ⟨w1, hw1⟩ : ∃ w1, w1 = (w.setCell ⟨b, 0, none⟩ (.int .u64 (Mi.s1 x))).drew := ⟨_, rfl⟩
  rw [← hw1]
  have o1 : One w1 b (.int .u64 (Mi.s1 x)) 48 := by rw [hw1]; exact HO.out.store _
  have g1 : w.grownBy w1 (some b) := by rw [hw1]; exact grownBy_set w b _
  clear hw1 hc hf HO
  have hc := o1.cell
  have hf := o1.free
  have HO := Lib.hid o1
  clear o1
  go_wp2_with fail
  go_region
  rw [show bits .xor .u64 (Mi.s1 x) (IntKind.u64.wrap (Mi.s1 x * 33554432)) = Mi.s2 (Mi.s1 x) from rfl]
  obtain ⟨w2, hw2⟩ : ∃ w2, w2 = (w1.setCell ⟨b, 0, none⟩ (.int .u64 (Mi.s2 (Mi.s1 x)))).drew := ⟨_, rfl⟩
  rw [← hw2]
  have o2 : One w2 b (.int .u64 (Mi.s2 (Mi.s1 x))) 48 := by rw [hw2]; exact HO.out.store _
  have g2 : w.grownBy w2 (some b) := by rw [hw2]; exact grownBy_trans g1 (grownBy_set w1 b _)
  clear hw2 hc hf HO g1
  have hc := o2.cell
  have hf := o2.free
  have HO := Lib.hid o2
  clear o2
  go_wp2_with fail
  go_region
  rw [show bits .xor .u64 (Mi.s2 (Mi.s1 x)) (Mi.s2 (Mi.s1 x) / 134217728) = Mi.nx x from rfl]
  obtain ⟨w3, hw3⟩ : ∃ w3, w3 = (w2.setCell ⟨b, 0, none⟩ (.int .u64 (Mi.nx x))).drew := ⟨_, rfl⟩
  rw [← hw3]
  have o3 : One w3 b (.int .u64 (Mi.nx x)) 48 := by rw [hw3]; exact HO.out.store _
  have g3 : w.grownBy w3 (some b) := by rw [hw3]; exact grownBy_trans g2 (grownBy_set w2 b _)
  clear hw3 hc hf HO g2
  have hc := o3.cell
  go_wp2_with fail
  go_ret
  exact ⟨rfl, ⟨o3, Mi.nx_range x⟩, g3⟩
end Go.Proofs.Ytkinbidpbgkaoaa
