/-
  The wire laws' deeds that came in, laid open for a walk.
-/
import Derived.Test.YtdebldpmloignaaDoorLaidS
import Derived.Test.YtdebldpmloignaaDoorWirK
import Derived.Laws.IdiomArrays
namespace Go.Proofs.YtdebldpmloignaaDoor
open Go.RowKit Go.ChangeShapes Go.WideShapes Go.ChangeAt
set_option linter.unusedVariables false

structure Wact where
  k : Int
  n : Int
  s : ByteArray
  a : Int
  b : Int
  c : Int
  d : Int
  f : Bool
def Wact.cells (x : Wact) : List Value := [.int .i64 x.k, .int .i64 x.n, .string x.s, .int .i64 x.a, .int .i64 x.b, .int .i64 x.c, .int .i64 x.d, .bool x.f]
theorem Wact.k8 (x : Wact) : x.cells.length = 8 := rfl
def Wact.ok (x : Wact) : Prop := I64 x.n ∧ I64 x.a ∧ I64 x.b ∧ I64 x.c ∧ I64 x.d
set_option maxRecDepth 100000 in
theorem rd_of_wacts {H : Type} {enc : TypeId × Value → H} {W : World} {A : Option Addr} {n m : Nat} {d : DataW H} {p : List MemPlace} (h : DataW.Trod enc Tryd.prog W 0 (fun _ => true) true 39 (.slice A n m) d p) :
    ∃ xs : List Wact, RdRows W W.heap.size Wact.cells 8 A n xs ∧ n ≤ m ∧ m ≤ maxLen ∧ (A = none → n = 0) ∧ ∀ x ∈ xs, Wact.ok x := by
  have hci : Tryd.prog.cellsOf 3 = 1 := by kernel_rfl
  have hcs : Tryd.prog.cellsOf 9 = 1 := by kernel_rfl
  have hcv : Tryd.prog.cellsOf 43 = 4 := by kernel_rfl
  have hcb : Tryd.prog.cellsOf 4 = 1 := by kernel_rfl
  refine rd_of_structs Tryd.underlying39 Tryd.underlying45 (by kernel_rfl) (by omega) Wact.k8 Wact.ok ?_ h
  intro cs fu hl hf
  match cs, hl with
  | [c0, c1, c2, c3, c4, c5, c6, c7], _ =>
    obtain ⟨_, h0⟩ := hf 0 _ rfl
    simp [hci] at h0
    obtain ⟨n0, e0, _, w0⟩ := DataW.trod_int Tryd.underlying3 h0
    simp at e0
    subst e0
    obtain ⟨_, h1⟩ := hf 1 _ rfl
    simp [hci] at h1
    obtain ⟨n1, e1, _, w1⟩ := DataW.trod_int Tryd.underlying3 h1
    simp at e1
    subst e1
    obtain ⟨_, h2⟩ := hf 2 _ rfl
    simp [hcs] at h2
    obtain ⟨n2, e2, _, w2⟩ := DataW.trod_string Tryd.underlying9 h2
    simp at e2
    subst e2
    obtain ⟨_, h3⟩ := hf 3 _ rfl
    simp [hcv] at h3
    obtain ⟨y0, y1, y2, y3, nn, _, g0, g1, g2, g3⟩ := trod_array4 Tryd.underlying43 hci h3
    obtain ⟨n3, e3, _, w3⟩ := DataW.trod_int Tryd.underlying3 g0
    obtain ⟨n4, e4, _, w4⟩ := DataW.trod_int Tryd.underlying3 g1
    obtain ⟨n5, e5, _, w5⟩ := DataW.trod_int Tryd.underlying3 g2
    obtain ⟨n6, e6, _, w6⟩ := DataW.trod_int Tryd.underlying3 g3
    simp at e3 e4 e5 e6
    subst e3
    subst e4
    subst e5
    subst e6
    obtain ⟨_, h7⟩ := hf 4 _ rfl
    simp [hcb] at h7
    obtain ⟨n7, e7, _⟩ := DataW.trod_bool Tryd.underlying4 h7
    simp at e7
    subst e7
    exact ⟨⟨n0, n1, n2, n3, n4, n5, n6, n7⟩, rfl, bounds_i64 w1, bounds_i64 w3, bounds_i64 w4, bounds_i64 w5, bounds_i64 w6⟩
end Go.Proofs.YtdebldpmloignaaDoor
