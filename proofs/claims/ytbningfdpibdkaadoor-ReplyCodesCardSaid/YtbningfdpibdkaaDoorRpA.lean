/-
  reply: known, Code, Err by contract.
-/
import Derived.Test.YtbningfdpibdkaaDoorFlt
import Derived.Deep.LoopGhost
namespace Go.Proofs.YtbningfdpibdkaaDoor
open Go.RowKit
set_option linter.unusedVariables false
set_option linter.unusedSimpArgs false

theorem known_cell {w : World} {E : Nat → Addr} (t : TypeId) (k : Nat) (h : k < 14) : (w.alloc (.cells #[.iface 104 (.pointer (some (E 1))), .iface 104 (.pointer (some (E 2))), .iface 104 (.pointer (some (E 3))), .iface 104 (.pointer (some (E 4))), .iface 104 (.pointer (some (E 5))), .iface 104 (.pointer (some (E 6))), .iface 104 (.pointer (some (E 7))), .iface 104 (.pointer (some (E 8))), .iface 104 (.pointer (some (E 9))), .iface 104 (.pointer (some (E 10))), .iface 104 (.pointer (some (E 11))), .iface 104 (.pointer (some (E 12))), .iface 104 (.pointer (some (E 13))), .iface 104 (.pointer (some (E 14)))] t)).cell? ⟨w.heap.size, k, none⟩ = some (erV E (k + 1)) := by
  rw [cell_of_row (w.alloc _) w.heap.size k _ t (0, 0) (heap_alloc_new w _)]
  have : k = 0 ∨ k = 1 ∨ k = 2 ∨ k = 3 ∨ k = 4 ∨ k = 5 ∨ k = 6 ∨ k = 7 ∨ k = 8 ∨ k = 9 ∨ k = 10 ∨ k = 11 ∨ k = 12 ∨ k = 13 := by omega
  rcases this with rfl | rfl | rfl | rfl | rfl | rfl | rfl | rfl | rfl | rfl | rfl | rfl | rfl | rfl <;> rfl
set_option maxRecDepth 100000 in
theorem known_c {B : Nat} {E : Nat → Addr} (w : World) (hE : Errs B w allKinds E) :
    Calls Tryd.prog 80 #[] w fun e w' => e = .returned (.slice (some ⟨w.heap.size, 0, none⟩) 14 14) ∧ (∀ k, k < 14 → w'.cell? ⟨w.heap.size, k, none⟩ = some (erV E (k + 1))) ∧ Below w.heap.size w w' := by
  have v1 : w.cell? ⟨0, 0, none⟩ = some (.iface 104 (.pointer (some (E 1)))) := (hE.var 1 (mem_allKinds (by omega) (by omega))).2
  have v2 : w.cell? ⟨3, 0, none⟩ = some (.iface 104 (.pointer (some (E 2)))) := (hE.var 2 (mem_allKinds (by omega) (by omega))).2
  have v3 : w.cell? ⟨1, 0, none⟩ = some (.iface 104 (.pointer (some (E 3)))) := (hE.var 3 (mem_allKinds (by omega) (by omega))).2
  have v4 : w.cell? ⟨4, 0, none⟩ = some (.iface 104 (.pointer (some (E 4)))) := (hE.var 4 (mem_allKinds (by omega) (by omega))).2
  have v5 : w.cell? ⟨5, 0, none⟩ = some (.iface 104 (.pointer (some (E 5)))) := (hE.var 5 (mem_allKinds (by omega) (by omega))).2
  have v6 : w.cell? ⟨6, 0, none⟩ = some (.iface 104 (.pointer (some (E 6)))) := (hE.var 6 (mem_allKinds (by omega) (by omega))).2
  have v7 : w.cell? ⟨7, 0, none⟩ = some (.iface 104 (.pointer (some (E 7)))) := (hE.var 7 (mem_allKinds (by omega) (by omega))).2
  have v8 : w.cell? ⟨2, 0, none⟩ = some (.iface 104 (.pointer (some (E 8)))) := (hE.var 8 (mem_allKinds (by omega) (by omega))).2
  have v9 : w.cell? ⟨8, 0, none⟩ = some (.iface 104 (.pointer (some (E 9)))) := (hE.var 9 (mem_allKinds (by omega) (by omega))).2
  have v10 : w.cell? ⟨9, 0, none⟩ = some (.iface 104 (.pointer (some (E 10)))) := (hE.var 10 (mem_allKinds (by omega) (by omega))).2
  have v11 : w.cell? ⟨10, 0, none⟩ = some (.iface 104 (.pointer (some (E 11)))) := (hE.var 11 (mem_allKinds (by omega) (by omega))).2
  have v12 : w.cell? ⟨11, 0, none⟩ = some (.iface 104 (.pointer (some (E 12)))) := (hE.var 12 (mem_allKinds (by omega) (by omega))).2
  have v13 : w.cell? ⟨12, 0, none⟩ = some (.iface 104 (.pointer (some (E 13)))) := (hE.var 13 (mem_allKinds (by omega) (by omega))).2
  have v14 : w.cell? ⟨13, 0, none⟩ = some (.iface 104 (.pointer (some (E 14)))) := (hE.var 14 (mem_allKinds (by omega) (by omega))).2
  clear hE
  go_enter Tryd.func80, Tryd.ntmps80
  go_wp2_with fail
  go_ret
  exact ⟨rfl, fun k hk => known_cell _ k hk, (Below.refl _ _).alloc (Nat.le_refl _) _⟩
/-- The number of an error: of nil none, of one that has none 15. -/
def codeN (l : List (ByteArray × Int)) (c : Nat) : Nat := if c = 0 then (if l = [] then 0 else 15) else c
set_option maxRecDepth 100000 in
theorem code_c {B : Nat} {E : Nat → Addr} (w : World) (hB : B ≤ w.heap.size) (hE : Errs B w allKinds E) (l : List (ByteArray × Int)) (c : Nat) (hc : c ≤ 14) (v : Value) (hC : Hid (Chain w E l c v)) :
    Calls Tryd.prog 38 #[v] w fun e w' => e = .returned (.int .i64 (codeN l c : Nat)) ∧ Below w.heap.size w w' := by
  by_cases h0 : l ≠ [] ∨ c ≠ 0
  · obtain ⟨vt, vx, hv⟩ := hC.out.ne_nil h0
    subst hv
    have hnil := fun W : World => run_eql_held_nil (P := Tryd.prog) W 30 vt vx errIface
    have HCH := Lib.hid (fun (W : World) (hb : Below w.heap.size w W) => hC.out.below hb)
    have HEH := Lib.hid (fun (W : World) (hb : Below w.heap.size w W) => hE.below (hb.mono hB))
    have HKN := Lib.hid (known_c w hE)
    obtain ⟨d, hd⟩ : ∃ d, d = if c = 0 then 15 else c := ⟨_, rfl⟩
    have hcn : codeN l c = d := by
      unfold codeN
      rw [hd]
      split
      · rename_i hc0
        rw [if_neg (fun hl => by rcases h0 with h | h; exact h hl; exact h hc0)]
      · rfl
    have hd1 : 1 ≤ d ∧ d ≤ 15 := by rw [hd]; split <;> omega
    have HD : Hid (∀ k, k < 14 → (c == k + 1) = (d == k + 1)) := fun k hk => by
      rw [hd]
      split
      · rename_i hc0
        rw [hc0]
        have e1 : (0 == k + 1) = false := by simp
        have e2 : (15 == k + 1) = false := by simp; omega
        rw [e1, e2]
      · rfl
    rw [hcn]
    clear hC hE hcn hd h0
    go_enter Tryd.func38, Tryd.ntmps38
    go_wp2_with fail
    refine HKN.out.mono ?_
    rintro e w1 ⟨rfl, hcell, hb1⟩
    have HCL := Lib.hid hcell
    have HB1 := Lib.hid hb1
    clear hcell hb1 HKN
    go_wp2_with fail
    go_loop [9] (fun i => ∃ k : Nat, k < d ∧ k ≤ 14 ∧ i = .int .i64 k) (fun i => 14 - (intOf i).toNat)
    case atStart => exact ⟨0, by omega, by omega, rfl⟩
    case round =>
      obtain ⟨k, hk, hk14, rfl⟩ := hrel
      by_cases h14 : k < 14
      · have hk14' : (k : Int) < 14 := by omega
        have hcl := HCL.out k h14
        have HIS := Lib.hid (is_chain w1 (HEH.out w1 HB1.out) l c (k + 1) _ (HCH.out w1 HB1.out) (by by_cases h : c = 0; exact .inl h; exact .inr (mem_allKinds (by omega) hc)) (mem_allKinds (by omega) (by omega)))
        rw [HD.out k h14] at HIS
        by_cases hdk : d = k + 1
        · have hb : (d == k + 1) = true := by simpa using hdk
          rw [hb] at HIS
          have Hdk := Lib.hid hdk
          clear hdk hb
          go_wp2_with fail
          refine HIS.out.mono ?_
          rintro e w' ⟨rfl, rfl⟩
          go_wp2_with fail
          go_ret
          exact ⟨ret_int (by have := Hdk.out; omega), HB1.out⟩
        · have hb : (d == k + 1) = false := by simpa using hdk
          rw [hb] at HIS
          clear hb
          go_wp2_with fail
          refine HIS.out.mono ?_
          rintro e w' ⟨rfl, rfl⟩
          go_wp2_with fail
          go_round
          case rel => exact ⟨k + 1, by omega, by omega, by go_num⟩
          case measure => simp [intOf]; omega
      · have hk14' : ¬ (k : Int) < 14 := by omega
        have hd15 : d = 15 := by omega
        subst hd15
        go_wp2_with fail
        go_ret
        exact ⟨rfl, HB1.out⟩
  · obtain ⟨hl, hc0⟩ : l = [] ∧ c = 0 := by
      constructor
      · exact Classical.byContradiction fun h => h0 (.inl h)
      · exact Classical.byContradiction fun h => h0 (.inr h)
    subst hl
    subst hc0
    have hv : v = .nilIface := hC.out
    subst hv
    clear hC hE h0
    go_enter Tryd.func38, Tryd.ntmps38
    go_wp2_with fail
    go_ret
    exact ⟨rfl, Below.refl _ _⟩
/-- The kind of a number's error. -/
def errK (z : Int) : Nat := if 1 ≤ z ∧ z ≤ 14 then z.toNat else 0
set_option maxRecDepth 100000 in
theorem rerr_c {B : Nat} {E : Nat → Addr} (z : Int) (w : World) (hE : Errs B w allKinds E) :
    Calls Tryd.prog 36 #[.int .i64 z] w fun e w' => e = .returned (erV E (errK z)) ∧ Below w.heap.size w w' := by
  have HKN := Lib.hid (known_c w hE)
  clear hE
  by_cases h1 : z < 1
  · have hk : errK z = 0 := by unfold errK; rw [if_neg (by omega)]
    rw [hk, erV_nil]
    have d1 : decide (z < 1) = true := by simpa using h1
    clear h1 hk
    go_enter Tryd.func36, Tryd.ntmps36
    go_wp2_with fail
    go_ret
    exact ⟨rfl, Below.refl _ _⟩
  · have d1 : decide (z < 1) = false := by simpa using h1
    by_cases h2 : 15 ≤ z
    · have hk : errK z = 0 := by unfold errK; rw [if_neg (by omega)]
      rw [hk, erV_nil]
      have d2 : decide (15 ≤ z) = true := by simpa using h2
      clear h1 h2 hk
      go_enter Tryd.func36, Tryd.ntmps36
      go_wp2_with fail
      go_ret
      exact ⟨rfl, Below.refl _ _⟩
    · obtain ⟨k, hk⟩ : ∃ k : Nat, z = (k : Int) + 1 := ⟨(z - 1).toNat, by omega⟩
      have hk14 : k < 14 := by omega
      have he : errK z = k + 1 := by unfold errK; rw [if_pos (by omega)]; omega
      rw [he]
      have d2 : decide (15 ≤ z) = false := by simpa using h2
      have hw1 : IntKind.i64.wrap (z - 1) = (k : Int) := by rw [IntKind.wrap_i64]; omega
      have hw2 : IntKind.i64.wrap ((k : Int) + 1 - 1) = (k : Int) := by rw [IntKind.wrap_i64]; omega
      have hw3 : IntKind.i64.wrap (k : Int) = (k : Int) := by rw [IntKind.wrap_i64]; omega
      have k0 : (0 : Int) ≤ (k : Int) := by omega
      have k1 : (k : Int) < 14 := by omega
      subst hk
      clear h1 h2 he
      go_enter Tryd.func36, Tryd.ntmps36
      go_wp2_with fail
      refine HKN.out.mono ?_
      rintro e w1 ⟨rfl, hcell, hb1⟩
      have hcl := hcell k hk14
      have HB1 := Lib.hid hb1
      clear hcell hb1
      go_wp2_with fail
      go_ret
      exact ⟨rfl, HB1.out⟩
end Go.Proofs.YtbningfdpibdkaaDoor
