/-
  quitrentlaw14.kind by contract: the number of an error, wrapped as often as one likes.
-/
import Derived.Test.YtbningfdpibdkaaDoorFlt
import Derived.Deep.LoopGhost
namespace Go.Proofs.YtbningfdpibdkaaDoor
open Go.RowKit

namespace Kic24
theorem cell_l {w : World} {E : Nat → Addr} (t : TypeId) (k : Nat) (h : k < 14) : (w.alloc (.cells #[.iface 104 (.pointer (some (E 1))), .iface 104 (.pointer (some (E 2))), .iface 104 (.pointer (some (E 3))), .iface 104 (.pointer (some (E 4))), .iface 104 (.pointer (some (E 5))), .iface 104 (.pointer (some (E 6))), .iface 104 (.pointer (some (E 7))), .iface 104 (.pointer (some (E 8))), .iface 104 (.pointer (some (E 9))), .iface 104 (.pointer (some (E 10))), .iface 104 (.pointer (some (E 11))), .iface 104 (.pointer (some (E 12))), .iface 104 (.pointer (some (E 13))), .iface 104 (.pointer (some (E 14)))] t)).cell? ⟨w.heap.size, k, none⟩ = some (erV E (k + 1)) := by
  rw [cell_of_row (w.alloc _) w.heap.size k _ t (0, 0) (heap_alloc_new w _)]
  have : k = 0 ∨ k = 1 ∨ k = 2 ∨ k = 3 ∨ k = 4 ∨ k = 5 ∨ k = 6 ∨ k = 7 ∨ k = 8 ∨ k = 9 ∨ k = 10 ∨ k = 11 ∨ k = 12 ∨ k = 13 := by omega
  rcases this with rfl | rfl | rfl | rfl | rfl | rfl | rfl | rfl | rfl | rfl | rfl | rfl | rfl | rfl <;> rfl
end Kic24

set_option maxRecDepth 100000 in
theorem kic24_c {B : Nat} {E : Nat → Addr} (w : World) (hB : B ≤ w.heap.size) (hE : Errs B w allKinds E) (l : List (ByteArray × Int)) (c : Nat) (hc1 : 1 ≤ c) (hc : c ≤ 14) (v : Value) (hC : Hid (Chain w E l c v)) :
    Calls Tryd.prog 37 #[v] w fun e w' => e = .returned (.int .i64 c) ∧ Below w.heap.size w w' := by
  obtain ⟨vt, vx, hv⟩ := hC.out.ne_nil (.inr (by omega))
  subst hv
  have hnil := fun W : World => run_eql_held_nil (P := Tryd.prog) W 30 vt vx errIface
  have HCH := Lib.hid (fun (W : World) (hb : Below w.heap.size w W) => hC.out.below hb)
  clear hC
  by_cases h0 : c = 0
  · omega
  · have hc0 : (c == 0) = false := by simpa using h0
    have v1 : w.cell? ⟨0, 0, none⟩ = some (.iface 104 (.pointer (some (E 1)))) := (hE.var 1 (mem_allKinds (by omega) (by omega))).2
    have v2 : w.cell? ⟨3, 0, none⟩ = some (.iface 104 (.pointer (some (E 2)))) := (hE.var 2 (mem_allKinds (by omega) (by omega))).2
    have v3 : w.cell? ⟨1, 0, none⟩ = some (.iface 104 (.pointer (some (E 3)))) := (hE.var 3 (mem_allKinds (by omega) (by omega))).2
    have v4 : w.cell? ⟨4, 0, none⟩ = some (.iface 104 (.pointer (some (E 4)))) := (hE.var 4 (mem_allKinds (by omega) (by omega))).2
    have v5 : w.cell? ⟨5, 0, none⟩ = some (.iface 104 (.pointer (some (E 5)))) := (hE.var 5 (mem_allKinds (by omega) (by omega))).2
    have v6 : w.cell? ⟨6, 0, none⟩ = some (.iface 104 (.pointer (some (E 6)))) := (hE.var 6 (mem_allKinds (by omega) (by omega))).2
    have v7 : w.cell? ⟨7, 0, none⟩ = some (.iface 104 (.pointer (some (E 7)))) := (hE.var 7 (mem_allKinds (by omega) (by omega))).2
    have v8 : w.cell? ⟨2, 0, none⟩ = some (.iface 104 (.pointer (some (E 8)))) := (hE.var 8 (mem_allKinds (by omega) (by omega))).2
    have v9 : w.cell? ⟨8, 0, none⟩ = some (.iface 104 (.pointer (some (E 9)))) := (hE.var 9 (mem_allKinds (by omega) (by omega))).2
    have v10 : w.cell? ⟨9, 0, none⟩ = some (.iface 104 (.pointer (some (E 10)))) := (hE.var 10 (mem_allKinds (by omega) (by omega))).2
    have v11 : w.cell? ⟨10, 0, none⟩ = some (.iface 104 (.pointer (some (E 11)))) := (hE.var 11 (mem_allKinds (by omega) (by omega))).2
    have v12 : w.cell? ⟨11, 0, none⟩ = some (.iface 104 (.pointer (some (E 12)))) := (hE.var 12 (mem_allKinds (by omega) (by omega))).2
    have v13 : w.cell? ⟨12, 0, none⟩ = some (.iface 104 (.pointer (some (E 13)))) := (hE.var 13 (mem_allKinds (by omega) (by omega))).2
    have v14 : w.cell? ⟨13, 0, none⟩ = some (.iface 104 (.pointer (some (E 14)))) := (hE.var 14 (mem_allKinds (by omega) (by omega))).2
    have HE := Lib.hid hE
    clear hE
    have CE : ∀ k, k < 14 → (w.alloc (.cells #[.iface 104 (.pointer (some (E 1))), .iface 104 (.pointer (some (E 2))), .iface 104 (.pointer (some (E 3))), .iface 104 (.pointer (some (E 4))), .iface 104 (.pointer (some (E 5))), .iface 104 (.pointer (some (E 6))), .iface 104 (.pointer (some (E 7))), .iface 104 (.pointer (some (E 8))), .iface 104 (.pointer (some (E 9))), .iface 104 (.pointer (some (E 10))), .iface 104 (.pointer (some (E 11))), .iface 104 (.pointer (some (E 12))), .iface 104 (.pointer (some (E 13))), .iface 104 (.pointer (some (E 14)))] 98)).cell? ⟨w.heap.size, k, none⟩ = some (erV E (k + 1)) := fun k h => Kic24.cell_l _ k h
    have CE' := Lib.hid CE
    clear CE
    generalize hG : w.alloc (.cells #[.iface 104 (.pointer (some (E 1))), .iface 104 (.pointer (some (E 2))), .iface 104 (.pointer (some (E 3))), .iface 104 (.pointer (some (E 4))), .iface 104 (.pointer (some (E 5))), .iface 104 (.pointer (some (E 6))), .iface 104 (.pointer (some (E 7))), .iface 104 (.pointer (some (E 8))), .iface 104 (.pointer (some (E 9))), .iface 104 (.pointer (some (E 10))), .iface 104 (.pointer (some (E 11))), .iface 104 (.pointer (some (E 12))), .iface 104 (.pointer (some (E 13))), .iface 104 (.pointer (some (E 14)))] 98) = wg at CE'
    have HG := Lib.hid hG
    clear hG
    go_enter Tryd.func37, Tryd.ntmps37
    go_wp2_with fail
    rw [HG.out]
    clear v1 v2 v3 v4 v5 v6 v7 v8 v9 v10 v11 v12 v13 v14
    go_loop [4] (fun i => ∃ k : Nat, k < c ∧ i = .int .i64 k) (fun i => c - (intOf i).toNat)
    case atStart => exact ⟨0, by omega, rfl⟩
    case round =>
      obtain ⟨k, hk, rfl⟩ := hrel
      have hk14 : k < 14 := by omega
      have hcell := CE'.out k hk14
      by_cases hck : c = k + 1
      · have hb : (c == k + 1) = true := by simpa using hck
        have Hck := Lib.hid hck
        clear hck
        go_wp2_with fail
        refine (is_chain wg (HE.out.below ?hbl) l c (k + 1) _ (HCH.out wg ?hbc) (.inr (mem_allKinds (by omega) (by omega))) (mem_allKinds (by omega) (by omega))).mono ?_
        case hbl => rw [← HG.out]; exact (Below.refl _ _).alloc hB _
        case hbc => rw [← HG.out]; exact (Below.refl _ _).alloc (Nat.le_refl _) _
        rintro e w' ⟨rfl, rfl⟩
        go_wp2_with fail
        go_ret
        exact ⟨ret_int (by have := Hck.out; omega), by rw [← HG.out]; exact (Below.refl _ _).alloc (Nat.le_refl _) _⟩
      · have hb : (c == k + 1) = false := by simpa using hck
        go_wp2_with fail
        refine (is_chain wg (HE.out.below ?hbl) l c (k + 1) _ (HCH.out wg ?hbc) (.inr (mem_allKinds (by omega) (by omega))) (mem_allKinds (by omega) (by omega))).mono ?_
        case hbl => rw [← HG.out]; exact (Below.refl _ _).alloc hB _
        case hbc => rw [← HG.out]; exact (Below.refl _ _).alloc (Nat.le_refl _) _
        rintro e w' ⟨rfl, rfl⟩
        go_wp2_with fail
        go_round
        case rel => exact ⟨k + 1, by omega, by go_num⟩
        case measure => simp [intOf]; omega
end Go.Proofs.YtbningfdpibdkaaDoor
