/-
  reply: the writer: tasks.
-/
import Derived.Test.YtbningfdpibdkaaDoorRpG
import Derived.Test.YtbningfdpibdkaaDoorWrB
namespace Go.Proofs.YtbningfdpibdkaaDoor
open Go.RowKit
set_option linter.unusedVariables false
set_option linter.unusedSimpArgs false

def R64 (z : Int) : Prop := -9223372036854775808 ≤ z ∧ z ≤ 9223372036854775807
def encTk (t : Int × Int) : List UInt8 := encI t.1 ++ encI t.2
theorem flat_take {α : Type} (f : α → List UInt8) {xs : List α} {k : Nat} {x : α} (h : xs[k]? = some x) : (xs.take (k + 1)).flatMap f = (xs.take k).flatMap f ++ f x := by
  obtain ⟨hk, rfl⟩ := List.getElem?_eq_some_iff.1 h
  rw [List.take_succ_eq_append_getElem hk, List.flatMap_append]
  simp only [List.flatMap_cons, List.flatMap_nil, List.append_nil]
theorem OutS.step {w w1 w2 : World} {B b : Nat} {v p1 v1 : Value} {l1 : List UInt8} (h : OutS w w1 B b v p1 v1 l1) (hb : Below w1.heap.size w1 w2) : OutS w w2 B b v p1 v1 l1 :=
  ⟨h.out.below hb, h.turns.trans (Turns.of_below (F := fun _ => False) hb) (fun _ _ e => e.elim), h.own⟩
set_option maxRecDepth 100000 in
set_option maxHeartbeats 2000000 in
theorem wtasks_c (B b : Nat) (p v : Value) (l : List UInt8) (A : Option Addr) (n c : Nat) (xs : List (Int × Int)) (w : World) (h : Hid (OutV w B b p v l)) (hl : l.length ≤ 100000) (hr : Hid (RdRows w B tskE 2 A n xs)) (hn : n ≤ 100) (hx : Hid (∀ t ∈ xs, R64 t.1 ∧ R64 t.2)) (hlen : Hid (∀ k, (l ++ encI (n : Int) ++ (xs.take k).flatMap encTk).length ≤ 200000)) (hB : Hid (B ≤ w.heap.size)) :
    Calls Tryd.prog 82 #[.pointer (some ⟨b, 0, none⟩), .slice A n c] w (OutQ w B b v (l ++ encI (n : Int) ++ xs.flatMap encTk)) := by
  have HI0 := Lib.hid (oint_c B b p v l (n : Int) (by omega) (by omega) w h (by omega))
  have HXL : Hid (xs.length = n) := hr.out.1
  go_enter Tryd.func82, Tryd.ntmps82
  go_wp2_with fail
  refine HI0.out.mono ?_
  rintro e w1 ⟨rfl, p1, v1, hs1⟩
  have HS1 := Lib.hid hs1
  clear hs1 HI0
  go_wp2_with fail
  go_loopw [12] (fun s12 wx => ∃ (k : Nat) (p2 v2 : Value) (W : World), W = wx ∧ k ≤ n ∧ s12 = .int .i64 k ∧ Hid (OutS w W B b v p2 v2 (l ++ encI (n : Int) ++ (xs.take k).flatMap encTk))) (fun s12 _ => n - (intOf s12).toNat)
  case atStart => exact ⟨0, p1, v1, _, rfl, Nat.zero_le _, rfl, by simpa using HS1⟩
  case round =>
    obtain ⟨k, p2, v2, W, rfl, hk, rfl, HS⟩ := hrel
    by_cases hlt : k < n
    · obtain ⟨x, hxk⟩ : ∃ x, xs[k]? = some x := ⟨_, List.getElem?_eq_getElem (by have := HXL.out; omega)⟩
      obtain ⟨g, off, rfl, hg, hrows⟩ := hr.out.2 (by omega)
      have hbB : Below B w W := HS.out.below h.out (Nat.le_refl _)
      have r1 := rangeAt_below (hrows k x hxk) hbB hg
      have hxx := hx.out x (List.mem_of_getElem? hxk)
      have HTK := Lib.hid (flat_take encTk hxk)
      have hl1 := hlen.out k
      have hl2 := hlen.out (k + 1)
      obtain ⟨xj, xa⟩ := x
      have r1 : W.rangeAt g (off + k * 2) [.int .i64 xj, .int .i64 xa] := r1
      rw [HTK.out] at hl2
      obtain ⟨X, hX⟩ : ∃ X, X = W.heap.size := ⟨_, rfl⟩
      obtain ⟨V, hV⟩ : ∃ Z, Z = W.alloc (.cells #[.int .i64 xj, .int .i64 xa] 142) := ⟨_, rfl⟩
      have hbv : Below W.heap.size W V := by rw [hV]; exact (Below.refl _ _).alloc (Nat.le_refl _) _
      have HX : Hid (Blk V X #[.int .i64 xj, .int .i64 xa] 142) := by show Blk _ _ _ _; rw [hV, hX]; exact Blk.new W _ _
      have HSV := Lib.hid (HS.out.step hbv)
      have HXF : Hid (¬ OutF b v2 X) := fun e => by
        rcases e with e | e
        · have := HS.out.out.lt; omega
        · have := (HS.out.out.row.lt X e).2; omega
      obtain ⟨L1, hL1⟩ : ∃ z, z = l ++ encI (n : Int) ++ (xs.take k).flatMap encTk := ⟨_, rfl⟩
      rw [← List.append_assoc, ← hL1] at hl2
      rw [← hL1] at HSV hl1 HS
      unfold encTk at hl2
      simp only [List.length_append] at hl2
      have HI1 := Lib.hid (oint_c B b p2 v2 L1 xj hxx.1.1 hxx.1.2 V (Lib.hid HSV.out.out) (by omega))
      have HI2 := Lib.hid (fun (W' : World) (p3 v3 : Value) (h : OutV W' B b p3 v3 (L1 ++ encI xj)) => oint_c B b p3 v3 (L1 ++ encI xj) xa hxx.2.1 hxx.2.2 W' (Lib.hid h) (by simp; omega))
      have x0 : V.cell? ⟨X, 0, none⟩ = some (.int .i64 xj) := HX.out.cell 0 _ rfl
      have HVE := Lib.hid hV
      have HXE := Lib.hid hX
      have k0 : (0 : Int) ≤ (k : Int) := by omega
      have k1 : (k : Int) < (n : Int) := by omega
      have HL1 := Lib.hid hL1
      clear hrows hxk hbB hV hX hbv hxx hl1 hl2 hL1
      go_upto_region 4 with (refine wpList_load_mid rfl 142 _ rfl g (off + k * 2) rfl [.int .i64 xj, .int .i64 xa] _ r1 Tryd.underlying142 rfl size_tsk ?_)
      rw [← HVE.out, ← HXE.out]
      clear r1
      go_wp2_with fail
      refine HI1.out.mono ?_
      rintro e W1 ⟨rfl, p3, v3, hs3⟩
      have HS3 := Lib.hid (HSV.out.trans hs3)
      have HX3 := Lib.hid (hs3.turns.blk HX.out HXF.out)
      have x1 : W1.cell? ⟨X, 1, none⟩ = some (.int .i64 xa) := HX3.out.cell 1 _ rfl
      clear hs3 x0
      go_wp2_with fail
      refine (HI2.out W1 p3 v3 HS3.out.out).mono ?_
      rintro e W2 ⟨rfl, p4, v4, hs4⟩
      have HS4 := Lib.hid (HS3.out.trans hs4)
      clear hs4 x1
      go_wp2_with fail
      go_roundw
      case rel =>
        refine ⟨k + 1, p4, v4, _, rfl, by omega, by go_num, ?_⟩
        rw [HTK.out]
        have e : l ++ encI (n : Int) ++ ((xs.take k).flatMap encTk ++ encTk (xj, xa)) = L1 ++ encI xj ++ encI xa := by
          rw [HL1.out]
          simp [encTk]
        rw [e]
        exact HS4
      case measure => simp [intOf]; omega
    · obtain rfl : k = n := by omega
      have HEND : Hid (OutS w W B b v p2 v2 (l ++ encI (xs.length : Int) ++ xs.flatMap encTk)) := by
        have e : xs.take xs.length = xs := List.take_of_length_le (Nat.le_refl _)
        have h2 := HS.out
        rw [← HXL.out, e] at h2
        exact h2
      rw [HXL.out] at HEND
      go_wp2_with fail
      exact bodyPost_ret (results_none (by kernel_rfl) _ _ _) rfl ⟨rfl, p2, v2, HEND.out⟩
end Go.Proofs.YtbningfdpibdkaaDoor
