/-
  DepthExact: Spread; Steps of no side.
-/
import Derived.Test.YtkinbidpbgkaoaaDoorDeqA
namespace Go.Proofs.YtkinbidpbgkaoaaDoor
open Go.RowKit
set_option linter.unusedVariables false

def headB (l : List Ord) : Bool := match l with | [] => false | x :: _ => x.sell
def headP (l : List Ord) : Int := match l with | [] => 0 | x :: _ => x.price
def bothO (a b : List Ord) : Bool := side a && side b && decide (0 < a.length) && decide (0 < b.length) && headB a && !headB b
def spreadO (a b : List Ord) : Int × Bool := if bothO a b = true then (headP a - headP b, true) else (0, false)
theorem head_get {l : List Ord} (h : 0 < l.length) : ∃ x, l[0]? = some x ∧ headB l = x.sell ∧ headP l = x.price := by
  cases l with
  | nil => simp at h
  | cons a r => exact ⟨a, rfl, rfl, rfl⟩
theorem headP_range {l : List Ord} (h : 0 < l.length) (hs : side l = true) : 1 ≤ headP l ∧ headP l ≤ 1000000 := by
  obtain ⟨x, hx, _, hp⟩ := head_get h
  have := (okO_of_side hs).2 x (List.mem_of_getElem? hx)
  unfold OkO at this
  rw [hp]
  omega
set_option maxRecDepth 100000 in
theorem steps_err (E : Nat → Addr) (A : Option Addr) (n c : Nat) (xs : List Ord) (w : World) (hE : 0 < w.heap.size ∧ w.cell? ⟨0, 0, none⟩ = some (erV E 1)) (hr : Hid (RdRows w w.heap.size Ord.cells 6 A n xs)) (hn : n ≤ maxLen) (hs : side xs = false) :
    Calls Tryd.prog 39 #[.slice A n c] w fun e w' => e = .returned (.tuple #[.slice none 0 0, erV E 1]) ∧ Below w.heap.size w w' := by
  have hside := isSide_c A n c xs w hr hn
  rw [hs] at hside
  have HS := Lib.hid hside
  obtain ⟨hE1, hE2⟩ := hE
  clear hside hs
  go_enter Tryd.func39, Tryd.ntmps39
  go_wp2_with fail
  refine HS.out.mono ?_
  rintro e w1 ⟨rfl, hb1⟩
  have hc := (hb1.cell (p := ⟨0, 0, none⟩) hE1).trans hE2
  clear hE2
  go_wp2_with fail
  go_quiet (fail)
  go_wp2_with fail
  go_ret2
  exact ⟨rfl, below_drewN hb1 _⟩
set_option maxRecDepth 100000 in
set_option maxHeartbeats 1000000 in
theorem spread_n0 (A : Option Addr) (n c : Nat) (xs : List Ord) (B : Option Addr) (m d : Nat) (ys : List Ord) (w : World) (hr : Hid (RdRows w w.heap.size Ord.cells 6 A n xs)) (hn : n ≤ maxLen) (hr2 : Hid (RdRows w w.heap.size Ord.cells 6 B m ys)) (hm : m ≤ maxLen) (h0 : n = 0) :
    Calls Tryd.prog 41 #[.slice A n c, .slice B m d] w fun e w' => e = .returned (.tuple #[.int .i64 0, .bool false]) ∧ Below w.heap.size w w' := by
  have e1 : ((n : Int) == 0) = true := by subst h0; rfl
  clear h0
  go_enter Tryd.func41, Tryd.ntmps41
  go_wp2_with fail
  go_ret2
  exact ⟨rfl, Below.refl _ w⟩
set_option maxRecDepth 100000 in
set_option maxHeartbeats 1000000 in
theorem spread_m0 (A : Option Addr) (n c : Nat) (xs : List Ord) (B : Option Addr) (m d : Nat) (ys : List Ord) (w : World) (hr : Hid (RdRows w w.heap.size Ord.cells 6 A n xs)) (hn : n ≤ maxLen) (hr2 : Hid (RdRows w w.heap.size Ord.cells 6 B m ys)) (hm : m ≤ maxLen) (hn0 : 0 < n) (h0 : m = 0) :
    Calls Tryd.prog 41 #[.slice A n c, .slice B m d] w fun e w' => e = .returned (.tuple #[.int .i64 0, .bool false]) ∧ Below w.heap.size w w' := by
  have e1 : ((n : Int) == 0) = false := beq_eq_false_iff_ne.2 (by omega)
  have e2 : ((m : Int) == 0) = true := by subst h0; rfl
  clear h0
  go_enter Tryd.func41, Tryd.ntmps41
  go_wp2_with fail
  go_ret2
  exact ⟨rfl, Below.refl _ w⟩
set_option maxRecDepth 100000 in
set_option maxHeartbeats 1000000 in
theorem spread_a (A : Option Addr) (n c : Nat) (xs : List Ord) (B : Option Addr) (m d : Nat) (ys : List Ord) (w : World) (hr : Hid (RdRows w w.heap.size Ord.cells 6 A n xs)) (hn : n ≤ maxLen) (hr2 : Hid (RdRows w w.heap.size Ord.cells 6 B m ys)) (hm : m ≤ maxLen) (hn0 : 0 < n) (hm0 : 0 < m) (hsa : side xs = false) :
    Calls Tryd.prog 41 #[.slice A n c, .slice B m d] w fun e w' => e = .returned (.tuple #[.int .i64 0, .bool false]) ∧ Below w.heap.size w w' := by
  have hside1 := isSide_c A n c xs w hr hn
  rw [hsa] at hside1
  have HSA := Lib.hid hside1
  clear hside1 hsa
  have e1 : ((n : Int) == 0) = false := beq_eq_false_iff_ne.2 (by omega)
  have e2 : ((m : Int) == 0) = false := beq_eq_false_iff_ne.2 (by omega)
  go_enter Tryd.func41, Tryd.ntmps41
  go_wp2_with fail
  refine HSA.out.mono ?_
  rintro e w1 ⟨rfl, hb1⟩
  have hr3 : Hid (RdRows w1 w1.heap.size Ord.cells 6 B m ys) := (hr2.out.below hb1 (Nat.le_refl _)).mono hb1.size
  go_wp2_with fail
  go_ret2
  exact ⟨rfl, hb1⟩
set_option maxRecDepth 100000 in
set_option maxHeartbeats 1000000 in
theorem spread_b (A : Option Addr) (n c : Nat) (xs : List Ord) (B : Option Addr) (m d : Nat) (ys : List Ord) (w : World) (hr : Hid (RdRows w w.heap.size Ord.cells 6 A n xs)) (hn : n ≤ maxLen) (hr2 : Hid (RdRows w w.heap.size Ord.cells 6 B m ys)) (hm : m ≤ maxLen) (hn0 : 0 < n) (hm0 : 0 < m) (hsa : side xs = true) (hsb0 : side ys = false) :
    Calls Tryd.prog 41 #[.slice A n c, .slice B m d] w fun e w' => e = .returned (.tuple #[.int .i64 0, .bool false]) ∧ Below w.heap.size w w' := by
  have hside1 := isSide_c A n c xs w hr hn
  rw [hsa] at hside1
  have HSA := Lib.hid hside1
  clear hside1 hsa
  have e1 : ((n : Int) == 0) = false := beq_eq_false_iff_ne.2 (by omega)
  have e2 : ((m : Int) == 0) = false := beq_eq_false_iff_ne.2 (by omega)
  have hla := hr.out.1
  have hlb := hr2.out.1
  obtain ⟨ba, oa, hAe, hba, hra⟩ := hr.out.2 hn0
  obtain ⟨bb, ob, hBe, hbb, hrb⟩ := hr2.out.2 hm0
  subst hAe
  subst hBe
  obtain ⟨x, hx, hxs, hxp⟩ := head_get (l := xs) (by omega)
  obtain ⟨y, hy, hys, hyp⟩ := head_get (l := ys) (by omega)
  have hCA : Hid (∀ w2, Below w.heap.size w w2 → w2.cell? ⟨ba, oa + 2, none⟩ = some (.bool (headB xs)) ∧ w2.cell? ⟨ba, oa + 3, none⟩ = some (.int .i64 (headP xs))) := fun w2 hb => by
    rw [hxs, hxp]
    have r := rangeAt_below (hra 0 x hx) hb hba
    rw [Nat.zero_mul, Nat.add_zero] at r
    exact ⟨r 2 _ rfl, r 3 _ rfl⟩
  have hCB : Hid (∀ w2, Below w.heap.size w w2 → w2.cell? ⟨bb, ob + 2, none⟩ = some (.bool (headB ys)) ∧ w2.cell? ⟨bb, ob + 3, none⟩ = some (.int .i64 (headP ys))) := fun w2 hb => by
    rw [hys, hyp]
    have r := rangeAt_below (hrb 0 y hy) hb hbb
    rw [Nat.zero_mul, Nat.add_zero] at r
    exact ⟨r 2 _ rfl, r 3 _ rfl⟩
  have n0i : (0 : Int) < n := by omega
  have m0i : (0 : Int) < m := by omega
  have hsb : Hid (side ys = false) := hsb0
  clear hra hrb hx hy hxs hxp hys hyp hsb0
  go_enter Tryd.func41, Tryd.ntmps41
  go_wp2_with fail
  refine HSA.out.mono ?_
  rintro e w1 ⟨rfl, hb1⟩
  have hr3 : Hid (RdRows w1 w1.heap.size Ord.cells 6 (some ⟨bb, ob, none⟩) m ys) := (hr2.out.below hb1 (Nat.le_refl _)).mono hb1.size
  have hside2 := isSide_c (some ⟨bb, ob, none⟩) m d ys w1 hr3 hm
  rw [hsb.out] at hside2
  have HSB := Lib.hid hside2
  clear hside2
  go_wp2_with fail
  refine HSB.out.mono ?_
  rintro e w2 ⟨rfl, hb2⟩
  have hb := hb1.trans (hb2.mono hb1.size)
  have cA := hCA.out w2 hb
  have cB := hCB.out w2 hb
  go_wp2_with fail
  go_ret2
  exact ⟨rfl, hb⟩
set_option maxRecDepth 100000 in
set_option maxHeartbeats 1000000 in
theorem spread_c1 (A : Option Addr) (n c : Nat) (xs : List Ord) (B : Option Addr) (m d : Nat) (ys : List Ord) (w : World) (hr : Hid (RdRows w w.heap.size Ord.cells 6 A n xs)) (hn : n ≤ maxLen) (hr2 : Hid (RdRows w w.heap.size Ord.cells 6 B m ys)) (hm : m ≤ maxLen) (hn0 : 0 < n) (hm0 : 0 < m) (hsa : side xs = true) (hsb0 : side ys = true) (hx0 : headB xs = false) :
    Calls Tryd.prog 41 #[.slice A n c, .slice B m d] w fun e w' => e = .returned (.tuple #[.int .i64 0, .bool false]) ∧ Below w.heap.size w w' := by
  have hside1 := isSide_c A n c xs w hr hn
  rw [hsa] at hside1
  have HSA := Lib.hid hside1
  clear hside1 hsa
  have e1 : ((n : Int) == 0) = false := beq_eq_false_iff_ne.2 (by omega)
  have e2 : ((m : Int) == 0) = false := beq_eq_false_iff_ne.2 (by omega)
  have hla := hr.out.1
  have hlb := hr2.out.1
  obtain ⟨ba, oa, hAe, hba, hra⟩ := hr.out.2 hn0
  obtain ⟨bb, ob, hBe, hbb, hrb⟩ := hr2.out.2 hm0
  subst hAe
  subst hBe
  obtain ⟨x, hx, hxs, hxp⟩ := head_get (l := xs) (by omega)
  obtain ⟨y, hy, hys, hyp⟩ := head_get (l := ys) (by omega)
  have hCA : Hid (∀ w2, Below w.heap.size w w2 → w2.cell? ⟨ba, oa + 2, none⟩ = some (.bool (headB xs)) ∧ w2.cell? ⟨ba, oa + 3, none⟩ = some (.int .i64 (headP xs))) := fun w2 hb => by
    rw [hxs, hxp]
    have r := rangeAt_below (hra 0 x hx) hb hba
    rw [Nat.zero_mul, Nat.add_zero] at r
    exact ⟨r 2 _ rfl, r 3 _ rfl⟩
  have hCB : Hid (∀ w2, Below w.heap.size w w2 → w2.cell? ⟨bb, ob + 2, none⟩ = some (.bool (headB ys)) ∧ w2.cell? ⟨bb, ob + 3, none⟩ = some (.int .i64 (headP ys))) := fun w2 hb => by
    rw [hys, hyp]
    have r := rangeAt_below (hrb 0 y hy) hb hbb
    rw [Nat.zero_mul, Nat.add_zero] at r
    exact ⟨r 2 _ rfl, r 3 _ rfl⟩
  have n0i : (0 : Int) < n := by omega
  have m0i : (0 : Int) < m := by omega
  have hsb : Hid (side ys = true) := hsb0
  clear hra hrb hx hy hxs hxp hys hyp hsb0
  rw [hx0] at hCA
  clear hx0
  go_enter Tryd.func41, Tryd.ntmps41
  go_wp2_with fail
  refine HSA.out.mono ?_
  rintro e w1 ⟨rfl, hb1⟩
  have hr3 : Hid (RdRows w1 w1.heap.size Ord.cells 6 (some ⟨bb, ob, none⟩) m ys) := (hr2.out.below hb1 (Nat.le_refl _)).mono hb1.size
  have hside2 := isSide_c (some ⟨bb, ob, none⟩) m d ys w1 hr3 hm
  rw [hsb.out] at hside2
  have HSB := Lib.hid hside2
  clear hside2
  go_wp2_with fail
  refine HSB.out.mono ?_
  rintro e w2 ⟨rfl, hb2⟩
  have hb := hb1.trans (hb2.mono hb1.size)
  have cA := hCA.out w2 hb
  have cB := hCB.out w2 hb
  go_wp2_with fail
  go_ret2
  exact ⟨rfl, hb⟩
set_option maxRecDepth 100000 in
set_option maxHeartbeats 1000000 in
theorem spread_d (A : Option Addr) (n c : Nat) (xs : List Ord) (B : Option Addr) (m d : Nat) (ys : List Ord) (w : World) (hr : Hid (RdRows w w.heap.size Ord.cells 6 A n xs)) (hn : n ≤ maxLen) (hr2 : Hid (RdRows w w.heap.size Ord.cells 6 B m ys)) (hm : m ≤ maxLen) (hn0 : 0 < n) (hm0 : 0 < m) (hsa : side xs = true) (hsb0 : side ys = true) (hx0 : headB xs = true) (hy0 : headB ys = true) :
    Calls Tryd.prog 41 #[.slice A n c, .slice B m d] w fun e w' => e = .returned (.tuple #[.int .i64 0, .bool false]) ∧ Below w.heap.size w w' := by
  have hside1 := isSide_c A n c xs w hr hn
  rw [hsa] at hside1
  have HSA := Lib.hid hside1
  clear hside1 hsa
  have e1 : ((n : Int) == 0) = false := beq_eq_false_iff_ne.2 (by omega)
  have e2 : ((m : Int) == 0) = false := beq_eq_false_iff_ne.2 (by omega)
  have hla := hr.out.1
  have hlb := hr2.out.1
  obtain ⟨ba, oa, hAe, hba, hra⟩ := hr.out.2 hn0
  obtain ⟨bb, ob, hBe, hbb, hrb⟩ := hr2.out.2 hm0
  subst hAe
  subst hBe
  obtain ⟨x, hx, hxs, hxp⟩ := head_get (l := xs) (by omega)
  obtain ⟨y, hy, hys, hyp⟩ := head_get (l := ys) (by omega)
  have hCA : Hid (∀ w2, Below w.heap.size w w2 → w2.cell? ⟨ba, oa + 2, none⟩ = some (.bool (headB xs)) ∧ w2.cell? ⟨ba, oa + 3, none⟩ = some (.int .i64 (headP xs))) := fun w2 hb => by
    rw [hxs, hxp]
    have r := rangeAt_below (hra 0 x hx) hb hba
    rw [Nat.zero_mul, Nat.add_zero] at r
    exact ⟨r 2 _ rfl, r 3 _ rfl⟩
  have hCB : Hid (∀ w2, Below w.heap.size w w2 → w2.cell? ⟨bb, ob + 2, none⟩ = some (.bool (headB ys)) ∧ w2.cell? ⟨bb, ob + 3, none⟩ = some (.int .i64 (headP ys))) := fun w2 hb => by
    rw [hys, hyp]
    have r := rangeAt_below (hrb 0 y hy) hb hbb
    rw [Nat.zero_mul, Nat.add_zero] at r
    exact ⟨r 2 _ rfl, r 3 _ rfl⟩
  have n0i : (0 : Int) < n := by omega
  have m0i : (0 : Int) < m := by omega
  have hsb : Hid (side ys = true) := hsb0
  clear hra hrb hx hy hxs hxp hys hyp hsb0
  rw [hx0] at hCA
  rw [hy0] at hCB
  clear hx0 hy0
  go_enter Tryd.func41, Tryd.ntmps41
  go_wp2_with fail
  refine HSA.out.mono ?_
  rintro e w1 ⟨rfl, hb1⟩
  have hr3 : Hid (RdRows w1 w1.heap.size Ord.cells 6 (some ⟨bb, ob, none⟩) m ys) := (hr2.out.below hb1 (Nat.le_refl _)).mono hb1.size
  have hside2 := isSide_c (some ⟨bb, ob, none⟩) m d ys w1 hr3 hm
  rw [hsb.out] at hside2
  have HSB := Lib.hid hside2
  clear hside2
  go_wp2_with fail
  refine HSB.out.mono ?_
  rintro e w2 ⟨rfl, hb2⟩
  have hb := hb1.trans (hb2.mono hb1.size)
  have cA := hCA.out w2 hb
  have cB := hCB.out w2 hb
  go_wp2_with fail
  go_ret2
  exact ⟨rfl, hb⟩
set_option maxRecDepth 100000 in
set_option maxHeartbeats 1000000 in
theorem spread_e (A : Option Addr) (n c : Nat) (xs : List Ord) (B : Option Addr) (m d : Nat) (ys : List Ord) (w : World) (hr : Hid (RdRows w w.heap.size Ord.cells 6 A n xs)) (hn : n ≤ maxLen) (hr2 : Hid (RdRows w w.heap.size Ord.cells 6 B m ys)) (hm : m ≤ maxLen) (hn0 : 0 < n) (hm0 : 0 < m) (hsa : side xs = true) (hsb0 : side ys = true) (hx0 : headB xs = true) (hy0 : headB ys = false) :
    Calls Tryd.prog 41 #[.slice A n c, .slice B m d] w fun e w' => e = .returned (.tuple #[.int .i64 (headP xs - headP ys), .bool true]) ∧ Below w.heap.size w w' := by
  obtain ⟨pa1, pa2⟩ := headP_range (l := xs) (by rw [hr.out.1]; exact hn0) hsa
  obtain ⟨pb1, pb2⟩ := headP_range (l := ys) (by rw [hr2.out.1]; exact hm0) hsb0
  have hwr : wrap64 (headP xs - headP ys) = headP xs - headP ys := by unfold wrap64; omega
  clear pa1 pa2 pb1 pb2
  have hside1 := isSide_c A n c xs w hr hn
  rw [hsa] at hside1
  have HSA := Lib.hid hside1
  clear hside1 hsa
  have e1 : ((n : Int) == 0) = false := beq_eq_false_iff_ne.2 (by omega)
  have e2 : ((m : Int) == 0) = false := beq_eq_false_iff_ne.2 (by omega)
  have hla := hr.out.1
  have hlb := hr2.out.1
  obtain ⟨ba, oa, hAe, hba, hra⟩ := hr.out.2 hn0
  obtain ⟨bb, ob, hBe, hbb, hrb⟩ := hr2.out.2 hm0
  subst hAe
  subst hBe
  obtain ⟨x, hx, hxs, hxp⟩ := head_get (l := xs) (by omega)
  obtain ⟨y, hy, hys, hyp⟩ := head_get (l := ys) (by omega)
  have hCA : Hid (∀ w2, Below w.heap.size w w2 → w2.cell? ⟨ba, oa + 2, none⟩ = some (.bool (headB xs)) ∧ w2.cell? ⟨ba, oa + 3, none⟩ = some (.int .i64 (headP xs))) := fun w2 hb => by
    rw [hxs, hxp]
    have r := rangeAt_below (hra 0 x hx) hb hba
    rw [Nat.zero_mul, Nat.add_zero] at r
    exact ⟨r 2 _ rfl, r 3 _ rfl⟩
  have hCB : Hid (∀ w2, Below w.heap.size w w2 → w2.cell? ⟨bb, ob + 2, none⟩ = some (.bool (headB ys)) ∧ w2.cell? ⟨bb, ob + 3, none⟩ = some (.int .i64 (headP ys))) := fun w2 hb => by
    rw [hys, hyp]
    have r := rangeAt_below (hrb 0 y hy) hb hbb
    rw [Nat.zero_mul, Nat.add_zero] at r
    exact ⟨r 2 _ rfl, r 3 _ rfl⟩
  have n0i : (0 : Int) < n := by omega
  have m0i : (0 : Int) < m := by omega
  have hsb : Hid (side ys = true) := hsb0
  clear hra hrb hx hy hxs hxp hys hyp hsb0
  rw [hx0] at hCA
  rw [hy0] at hCB
  clear hx0 hy0
  go_enter Tryd.func41, Tryd.ntmps41
  go_wp2_with fail
  refine HSA.out.mono ?_
  rintro e w1 ⟨rfl, hb1⟩
  have hr3 : Hid (RdRows w1 w1.heap.size Ord.cells 6 (some ⟨bb, ob, none⟩) m ys) := (hr2.out.below hb1 (Nat.le_refl _)).mono hb1.size
  have hside2 := isSide_c (some ⟨bb, ob, none⟩) m d ys w1 hr3 hm
  rw [hsb.out] at hside2
  have HSB := Lib.hid hside2
  clear hside2
  go_wp2_with fail
  refine HSB.out.mono ?_
  rintro e w2 ⟨rfl, hb2⟩
  have hb := hb1.trans (hb2.mono hb1.size)
  have cA := hCA.out w2 hb
  have cB := hCB.out w2 hb
  go_wp2_with fail
  go_quiet (fail)
  go_wp2_with fail
  go_ret2
  refine ⟨?_, below_drewN hb _⟩
  show Ending.returned (.tuple #[.int .i64 (wrap64 (headP xs - headP ys)), .bool true]) = _
  rw [hwr]
theorem spread_c (A : Option Addr) (n c : Nat) (xs : List Ord) (B : Option Addr) (m d : Nat) (ys : List Ord) (w : World) (hr : Hid (RdRows w w.heap.size Ord.cells 6 A n xs)) (hn : n ≤ maxLen) (hr2 : Hid (RdRows w w.heap.size Ord.cells 6 B m ys)) (hm : m ≤ maxLen) :
    Calls Tryd.prog 41 #[.slice A n c, .slice B m d] w fun e w' => e = .returned (.tuple #[.int .i64 (spreadO xs ys).1, .bool (spreadO xs ys).2]) ∧ Below w.heap.size w w' := by
  have hla := hr.out.1
  have hlb := hr2.out.1
  by_cases h1 : n = 0
  · have h : bothO xs ys = false := by simp [bothO, hla, h1]
    simp only [spreadO, h]
    exact spread_n0 A n c xs B m d ys w hr hn hr2 hm h1
  by_cases h2 : m = 0
  · have h : bothO xs ys = false := by simp [bothO, hlb, h2]
    simp only [spreadO, h]
    exact spread_m0 A n c xs B m d ys w hr hn hr2 hm (by omega) h2
  cases h3 : side xs with
  | false =>
    have h : bothO xs ys = false := by simp [bothO, h3]
    simp only [spreadO, h]
    exact spread_a A n c xs B m d ys w hr hn hr2 hm (by omega) (by omega) h3
  | true =>
    cases h4 : side ys with
    | false =>
      have h : bothO xs ys = false := by simp [bothO, h4]
      simp only [spreadO, h]
      exact spread_b A n c xs B m d ys w hr hn hr2 hm (by omega) (by omega) h3 h4
    | true =>
      cases h5 : headB xs with
      | false =>
        have h : bothO xs ys = false := by simp [bothO, h5]
        simp only [spreadO, h]
        exact spread_c1 A n c xs B m d ys w hr hn hr2 hm (by omega) (by omega) h3 h4 h5
      | true =>
        cases h6 : headB ys with
        | true =>
          have h : bothO xs ys = false := by simp [bothO, h6]
          simp only [spreadO, h]
          exact spread_d A n c xs B m d ys w hr hn hr2 hm (by omega) (by omega) h3 h4 h5 h6
        | false =>
          have h : bothO xs ys = true := by simp [bothO, h3, h4, h5, h6, hla, hlb]; omega
          simp only [spreadO, h]
          exact spread_e A n c xs B m d ys w hr hn hr2 hm (by omega) (by omega) h3 h4 h5 h6
end Go.Proofs.YtkinbidpbgkaoaaDoor
