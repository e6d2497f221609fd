/-
  reply: the reader: lists of numbers and of tasks.
-/
import Derived.Test.YtbningfdpibdkaaDoorRpC
namespace Go.Proofs.YtbningfdpibdkaaDoor
open Go.RowKit
set_option linter.unusedVariables false
set_option linter.unusedSimpArgs false

/-- So many things, one behind the other, as long as nothing is wrong. -/
def rdMany {α : Type} (rd : St → α × St) : Nat → St → List α × St
  | 0, p => ([], p)
  | n + 1, p => match p.2 with
    | some _ => ([], p)
    | none => ((rd p).1 :: (rdMany rd n (rd p).2).1, (rdMany rd n (rd p).2).2)
def rdLst {α : Type} (rd : St → α × St) (b : Bool) (n : Nat) (p : St) : List α × St := if b then ([], p) else rdMany rd n p
/-- A list, in plain words: its things, whether a count could not be, the state then. -/
def rdL {α : Type} (s : ByteArray) (rd : St → α × St) (b : Bool) (p : St) : (List α × Bool) × St := (((rdLst rd (b || (rdC s p).1.2) (rdC s p).1.1 (rdC s p).2).1, b || (rdC s p).1.2), (rdLst rd (b || (rdC s p).1.2) (rdC s p).1.1 (rdC s p).2).2)
theorem rdLst_stop {α : Type} {rd : St → α × St} {b : Bool} {n i : Nat} {p : St} (h : (decide ((i : Int) < (n : Int)) && (!b && p.2.isNone)) = false) : rdLst rd b (n - i) p = ([], p) := by
  unfold rdLst
  cases b with
  | true => rfl
  | false =>
    cases hp : p.2 with
    | none =>
      rw [hp] at h
      simp at h
      have h0 : n - i = 0 := by omega
      rw [if_neg (by simp), h0]
      rfl
    | some z =>
      rw [if_neg (by simp)]
      cases n - i with
      | zero => rfl
      | succ k => unfold rdMany; rw [hp]
theorem rdLst_go {α : Type} {rd : St → α × St} {b : Bool} {n i : Nat} {p : St} (h : (decide ((i : Int) < (n : Int)) && (!b && p.2.isNone)) = true) : i < n ∧ rdLst rd b (n - i) p = ((rd p).1 :: (rdLst rd b (n - (i + 1)) (rd p).2).1, (rdLst rd b (n - (i + 1)) (rd p).2).2) := by
  simp at h
  obtain ⟨h1, h2, h3⟩ := h
  subst h2
  have hp : p.2 = none := by simpa using h3
  refine ⟨h1, ?_⟩
  unfold rdLst
  rw [if_neg (by simp), if_neg (by simp), show n - i = (n - (i + 1)) + 1 by omega]
  show rdMany rd ((n - (i + 1)) + 1) p = _
  unfold rdMany
  rw [hp]
  simp only
  cases n - (i + 1) <;> rfl
theorem rdI_le {s : ByteArray} {p : St} (hp : p.1 ≤ s.size) : True := trivial
theorem rdC_le (s : ByteArray) (p : St) (hs : s.size ≤ 1000000) : (rdC s p).1.1 ≤ 1000000 := by
  unfold rdC
  split
  · exact Nat.zero_le _
  · rename_i h
    show (rdI s p).1.toNat ≤ 1000000
    omega
theorem own_ty {w : World} {base : Nat} {e : TypeId} {size n : Nat} {v : Value} {xs : List Value} {g : Nat} (h : w.ownsRow base e size v n xs) (hg : v.ownBlock = some g) : ∃ cur : Array Value, Blk w g cur e := by
  rcases h.2 with ⟨rfl, _⟩ | ⟨g', cap, cur, rfl, _, hc, _⟩
  · cases hg
  · have : g' = g := by simpa [Value.ownBlock] using hg
    subst this
    exact ⟨cur, hc⟩
/-- The reader under an append of the caller's own. -/
theorem RdV.app {w w' : World} {E : Nat → Addr} {r q base size n : Nat} {s : ByteArray} {p : St} {b : Bool} {e : TypeId} {v : Value} {xs : List Value} (h : RdV w E r q s p b) (hg : w.grownBy w' v.ownBlock) (ho : w.ownsRow base e size v n xs) (hr : r < base) (hq : q < base) (hb : 1 < base) (hT : e ≠ 34) : RdV w' E r q s p b := by
  obtain ⟨er, hi⟩ := h.inw
  have ht := Turns.of_grown hg
  have hl : ∀ k, v.ownBlock = some k → base ≤ k := fun k hk => (ho.lt k hk).1
  refine ⟨ht.blk h.blk (fun e => by have := hl _ e; omega), ⟨er, hi.turns ht (fun e => by have := hl _ e; omega) (fun g cs hb2 e2 => ?_)⟩, ?_⟩
  · obtain ⟨cur, hc⟩ := own_ty ho e2
    have h2 := hc.symm.trans hb2
    simp at h2
    exact hT h2.2
  · have hlt := World.block_lt_of_cell? w ⟨1, 0, none⟩ h.form
    exact (World.cell?_of_block (w := w) (ht.block _ hlt (fun e => by have := hl 1 e; omega))).trans h.form
def intE (z : Int) : List Value := [.int .i64 z]
def tskE (t : Int × Int) : List Value := [.int .i64 t.1, .int .i64 t.2]
theorem ints_info : (Tryd.prog.info? 3).map (fun i => (i.zero, i.size, i.bytes)) = some (some (.int .i64 0), 1, 8) := by kernel_rfl
set_option maxRecDepth 100000 in
set_option maxHeartbeats 1000000 in
theorem ints_c (E : Nat → Addr) (r q : Nat) (s : ByteArray) (p : St) (b : Bool) (w : World) (h : Hid (RdV w E r q s p b)) (hs : s.size ≤ 1000000) :
    Calls Tryd.prog 93 #[.pointer (some ⟨r, 0, none⟩)] w fun e w' => ∃ v, e = .returned v ∧ w'.ownsRow w.heap.size 3 1 v (rdL s (rdI s) b p).1.1.length (flatOf intE (rdL s (rdI s) b p).1.1) ∧ RdV w' E r q s (rdL s (rdI s) b p).2 (rdL s (rdI s) b p).1.2 ∧ Turns (fun k => k = q ∨ k = r) w w' := by
  obtain ⟨i0, hi, hz0, hz1, hz2⟩ := info_parts ints_info
  have HC := Lib.hid (count_c E r q s p b w h hs)
  have HLT := Lib.hid h.out.lt
  have HGF : Hid (1 < w.heap.size) := World.block_lt_of_cell? w ⟨1, 0, none⟩ h.out.form
  have hn0 := rdC_le s p hs
  unfold rdL
  obtain ⟨R, hR⟩ : ∃ R, R = rdC s p := ⟨_, rfl⟩
  rw [← hR] at HC hn0 ⊢
  obtain ⟨⟨n, bd⟩, p1⟩ := R
  simp only at HC hn0 ⊢
  obtain ⟨b1, hb1⟩ : ∃ z, z = (b || bd) := ⟨_, rfl⟩
  rw [← hb1] at HC ⊢
  obtain ⟨TT, hTT⟩ : ∃ z, z = rdLst (rdI s) b1 n p1 := ⟨_, rfl⟩
  rw [← hTT]
  have HTT := Lib.hid hTT
  have HN := Lib.hid hn0
  clear hR h hb1 hTT hn0
  go_enter Tryd.func93, Tryd.ntmps93
  go_wp2_with fail
  refine HC.out.mono ?_
  rintro e w1 ⟨rfl, hv1, ht1⟩
  have H1 := Lib.hid hv1
  have HT1 := Lib.hid ht1
  clear hv1 ht1 HC
  go_wp2_with fail
  go_loopw [2, 4] (fun s2 s4 wx => ∃ (i : Nat) (ys : List Int) (p2 : St) (W : World), W = wx ∧ s4 = .int .i64 i ∧ i ≤ n ∧ ys.length ≤ i ∧ Hid (ys ++ (rdLst (rdI s) b1 (n - i) p2).1 = TT.1 ∧ (rdLst (rdI s) b1 (n - i) p2).2 = TT.2) ∧ Hid (W.ownsRow w.heap.size 3 1 s2 ys.length (flatOf intE ys)) ∧ Hid (RdV W E r q s p2 b1) ∧ Hid (Turns (fun k => k = q ∨ k = r) w W)) (fun _ s4 _ => n - (intOf s4).toNat)
  case atStart => exact ⟨0, [], p1, _, rfl, rfl, Nat.zero_le _, Nat.le_refl _, Lib.hid ⟨by rw [HTT.out]; rfl, by rw [HTT.out]; rfl⟩, Lib.hid ⟨rfl, .inl ⟨rfl, rfl⟩⟩, H1, HT1⟩
  case round =>
    obtain ⟨i, ys, p2, W, rfl, rfl, hin, hyl, HEQ, HOW, HV, HTW⟩ := hrel
    obtain ⟨a2, c2, rfl⟩ := own_len HOW.out
    have HMO := Lib.hid (more_c E r q s p2 b1 (i : Int) (n : Int) W HV)
    have k0 : W.cell? ⟨r, 0, none⟩ = some (.pointer (some ⟨q, 0, none⟩)) := HV.out.blk.cell 0 _ rfl
    cases hm : (decide ((i : Int) < (n : Int)) && (!b1 && p2.2.isNone)) with
    | true =>
      rw [hm] at HMO
      obtain ⟨hlt, hgo⟩ := rdLst_go (rd := rdI s) hm
      have HGO := Lib.hid hgo
      have HRD := Lib.hid (rdInt_c E r q s p2 b1 W HV hs)
      obtain ⟨R2, hR2⟩ : ∃ R, R = rdI s p2 := ⟨_, rfl⟩
      rw [← hR2] at HGO HRD
      obtain ⟨z, p3⟩ := R2
      simp only at HGO HRD
      have hnl : (ys.length : Int) ≤ 1000000 := by have := HN.out; omega
      have hil : (i : Int) ≤ 1000000 := by have := HN.out; omega
      clear hm hgo hR2
      go_wp2_with fail
      refine HMO.out.mono ?_
      rintro e w2 ⟨rfl, rfl⟩
      go_wp2_with fail
      refine HRD.out.mono ?_
      rintro e W2 ⟨rfl, hv2, ht2⟩
      have H2 := Lib.hid hv2
      have HOW2 := Lib.hid (ht2.owns HOW.out (fun g hg e => by have h1 := (HOW.out.lt g hg).1; have h2 := HLT.out; omega))
      have HTW2 := Lib.hid (HTW.out.trans ht2 (fun _ _ h => .inl h))
      have hsz2 : w.heap.size ≤ W2.heap.size := HTW2.out.size
      clear hv2 ht2 k0
      go_wp2_with (at_builtin; refine wpList_app1 rfl _ _ 23 rfl w.heap.size 3 i0 (.int .i64 0) 1 8 Tryd.underlying23 hi hz0 hz1 hz2 rfl (by decide) _ _ _ rfl HOW2.out [.int .i64 z] _ rfl ?ca0 ?ca1 ?ca2 ?ca3 ?ca4 hsz2 ?_)
      case ca0 => rfl
      case ca1 => rfl
      case ca2 => simp [Value.oneCell']
      case ca3 => unfold maxLen; omega
      case ca4 => omega
      intro s2 W3 hown3 hg3 _
      have hown3 : W3.ownsRow w.heap.size 3 1 s2 (ys ++ [z]).length (flatOf intE (ys ++ [z])) := by
        rw [List.length_append, flatOf_append, flatOf_one]
        exact hown3
      have HV3 := Lib.hid (H2.out.app hg3 HOW2.out HLT.out.1 HLT.out.2 HGF.out (by decide))
      have HTW3 : Hid (Turns (fun k => k = q ∨ k = r) w W3) := HTW2.out.trans (Turns.of_grown hg3) (fun k hk e => by have := (HOW2.out.lt k e).1; omega)
      obtain ⟨a4, c4, rfl⟩ := own_len hown3
      have HOW3 := Lib.hid hown3
      clear hown3 hg3
      go_wp2_with fail
      go_roundw
      case rel => exact ⟨i + 1, ys ++ [z], p3, _, rfl, by go_num, by omega, by simp; omega, Lib.hid ⟨by rw [← HEQ.out.1, HGO.out]; simp, by rw [← HEQ.out.2, HGO.out]⟩, HOW3, HV3, HTW3⟩
      case measure => simp [intOf]; omega
    | false =>
      rw [hm] at HMO
      have hst := rdLst_stop (rd := rdI s) hm
      have HEND : Hid (TT = (ys, p2)) := by
        have h1 := HEQ.out
        rw [hst] at h1
        show _ = _
        rw [List.append_nil] at h1
        exact Prod.ext h1.1.symm h1.2.symm
      clear hm hst
      go_wp2_with fail
      refine HMO.out.mono ?_
      rintro e w2 ⟨rfl, rfl⟩
      go_wp2_with fail
      go_ret
      rw [HEND.out]
      exact ⟨_, rfl, HOW.out, HV.out, HTW.out⟩
theorem tasks_info : (Tryd.prog.info? 142).map (fun i => (i.zero, i.size, i.bytes)) = some (some (.agg #[.int .i64 0, .int .i64 0]), 2, 16) := by kernel_rfl
set_option maxRecDepth 100000 in
set_option maxHeartbeats 1000000 in
theorem tasks_c (E : Nat → Addr) (r q : Nat) (s : ByteArray) (p : St) (b : Bool) (w : World) (h : Hid (RdV w E r q s p b)) (hs : s.size ≤ 1000000) :
    Calls Tryd.prog 91 #[.pointer (some ⟨r, 0, none⟩)] w fun e w' => ∃ v, e = .returned v ∧ w'.ownsRow w.heap.size 142 2 v (rdL s (rdTk s) b p).1.1.length (flatOf tskE (rdL s (rdTk s) b p).1.1) ∧ RdV w' E r q s (rdL s (rdTk s) b p).2 (rdL s (rdTk s) b p).1.2 ∧ Turns (fun k => k = q ∨ k = r) w w' := by
  obtain ⟨i0, hi, hz0, hz1, hz2⟩ := info_parts tasks_info
  have HC := Lib.hid (count_c E r q s p b w h hs)
  have HLT := Lib.hid h.out.lt
  have HGF : Hid (1 < w.heap.size) := World.block_lt_of_cell? w ⟨1, 0, none⟩ h.out.form
  have hn0 := rdC_le s p hs
  unfold rdL
  obtain ⟨R, hR⟩ : ∃ R, R = rdC s p := ⟨_, rfl⟩
  rw [← hR] at HC hn0 ⊢
  obtain ⟨⟨n, bd⟩, p1⟩ := R
  simp only at HC hn0 ⊢
  obtain ⟨b1, hb1⟩ : ∃ z, z = (b || bd) := ⟨_, rfl⟩
  rw [← hb1] at HC ⊢
  obtain ⟨TT, hTT⟩ : ∃ z, z = rdLst (rdTk s) b1 n p1 := ⟨_, rfl⟩
  rw [← hTT]
  have HTT := Lib.hid hTT
  have HN := Lib.hid hn0
  clear hR h hb1 hTT hn0
  go_enter Tryd.func91, Tryd.ntmps91
  go_wp2_with fail
  refine HC.out.mono ?_
  rintro e w1 ⟨rfl, hv1, ht1⟩
  have H1 := Lib.hid hv1
  have HT1 := Lib.hid ht1
  clear hv1 ht1 HC
  go_wp2_with fail
  go_loopw [2, 4] (fun s2 s4 wx => ∃ (i : Nat) (ys : List (Int × Int)) (p2 : St) (W : World), W = wx ∧ s4 = .int .i64 i ∧ i ≤ n ∧ ys.length ≤ i ∧ Hid (ys ++ (rdLst (rdTk s) b1 (n - i) p2).1 = TT.1 ∧ (rdLst (rdTk s) b1 (n - i) p2).2 = TT.2) ∧ Hid (W.ownsRow w.heap.size 142 2 s2 ys.length (flatOf tskE ys)) ∧ Hid (RdV W E r q s p2 b1) ∧ Hid (Turns (fun k => k = q ∨ k = r) w W)) (fun _ s4 _ => n - (intOf s4).toNat)
  case atStart => exact ⟨0, [], p1, _, rfl, rfl, Nat.zero_le _, Nat.le_refl _, Lib.hid ⟨by rw [HTT.out]; rfl, by rw [HTT.out]; rfl⟩, Lib.hid ⟨rfl, .inl ⟨rfl, rfl⟩⟩, H1, HT1⟩
  case round =>
    obtain ⟨i, ys, p2, W, rfl, rfl, hin, hyl, HEQ, HOW, HV, HTW⟩ := hrel
    obtain ⟨a2, c2, rfl⟩ := own_len HOW.out
    have HMO := Lib.hid (more_c E r q s p2 b1 (i : Int) (n : Int) W HV)
    have k0 : W.cell? ⟨r, 0, none⟩ = some (.pointer (some ⟨q, 0, none⟩)) := HV.out.blk.cell 0 _ rfl
    cases hm : (decide ((i : Int) < (n : Int)) && (!b1 && p2.2.isNone)) with
    | true =>
      rw [hm] at HMO
      obtain ⟨hlt, hgo⟩ := rdLst_go (rd := rdTk s) hm
      have HGO := Lib.hid hgo
      have HRD := Lib.hid (task_c E r q s p2 b1 W HV hs)
      obtain ⟨R2, hR2⟩ : ∃ R, R = rdTk s p2 := ⟨_, rfl⟩
      rw [← hR2] at HGO HRD
      obtain ⟨⟨z, y⟩, p3⟩ := R2
      simp only at HGO HRD
      have hnl : (ys.length : Int) ≤ 1000000 := by have := HN.out; omega
      have hil : (i : Int) ≤ 1000000 := by have := HN.out; omega
      clear hm hgo hR2
      go_wp2_with fail
      refine HMO.out.mono ?_
      rintro e w2 ⟨rfl, rfl⟩
      go_wp2_with fail
      refine HRD.out.mono ?_
      rintro e W2 ⟨rfl, hv2, ht2⟩
      have H2 := Lib.hid hv2
      have HOW2 := Lib.hid (ht2.owns HOW.out (fun g hg e => by have h1 := (HOW.out.lt g hg).1; have h2 := HLT.out; omega))
      have HTW2 := Lib.hid (HTW.out.trans ht2 (fun _ _ h => .inl h))
      have hsz2 : w.heap.size ≤ W2.heap.size := HTW2.out.size
      clear hv2 ht2 k0
      go_wp2_with (at_builtin; refine wpList_app1 rfl _ _ 70 rfl w.heap.size 142 i0 (.agg #[.int .i64 0, .int .i64 0]) 2 16 Tryd.underlying70 hi hz0 hz1 hz2 rfl (by decide) _ _ _ rfl HOW2.out [.int .i64 z, .int .i64 y] _ rfl ?ca0 ?ca1 ?ca2 ?ca3 ?ca4 hsz2 ?_)
      case ca0 => rfl
      case ca1 => rfl
      case ca2 => simp [Value.oneCell']
      case ca3 => unfold maxLen; omega
      case ca4 => omega
      intro s2 W3 hown3 hg3 _
      have hown3 : W3.ownsRow w.heap.size 142 2 s2 (ys ++ [(z, y)]).length (flatOf tskE (ys ++ [(z, y)])) := by
        rw [List.length_append, flatOf_append, flatOf_one]
        exact hown3
      have HV3 := Lib.hid (H2.out.app hg3 HOW2.out HLT.out.1 HLT.out.2 HGF.out (by decide))
      have HTW3 : Hid (Turns (fun k => k = q ∨ k = r) w W3) := HTW2.out.trans (Turns.of_grown hg3) (fun k hk e => by have := (HOW2.out.lt k e).1; omega)
      obtain ⟨a4, c4, rfl⟩ := own_len hown3
      have HOW3 := Lib.hid hown3
      clear hown3 hg3
      go_wp2_with fail
      go_roundw
      case rel => exact ⟨i + 1, ys ++ [(z, y)], p3, _, rfl, by go_num, by omega, by simp; omega, Lib.hid ⟨by rw [← HEQ.out.1, HGO.out]; simp, by rw [← HEQ.out.2, HGO.out]⟩, HOW3, HV3, HTW3⟩
      case measure => simp [intOf]; omega
    | false =>
      rw [hm] at HMO
      have hst := rdLst_stop (rd := rdTk s) hm
      have HEND : Hid (TT = (ys, p2)) := by
        have h1 := HEQ.out
        rw [hst] at h1
        show _ = _
        rw [List.append_nil] at h1
        exact Prod.ext h1.1.symm h1.2.symm
      clear hm hst
      go_wp2_with fail
      refine HMO.out.mono ?_
      rintro e w2 ⟨rfl, rfl⟩
      go_wp2_with fail
      go_ret
      rw [HEND.out]
      exact ⟨_, rfl, HOW.out, HV.out, HTW.out⟩
end Go.Proofs.YtbningfdpibdkaaDoor
