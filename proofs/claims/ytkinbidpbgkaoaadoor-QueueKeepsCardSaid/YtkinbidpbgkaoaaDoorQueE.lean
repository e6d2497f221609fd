/-
  queue: cut, DropJob.
-/
import Derived.Test.YtkinbidpbgkaoaaDoorQueD
namespace Go.Proofs.YtkinbidpbgkaoaaDoor
open Go.RowKit
set_option linter.unusedVariables false

/-- The queue behind a new value for one of its rows. -/
theorem QV.put {w w2 : World} {B q b : Nat} {l : Nat → List Tsk} {v : Nat → Value} {nv : Value} {nl : List Tsk} (h : QV w B q l v) (hb : b < 3) (hg : w.grownBy w2 (v b).ownBlock)
    (hown : w2.ownsRow B 45 2 nv nl.length (flatOf Tsk.cells nl)) (hat : nv.ownBlock = (v b).ownBlock) :
    QV (w2.setCell ⟨q, b, none⟩ nv) B q (upd l b nl) (updV v b nv) ∧ QStep w (w2.setCell ⟨q, b, none⟩ nv) q v (updV v b nv) := by
  have hlt := h.lt
  have hgq : nv.ownBlock ≠ some q := by rw [hat]; exact h.notq b hb
  have hqb : w2.heap[q]? = some (.cells #[v 0, v 1, v 2] 103 (0, 0)) := by rw [hg.block q hlt (fun e => h.notq b hb e.symm)]; exact h.cells
  refine ⟨⟨h.low, ?_, ?_, ?_, ?_⟩, ⟨hg.os, hg.tape, hg.output, ?_, ?_, ?_⟩⟩
  · rw [← updV_cells v b hb]
    simp only [World.setCell, Array.getElem?_modify, hqb]
    simp
  · intro i hi
    have hset : w2.grownBy (w2.setCell ⟨q, b, none⟩ nv) (some q) := grownBy_setCell w2 q b _
    by_cases e : i = b
    · subst e
      simp only [upd, updV, if_true]
      exact hown.kept hset (.inr hgq)
    · simp only [upd, updV, if_neg e]
      exact ((h.row i hi).kept hg (h.apart i b hi hb e)).kept hset (.inr (h.notq i hi))
  · intro i hi
    by_cases e : i = b
    · simp only [updV, if_pos e]
      exact hgq
    · simp only [updV, if_neg e]
      exact h.notq i hi
  · intro i j hi hj hij
    by_cases e : i = b
    · have ej : j ≠ b := fun e' => hij (e.trans e'.symm)
      simp only [updV, if_pos e, if_neg ej]
      rw [hat]
      exact h.apart b j hb hj (fun e' => ej e'.symm)
    · by_cases ej : j = b
      · simp only [updV, if_neg e, if_pos ej]
        rw [hat]
        exact h.apart i b hi hb e
      · simp only [updV, if_neg e, if_neg ej]
        exact h.apart i j hi hj hij
  · have := hg.size
    simpa [World.setCell] using this
  · intro k hk hkq hkv
    have h1 : (w2.setCell ⟨q, b, none⟩ nv).heap[k]? = w2.heap[k]? := (grownBy_setCell w2 q b _).block k (by have := hg.size; omega) (by simp; exact hkq)
    rw [h1]
    exact hg.block k hk (fun e => hkv b hb e.symm)
  · intro i hi
    left
    show (updV v b _ i).ownBlock = _
    unfold updV
    by_cases e : i = b
    · subst e; rw [if_pos rfl]; exact hat
    · rw [if_neg e]
theorem QStep.trans {a b c : World} {q : Nat} {l : Nat → List Tsk} {B : Nat} {u v x : Nat → Value} (h : QStep a b q u v) (hq : QV b B q l v) (hqa : q < a.heap.size) (k : QStep b c q v x) : QStep a c q u x :=
  ⟨k.os.trans h.os, k.tape.trans h.tape, k.output.trans h.output, Nat.le_trans h.size k.size, fun n hn hnq hnv => (k.block n (Nat.lt_of_lt_of_le hn h.size) hnq (fun i hi e => by
      rcases h.own i hi with h1 | ⟨m, h1, h2⟩
      · exact hnv i hi (h1.symm.trans e)
      · rw [h2] at e; cases e; omega)).trans (h.block n hn hnq hnv), fun i hi => by
      rcases k.own i hi with h1 | ⟨m, h1, h2⟩
      · rw [h1]; exact h.own i hi
      · exact .inr ⟨m, Nat.le_trans h.size h1, h2⟩⟩
theorem QStep.refl (w : World) (q : Nat) (v : Nat → Value) : QStep w w q v v := ⟨rfl, rfl, rfl, Nat.le_refl _, fun _ _ _ _ => rfl, fun _ _ => .inl rfl⟩
/-- The rows behind so many of them cut. -/
def cutTo (p : Tsk → Bool) (l : Nat → List Tsk) (k : Nat) : Nat → List Tsk := fun i => if i < k then (l i).filter (fun x => !p x) else l i
theorem cutTo_succ (p : Tsk → Bool) (l : Nat → List Tsk) (k : Nat) : cutTo p l (k + 1) = upd (cutTo p l k) k ((l k).filter fun x => !p x) := by
  funext i
  unfold cutTo upd
  by_cases h : i = k
  · subst h; simp
  · by_cases h2 : i < k
    · simp [h, h2, Nat.lt_succ_of_lt h2]
    · have : ¬ i < k + 1 := by omega
      simp [h, h2, this]
def cutAll (p : Tsk → Bool) (l : Nat → List Tsk) : Nat → List Tsk := cutTo p l 3
theorem cut_len (p : Tsk → Bool) (l : Nat → List Tsk) (m : Nat) : ∀ k, (catT (cutTo p l m) k).length ≤ (catT l k).length
  | 0 => Nat.le_refl _
  | k + 1 => by
    rw [catT_len, catT_len]
    have := cut_len p l m k
    have h2 : (cutTo p l m k).length ≤ (l k).length := by
      unfold cutTo
      split
      · exact List.length_filter_le _ _
      · exact Nat.le_refl _
    omega
set_option maxRecDepth 100000 in
set_option maxHeartbeats 1000000 in
theorem cut_c (B q cb : Nat) (cs : Array Value) (ct : TypeId) (l : Nat → List Tsk) (v : Nat → Value) (p : Tsk → Bool) (g0 : Nat) (lb : Array Value) (eg : ∀ args w, (callFunc g0 args).run Tryd.prog w = .ok (.enter g0 args) w) (w : World)
    (h : Hid (QV w B q l v)) (hN : (catT l 3).length ≤ 100000) (hbox : Hid (w.heap[cb]? = some (.cells cs ct (0, 0)))) (hcq : cb ≠ q) (hcv : Hid (∀ i, i < 3 → (v i).ownBlock ≠ some cb))
    (hp : Hid (∀ W x, W.heap[cb]? = some (.cells cs ct (0, 0)) → Calls Tryd.prog g0 (#[.agg x.cells.toArray] ++ lb) W fun e w' => e = .returned (.bool (p x)) ∧ Below W.heap.size W w')) :
    Calls Tryd.prog 51 #[.pointer (some ⟨q, 0, none⟩), .func (.func g0) #[] lb] w fun e w' => e = .returned (.int .i64 (((catT l 3).length : Int) - ((catT (cutAll p l) 3).length : Int))) ∧ ∃ v', QV w' B q (cutAll p l) v' ∧ QStep w w' q v v' := by
  have hLn := Lib.hid (qlen_c B q l w (show Hid _ from ⟨v, h.out⟩) (by omega))
  have hlen3 := cut_len p l 3 3
  have HLN2 : Hid (∀ (w1 : World), QAt w1 B q (cutAll p l) → Calls Tryd.prog 19 #[.pointer (some ⟨q, 0, none⟩)] w1 fun e w' => e = .returned (.int .i64 ((catT (cutAll p l) 3).length : Nat)) ∧ Below w1.heap.size w1 w') := fun w1 hq => qlen_c B q (cutAll p l) w1 hq (by unfold cutAll; omega)
  have HL : Hid (∀ k, k < 3 → (l k).length ≤ 100000) := fun k hk => by
    have h0 : (l k).length ≤ (catT l (k + 1)).length := by rw [catT_len]; omega
    have := catT_mono l (show k + 1 ≤ 3 by omega)
    omega
  have hsub : wrap64 (((catT l 3).length : Int) - ((catT (cutAll p l) 3).length : Int)) = ((catT l 3).length : Int) - ((catT (cutAll p l) 3).length : Int) := by unfold wrap64 cutAll; omega
  have HSUB := Lib.hid hsub
  have hqlt := h.out.lt
  have hclt : cb < w.heap.size := (Array.getElem?_eq_some_iff.1 hbox.out).1
  -- a cut of one row, in a world on the way
  have HDEL : Hid (∀ (k : Nat) (hk : k < 3) (u : Nat → Value) (W : World), QV W B q (cutTo p l k) u → QStep w W q v u → Calls Tryd.prog 67 #[u k, .func (.func g0) #[] lb] W fun e w' => ∃ nv, e = .returned nv ∧ w'.ownsRow B 45 2 nv ((l k).filter fun x => !p x).length (flatOf Tsk.cells ((l k).filter fun x => !p x)) ∧ W.grownBy w' (u k).ownBlock ∧ nv.ownBlock = (u k).ownBlock ∧ w'.heap[cb]? = some (.cells cs ct (0, 0))) := fun k hk u W hq hs => by
    have hck : cutTo p l k k = l k := by simp [cutTo]
    have hrow := hq.row k hk
    rw [hck] at hrow
    have hcu : (u k).ownBlock ≠ some cb := by
      rcases hs.own k hk with h1 | ⟨m, h1, h2⟩
      · rw [h1]; exact hcv.out k hk
      · rw [h2]; intro e; cases e; omega
    have hbW : W.heap[cb]? = some (.cells cs ct (0, 0)) := (hs.block cb hclt hcq hcv.out).trans hbox.out
    exact (deleteFunc_task Tsk.cells Tsk.k2 Tsk.one p g0 lb eg (fun W => W.heap[cb]? = some (.cells cs ct (0, 0))) B (u k) (l k).length (l k) W rfl hrow (by have := HL.out k hk; unfold maxLen; omega)
      (show Hid _ from fun W1 W2 h1 hg => by show W2.heap[cb]? = _; rw [hg.block cb (Array.getElem?_eq_some_iff.1 h1).1 (fun e => hcu e.symm)]; exact h1) hbW hp)
  generalize (catT (cutAll p l) 3).length = n2 at HLN2 HSUB hlen3 hsub ⊢
  generalize (catT l 3).length = n1 at hLn HSUB hN hlen3 hsub ⊢
  clear hsub hlen3
  go_enter Tryd.func51, Tryd.ntmps51
  go_wp2_with fail
  refine hLn.out.mono ?_
  rintro e w1 ⟨rfl, hb1⟩
  have HQ1 := Lib.hid (h.out.below hb1)
  have HS1 : Hid (QStep w w1 q v v) := QStep.ofBelow hb1
  clear hb1 hLn
  go_wp2_with fail
  go_loopw [6, 11] (fun _ s11 wx => ∃ (kk : Nat) (vk : Nat → Value) (wr : World), wr = wx ∧ kk ≤ 3 ∧ s11 = .int .i64 kk ∧ QV wr B q (cutTo p l kk) vk ∧ QStep w wr q v vk) (fun _ s11 _ => 3 - (intOf s11).toNat)
  case atStart => exact ⟨0, v, _, rfl, by omega, rfl, by rw [show cutTo p l 0 = l from by funext i; simp [cutTo]]; exact HQ1.out, HS1.out⟩
  case round =>
    obtain ⟨kk, vk, wr, rfl, hkk, rfl, hqv, hst⟩ := hrel
    by_cases hlt : kk < 3
    · have cq := hqv.cell kk hlt
      have fq := hqv.free kk
      have hnq : some q ≠ (vk kk).ownBlock := fun e => hqv.notq kk hlt e.symm
      have hq3 : (kk : Int) < 3 := by omega
      have hqd : QV wr.drew B q (cutTo p l kk) vk := hqv.below ⟨rfl, rfl, rfl, Nat.le_refl _, fun _ _ => rfl⟩
      have hsd : QStep w wr.drew q v vk := hst.trans hqv hqlt (QStep.ofBelow ⟨rfl, rfl, rfl, Nat.le_refl _, fun _ _ => rfl⟩)
      go_wp2_with fail
      refine wp_region_any (by kernel_rfl) ?_
      try (change wpAny _ _ _ _ _ _ _ (World.drew _))
      refine wpAny_take (i := 0) (v := ?_) rfl (by kernel_rfl) (by kernel_rfl) (by kernel_rfl) (fun _ _ _ h => h) (Or.inl ⟨by rfl, ?_⟩) ?_
      rotate_left
      focus
        intro w
        go_simp
        try with_reducible rfl
      try simp only [Act.put, List.getElem_toArray, List.getElem_cons_zero, List.getElem_cons_succ, List.setIfInBounds_toArray, List.set_cons_zero, List.set_cons_succ]
      refine wpAny_take (i := 1) (v := ?_) rfl (by kernel_rfl) (by kernel_rfl) (by kernel_rfl) (fun _ _ _ h => h) (Or.inl ⟨by rfl, ?_⟩) ?_
      rotate_left
      focus
        intro w
        go_simp
        try with_reducible rfl
      try simp only [Act.put, List.getElem_toArray, List.getElem_cons_zero, List.getElem_cons_succ, List.setIfInBounds_toArray, List.set_cons_zero, List.set_cons_succ]
      refine wpAny_take (i := 2) (v := ?_) rfl (by kernel_rfl) (by kernel_rfl) (by kernel_rfl) (fun _ _ _ h => h) (Or.inl ⟨by rfl, ?_⟩) ?_
      rotate_left
      focus
        intro w
        go_simp
        try with_reducible rfl
      try simp only [Act.put, List.getElem_toArray, List.getElem_cons_zero, List.getElem_cons_succ, List.setIfInBounds_toArray, List.set_cons_zero, List.set_cons_succ]
      refine wpAny_take (i := 3) (v := ?_) rfl (by kernel_rfl) (by kernel_rfl) (by kernel_rfl) (fun _ _ _ h => h) (Or.inl ⟨by rfl, ?_⟩) ?_
      rotate_left
      focus
        intro w
        go_simp
        try with_reducible rfl
      try simp only [Act.put, List.getElem_toArray, List.getElem_cons_zero, List.getElem_cons_succ, List.setIfInBounds_toArray, List.set_cons_zero, List.set_cons_succ]
      refine wpAny_take (i := 4) (v := ?_) rfl (by kernel_rfl) (by kernel_rfl) (by kernel_rfl) (fun _ _ _ h => h) (Or.inl ⟨by rfl, ?_⟩) ?_
      rotate_left
      focus
        intro w
        go_simp
        try with_reducible rfl
      try simp only [Act.put, List.getElem_toArray, List.getElem_cons_zero, List.getElem_cons_succ, List.setIfInBounds_toArray, List.set_cons_zero, List.set_cons_succ]
      refine wpAny_take (i := 5) (v := ?_) rfl (by kernel_rfl) (by kernel_rfl) (by kernel_rfl) (fun _ _ _ h => h) (Or.inl ⟨by rfl, ?_⟩) ?_
      rotate_left
      focus
        intro w
        go_simp
        try with_reducible rfl
      try simp only [Act.put, List.getElem_toArray, List.getElem_cons_zero, List.getElem_cons_succ, List.setIfInBounds_toArray, List.set_cons_zero, List.set_cons_succ]
      refine wpAny_take (i := 6) (v := ?_) rfl (by kernel_rfl) (by kernel_rfl) (by kernel_rfl) (fun _ _ _ h => h) (Or.inl ⟨by rfl, ?_⟩) ?_
      rotate_left
      focus
        intro w
        go_simp
        try with_reducible rfl
      try simp only [Act.put, List.getElem_toArray, List.getElem_cons_zero, List.getElem_cons_succ, List.setIfInBounds_toArray, List.set_cons_zero, List.set_cons_succ]
      refine wpAny_take (i := 8) (v := ?_) rfl (by kernel_rfl) (by kernel_rfl) (by kernel_rfl) (fun _ _ _ h => h) (Or.inl ⟨by rfl, ?_⟩) ?_
      rotate_left
      focus
        intro w
        go_simp
        try with_reducible rfl
      try simp only [Act.put, List.getElem_toArray, List.getElem_cons_zero, List.getElem_cons_succ, List.setIfInBounds_toArray, List.set_cons_zero, List.set_cons_succ]
      refine wpAny_take (i := 10) (v := ?_) rfl (by kernel_rfl) (by kernel_rfl) (by kernel_rfl) (fun _ _ _ h => h) (Or.inl ⟨by rfl, ?_⟩) ?_
      rotate_left
      focus
        intro w
        go_simp
        try with_reducible rfl
      try simp only [Act.put, List.getElem_toArray, List.getElem_cons_zero, List.getElem_cons_succ, List.setIfInBounds_toArray, List.set_cons_zero, List.set_cons_succ]
      refine wpAny_take (i := 11) (v := ?_) rfl (by kernel_rfl) (by kernel_rfl) (by kernel_rfl) (fun _ _ _ h => h) (Or.inl ⟨by rfl, ?_⟩) ?_
      rotate_left
      focus
        intro w
        go_simp
        try with_reducible rfl
      try simp only [Act.put, List.getElem_toArray, List.getElem_cons_zero, List.getElem_cons_succ, List.setIfInBounds_toArray, List.set_cons_zero, List.set_cons_succ]
      refine wpAny_ready (rs := [7]) (by kernel_rfl) (by simp) ?_
      refine AllReady.cons rfl (fun K hK => ?_) AllReady.nil
      go_simp
      refine hK _ _ ?_
      clear hK K
      try simp only [Act.put, List.getElem_toArray, List.getElem_cons_zero, List.getElem_cons_succ, List.setIfInBounds_toArray, List.set_cons_zero, List.set_cons_succ]
      refine wpAny_ready (rs := [9]) (by kernel_rfl) (by simp) ?_
      refine AllReady.cons rfl (fun K hK => ?_) AllReady.nil
      go_simp
      refine (HDEL.out kk hlt vk _ hqd hsd).mono ?_
      rintro e w2 ⟨nv, rfl, hown2, hg2, hnb, hI2⟩
      have hg2 := grownBy_undrew hg2
      obtain ⟨na, nc, rfl⟩ := own_len hown2
      have cq2 : w2.cell? ⟨q, kk, none⟩ = some (vk kk) := hg2.cell cq hnq
      have fq2 : w2.frozen? ⟨q, kk, none⟩ = false := (hg2.frozen_far ⟨q, kk, none⟩ hqv.lt hnq).trans fq
      refine hK _ _ ?_
      clear hK K
      try simp only [Act.put, List.getElem_toArray, List.getElem_cons_zero, List.getElem_cons_succ, List.setIfInBounds_toArray, List.set_cons_zero, List.set_cons_succ]
      refine wpAny_take (i := 12) (v := ?_) rfl (by kernel_rfl) (by kernel_rfl) (by kernel_rfl) (fun _ _ _ h => h) (Or.inl ⟨by rfl, ?_⟩) ?_
      rotate_left
      focus
        intro w
        go_simp
        try with_reducible rfl
      try simp only [Act.put, List.getElem_toArray, List.getElem_cons_zero, List.getElem_cons_succ, List.setIfInBounds_toArray, List.set_cons_zero, List.set_cons_succ]
      refine wpAny_ready (rs := [13]) (by kernel_rfl) (by simp) ?_
      refine AllReady.cons rfl (fun K hK => ?_) AllReady.nil
      go_simp
      refine hK _ _ ?_
      clear hK K
      try simp only [Act.put, List.getElem_toArray, List.getElem_cons_zero, List.getElem_cons_succ, List.setIfInBounds_toArray, List.set_cons_zero, List.set_cons_succ]
      refine wpAny_done (by kernel_rfl) ?_ _
      have hput := hqv.put hlt hg2 hown2 hnb
      go_wp2_with fail
      go_roundw
      case rel => exact ⟨kk + 1, _, _, rfl, by omega, by go_num, by rw [cutTo_succ]; exact hput.1, hst.trans hqv hqlt hput.2⟩
      case measure => simp [intOf]; omega
    · obtain rfl : kk = 3 := by omega
      go_wp2_with fail
      refine (HLN2.out wr ⟨vk, hqv⟩).mono ?_
      rintro e w3 ⟨rfl, hb3⟩
      have hq3 := hqv.below hb3
      have hs3 := hst.trans hqv hqlt (QStep.ofBelow hb3)
      clear hqv hst hb3
      go_wp2_with fail
      go_ret
      refine ⟨?_, vk, hq3, hs3⟩
      show Ending.returned (.int .i64 (wrap64 ((n1 : Int) - (n2 : Int)))) = _
      rw [HSUB.out]
end Go.Proofs.YtkinbidpbgkaoaaDoor
