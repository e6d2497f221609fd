/-
  QueueKeeps: the walk.
-/
import Derived.Test.YtkinbidpbgkaoaaDoorQueN
namespace Go.Proofs.YtkinbidpbgkaoaaDoor
open Go.RowKit
set_option linter.unusedVariables false

def Keeps (C D : List Tsk) : Prop := (C.filter fun x => D.any (Tsk.beq x)).Sublist D
theorem catT_sub {l m : Nat → List Tsk} (h : ∀ i, (l i).Sublist (m i)) : (catT l 3).Sublist (catT m 3) := by
  rw [catT3, catT3]
  exact ((h 0).append (h 1)).append (h 2)
theorem keeps_push (L : List Ent) (t : Tsk) (band : Int) : Keeps (catT (rowsOf L) 3) (catT (rowsOf (pushL L t band)) 3) := by
  refine List.filter_sublist.trans (catT_sub fun i => ?_)
  unfold pushL rowsOf
  split
  · exact List.Sublist.refl _
  · split
    · exact List.Sublist.refl _
    · exact ((List.sublist_append_left L _).filter _).map _
theorem keeps_cut (p : Tsk → Bool) (L : List Ent) : Keeps (catT (rowsOf L) 3) (catT (rowsOf (L.filter fun x => !p x.tsk)) 3) := by
  have hD : catT (rowsOf (L.filter fun x => !p x.tsk)) 3 = (catT (rowsOf L) 3).filter fun x => !p x := by
    have h : ∀ i, rowsOf (L.filter fun x => !p x.tsk) i = (rowsOf L i).filter fun x => !p x := fun i => by
      unfold rowsOf
      rw [List.filter_map, List.filter_filter, List.filter_filter]
      congr 2
      funext x
      exact Bool.and_comm _ _
    rw [catT3, catT3, h, h, h, List.filter_append, List.filter_append]
  rw [hD]
  generalize catT (rowsOf L) 3 = C
  unfold Keeps
  rw [List.filter_congr (q := fun x => !p x)]
  · exact List.Sublist.refl _
  · intro x hx
    rw [Bool.eq_iff_iff, List.any_eq_true]
    constructor
    · rintro ⟨y, hy, he⟩
      have := (Tsk.beq_iff _ _).1 he
      subst this
      exact (List.mem_filter.1 hy).2
    · intro h
      exact ⟨x, List.mem_filter.2 ⟨hx, h⟩, (Tsk.beq_iff _ _).2 rfl⟩
theorem own_below {w w' : World} {base : Nat} {e : TypeId} {size n : Nat} {v : Value} {xs : List Value} (h : w.ownsRow base e size v n xs) (hb : Below w.heap.size w w') : w'.ownsRow base e size v n xs :=
  h.kept (grown_of_below hb none) (none_or_ne _)
structure KeepSt (w W : World) (b1 : Nat) (L : List Ent) (v : Nat → Value) (A1 : Option Addr) (c1 : Nat) (C : List Tsk) (xb : Nat) (kd j0 a0 bd : Int) : Prop where
  lo : w.heap.size ≤ b1
  q : QV W b1 b1 (rowsOf L) v
  s : W.ownsRow b1 45 2 (.slice A1 C.length c1) C.length (flatOf Tsk.cells C)
  sq : ∀ g, (Value.slice A1 C.length c1).ownBlock = some g → g ≠ b1 ∧ ∀ i, i < 3 → (v i).ownBlock ≠ some g
  x : W.heap[xb]? = some (.cells #[.int .i64 kd, .int .i64 j0, .int .i64 a0, .int .i64 bd] 57 (0, 0))
  b : Below w.heap.size w W
section
variable {w W W' : World} {b1 : Nat} {L L' : List Ent} {v v' : Nat → Value} {A1 : Option Addr} {c1 : Nat} {C : List Tsk} {xb : Nat} {kd j0 a0 bd : Int}
theorem KeepSt.xlt (h : KeepSt w W b1 L v A1 c1 C xb kd j0 a0 bd) : xb < W.heap.size := (Array.getElem?_eq_some_iff.1 h.x).1
theorem KeepSt.below (h : KeepSt w W b1 L v A1 c1 C xb kd j0 a0 bd) (hb : Below W.heap.size W W') : KeepSt w W' b1 L v A1 c1 C xb kd j0 a0 bd :=
  ⟨h.lo, h.q.below hb, own_below h.s hb, h.sq, by rw [hb.block _ h.xlt]; exact h.x, h.b.trans (hb.mono h.b.size)⟩
theorem KeepSt.qstep (h : KeepSt w W b1 L v A1 c1 C xb kd j0 a0 bd) (hq : QV W' b1 b1 (rowsOf L') v') (hs : QStep W W' b1 v v') : KeepSt w W' b1 L' v' A1 c1 C xb kd j0 a0 bd := by
  refine ⟨h.lo, hq, ⟨h.s.1, h.s.2.imp id ?_⟩, fun g hg => ⟨(h.sq g hg).1, notblk_step hs (h.sq g hg).2 (h.s.lt g hg).2⟩, by rw [hs.types h.q _ _ _ _ h.x (by decide) (by decide)]; exact h.x, h.b.trans ((hs.below h.q).mono h.lo)⟩
  rintro ⟨g, cap, cur, hv, hb, hc, hr⟩
  have hg : (Value.slice A1 C.length c1).ownBlock = some g := by rw [hv]; rfl
  exact ⟨g, cap, cur, hv, hb, by rw [hs.block g (h.s.lt g hg).2 (h.sq g hg).1 (h.sq g hg).2]; exact hc, hr⟩
theorem KeepSt.rd (h : KeepSt w W b1 L v A1 c1 C xb kd j0 a0 bd) : RdRows W W.heap.size Tsk.cells 2 A1 C.length C := by
  obtain ⟨A, c, hv, _, hrd⟩ := own_rows (l := C) Tsk.k2 h.s rfl
  cases hv
  exact hrd
theorem KeepSt.x0 (h : KeepSt w W b1 L v A1 c1 C xb kd j0 a0 bd) : W.cell? ⟨xb, 0, none⟩ = some (.int .i64 kd) := cell_of_row W xb 0 _ _ _ h.x
theorem KeepSt.x1 (h : KeepSt w W b1 L v A1 c1 C xb kd j0 a0 bd) : W.cell? ⟨xb, 1, none⟩ = some (.int .i64 j0) := cell_of_row W xb 1 _ _ _ h.x
theorem KeepSt.x2 (h : KeepSt w W b1 L v A1 c1 C xb kd j0 a0 bd) : W.cell? ⟨xb, 2, none⟩ = some (.int .i64 a0) := cell_of_row W xb 2 _ _ _ h.x
theorem KeepSt.x3 (h : KeepSt w W b1 L v A1 c1 C xb kd j0 a0 bd) : W.cell? ⟨xb, 3, none⟩ = some (.int .i64 bd) := cell_of_row W xb 3 _ _ _ h.x
end
set_option maxRecDepth 100000 in
set_option maxHeartbeats 4000000 in
theorem queueKeeps_walk (Er : Nat → Addr) (A : Option Addr) (len cap : Nat) (ds : List Deed) (w : World) (hE : Errs w.heap.size w allKinds Er) (hz : Hid (RdRows w w.heap.size Deed.cells 4 A len ds)) (hcap : len ≤ cap) (hcm : cap ≤ maxLen) :
    Calls Tryd.prog 6 #[.slice A len cap] w fun e w' => e = .returned (.bool true) ∧ Below w.heap.size w w' := by
  have hlM : (len : Int) ≤ 9223372036854775807 := by unfold maxLen at hcm; omega
  have HE : Hid (∀ W, Below w.heap.size w W → Errs w.heap.size W allKinds Er) := fun W hb => hE.below hb
  have HE2 : Hid (∀ W, Below w.heap.size w W → ∀ k, k = 1 ∨ k = 6 → ∀ g, g = (if k = 1 then 0 else 2) → W.cell? ⟨g, 0, none⟩ = some (erV Er k) ∧ g < W.heap.size) := fun W hb k hk g hg => by
    have e := hE.below hb
    rcases hk with rfl | rfl
    · have := e.var 1 (by decide)
      rw [if_pos rfl] at hg
      subst hg
      exact ⟨this.2, Nat.lt_of_lt_of_le this.1 hb.size⟩
    · have := e.var 6 (by decide)
      rw [if_neg (by decide)] at hg
      subst hg
      exact ⟨this.2, Nat.lt_of_lt_of_le this.1 hb.size⟩
  go_enter Tryd.func6, Tryd.ntmps6
  go_wp2_with fail
  refine (awake21_c Er w hE).mono ?_
  rintro e w1 ⟨rfl, hb1⟩
  go_wp2_with fail
  refine (qnew_c w1).mono ?_
  rintro e w2 ⟨rfl, ⟨v2, hq2⟩, hb2⟩
  have hbw2 := hb1.trans (hb2.mono hb1.size)
  have hs1 := hb1.size
  have hs2 : w.heap.size ≤ w2.heap.size := hbw2.size
  have hq3 := hq2.below (below_grow w2 (.cells #[] 45))
  have HQ2 := Lib.hid hq3
  have HSQ2 : Hid (∀ g, (Value.slice (some ⟨w2.heap.size, 0, none⟩) 0 0).ownBlock = some g → g ≠ w1.heap.size ∧ ∀ i, i < 3 → (v2 i).ownBlock ≠ some g) := fun g hg => by
    have hg : w2.heap.size = g := by simpa [Value.ownBlock] using hg
    have := hq2.lt
    exact ⟨by omega, fun i hi e => by have := ((hq2.row i hi).lt g e).2; omega⟩
  have hlt12 : w1.heap.size < w2.heap.size := hq2.lt
  clear hq2 hb2 hb1 hq3
  go_wp2_with fail
  go_loopw [4, 5, 6, 7, 8, 9] (fun s4 s5 _ _ _ _ wx => ∃ (k : Nat) (L : List Ent) (C : List Tsk) (v : Nat → Value) (A1 : Option Addr) (c1 : Nat) (wr : World), wr = wx ∧ k ≤ 60 ∧ k ≤ len ∧ s5 = .int .i64 k ∧ s4 = .slice A1 C.length c1 ∧ QV wr w1.heap.size w1.heap.size (rowsOf L) v ∧ Bands L ∧ L.length ≤ k ∧ C = catT (rowsOf L) 3 ∧ wr.ownsRow w1.heap.size 45 2 (.slice A1 C.length c1) C.length (flatOf Tsk.cells C) ∧ (∀ g, (Value.slice A1 C.length c1).ownBlock = some g → g ≠ w1.heap.size ∧ ∀ i, i < 3 → (v i).ownBlock ≠ some g) ∧ Below w.heap.size w wr) (fun _ s5 _ _ _ _ _ => 60 - (intOf s5).toNat)
  case atStart =>
    exact ⟨0, [], [], v2, _, _, _, rfl, by omega, by omega, rfl, rfl, HQ2.out.congr (fun i _ => rfl), fun e he => by simp at he, Nat.le_refl _, rfl, own_empty (Nat.le_of_lt hlt12), HSQ2.out, hbw2.alloc hs2 _⟩
  case round =>
    obtain ⟨k, L, C, v, A1, c1, wr, rfl, hk, hkl, rfl, rfl, hqv, hbs, hLk, hC, hown, hsq, hbl⟩ := hrel
    by_cases h1 : k < len
    · by_cases h2 : k < 60
      · obtain ⟨b, off, rfl, hb, hrows⟩ := hz.out.2 (by omega)
        obtain ⟨x, hx⟩ : ∃ x, ds[k]? = some x := ⟨_, List.getElem?_eq_getElem (by have := hz.out.1; omega)⟩
        have r1 := rangeAt_below (hrows k x hx) hbl hb
        obtain ⟨kd, j0, a0, bd⟩ := x
        have hk1 : (k : Int) < (len : Int) := by omega
        have hk2 : (k : Int) < 60 := by omega
        obtain ⟨W8, hW8⟩ : ∃ Z : World, Z = wr.alloc (.cells #[.int .i64 kd, .int .i64 j0, .int .i64 a0, .int .i64 bd] 57) := ⟨_, rfl⟩
        have T8 : Hid (KeepSt w W8 w1.heap.size L v A1 c1 C wr.heap.size kd j0 a0 bd) := by
          have hb8 : Below wr.heap.size wr W8 := by rw [hW8]; exact below_grow wr _
          exact ⟨hs1, hqv.below hb8, own_below hown hb8, hsq, by rw [hW8]; exact alloc_new' rfl, hbl.trans (hb8.mono hbl.size)⟩
        have HW8 := Lib.hid hW8
        have HBS0 := Lib.hid hbs
        have HC : Hid (C.length ≤ 60) := by show _ ≤ _; rw [hC, len_rows hbs]; omega
        have HCC := Lib.hid hC.symm
        clear hW8 hqv hbs hbl hrows hx hown hsq hC
        go_upto_region 9 with (refine wpList_load_mid rfl 57 _ rfl b (off + k * 4) rfl [.int .i64 kd, .int .i64 j0, .int .i64 a0, .int .i64 bd] _ r1 Tryd.underlying57 rfl size_deed ?_)
        rw [← HW8.out]
        clear r1
        have g0 := T8.out.x0
        have g1 := T8.out.x1
        have g2 := T8.out.x2
        have g3 := T8.out.x3
        by_cases hk4 : kd = 4
        · subst hk4
          go_wp2_with fail
          refine (drop_any Er w1.heap.size w1.heap.size L v ⟨j0, a0⟩ W8 (Nat.le_of_lt T8.out.q.lt) ((HE.out W8 T8.out.b).var 5 (by decide)).2 (Nat.lt_of_lt_of_le ((HE.out W8 T8.out.b).var 5 (by decide)).1 T8.out.lo) (show Hid _ from T8.out.q) HBS0.out (by omega)).mono ?_
          rintro e W9 ⟨rfl, vv, hq9, hs9⟩
          have T9 := Lib.hid (T8.out.qstep hq9 hs9)
          clear g0 g1 g2 g3 hq9 hs9
          have g0 := T9.out.x0
          have g1 := T9.out.x1
          have g2 := T9.out.x2
          have g3 := T9.out.x3
          have HBS := Lib.hid (show Bands (dropL L ⟨j0, a0⟩) from HBS0.out.filter _)
          have HLN := Lib.hid (show (dropL L ⟨j0, a0⟩).length ≤ k + 1 from Nat.le_trans (List.length_filter_le _ _) (by omega))
          have HKP := Lib.hid (HCC.out ▸ keeps_cut (fun x => Tsk.beq x ⟨j0, a0⟩) L)
          change Hid (Keeps C (catT (rowsOf (dropL L ⟨j0, a0⟩)) 3)) at HKP
          go_wp2_with fail
          have TT := T9
          obtain ⟨LL, hLL⟩ : ∃ z, z = dropL L ⟨j0, a0⟩ := ⟨_, rfl⟩
          rw [← hLL] at TT HBS HLN HKP
          have hLN := HLN.out
          have HLC := Lib.hid (len_rows HBS.out)
          obtain ⟨D, hD⟩ : ∃ z, z = catT (rowsOf LL) 3 := ⟨_, rfl⟩
          have HD := Lib.hid hD
          rw [← hD] at HLC HKP
          have hDl : D.length ≤ 61 := by rw [HLC.out]; omega
          clear hLL g0 g1 g2 g3 T9 hD
          have HLIST := Lib.hid (qlist_c w1.heap.size w1.heap.size (rowsOf LL) W9 (show Hid _ from ⟨_, TT.out.q⟩) (by rw [← HD.out]; omega))
          rw [← HD.out] at HLIST
          refine HLIST.out.mono ?_
          rintro e y4 ⟨v6, rfl, hown6, hb4⟩
          have T4 := Lib.hid (TT.out.below hb4)
          obtain ⟨A6, c6, hv6, _, hrd6⟩ := own_rows (l := D) Tsk.k2 hown6 rfl
          subst hv6
          have HR6 := Lib.hid hrd6
          have HR1 : Hid (RdRows y4 y4.heap.size Tsk.cells 2 A1 C.length C) := T4.out.rd
          have HNEXT : Hid (y4.ownsRow w1.heap.size 45 2 (.slice A6 D.length c6) D.length (flatOf Tsk.cells D) ∧ ∀ g, (Value.slice A6 D.length c6).ownBlock = some g → g ≠ w1.heap.size ∧ ∀ i, i < 3 → (vv i).ownBlock ≠ some g) := ⟨hown6.mono (Nat.le_of_lt TT.out.q.lt), fun g hg => by
            have h1 := (hown6.lt g hg).1
            have h2 := TT.out.q.lt
            exact ⟨by omega, fun i hi e => by have := ((TT.out.q.row i hi).lt g e).2; omega⟩⟩
          have hCl := HC.out
          clear hown6 hrd6 HLIST
          go_wp2_with fail
          go_loopw [8, 9] (fun s8 s9 wx => ∃ (j kk : Nat) (wy : World), wy = wx ∧ j ≤ C.length ∧ kk ≤ D.length ∧ s9 = .int .i64 j ∧ s8 = .int .i64 kk ∧ Hid (((C.drop j).filter fun x => D.any (Tsk.beq x)).Sublist (D.drop kk)) ∧ Below y4.heap.size y4 wy) (fun _ s9 _ => C.length - (intOf s9).toNat)
          case atStart => exact ⟨0, 0, _, rfl, by omega, by omega, rfl, rfl, HKP.out, Below.refl _ _⟩
          case round =>
            obtain ⟨j, kk, wy, rfl, hj, hkk, rfl, rfl, hsub, hbl⟩ := hrel
            by_cases hlt : j < C.length
            · obtain ⟨b1, o1, hA1, hbb1, hr1⟩ := HR1.out.2 (by omega)
              subst hA1
              obtain ⟨x, hx⟩ : ∃ x, C[j]? = some x := ⟨_, List.getElem?_eq_getElem hlt⟩
              have r1 := rangeAt_below (hr1 j x hx) hbl hbb1
              have HR := Lib.hid r1
              have hlt1 : b1 < wy.heap.size := Nat.lt_of_lt_of_le hbb1 hbl.size
              have hdrop : C.drop j = x :: C.drop (j + 1) := by
                rw [List.drop_eq_getElem_cons hlt]
                congr 1
                exact Option.some.inj ((List.getElem?_eq_getElem hlt).symm.trans hx)
              have HDR := Lib.hid hdrop
              have HIS := Lib.hid (qis_c w1.heap.size w1.heap.size (rowsOf LL) x wy (show Hid _ from ⟨_, T4.out.q.below hbl⟩) (by rw [← HD.out]; omega))
              rw [← HD.out] at HIS
              have hjl : (j : Int) < (C.length : Int) := by omega
              clear hr1 hx hdrop
              obtain ⟨jx, ax⟩ := x
              have r1 : wy.rangeAt b1 (o1 + j * 2) [.int .i64 jx, .int .i64 ax] := r1
              go_wp2_with (refine wpList_load_mid rfl 45 _ rfl b1 (o1 + j * 2) rfl [.int .i64 jx, .int .i64 ax] _ r1 Tryd.underlying45 rfl size_task ?_)
              refine HIS.out.mono ?_
              rintro e w5 ⟨rfl, hb5⟩
              have r5 := rangeAt_below HR.out hb5 hlt1
              have hbl5 := hbl.trans (hb5.mono hbl.size)
              have c0 : w5.cell? ⟨b1, o1 + j * 2, none⟩ = some (.int .i64 jx) := r5 0 _ rfl
              have c1 : w5.cell? ⟨b1, o1 + j * 2 + 1, none⟩ = some (.int .i64 ax) := r5 1 _ rfl
              have HC0 := Lib.hid c0
              have HC1 := Lib.hid c1
              clear r1 r5 hb5
              cases hin : D.any (Tsk.beq ⟨jx, ax⟩) with
              | false =>
                have HS : Hid (((C.drop (j + 1)).filter fun x => D.any (Tsk.beq x)).Sublist (D.drop kk)) := by
                  have := hsub.out
                  rw [HDR.out] at this
                  show List.Sublist _ _
                  simpa [List.filter, hin] using this
                clear hin hsub c0 c1
                go_wp2_with fail
                go_roundw
                case rel => exact ⟨j + 1, kk, _, rfl, by omega, by omega, by go_num, rfl, HS, hbl5⟩
                case measure => simp [intOf]; omega
              | true =>
                have HS : Hid ((⟨jx, ax⟩ :: (C.drop (j + 1)).filter fun x => D.any (Tsk.beq x)).Sublist (D.drop kk)) := by
                  have := hsub.out
                  rw [HDR.out] at this
                  show List.Sublist _ _
                  simpa [List.filter, hin] using this
                clear hin hsub c0 c1
                go_wp2_with fail
                go_loopw [8] (fun s8 wx => ∃ (kk : Nat) (wz : World), wz = wx ∧ kk ≤ D.length ∧ s8 = .int .i64 kk ∧ Hid ((⟨jx, ax⟩ :: (C.drop (j + 1)).filter fun x => D.any (Tsk.beq x)).Sublist (D.drop kk)) ∧ Below w5.heap.size w5 wz) (fun s8 _ => D.length - (intOf s8).toNat)
                case atStart => exact ⟨kk, _, rfl, hkk, rfl, HS, Below.refl _ _⟩
                case round =>
                  clear HS hkk
                  obtain ⟨kk, wz, rfl, hkk, rfl, hsub, hbz⟩ := hrel
                  have hkl : kk < D.length := by
                    have h0 := hsub.out.length_le
                    rw [List.length_cons, List.length_drop] at h0
                    omega
                  obtain ⟨b6, o6, hA6, hbb6, hr6⟩ := HR6.out.2 (by omega)
                  subst hA6
                  obtain ⟨z, hz⟩ : ∃ z, D[kk]? = some z := ⟨_, List.getElem?_eq_getElem hkl⟩
                  have hbyz := hbl5.trans (hbz.mono hbl5.size)
                  have r6 := rangeAt_below (hr6 kk z hz) hbyz hbb6
                  have hdz : D.drop kk = z :: D.drop (kk + 1) := by
                    rw [List.drop_eq_getElem_cons hkl]
                    congr 1
                    exact Option.some.inj ((List.getElem?_eq_getElem hkl).symm.trans hz)
                  have HDZ := Lib.hid hdz
                  have hb15 : b1 < w5.heap.size := Nat.lt_of_lt_of_le hbb1 hbl5.size
                  have c0 := (hbz.cell (p := ⟨b1, o1 + j * 2, none⟩) hb15).trans HC0.out
                  have c1 := (hbz.cell (p := ⟨b1, o1 + j * 2 + 1, none⟩) hb15).trans HC1.out
                  obtain ⟨jz, az⟩ := z
                  have e0 : wz.cell? ⟨b6, o6 + kk * 2, none⟩ = some (.int .i64 jz) := r6 0 _ rfl
                  have e1 : wz.cell? ⟨b6, o6 + kk * 2 + 1, none⟩ = some (.int .i64 az) := r6 1 _ rfl
                  have hne := fun w => task_neq jz az jx ax w
                  have hgd := task_guard .neq
                  have hkd : (kk : Int) < (D.length : Int) := by omega
                  clear hr6 hz hdz r6
                  cases hq : (jz == jx && az == ax) with
                  | true =>
                    have HS : Hid (((C.drop (j + 1)).filter fun x => D.any (Tsk.beq x)).Sublist (D.drop kk)) := by
                      have := hsub.out
                      rw [HDZ.out] at this ⊢
                      simp at hq
                      obtain ⟨rfl, rfl⟩ := hq
                      exact (List.cons_sublist_cons.1 this).cons _
                    rw [hq] at hne
                    have hkne : ((kk : Int) == (D.length : Int)) = false := by simp; omega
                    clear hq hsub
                    go_wp2_with fail
                    go_quiet (fail)
                    go_wp2_with fail
                    go_roundw
                    case rel => exact ⟨j + 1, kk, _, rfl, by omega, by omega, by go_num, rfl, HS, below_drewN' hbyz⟩
                    case measure => simp [intOf]; omega
                  | false =>
                    have HS : Hid ((⟨jx, ax⟩ :: (C.drop (j + 1)).filter fun x => D.any (Tsk.beq x)).Sublist (D.drop (kk + 1))) := by
                      have := hsub.out
                      rw [HDZ.out] at this
                      generalize ((C.drop (j + 1)).filter fun x => D.any (Tsk.beq x)) = F at this ⊢
                      generalize D.drop (kk + 1) = G at this ⊢
                      show List.Sublist _ _
                      cases this with
                      | cons _ h => exact h
                      | cons_cons _ h => simp at hq
                    rw [hq] at hne
                    clear hq hsub
                    go_wp2_with fail
                    go_quiet (fail)
                    go_wp2_with fail
                    go_roundw
                    case rel => exact ⟨kk + 1, _, rfl, by omega, by go_num, HS, below_drewN' hbz⟩
                    case measure => simp [intOf]; omega
            · obtain rfl : j = C.length := by omega
              have T6 := Lib.hid (T4.out.below hbl)
              have hn1 := HNEXT.out
              have HOWN := Lib.hid (own_below hn1.1 hbl)
              have HSQ := Lib.hid hn1.2
              clear hsub hn1
              go_wp2_with fail
              go_roundw
              case rel => exact ⟨k + 1, LL, D, _, _, _, _, rfl, by omega, by omega, by go_num, rfl, T6.out.q, HBS.out, by omega, by rw [HD.out], HOWN.out, HSQ.out, T6.out.b⟩
              case measure => simp [intOf]; omega
        · have n4 : (kd == 4) = false := by simpa using hk4
          by_cases hk5 : kd = 5
          · subst hk5
            go_wp2_with fail
            refine (job_any w1.heap.size w1.heap.size L v j0 W8 (show Hid _ from T8.out.q) HBS0.out (by omega)).mono ?_
            rintro e W9 ⟨rfl, vv, hq9, hs9⟩
            have T9 := Lib.hid (T8.out.qstep hq9 hs9)
            clear g0 g1 g2 g3 hq9 hs9
            have g0 := T9.out.x0
            have g1 := T9.out.x1
            have g2 := T9.out.x2
            have g3 := T9.out.x3
            have HBS := Lib.hid (show Bands (jobL L j0) from HBS0.out.filter _)
            have HLN := Lib.hid (show (jobL L j0).length ≤ k + 1 from Nat.le_trans (List.length_filter_le _ _) (by omega))
            have HKP := Lib.hid (HCC.out ▸ keeps_cut (fun x => x.job == j0) L)
            change Hid (Keeps C (catT (rowsOf (jobL L j0)) 3)) at HKP
            go_wp2_with fail
            have TT := T9
            obtain ⟨LL, hLL⟩ : ∃ z, z = jobL L j0 := ⟨_, rfl⟩
            rw [← hLL] at TT HBS HLN HKP
            have hLN := HLN.out
            have HLC := Lib.hid (len_rows HBS.out)
            obtain ⟨D, hD⟩ : ∃ z, z = catT (rowsOf LL) 3 := ⟨_, rfl⟩
            have HD := Lib.hid hD
            rw [← hD] at HLC HKP
            have hDl : D.length ≤ 61 := by rw [HLC.out]; omega
            clear hLL g0 g1 g2 g3 T9 hD
            have HLIST := Lib.hid (qlist_c w1.heap.size w1.heap.size (rowsOf LL) W9 (show Hid _ from ⟨_, TT.out.q⟩) (by rw [← HD.out]; omega))
            rw [← HD.out] at HLIST
            refine HLIST.out.mono ?_
            rintro e y4 ⟨v6, rfl, hown6, hb4⟩
            have T4 := Lib.hid (TT.out.below hb4)
            obtain ⟨A6, c6, hv6, _, hrd6⟩ := own_rows (l := D) Tsk.k2 hown6 rfl
            subst hv6
            have HR6 := Lib.hid hrd6
            have HR1 : Hid (RdRows y4 y4.heap.size Tsk.cells 2 A1 C.length C) := T4.out.rd
            have HNEXT : Hid (y4.ownsRow w1.heap.size 45 2 (.slice A6 D.length c6) D.length (flatOf Tsk.cells D) ∧ ∀ g, (Value.slice A6 D.length c6).ownBlock = some g → g ≠ w1.heap.size ∧ ∀ i, i < 3 → (vv i).ownBlock ≠ some g) := ⟨hown6.mono (Nat.le_of_lt TT.out.q.lt), fun g hg => by
              have h1 := (hown6.lt g hg).1
              have h2 := TT.out.q.lt
              exact ⟨by omega, fun i hi e => by have := ((TT.out.q.row i hi).lt g e).2; omega⟩⟩
            have hCl := HC.out
            clear hown6 hrd6 HLIST
            go_wp2_with fail
            go_loopw [8, 9] (fun s8 s9 wx => ∃ (j kk : Nat) (wy : World), wy = wx ∧ j ≤ C.length ∧ kk ≤ D.length ∧ s9 = .int .i64 j ∧ s8 = .int .i64 kk ∧ Hid (((C.drop j).filter fun x => D.any (Tsk.beq x)).Sublist (D.drop kk)) ∧ Below y4.heap.size y4 wy) (fun _ s9 _ => C.length - (intOf s9).toNat)
            case atStart => exact ⟨0, 0, _, rfl, by omega, by omega, rfl, rfl, HKP.out, Below.refl _ _⟩
            case round =>
              obtain ⟨j, kk, wy, rfl, hj, hkk, rfl, rfl, hsub, hbl⟩ := hrel
              by_cases hlt : j < C.length
              · obtain ⟨b1, o1, hA1, hbb1, hr1⟩ := HR1.out.2 (by omega)
                subst hA1
                obtain ⟨x, hx⟩ : ∃ x, C[j]? = some x := ⟨_, List.getElem?_eq_getElem hlt⟩
                have r1 := rangeAt_below (hr1 j x hx) hbl hbb1
                have HR := Lib.hid r1
                have hlt1 : b1 < wy.heap.size := Nat.lt_of_lt_of_le hbb1 hbl.size
                have hdrop : C.drop j = x :: C.drop (j + 1) := by
                  rw [List.drop_eq_getElem_cons hlt]
                  congr 1
                  exact Option.some.inj ((List.getElem?_eq_getElem hlt).symm.trans hx)
                have HDR := Lib.hid hdrop
                have HIS := Lib.hid (qis_c w1.heap.size w1.heap.size (rowsOf LL) x wy (show Hid _ from ⟨_, T4.out.q.below hbl⟩) (by rw [← HD.out]; omega))
                rw [← HD.out] at HIS
                have hjl : (j : Int) < (C.length : Int) := by omega
                clear hr1 hx hdrop
                obtain ⟨jx, ax⟩ := x
                have r1 : wy.rangeAt b1 (o1 + j * 2) [.int .i64 jx, .int .i64 ax] := r1
                go_wp2_with (refine wpList_load_mid rfl 45 _ rfl b1 (o1 + j * 2) rfl [.int .i64 jx, .int .i64 ax] _ r1 Tryd.underlying45 rfl size_task ?_)
                refine HIS.out.mono ?_
                rintro e w5 ⟨rfl, hb5⟩
                have r5 := rangeAt_below HR.out hb5 hlt1
                have hbl5 := hbl.trans (hb5.mono hbl.size)
                have c0 : w5.cell? ⟨b1, o1 + j * 2, none⟩ = some (.int .i64 jx) := r5 0 _ rfl
                have c1 : w5.cell? ⟨b1, o1 + j * 2 + 1, none⟩ = some (.int .i64 ax) := r5 1 _ rfl
                have HC0 := Lib.hid c0
                have HC1 := Lib.hid c1
                clear r1 r5 hb5
                cases hin : D.any (Tsk.beq ⟨jx, ax⟩) with
                | false =>
                  have HS : Hid (((C.drop (j + 1)).filter fun x => D.any (Tsk.beq x)).Sublist (D.drop kk)) := by
                    have := hsub.out
                    rw [HDR.out] at this
                    show List.Sublist _ _
                    simpa [List.filter, hin] using this
                  clear hin hsub c0 c1
                  go_wp2_with fail
                  go_roundw
                  case rel => exact ⟨j + 1, kk, _, rfl, by omega, by omega, by go_num, rfl, HS, hbl5⟩
                  case measure => simp [intOf]; omega
                | true =>
                  have HS : Hid ((⟨jx, ax⟩ :: (C.drop (j + 1)).filter fun x => D.any (Tsk.beq x)).Sublist (D.drop kk)) := by
                    have := hsub.out
                    rw [HDR.out] at this
                    show List.Sublist _ _
                    simpa [List.filter, hin] using this
                  clear hin hsub c0 c1
                  go_wp2_with fail
                  go_loopw [8] (fun s8 wx => ∃ (kk : Nat) (wz : World), wz = wx ∧ kk ≤ D.length ∧ s8 = .int .i64 kk ∧ Hid ((⟨jx, ax⟩ :: (C.drop (j + 1)).filter fun x => D.any (Tsk.beq x)).Sublist (D.drop kk)) ∧ Below w5.heap.size w5 wz) (fun s8 _ => D.length - (intOf s8).toNat)
                  case atStart => exact ⟨kk, _, rfl, hkk, rfl, HS, Below.refl _ _⟩
                  case round =>
                    clear HS hkk
                    obtain ⟨kk, wz, rfl, hkk, rfl, hsub, hbz⟩ := hrel
                    have hkl : kk < D.length := by
                      have h0 := hsub.out.length_le
                      rw [List.length_cons, List.length_drop] at h0
                      omega
                    obtain ⟨b6, o6, hA6, hbb6, hr6⟩ := HR6.out.2 (by omega)
                    subst hA6
                    obtain ⟨z, hz⟩ : ∃ z, D[kk]? = some z := ⟨_, List.getElem?_eq_getElem hkl⟩
                    have hbyz := hbl5.trans (hbz.mono hbl5.size)
                    have r6 := rangeAt_below (hr6 kk z hz) hbyz hbb6
                    have hdz : D.drop kk = z :: D.drop (kk + 1) := by
                      rw [List.drop_eq_getElem_cons hkl]
                      congr 1
                      exact Option.some.inj ((List.getElem?_eq_getElem hkl).symm.trans hz)
                    have HDZ := Lib.hid hdz
                    have hb15 : b1 < w5.heap.size := Nat.lt_of_lt_of_le hbb1 hbl5.size
                    have c0 := (hbz.cell (p := ⟨b1, o1 + j * 2, none⟩) hb15).trans HC0.out
                    have c1 := (hbz.cell (p := ⟨b1, o1 + j * 2 + 1, none⟩) hb15).trans HC1.out
                    obtain ⟨jz, az⟩ := z
                    have e0 : wz.cell? ⟨b6, o6 + kk * 2, none⟩ = some (.int .i64 jz) := r6 0 _ rfl
                    have e1 : wz.cell? ⟨b6, o6 + kk * 2 + 1, none⟩ = some (.int .i64 az) := r6 1 _ rfl
                    have hne := fun w => task_neq jz az jx ax w
                    have hgd := task_guard .neq
                    have hkd : (kk : Int) < (D.length : Int) := by omega
                    clear hr6 hz hdz r6
                    cases hq : (jz == jx && az == ax) with
                    | true =>
                      have HS : Hid (((C.drop (j + 1)).filter fun x => D.any (Tsk.beq x)).Sublist (D.drop kk)) := by
                        have := hsub.out
                        rw [HDZ.out] at this ⊢
                        simp at hq
                        obtain ⟨rfl, rfl⟩ := hq
                        exact (List.cons_sublist_cons.1 this).cons _
                      rw [hq] at hne
                      have hkne : ((kk : Int) == (D.length : Int)) = false := by simp; omega
                      clear hq hsub
                      go_wp2_with fail
                      go_quiet (fail)
                      go_wp2_with fail
                      go_roundw
                      case rel => exact ⟨j + 1, kk, _, rfl, by omega, by omega, by go_num, rfl, HS, below_drewN' hbyz⟩
                      case measure => simp [intOf]; omega
                    | false =>
                      have HS : Hid ((⟨jx, ax⟩ :: (C.drop (j + 1)).filter fun x => D.any (Tsk.beq x)).Sublist (D.drop (kk + 1))) := by
                        have := hsub.out
                        rw [HDZ.out] at this
                        generalize ((C.drop (j + 1)).filter fun x => D.any (Tsk.beq x)) = F at this ⊢
                        generalize D.drop (kk + 1) = G at this ⊢
                        show List.Sublist _ _
                        cases this with
                        | cons _ h => exact h
                        | cons_cons _ h => simp at hq
                      rw [hq] at hne
                      clear hq hsub
                      go_wp2_with fail
                      go_quiet (fail)
                      go_wp2_with fail
                      go_roundw
                      case rel => exact ⟨kk + 1, _, rfl, by omega, by go_num, HS, below_drewN' hbz⟩
                      case measure => simp [intOf]; omega
              · obtain rfl : j = C.length := by omega
                have T6 := Lib.hid (T4.out.below hbl)
                have hn1 := HNEXT.out
                have HOWN := Lib.hid (own_below hn1.1 hbl)
                have HSQ := Lib.hid hn1.2
                clear hsub hn1
                go_wp2_with fail
                go_roundw
                case rel => exact ⟨k + 1, LL, D, _, _, _, _, rfl, by omega, by omega, by go_num, rfl, T6.out.q, HBS.out, by omega, by rw [HD.out], HOWN.out, HSQ.out, T6.out.b⟩
                case measure => simp [intOf]; omega
          · have n5 : (kd == 5) = false := by simpa using hk5
            go_wp2_with fail
            refine (push_any Er w1.heap.size w1.heap.size L v ⟨j0, a0⟩ bd W8 (Nat.le_of_lt T8.out.q.lt) (HE2.out W8 T8.out.b) (show Hid _ from T8.out.q) HBS0.out (by omega)).mono ?_
            rintro e W9 ⟨rfl, vv, hq9, hs9⟩
            have T9 := Lib.hid (T8.out.qstep hq9 hs9)
            clear g0 g1 g2 g3 hq9 hs9
            have g0 := T9.out.x0
            have g1 := T9.out.x1
            have g2 := T9.out.x2
            have g3 := T9.out.x3
            have HBS := Lib.hid (HBS0.out.push ⟨j0, a0⟩ bd)
            have HLN := Lib.hid (show (pushL L ⟨j0, a0⟩ bd).length ≤ k + 1 from Nat.le_trans (pushL_len _ _ _) (by omega))
            have HKP := Lib.hid (HCC.out ▸ keeps_push L ⟨j0, a0⟩ bd)
            go_wp2_with fail
            have TT := T9
            obtain ⟨LL, hLL⟩ : ∃ z, z = pushL L ⟨j0, a0⟩ bd := ⟨_, rfl⟩
            rw [← hLL] at TT HBS HLN HKP
            have hLN := HLN.out
            have HLC := Lib.hid (len_rows HBS.out)
            obtain ⟨D, hD⟩ : ∃ z, z = catT (rowsOf LL) 3 := ⟨_, rfl⟩
            have HD := Lib.hid hD
            rw [← hD] at HLC HKP
            have hDl : D.length ≤ 61 := by rw [HLC.out]; omega
            clear hLL g0 g1 g2 g3 T9 hD
            have HLIST := Lib.hid (qlist_c w1.heap.size w1.heap.size (rowsOf LL) W9 (show Hid _ from ⟨_, TT.out.q⟩) (by rw [← HD.out]; omega))
            rw [← HD.out] at HLIST
            refine HLIST.out.mono ?_
            rintro e y4 ⟨v6, rfl, hown6, hb4⟩
            have T4 := Lib.hid (TT.out.below hb4)
            obtain ⟨A6, c6, hv6, _, hrd6⟩ := own_rows (l := D) Tsk.k2 hown6 rfl
            subst hv6
            have HR6 := Lib.hid hrd6
            have HR1 : Hid (RdRows y4 y4.heap.size Tsk.cells 2 A1 C.length C) := T4.out.rd
            have HNEXT : Hid (y4.ownsRow w1.heap.size 45 2 (.slice A6 D.length c6) D.length (flatOf Tsk.cells D) ∧ ∀ g, (Value.slice A6 D.length c6).ownBlock = some g → g ≠ w1.heap.size ∧ ∀ i, i < 3 → (vv i).ownBlock ≠ some g) := ⟨hown6.mono (Nat.le_of_lt TT.out.q.lt), fun g hg => by
              have h1 := (hown6.lt g hg).1
              have h2 := TT.out.q.lt
              exact ⟨by omega, fun i hi e => by have := ((TT.out.q.row i hi).lt g e).2; omega⟩⟩
            have hCl := HC.out
            clear hown6 hrd6 HLIST
            go_wp2_with fail
            go_loopw [8, 9] (fun s8 s9 wx => ∃ (j kk : Nat) (wy : World), wy = wx ∧ j ≤ C.length ∧ kk ≤ D.length ∧ s9 = .int .i64 j ∧ s8 = .int .i64 kk ∧ Hid (((C.drop j).filter fun x => D.any (Tsk.beq x)).Sublist (D.drop kk)) ∧ Below y4.heap.size y4 wy) (fun _ s9 _ => C.length - (intOf s9).toNat)
            case atStart => exact ⟨0, 0, _, rfl, by omega, by omega, rfl, rfl, HKP.out, Below.refl _ _⟩
            case round =>
              obtain ⟨j, kk, wy, rfl, hj, hkk, rfl, rfl, hsub, hbl⟩ := hrel
              by_cases hlt : j < C.length
              · obtain ⟨b1, o1, hA1, hbb1, hr1⟩ := HR1.out.2 (by omega)
                subst hA1
                obtain ⟨x, hx⟩ : ∃ x, C[j]? = some x := ⟨_, List.getElem?_eq_getElem hlt⟩
                have r1 := rangeAt_below (hr1 j x hx) hbl hbb1
                have HR := Lib.hid r1
                have hlt1 : b1 < wy.heap.size := Nat.lt_of_lt_of_le hbb1 hbl.size
                have hdrop : C.drop j = x :: C.drop (j + 1) := by
                  rw [List.drop_eq_getElem_cons hlt]
                  congr 1
                  exact Option.some.inj ((List.getElem?_eq_getElem hlt).symm.trans hx)
                have HDR := Lib.hid hdrop
                have HIS := Lib.hid (qis_c w1.heap.size w1.heap.size (rowsOf LL) x wy (show Hid _ from ⟨_, T4.out.q.below hbl⟩) (by rw [← HD.out]; omega))
                rw [← HD.out] at HIS
                have hjl : (j : Int) < (C.length : Int) := by omega
                clear hr1 hx hdrop
                obtain ⟨jx, ax⟩ := x
                have r1 : wy.rangeAt b1 (o1 + j * 2) [.int .i64 jx, .int .i64 ax] := r1
                go_wp2_with (refine wpList_load_mid rfl 45 _ rfl b1 (o1 + j * 2) rfl [.int .i64 jx, .int .i64 ax] _ r1 Tryd.underlying45 rfl size_task ?_)
                refine HIS.out.mono ?_
                rintro e w5 ⟨rfl, hb5⟩
                have r5 := rangeAt_below HR.out hb5 hlt1
                have hbl5 := hbl.trans (hb5.mono hbl.size)
                have c0 : w5.cell? ⟨b1, o1 + j * 2, none⟩ = some (.int .i64 jx) := r5 0 _ rfl
                have c1 : w5.cell? ⟨b1, o1 + j * 2 + 1, none⟩ = some (.int .i64 ax) := r5 1 _ rfl
                have HC0 := Lib.hid c0
                have HC1 := Lib.hid c1
                clear r1 r5 hb5
                cases hin : D.any (Tsk.beq ⟨jx, ax⟩) with
                | false =>
                  have HS : Hid (((C.drop (j + 1)).filter fun x => D.any (Tsk.beq x)).Sublist (D.drop kk)) := by
                    have := hsub.out
                    rw [HDR.out] at this
                    show List.Sublist _ _
                    simpa [List.filter, hin] using this
                  clear hin hsub c0 c1
                  go_wp2_with fail
                  go_roundw
                  case rel => exact ⟨j + 1, kk, _, rfl, by omega, by omega, by go_num, rfl, HS, hbl5⟩
                  case measure => simp [intOf]; omega
                | true =>
                  have HS : Hid ((⟨jx, ax⟩ :: (C.drop (j + 1)).filter fun x => D.any (Tsk.beq x)).Sublist (D.drop kk)) := by
                    have := hsub.out
                    rw [HDR.out] at this
                    show List.Sublist _ _
                    simpa [List.filter, hin] using this
                  clear hin hsub c0 c1
                  go_wp2_with fail
                  go_loopw [8] (fun s8 wx => ∃ (kk : Nat) (wz : World), wz = wx ∧ kk ≤ D.length ∧ s8 = .int .i64 kk ∧ Hid ((⟨jx, ax⟩ :: (C.drop (j + 1)).filter fun x => D.any (Tsk.beq x)).Sublist (D.drop kk)) ∧ Below w5.heap.size w5 wz) (fun s8 _ => D.length - (intOf s8).toNat)
                  case atStart => exact ⟨kk, _, rfl, hkk, rfl, HS, Below.refl _ _⟩
                  case round =>
                    clear HS hkk
                    obtain ⟨kk, wz, rfl, hkk, rfl, hsub, hbz⟩ := hrel
                    have hkl : kk < D.length := by
                      have h0 := hsub.out.length_le
                      rw [List.length_cons, List.length_drop] at h0
                      omega
                    obtain ⟨b6, o6, hA6, hbb6, hr6⟩ := HR6.out.2 (by omega)
                    subst hA6
                    obtain ⟨z, hz⟩ : ∃ z, D[kk]? = some z := ⟨_, List.getElem?_eq_getElem hkl⟩
                    have hbyz := hbl5.trans (hbz.mono hbl5.size)
                    have r6 := rangeAt_below (hr6 kk z hz) hbyz hbb6
                    have hdz : D.drop kk = z :: D.drop (kk + 1) := by
                      rw [List.drop_eq_getElem_cons hkl]
                      congr 1
                      exact Option.some.inj ((List.getElem?_eq_getElem hkl).symm.trans hz)
                    have HDZ := Lib.hid hdz
                    have hb15 : b1 < w5.heap.size := Nat.lt_of_lt_of_le hbb1 hbl5.size
                    have c0 := (hbz.cell (p := ⟨b1, o1 + j * 2, none⟩) hb15).trans HC0.out
                    have c1 := (hbz.cell (p := ⟨b1, o1 + j * 2 + 1, none⟩) hb15).trans HC1.out
                    obtain ⟨jz, az⟩ := z
                    have e0 : wz.cell? ⟨b6, o6 + kk * 2, none⟩ = some (.int .i64 jz) := r6 0 _ rfl
                    have e1 : wz.cell? ⟨b6, o6 + kk * 2 + 1, none⟩ = some (.int .i64 az) := r6 1 _ rfl
                    have hne := fun w => task_neq jz az jx ax w
                    have hgd := task_guard .neq
                    have hkd : (kk : Int) < (D.length : Int) := by omega
                    clear hr6 hz hdz r6
                    cases hq : (jz == jx && az == ax) with
                    | true =>
                      have HS : Hid (((C.drop (j + 1)).filter fun x => D.any (Tsk.beq x)).Sublist (D.drop kk)) := by
                        have := hsub.out
                        rw [HDZ.out] at this ⊢
                        simp at hq
                        obtain ⟨rfl, rfl⟩ := hq
                        exact (List.cons_sublist_cons.1 this).cons _
                      rw [hq] at hne
                      have hkne : ((kk : Int) == (D.length : Int)) = false := by simp; omega
                      clear hq hsub
                      go_wp2_with fail
                      go_quiet (fail)
                      go_wp2_with fail
                      go_roundw
                      case rel => exact ⟨j + 1, kk, _, rfl, by omega, by omega, by go_num, rfl, HS, below_drewN' hbyz⟩
                      case measure => simp [intOf]; omega
                    | false =>
                      have HS : Hid ((⟨jx, ax⟩ :: (C.drop (j + 1)).filter fun x => D.any (Tsk.beq x)).Sublist (D.drop (kk + 1))) := by
                        have := hsub.out
                        rw [HDZ.out] at this
                        generalize ((C.drop (j + 1)).filter fun x => D.any (Tsk.beq x)) = F at this ⊢
                        generalize D.drop (kk + 1) = G at this ⊢
                        show List.Sublist _ _
                        cases this with
                        | cons _ h => exact h
                        | cons_cons _ h => simp at hq
                      rw [hq] at hne
                      clear hq hsub
                      go_wp2_with fail
                      go_quiet (fail)
                      go_wp2_with fail
                      go_roundw
                      case rel => exact ⟨kk + 1, _, rfl, by omega, by go_num, HS, below_drewN' hbz⟩
                      case measure => simp [intOf]; omega
              · obtain rfl : j = C.length := by omega
                have T6 := Lib.hid (T4.out.below hbl)
                have hn1 := HNEXT.out
                have HOWN := Lib.hid (own_below hn1.1 hbl)
                have HSQ := Lib.hid hn1.2
                clear hsub hn1
                go_wp2_with fail
                go_roundw
                case rel => exact ⟨k + 1, LL, D, _, _, _, _, rfl, by omega, by omega, by go_num, rfl, T6.out.q, HBS.out, by omega, by rw [HD.out], HOWN.out, HSQ.out, T6.out.b⟩
                case measure => simp [intOf]; omega
      · have hk1 : (k : Int) < (len : Int) := by omega
        have hk2 : ¬ (k : Int) < 60 := by omega
        clear hqv hbs hown hsq hC
        go_wp2_with fail
        go_ret
        exact ⟨rfl, hbl⟩
    · have hk1 : ¬ (k : Int) < (len : Int) := by omega
      clear hqv hbs hown hsq hC
      go_wp2_with fail
      go_ret
      exact ⟨rfl, hbl⟩
end Go.Proofs.YtkinbidpbgkaoaaDoor
