/-
  queue: the document's queue: Cut, List.
-/
import Derived.Test.YtkinbidpbgkaoaaDoorQueJ
import Derived.Test.YtkinbidpbgkaoaaDoorDeqA
import Derived.Deep.Onto
namespace Go.Proofs.YtkinbidpbgkaoaaDoor
open Go.RowKit
set_option linter.unusedVariables false

def cutP (t : Tsk) (job : Bool) (x : Ent) : Bool := !(Tsk.beq x.tsk t) && (!job || !(x.job == t.job))
set_option maxRecDepth 100000 in
set_option maxHeartbeats 1000000 in
theorem rcut_c (B r : Nat) (L : List Ent) (v : Value) (t : Tsk) (job : Bool) (w : World) (hB : B ≤ w.heap.size) (h : Hid (RV w B r L v)) (hN : L.length ≤ 100000) :
    Calls Tryd.prog 21 #[.pointer (some ⟨r, 0, none⟩), .agg t.cells.toArray, .bool job] w fun e w' => e = .returned (.int .i64 ((L.length : Int) - ((L.filter (cutP t job)).length : Int))) ∧ ∃ v', RV w' B r (L.filter (cutP t job)) v' ∧ RStep w w' B := by
  obtain ⟨i0, hi, hz0, hz1, hz2⟩ := info_parts info_ent
  obtain ⟨A, c, rfl, hLc, hrd⟩ := own_rows Ent.k3 h.out.row rfl
  have hr := h.out.lt
  have cq : w.cell? ⟨r, 0, none⟩ = some (.slice A L.length c) := cell_of_row w r 0 _ _ _ h.out.cells
  have HFR : Hid (∀ w2 nv n, Below w.heap.size w w2 → n = (L.filter (cutP t job)).length → w2.ownsRow w.heap.size 107 3 nv n (flatOf Ent.cells (L.filter (cutP t job))) → ∃ v', RV (w2.setCell ⟨r, 0, none⟩ nv) B r (L.filter (cutP t job)) v' ∧ RStep w (w2.setCell ⟨r, 0, none⟩ nv) B) := fun w2 nv n hb hn ho => by
    subst hn
    exact ⟨_, h.out.put (grown_of_below hb _) (ho.mono hB)⟩
  have HR := Lib.hid hrd
  have hfr : w.frozen? ⟨r, 0, none⟩ = false := by simp [World.frozen?, h.out.cells]
  have HT : Hid (∀ x, cutP t job x = (!(x.job == t.job && x.at_ == t.at_) && (!job || !(x.job == t.job)))) := fun x => rfl
  have hfl : (L.filter (cutP t job)).length ≤ L.length := List.length_filter_le _ _
  generalize cutP t job = P at HFR HT hfl ⊢
  clear hrd
  obtain ⟨j0, a0⟩ := t
  simp only [Tsk.cells] at *
  obtain ⟨W, hW⟩ : ∃ W : World, W = w.alloc (.cells #[.int .i64 j0, .int .i64 a0] 45) := ⟨_, rfl⟩
  have hbW : Below w.heap.size w W := by rw [hW]; exact (Below.refl _ w).alloc (Nat.le_refl _) _
  have hltW : w.heap.size < W.heap.size := by rw [hW]; simp
  have hblk : W.heap[w.heap.size]? = some (.cells #[.int .i64 j0, .int .i64 a0] 45 (0, 0)) := by rw [hW]; exact alloc_new' rfl
  have HW := Lib.hid hW
  clear hW
  go_enter Tryd.func21, Tryd.ntmps21
  go_wp2_with fail
  rw [← HW.out]
  go_loopw [7, 8, 9] (fun s7 s8 _ wr => ∃ kk : Nat, kk ≤ L.length ∧ s8 = .int .i64 kk ∧ wr.ownsRow W.heap.size 107 3 s7 ((L.take kk).filter P).length (flatOf Ent.cells ((L.take kk).filter P)) ∧ Below W.heap.size W wr) (fun _ s8 _ _ => L.length - (intOf s8).toNat)
  case atStart => exact ⟨0, Nat.zero_le _, rfl, by have hs : w.heap.size + 1 = W.heap.size := by rw [HW.out]; simp
                                                   rw [hs]; simpa [flatOf] using own_empty (w := W) (e := 107) (size := 3) (Nat.le_refl _), below_grow W _⟩
  case round =>
    obtain ⟨kk, hkk, rfl, hown, hbl⟩ := hrel
    have hbw : Below w.heap.size w wr := hbW.trans (hbl.mono hbW.size)
    have cr := (hbw.cell (p := ⟨r, 0, none⟩) hr).trans cq
    by_cases hlt : kk < L.length
    · obtain ⟨b, off, rfl, hb, hrows⟩ := HR.out.2 (by omega)
      obtain ⟨x, hx⟩ : ∃ x, L[kk]? = some x := ⟨_, List.getElem?_eq_getElem (by omega)⟩
      have r1 := rangeAt_below (hrows kk x hx) hbw hb
      have hblk2 := (hbl.block w.heap.size hltW).trans hblk
      have hszr := hbl.size
      have g0 := cell_of_row wr w.heap.size 0 _ _ _ hblk2
      have g1 := cell_of_row wr w.heap.size 1 _ _ _ hblk2
      simp only [List.getElem?_toArray, List.getElem?_cons_zero, List.getElem?_cons_succ] at g0 g1
      have htk := Lib.hid (take_snoc' L kk x hx)
      have hfk : ((L.take kk).filter P).length ≤ kk := Nat.le_trans (List.length_filter_le _ _) (by simp; omega)
      obtain ⟨j1, a1, b1⟩ := x
      have hPx := HT.out ⟨j1, a1, b1⟩
      dsimp only at hPx
      have hne := fun w => task_neq j1 a1 j0 a0 w
      have hgd := task_guard .neq
      have hwne : ¬ w.heap.size = wr.heap.size := by omega
      have g0' : (wr.alloc (.cells #[.int .i64 j1, .int .i64 a1, .int .i64 b1] 107)).cell? ⟨w.heap.size, 0, none⟩ = some (.int .i64 j0) := Lib.cell?_alloc_some _ g0
      have g1' : (wr.alloc (.cells #[.int .i64 j1, .int .i64 a1, .int .i64 b1] 107)).cell? ⟨w.heap.size, 1, none⟩ = some (.int .i64 a0) := Lib.cell?_alloc_some _ g1
      clear hrows hx hblk2
      cases hq : (j1 == j0 && a1 == a0) with
      | true =>
        have HP : Hid ([(⟨j1, a1, b1⟩ : Ent)].filter P = []) := by show _ = _; simp [List.filter, hPx, hq]
        rw [hq] at hne
        clear hPx hq
        go_wp2_with (refine wpList_load_mid rfl 107 _ rfl b (off + kk * 3) rfl [.int .i64 j1, .int .i64 a1, .int .i64 b1] _ r1 Tryd.underlying107 rfl size_ent ?_)
        go_roundw
        case rel => exact ⟨kk + 1, by omega, by go_num, by rw [htk.out, List.filter_append, HP.out, List.append_nil]; exact hown.alloc _, hbl.alloc hszr _⟩
        case measure => simp [intOf]; omega
      | false =>
        rw [hq] at hne hPx
        cases job with
        | false =>
          have HP : Hid ([(⟨j1, a1, b1⟩ : Ent)].filter P = [⟨j1, a1, b1⟩]) := by show _ = _; simp [List.filter, hPx]
          clear hPx hq
          go_wp2_with (first
            | (refine wpList_load_mid rfl 107 _ rfl b (off + kk * 3) rfl [.int .i64 j1, .int .i64 a1, .int .i64 b1] _ r1 Tryd.underlying107 rfl size_ent ?_)
            | (at_builtin; refine wpList_app1 rfl _ _ 53 rfl W.heap.size 107 i0 (.agg #[.int .i64 0, .int .i64 0, .int .i64 0]) 3 24 Tryd.underlying53 hi hz0 hz1 hz2 rfl (by decide) _ _ _ rfl (hown.alloc _) _ _ rfl ?ca0 ?ca1 ?ca2 ?ca3 ?ca4 ?ca5 ?_))
          case ca0 => simp
          case ca1 => rfl
          case ca2 => simp [Value.oneCell']
          case ca3 => unfold maxLen; omega
          case ca4 => omega
          case ca5 => simp; omega
          intro v' w4 hown' hg4 _
          have hbl4 := below_app (hbl.alloc hszr (.cells #[.int .i64 j1, .int .i64 a1, .int .i64 b1] 107)) (by simp; omega) (Nat.le_refl _) (hown.alloc _) hg4
          clear hown hbl hg4 r1
          go_wp2_with fail
          go_roundw
          case rel => exact ⟨kk + 1, by omega, by go_num, by rw [htk.out, List.filter_append, List.length_append, flatOf_append, HP.out]; exact hown', hbl4⟩
          case measure => simp [intOf]; omega
        | true =>
          cases hj : (j1 == j0) with
          | true =>
            have HP : Hid ([(⟨j1, a1, b1⟩ : Ent)].filter P = []) := by show _ = _; simp [List.filter, hPx, hj]
            have hjj : (j1 != j0) = false := by simpa using hj
            clear hPx hq hj
            go_wp2_with (refine wpList_load_mid rfl 107 _ rfl b (off + kk * 3) rfl [.int .i64 j1, .int .i64 a1, .int .i64 b1] _ r1 Tryd.underlying107 rfl size_ent ?_)
            go_roundw
            case rel => exact ⟨kk + 1, by omega, by go_num, by rw [htk.out, List.filter_append, HP.out, List.append_nil]; exact hown.alloc _, hbl.alloc hszr _⟩
            case measure => simp [intOf]; omega
          | false =>
            have HP : Hid ([(⟨j1, a1, b1⟩ : Ent)].filter P = [⟨j1, a1, b1⟩]) := by show _ = _; simp [List.filter, hPx, hj]
            have hjj : (j1 != j0) = true := by simpa using hj
            clear hPx hq hj
            go_wp2_with (first
              | (refine wpList_load_mid rfl 107 _ rfl b (off + kk * 3) rfl [.int .i64 j1, .int .i64 a1, .int .i64 b1] _ r1 Tryd.underlying107 rfl size_ent ?_)
              | (at_builtin; refine wpList_app1 rfl _ _ 53 rfl W.heap.size 107 i0 (.agg #[.int .i64 0, .int .i64 0, .int .i64 0]) 3 24 Tryd.underlying53 hi hz0 hz1 hz2 rfl (by decide) _ _ _ rfl (hown.alloc _) _ _ rfl ?ca0 ?ca1 ?ca2 ?ca3 ?ca4 ?ca5 ?_))
            case ca0 => simp
            case ca1 => rfl
            case ca2 => simp [Value.oneCell']
            case ca3 => unfold maxLen; omega
            case ca4 => omega
            case ca5 => simp; omega
            intro v' w4 hown' hg4 _
            have hbl4 := below_app (hbl.alloc hszr (.cells #[.int .i64 j1, .int .i64 a1, .int .i64 b1] 107)) (by simp; omega) (Nat.le_refl _) (hown.alloc _) hg4
            clear hown hbl hg4 r1
            go_wp2_with fail
            go_roundw
            case rel => exact ⟨kk + 1, by omega, by go_num, by rw [htk.out, List.filter_append, List.length_append, flatOf_append, HP.out]; exact hown', hbl4⟩
            case measure => simp [intOf]; omega
    · obtain rfl : kk = L.length := by omega
      have htk : L.take L.length = L := List.take_of_length_le (by omega)
      rw [htk] at hown
      obtain ⟨nv, nc, rfl⟩ := own_len hown
      have hfr2 : wr.frozen? ⟨r, 0, none⟩ = false := by
        simp only [World.frozen?, hbw.block r hr]
        exact hfr
      have HOWN : Hid (wr.ownsRow w.heap.size 107 3 (.slice nv (L.filter P).length nc) (L.filter P).length (flatOf Ent.cells (L.filter P))) := hown.mono (Nat.le_of_lt hltW)
      generalize hn : (L.filter P).length = n2 at *
      clear htk hown
      go_wp2_with fail
      go_ret
      exact ⟨by rw [hn]; rfl, HFR.out wr _ _ hbw rfl HOWN.out⟩
/-- The document's rows by band. -/
def rowsOf (L : List Ent) : Nat → List Tsk := fun b => (L.filter (fun x => x.band == (b : Int))).map Ent.tsk
set_option maxRecDepth 100000 in
set_option maxHeartbeats 1000000 in
theorem rlist_c (B r : Nat) (L : List Ent) (w : World) (h : Hid (RAt w B r L)) (hN : L.length ≤ 100000) :
    Calls Tryd.prog 28 #[.pointer (some ⟨r, 0, none⟩)] w fun e w' => ∃ v, e = .returned v ∧ w'.ownsRow w.heap.size 45 2 v (catT (rowsOf L) 3).length (flatOf Tsk.cells (catT (rowsOf L) 3)) ∧ Below w.heap.size w w' := by
  obtain ⟨i0, hi, hz0, hz1, hz2⟩ := info_parts info_task
  obtain ⟨v, hv⟩ := h.out
  obtain ⟨A, c, rfl, hLc, hrd⟩ := own_rows Ent.k3 hv.row rfl
  have hr := hv.lt
  have cq : w.cell? ⟨r, 0, none⟩ = some (.slice A L.length c) := cell_of_row w r 0 _ _ _ hv.cells
  have HR := Lib.hid hrd
  have hlen : ∀ b, (rowsOf L b).length ≤ L.length := fun b => by unfold rowsOf; rw [List.length_map]; exact List.length_filter_le _ _
  have hcl : ∀ b, (catT (rowsOf L) b).length ≤ b * L.length := fun b => by
    induction b with
    | zero => simp [catT]
    | succ b ih => rw [catT_len, Nat.succ_mul]; have := hlen b; omega
  clear hv hrd
  go_enter Tryd.func28, Tryd.ntmps28
  go_wp2_with fail
  go_loopw [3, 4, 5] (fun s3 s4 _ wr => ∃ b : Nat, b ≤ 3 ∧ s4 = .int .i64 b ∧ wr.ownsRow w.heap.size 45 2 s3 (catT (rowsOf L) b).length (flatOf Tsk.cells (catT (rowsOf L) b)) ∧ Below w.heap.size w wr) (fun _ s4 _ _ => 3 - (intOf s4).toNat)
  case atStart => exact ⟨0, by omega, rfl, own_empty (Nat.le_refl _), below_grow w _⟩
  case round =>
    obtain ⟨b, hb, rfl, hown, hbl⟩ := hrel
    by_cases hb3 : b < 3
    · have hb3' : (b : Int) < 3 := by omega
      have hcb := hcl b
      have HB := Lib.hid hcb
      have hcat := Lib.hid (show catT (rowsOf L) (b + 1) = catT (rowsOf L) b ++ rowsOf L b from rfl)
      have hrow := Lib.hid (show rowsOf L b = (L.filter (fun x => x.band == (b : Int))).map Ent.tsk from rfl)
      have h3L : b * L.length ≤ 2 * L.length := Nat.mul_le_mul_right _ (by omega)
      have hcb2 : (catT (rowsOf L) b).length ≤ 200000 := by omega
      generalize catT (rowsOf L) b = C at hcat hown hcb2
      clear hcb
      go_wp2_with fail
      go_loopw [3, 5] (fun s3 s5 wy => ∃ kk : Nat, kk ≤ L.length ∧ s5 = .int .i64 kk ∧ wy.ownsRow w.heap.size 45 2 s3 (C ++ ((L.take kk).filter (fun x => x.band == (b : Int))).map Ent.tsk).length (flatOf Tsk.cells (C ++ ((L.take kk).filter (fun x => x.band == (b : Int))).map Ent.tsk)) ∧ Below w.heap.size w wy) (fun _ s5 _ => L.length - (intOf s5).toNat)
      case atStart => exact ⟨0, Nat.zero_le _, rfl, by simpa using hown, hbl⟩
      case round =>
        obtain ⟨kk, hkk, rfl, hown, hbl⟩ := hrel
        have cr := (hbl.cell (p := ⟨r, 0, none⟩) hr).trans cq
        by_cases hlt : kk < L.length
        · obtain ⟨bb, off, rfl, hbb, hrows⟩ := HR.out.2 (by omega)
          obtain ⟨x, hx⟩ : ∃ x, L[kk]? = some x := ⟨_, List.getElem?_eq_getElem (by omega)⟩
          have r1 := rangeAt_below (hrows kk x hx) hbl hbb
          have hszr := hbl.size
          have htk := Lib.hid (take_snoc' L kk x hx)
          have hfk : ((L.take kk).filter (fun x => x.band == (b : Int))).length ≤ kk := Nat.le_trans (List.length_filter_le _ _) (by simp; omega)
          obtain ⟨j1, a1, b1⟩ := x
          have r2 : wr.rangeAt bb (off + kk * 3) [.int .i64 j1, .int .i64 a1] := fun j u hj => r1 j u (by
            match j, hj with
            | 0, hj => exact hj
            | 1, hj => exact hj)
          have c2 : wr.cell? ⟨bb, off + kk * 3 + 2, none⟩ = some (.int .i64 b1) := r1 2 _ rfl
          have hsn : ∀ q, (b1 == (b : Int)) = q → ((L.take (kk + 1)).filter (fun x => x.band == (b : Int))).map Ent.tsk = ((L.take kk).filter (fun x => x.band == (b : Int))).map Ent.tsk ++ (if q then [⟨j1, a1⟩] else []) := fun q hq => by
            rw [htk.out, List.filter_append, List.map_append]
            cases q <;> simp [List.filter, hq, Ent.tsk]
          have HSN := Lib.hid hsn
          have hM : (((L.take kk).filter (fun x => x.band == (b : Int))).map Ent.tsk).length ≤ kk := by rw [List.length_map]; exact hfk
          generalize ((L.take kk).filter (fun x => x.band == (b : Int))).map Ent.tsk = M at HSN hown hM
          clear hrows hx r1 hsn htk hfk
          cases hq : (b1 == (b : Int)) with
          | true =>
            have HQ := Lib.hid (HSN.out _ hq)
            have HL := Lib.hid (show (C ++ M).length ≤ 300000 by rw [List.length_append]; omega)
            go_wp2_with (first
              | (refine wpList_load_mid rfl 45 _ rfl bb (off + kk * 3) rfl [.int .i64 j1, .int .i64 a1] _ r2 Tryd.underlying45 rfl size_task ?_)
              | (at_builtin; refine wpList_app1 rfl _ _ 47 rfl w.heap.size 45 i0 (.agg #[.int .i64 0, .int .i64 0]) 2 16 Tryd.underlying47 hi hz0 hz1 hz2 rfl (by decide) _ _ _ rfl hown _ _ rfl ?ca0 ?ca1 ?ca2 ?ca3 ?ca4 ?ca5 ?_))
            case ca0 => simp
            case ca2 => simp [Value.oneCell']
            case ca3 => have := HL.out; unfold maxLen; omega
            case ca4 => have := HL.out; omega
            intro v' w4 hown' hg4 _
            have hbl4 := below_app hbl hszr (Nat.le_refl _) hown hg4
            clear hown hbl hg4
            go_wp2_with fail
            go_roundw
            case rel => exact ⟨kk + 1, by omega, by go_num, by rw [HQ.out, if_pos trivial, ← List.append_assoc, List.length_append, flatOf_append, List.length_append]; exact hown', hbl4⟩
            case measure => simp [intOf]; omega
          | false =>
            have HQ := Lib.hid (HSN.out _ hq)
            go_wp2_with fail
            go_roundw
            case rel => exact ⟨kk + 1, by omega, by go_num, by rw [HQ.out, if_neg (by simp), List.append_nil]; exact hown, hbl⟩
            case measure => simp [intOf]; omega
        · obtain rfl : kk = L.length := by omega
          rw [List.take_of_length_le (Nat.le_refl _), ← hrow.out, ← hcat.out] at hown
          have HOWN := Lib.hid hown
          clear hown
          go_wp2_with fail
          go_roundw
          case rel => exact ⟨b + 1, by omega, by go_num, HOWN.out, hbl⟩
          case measure => simp [intOf]; omega
    · obtain rfl : b = 3 := by omega
      go_wp2_with fail
      go_ret
      exact ⟨_, rfl, hown, hbl⟩
end Go.Proofs.YtkinbidpbgkaoaaDoor
