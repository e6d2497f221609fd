/-
  BookExact: the walk.
-/
import Derived.Test.YtdebldpmloignaaDoorBkc
import Derived.Test.YtdebldpmloignaaDoorBokX
import Derived.Test.YtdebldpmloignaaDoorLaidB
import Derived.Deep.CutRange
import Derived.Deep.CutBlock
namespace Go.Proofs.YtdebldpmloignaaDoor
open Go.RowKit Go.ChangeShapes Go.WideShapes Go.ChangeAt
set_option linter.unusedVariables false
set_option linter.unusedSimpArgs false

structure Bact where
  k : Int
  o : Ord
def Bact.cells (x : Bact) : List Value := [.int .i64 x.k, .int .i64 x.o.id, .int .i64 x.o.tenant, .bool x.o.sell, .int .i64 x.o.price, .int .i64 x.o.lots, .int .i64 x.o.seq]
theorem Bact.k7 (x : Bact) : x.cells.length = 7 := rfl
theorem size_bact : (Tryd.prog.info? 96).map (·.size) = some 7 := by kernel_rfl
set_option maxRecDepth 100000 in
theorem rd_of_bacts {H : Type} {enc : TypeId × Value → H} {W : World} {A : Option Addr} {n m : Nat} {d : DataW H} {p : List MemPlace} (h : DataW.Trod enc Tryd.prog W 0 (fun _ => true) true 90 (.slice A n m) d p) :
    ∃ xs : List Bact, RdRows W W.heap.size Bact.cells 7 A n xs ∧ n ≤ m ∧ m ≤ maxLen ∧ (A = none → n = 0) ∧ ∀ x ∈ xs, (fun _ => True) x := by
  have hci : Tryd.prog.cellsOf 3 = 1 := by kernel_rfl
  have hcb : Tryd.prog.cellsOf 4 = 1 := by kernel_rfl
  have hco : Tryd.prog.cellsOf 67 = 6 := by kernel_rfl
  refine rd_of_structs Tryd.underlying90 Tryd.underlying96 (by kernel_rfl) (by omega) Bact.k7 (fun _ => True) ?_ h
  intro cs fu hl hf
  match cs, hl with
  | [c0, c1, c2, c3, c4, c5, c6], _ =>
    obtain ⟨_, h0⟩ := hf 0 _ rfl
    simp [hci, hco] at h0
    obtain ⟨n0, e0, _, w0⟩ := DataW.trod_int Tryd.underlying3 h0
    simp at e0
    subst e0
    obtain ⟨_, h1⟩ := hf 1 _ rfl
    simp [hci, hco] at h1
    obtain ⟨xs, nn, _, _, _, hxl, hfl⟩ := DataW.trod_struct Tryd.underlying67 h1
    have t0 := hfl 0 _ rfl
    have t1 := hfl 1 _ rfl
    have t2 := hfl 2 _ rfl
    have t3 := hfl 3 _ rfl
    have t4 := hfl 4 _ rfl
    have t5 := hfl 5 _ rfl
    simp [hci, hcb] at t0 t1 t2 t3 t4 t5
    rw [List.getElem?_eq_getElem (by rw [hxl]; decide)] at t0 t1 t2 t3 t4 t5
    obtain ⟨n1, e1, _, w1⟩ := DataW.trod_int Tryd.underlying3 t0
    obtain ⟨n2, e2, _, w2⟩ := DataW.trod_int Tryd.underlying3 t1
    obtain ⟨n3, e3, _⟩ := DataW.trod_bool Tryd.underlying4 t2
    obtain ⟨n4, e4, _, w4⟩ := DataW.trod_int Tryd.underlying3 t3
    obtain ⟨n5, e5, _, w5⟩ := DataW.trod_int Tryd.underlying3 t4
    obtain ⟨n6, e6, _, w6⟩ := DataW.trod_int Tryd.underlying3 t5
    simp at e1 e2 e3 e4 e5 e6
    subst e1 e2 e3 e4 e5 e6
    exact ⟨⟨n0, ⟨n1, n2, n3, n4, n5, n6⟩⟩, rfl, trivial⟩
/-- The law's state: both books, the order under way. -/
structure TwoB (w W : World) (q u ob : Nat) (l : Bool → List Ord) (v : Bool → Value) (c1 : Nat) (L : List Ord) (rv : Value) (c2 : Nat) (o : Ord) : Prop where
  lo1 : w.heap.size ≤ q
  lo2 : w.heap.size ≤ u
  bq : BV W q q l v c1
  r : RV W u u L rv c2
  x : Blk W ob o.cells.toArray 67
  aw : Away q v ob
  b : Below w.heap.size w W
section
variable {w W W' : World} {q u ob c1 c2 d1 d2 : Nat} {l l' : Bool → List Ord} {v v' : Bool → Value} {L L' : List Ord} {rv rv' : Value} {o : Ord}
theorem TwoB.lt (h : TwoB w W q u ob l v c1 L rv c2 o) : ob < W.heap.size := h.x.lt
theorem TwoB.below (h : TwoB w W q u ob l v c1 L rv c2 o) (hb : Below W.heap.size W W') : TwoB w W' q u ob l v c1 L rv c2 o :=
  ⟨h.lo1, h.lo2, h.bq.below hb, h.r.below hb, h.x.below hb, h.aw, h.b.trans (hb.mono h.b.size)⟩
theorem TwoB.bstep (h : TwoB w W q u ob l v c1 L rv c2 o) (hs : BS W W' q q v l' v' d1) : TwoB w W' q u ob l' v' d1 L rv c2 o :=
  ⟨h.lo1, h.lo2, hs.out, h.r.bstep hs h.bq, hs.keep h.x h.aw, hs.away h.lt h.aw, h.b.trans (hs.below h.bq h.lo1)⟩
theorem TwoB.rstep (h : TwoB w W q u ob l v c1 L rv c2 o) (hr : RV W' u u L' rv' d2) (hs : RStep W W' u) : TwoB w W' q u ob l v c1 L' rv' d2 o :=
  ⟨h.lo1, h.lo2, h.bq.rstep hs, hr, hs.blk h.x (by decide) (by decide), h.aw, h.b.trans (hs.below.mono h.lo2)⟩
theorem TwoB.xr (h : TwoB w W q u ob l v c1 L rv c2 o) : W.rangeAt ob 0 o.cells := fun j x hj => by
  rw [Nat.zero_add]
  exact h.x.cell j x (by simpa using hj)
theorem TwoB.x0 (h : TwoB w W q u ob l v c1 L rv c2 o) : W.cell? ⟨ob, 0, none⟩ = some (.int .i64 o.id) := h.x.cell 0 _ rfl
theorem TwoB.x4 (h : TwoB w W q u ob l v c1 L rv c2 o) : W.cell? ⟨ob, 4, none⟩ = some (.int .i64 o.lots) := h.x.cell 4 _ rfl
end
set_option maxRecDepth 100000 in
set_option maxHeartbeats 8000000 in
theorem bookExact_walk (B0 : Nat) (E : Nat → Addr) (A : Option Addr) (len cap : Nat) (ds : List Bact) (w : World) (hE : Hid (Errs B0 w allKinds E)) (hB0 : B0 ≤ w.heap.size) (hz : Hid (RdRows w w.heap.size Bact.cells 7 A len ds)) (hcap : len ≤ cap) (hcm : cap ≤ maxLen) :
    Calls Tryd.prog 11 #[.slice A len cap] w fun e w' => e = .returned (.bool true) ∧ Below w.heap.size w w' := by
  have hlM : (len : Int) ≤ 9223372036854775807 := by unfold maxLen at hcm; omega
  have HER : Hid (∀ W, Below w.heap.size w W → Errs B0 W allKinds E) := fun W hb => hE.out.below (hb.mono hB0)
  have HENV : Hid (∀ W, Below w.heap.size w W → EnvK W E) := fun W hb => EnvK.of (HER.out W hb)
  have HS0 : Hid (∀ W, Below w.heap.size w W → B0 ≤ W.heap.size) := fun W hb => Nat.le_trans hB0 hb.size
  have HAW := Lib.hid (awake13_c B0 E w hE hB0)
  clear hcm hcap hE hB0
  go_enter Tryd.func11, Tryd.ntmps11
  go_wp2_with fail
  refine HAW.out.mono ?_
  rintro e w1 ⟨rfl, hb1⟩
  have HB1 := Lib.hid hb1
  clear hb1 HAW
  go_wp2_with fail
  obtain ⟨q, hq⟩ : ∃ q, q = w1.heap.size := ⟨_, rfl⟩
  have HNEW := Lib.hid (bnew_c w1)
  rw [← hq] at HNEW
  have HQ1 : Hid (w.heap.size ≤ q) := by show _ ≤ _; rw [hq]; exact HB1.out.size
  have HQ2 := Lib.hid hq
  clear hq
  refine HNEW.out.mono ?_
  rintro e w2 ⟨rfl, hv2, hb2⟩
  obtain ⟨v2, hv2e⟩ : ∃ v2 : Bool → Value, v2 = fun _ => .slice none 0 0 := ⟨_, rfl⟩
  have HV2 : Hid (BV w2 q q (fun _ => []) v2 0) := by show BV _ _ _ _ _ _; rw [hv2e]; exact hv2
  have HB2 : Hid (Below w.heap.size w w2) := HB1.out.trans (hb2.mono (Nat.le_trans HQ1.out (Nat.le_refl _)))
  clear hv2 hb2 hv2e HNEW
  obtain ⟨u, hu⟩ : ∃ u, u = w2.heap.size := ⟨_, rfl⟩
  have HU := Lib.hid hu
  obtain ⟨w3, hw3⟩ : ∃ w3, w3 = w2.alloc (.cells #[.slice none 0 0, .int .i64 0] 94) := ⟨_, rfl⟩
  have HW3 := Lib.hid hw3
  have hb3 : Below w2.heap.size w2 w3 := by rw [hw3]; exact (Below.refl _ _).alloc (Nat.le_refl _) _
  have HV3 : Hid (BV w3 q q (fun _ => []) v2 0) := HV2.out.below hb3
  have HR3 : Hid (RV w3 u u [] (.slice none 0 0) 0) := by
    show RV _ _ _ _ _ _
    rw [hw3, hu]
    exact ⟨Nat.le_refl _, Blk.new w2 _ _, ⟨rfl, .inl ⟨rfl, rfl⟩⟩⟩
  have HB3 : Hid (Below w.heap.size w w3) := HB2.out.trans (hb3.mono HB2.out.size)
  have HU1 : Hid (w.heap.size ≤ u) := by show _ ≤ _; rw [hu]; exact HB2.out.size
  clear hb3 hw3 hu HV2
  go_upto_region 5 with fail
  rw [← HW3.out, ← HU.out]
  go_wp2_with fail
  go_loopw [5] (fun s5 wx => ∃ (k came : Nat) (l : Bool → List Ord) (v : Bool → Value) (L : List Ord) (rv : Value) (wr : World), wr = wx ∧ k ≤ 60 ∧ k ≤ len ∧ s5 = .int .i64 k ∧ came ≤ k ∧ Hid (Both l came L) ∧ Hid (BV wr q q l v came) ∧ Hid (RV wr u u L rv came) ∧ Hid (Below w.heap.size w wr)) (fun s5 _ => 60 - (intOf s5).toNat)
  case atStart => exact ⟨0, 0, _, v2, [], _, _, rfl, by omega, by omega, rfl, Nat.le_refl _, Lib.hid Both.empty, HV3, HR3, HB3⟩
  case round =>
    obtain ⟨k, came, l, v, L, rv, wr, rfl, hk, hkl, rfl, hck, HBO, HV, HR, HB⟩ := hrel
    by_cases h1 : k < len
    · have hk1 : (k : Int) < (len : Int) := by omega
      by_cases h2 : k < 60
      · have hk2 : (k : Int) < 60 := by omega
        obtain ⟨b, off, rfl, hbb, hrows⟩ := hz.out.2 (by omega)
        obtain ⟨x, hx⟩ : ∃ x, ds[k]? = some x := ⟨_, List.getElem?_eq_getElem (by have := hz.out.1; omega)⟩
        have r1 := rangeAt_below (hrows k x hx) HB.out hbb
        obtain ⟨kd, oi, ott, osl, opr, olt, osq⟩ := x
        obtain ⟨OB, hOB⟩ : ∃ z : Nat, z = wr.heap.size + 1 := ⟨_, rfl⟩
        obtain ⟨W8, hW8⟩ : ∃ Z : World, Z = (wr.alloc (.cells #[.int .i64 kd, .int .i64 oi, .int .i64 ott, .bool osl, .int .i64 opr, .int .i64 olt, .int .i64 osq] 96)).alloc (.cells #[.int .i64 oi, .int .i64 ott, .bool osl, .int .i64 opr, .int .i64 olt, .int .i64 osq] 67) := ⟨_, rfl⟩
        have hb8 : Below wr.heap.size wr W8 := by rw [hW8]; exact ((Below.refl _ _).alloc (Nat.le_refl _) _).alloc (by simp) _
        have hx8 : Blk W8 OB #[.int .i64 oi, .int .i64 ott, .bool osl, .int .i64 opr, .int .i64 olt, .int .i64 osq] 67 := by
          rw [hW8, hOB]
          have := Blk.new (wr.alloc (.cells #[.int .i64 kd, .int .i64 oi, .int .i64 ott, .bool osl, .int .i64 opr, .int .i64 olt, .int .i64 osq] 96)) #[.int .i64 oi, .int .i64 ott, .bool osl, .int .i64 opr, .int .i64 olt, .int .i64 osq] 67
          simpa using this
        have hk8 : W8.cell? ⟨wr.heap.size, 0, none⟩ = some (.int .i64 kd) := by
          rw [hW8]
          exact Lib.cell?_alloc_some _ ((Blk.new wr #[.int .i64 kd, .int .i64 oi, .int .i64 ott, .bool osl, .int .i64 opr, .int .i64 olt, .int .i64 osq] 96).cell 0 _ rfl)
        have T8 : Hid (TwoB w W8 q u OB l v came L rv came ⟨oi, ott, osl, opr, olt, osq⟩) := ⟨HQ1.out, HU1.out, HV.out.below hb8, HR.out.below hb8, hx8, HV.out.away (by omega), HB.out.trans (hb8.mono HB.out.size)⟩
        have HW8 := Lib.hid hW8
        have HOE := Lib.hid hOB
        have HK8 := Lib.hid hk8
        clear hW8 hOB hb8 hx8 hrows hx hk8
        go_upto_region 10 with (refine wpList_load_mid rfl 96 _ rfl b (off + k * 7) rfl [.int .i64 kd, .int .i64 oi, .int .i64 ott, .bool osl, .int .i64 opr, .int .i64 olt, .int .i64 osq] _ r1 Tryd.underlying96 rfl size_bact ?_)
        rw [← HW8.out, ← HOE.out]
        clear r1
        have hk8 := HK8.out
        go_upto_block 2 with fail
        clear hk8
        go_cut [8, 9, 10, 11] from 31 to 194 (fun _ _ _ _ wx => ∃ (came' : Nat) (l' : Bool → List Ord) (v' : Bool → Value) (L' : List Ord) (rv' : Value) (WR : World), WR = wx ∧ came' ≤ k + 1 ∧ Hid (Both l' came' L') ∧ Hid (TwoB w WR q u OB l' v' came' L' rv' came' ⟨oi, ott, osl, opr, olt, osq⟩))
        case first =>
          have x0 := T8.out.x0
          have x4 := T8.out.x4
          by_cases hk4 : kd = 4
          · subst hk4
            as_aux_lemma =>
              go_wp2_with fail
              obtain ⟨dk, hdk0⟩ : ∃ dk, dk = dropK l oi := ⟨_, rfl⟩
              have hdk : dk ≤ 14 := by rw [hdk0]; exact dropK_le _ _
              obtain ⟨y, hy⟩ : ∃ y, y = ordO l oi := ⟨_, rfl⟩
              have HD1 := Lib.hid (drop_any E q q l v came oi W8 (Lib.hid T8.out.bq) (Lib.hid (HENV.out _ T8.out.b)) HBO.out.inv)
              rw [← hdk0, ← hy] at HD1
              have HD2 : Hid (∀ W, RV W u u L rv came → Calls Tryd.prog 55 #[.pointer (some ⟨u, 0, none⟩), .int .i64 oi] W fun e w' => e = .returned (.tuple #[.agg y.cells.toArray, .int .i64 dk]) ∧ ∃ L' v', RV w' u u L' v' came ∧ Both (dropL l oi) came L' ∧ RStep W w' u) := fun W hr => by
                have := rdrop_any u u l L rv came oi W (Nat.le_of_lt hr.lt) (Lib.hid hr) HBO.out
                rw [← hdk0, ← hy] at this
                exact this
              obtain ⟨yi, ytt, ysl, ypr, ylt, ysq⟩ := y
              simp only [Ord.cells] at HD1 HD2
              clear hdk0 hy
              refine HD1.out.mono ?_
              rintro e W9 ⟨rfl, v9, hs9⟩
              have T9a := Lib.hid (T8.out.bstep hs9)
              clear hs9 HD1 x0 x4
              obtain ⟨YB, hYB⟩ : ∃ z, z = W9.heap.size := ⟨_, rfl⟩
              obtain ⟨W9b, hW9b⟩ : ∃ z, z = W9.alloc (.cells #[.int .i64 yi, .int .i64 ytt, .bool ysl, .int .i64 ypr, .int .i64 ylt, .int .i64 ysq] 67) := ⟨_, rfl⟩
              have hby : Below W9.heap.size W9 W9b := by rw [hW9b]; exact (Below.refl _ _).alloc (Nat.le_refl _) _
              have HYB : Hid (Blk W9b YB #[.int .i64 yi, .int .i64 ytt, .bool ysl, .int .i64 ypr, .int .i64 ylt, .int .i64 ysq] 67) := by show Blk _ _ _ _; rw [hW9b, hYB]; exact Blk.new W9 _ _
              have T9 := Lib.hid (T9a.out.below hby)
              have HW9 := Lib.hid hW9b
              have HYE := Lib.hid hYB
              have x0 := T9.out.x0
              clear hby hW9b hYB T9a
              rw [HW9.out] at x0
              go_upto_region 15 with fail
              rw [← HW9.out, ← HYE.out]
              rw [← HW9.out] at x0
              go_wp2_with fail
              refine (HD2.out W9b T9.out.r).mono ?_
              rintro e W10 ⟨rfl, L10, rv10, hr10, hb10, hs10⟩
              have T10a := Lib.hid (T9.out.rstep hr10 hs10)
              have HYB10 := Lib.hid (hs10.blk HYB.out (by decide) (by decide))
              have HBO := Lib.hid hb10
              obtain ⟨WB, hWB⟩ : ∃ z, z = W10.heap.size := ⟨_, rfl⟩
              obtain ⟨W11, hW11⟩ : ∃ z, z = W10.alloc (.cells #[.int .i64 yi, .int .i64 ytt, .bool ysl, .int .i64 ypr, .int .i64 ylt, .int .i64 ysq] 97) := ⟨_, rfl⟩
              have hby : Below W10.heap.size W10 W11 := by rw [hW11]; exact (Below.refl _ _).alloc (Nat.le_refl _) _
              have HWB : Hid (Blk W11 WB #[.int .i64 yi, .int .i64 ytt, .bool ysl, .int .i64 ypr, .int .i64 ylt, .int .i64 ysq] 97) := by show Blk _ _ _ _; rw [hW11, hWB]; exact Blk.new W10 _ _
              have HYB11 := Lib.hid (HYB10.out.below hby)
              have T11 := Lib.hid (T10a.out.below hby)
              have HW11 := Lib.hid hW11
              have HWE := Lib.hid hWB
              have r1 : W11.rangeAt YB 0 [.int .i64 yi, .int .i64 ytt, .bool ysl, .int .i64 ypr, .int .i64 ylt, .int .i64 ysq] := fun j x hj => by
                rw [Nat.zero_add]
                exact HYB11.out.cell j x (by simpa using hj)
              have r2 : W11.rangeAt WB 0 [.int .i64 yi, .int .i64 ytt, .bool ysl, .int .i64 ypr, .int .i64 ylt, .int .i64 ysq] := fun j x hj => by
                rw [Nat.zero_add]
                exact HWB.out.cell j x (by simpa using hj)
              have YLT := Lib.hid HYB11.out.lt
              have WLT := Lib.hid HWB.out.lt
              clear hby hW11 hWB T10a hr10 hb10 hs10 HYB HYB10 x0
              go_upto_region 16 with fail
              rw [← HW11.out, ← HWE.out]
              have hne := ror_neq_same yi ytt ysl ypr ylt ysq
              have hgd := ror_guard
              refine wp_region_noPanic ?_
              refine wp_region_held_drew (S := (fun w' => w'.rangeAt YB 0 [.int .i64 yi, .int .i64 ytt, .bool ysl, .int .i64 ypr, .int .i64 ylt, .int .i64 ysq] ∧ w'.rangeAt WB 0 [.int .i64 yi, .int .i64 ytt, .bool ysl, .int .i64 ypr, .int .i64 ylt, .int .i64 ysq])) (by kernel_rfl) ⟨r1, r2⟩ (fun hHeld => ?_)
              refine wpAnyH_take (i := 0) rfl (by kernel_rfl) (by kernel_rfl) (by kernel_rfl) (fun _ _ _ h => h) (yieldsIf_load_mid (by rfl) 67 _ rfl YB (0) rfl [.int .i64 yi, .int .i64 ytt, .bool ysl, .int .i64 ypr, .int .i64 ylt, .int .i64 ysq] _ (fun w h => h.1) Tryd.underlying67 rfl size_ord) hHeld ?_
              try simp only [Act.put, List.getElem_toArray, List.getElem_cons_zero, List.getElem_cons_succ, List.setIfInBounds_toArray, List.set_cons_zero, List.set_cons_succ]
              refine wpAnyH_take (i := 2) rfl (by kernel_rfl) (by kernel_rfl) (by kernel_rfl) (fun _ _ _ h => h) (yieldsIf_load_mid (by rfl) 97 _ rfl WB (0) rfl [.int .i64 yi, .int .i64 ytt, .bool ysl, .int .i64 ypr, .int .i64 ylt, .int .i64 ysq] _ (fun w h => h.2) Tryd.underlying97 rfl size_ror) hHeld ?_
              try simp only [Act.put, List.getElem_toArray, List.getElem_cons_zero, List.getElem_cons_succ, List.setIfInBounds_toArray, List.set_cons_zero, List.set_cons_succ]
              refine wpAnyH_ready (rs := [1]) (by kernel_rfl) (by simp) ?_
              refine AllReadyH.cons rfl (fun K hK => ?_) AllReadyH.nil
              go_simp
              refine (form_l yi ytt ysl ypr ylt ysq _).mono ?_
              rintro e W12 ⟨rfl, hb12⟩
              have hb12 : Below W11.heap.size W11 W12 := ⟨hb12.os, hb12.tape, hb12.output, hb12.size, hb12.block⟩
              have r1 := rangeAt_below r1 hb12 YLT.out
              have r2 := rangeAt_below r2 hb12 WLT.out
              have T12 := Lib.hid (T11.out.below hb12)
              have YLT : Hid (YB < W12.heap.size) := Nat.lt_of_lt_of_le YLT.out hb12.size
              have WLT : Hid (WB < W12.heap.size) := Nat.lt_of_lt_of_le WLT.out hb12.size
              clear hb12
              refine hK.out _ _ ⟨r1, r2⟩ (fun hHeld => ?_)
              clear hK K
              try simp only [Act.put, List.getElem_toArray, List.getElem_cons_zero, List.getElem_cons_succ, List.setIfInBounds_toArray, List.set_cons_zero, List.set_cons_succ]
              refine wpAnyH_take (i := 3) (v := ?_) rfl (by kernel_rfl) (by kernel_rfl) (by kernel_rfl) (fun _ _ _ h => h) (Or.inl ⟨by rfl, ?_⟩) hHeld ?_
              rotate_left
              focus
                intro w hSw
                clear hSw
                go_simp
                try with_reducible rfl
              try simp only [Act.put, List.getElem_toArray, List.getElem_cons_zero, List.getElem_cons_succ, List.setIfInBounds_toArray, List.set_cons_zero, List.set_cons_succ]
              refine wpAnyH_take (i := 4) (v := ?_) rfl (by kernel_rfl) (by kernel_rfl) (by kernel_rfl) (fun _ _ _ h => h) (Or.inl ⟨by rfl, ?_⟩) hHeld ?_
              rotate_left
              focus
                intro w hSw
                clear hSw
                go_simp
                try with_reducible rfl
              try simp only [Act.put, List.getElem_toArray, List.getElem_cons_zero, List.getElem_cons_succ, List.setIfInBounds_toArray, List.set_cons_zero, List.set_cons_succ]
              refine wpAnyH_take (i := 5) (v := ?_) rfl (by kernel_rfl) (by kernel_rfl) (by kernel_rfl) (fun _ _ _ h => h) (Or.inl ⟨by rfl, ?_⟩) hHeld ?_
              rotate_left
              focus
                intro w hSw
                clear hSw
                go_simp
                try with_reducible rfl
              try simp only [Act.put, List.getElem_toArray, List.getElem_cons_zero, List.getElem_cons_succ, List.setIfInBounds_toArray, List.set_cons_zero, List.set_cons_succ]
              refine wpAnyH_take (i := 7) (v := ?_) rfl (by kernel_rfl) (by kernel_rfl) (by kernel_rfl) (fun _ _ _ h => h) (Or.inl ⟨by rfl, ?_⟩) hHeld ?_
              rotate_left
              focus
                intro w hSw
                clear hSw
                go_simp
                try with_reducible rfl
              try simp only [Act.put, List.getElem_toArray, List.getElem_cons_zero, List.getElem_cons_succ, List.setIfInBounds_toArray, List.set_cons_zero, List.set_cons_succ]
              refine wpAnyH_ready (rs := [6]) (by kernel_rfl) (by simp) ?_
              refine AllReadyH.cons rfl (fun K hK => ?_) AllReadyH.nil
              go_simp
              refine (kind13_c W12 (HS0.out _ T12.out.b) (HER.out _ T12.out.b) dk hdk).mono ?_
              rintro e W13 ⟨rfl, hb13⟩
              have r1 := rangeAt_below r1 hb13 YLT.out
              have r2 := rangeAt_below r2 hb13 WLT.out
              have T13 := Lib.hid (T12.out.below hb13)
              clear hb13
              refine hK.out _ _ ⟨r1, r2⟩ (fun hHeld => ?_)
              clear hK K
              try simp only [Act.put, List.getElem_toArray, List.getElem_cons_zero, List.getElem_cons_succ, List.setIfInBounds_toArray, List.set_cons_zero, List.set_cons_succ]
              refine wpAnyH_take (i := 8) (v := ?_) rfl (by kernel_rfl) (by kernel_rfl) (by kernel_rfl) (fun _ _ _ h => h) (Or.inl ⟨by rfl, ?_⟩) hHeld ?_
              rotate_left
              focus
                intro w hSw
                clear hSw
                go_simp
                try with_reducible rfl
              try simp only [Act.put, List.getElem_toArray, List.getElem_cons_zero, List.getElem_cons_succ, List.setIfInBounds_toArray, List.set_cons_zero, List.set_cons_succ]
              refine wpAnyH_take (i := 9) (v := ?_) rfl (by kernel_rfl) (by kernel_rfl) (by kernel_rfl) (fun _ _ _ h => h) (Or.inl ⟨by rfl, ?_⟩) hHeld ?_
              rotate_left
              focus
                intro w hSw
                clear hSw
                go_simp
                try with_reducible rfl
              try simp only [Act.put, List.getElem_toArray, List.getElem_cons_zero, List.getElem_cons_succ, List.setIfInBounds_toArray, List.set_cons_zero, List.set_cons_succ]
              refine wpAnyH_done (by kernel_rfl) ?_ _
              refine NoPanic.normal ?_
              go_wp2_with fail
              go_meet
              exact ⟨came, _, _, L10, _, _, rfl, by omega, HBO, T13⟩
          · have n4 : (kd == 4) = false := by simpa using hk4
            by_cases hk5 : kd = 5
            · subst hk5
              as_aux_lemma =>
                obtain ⟨dk, hdk0⟩ : ∃ dk, dk = cutK l oi olt := ⟨_, rfl⟩
                have hdk : dk ≤ 14 := by rw [hdk0]; exact cutK_le _ _ _
                have HD1 : Hid (∀ W, TwoB w W q u OB l v came L rv came ⟨oi, ott, osl, opr, olt, osq⟩ → Calls Tryd.prog 44 #[.pointer (some ⟨q, 0, none⟩), .int .i64 oi, .int .i64 olt] W fun e w' => e = .returned (erV E dk) ∧ ∃ v', BS W w' q q v (cutL l oi olt) v' came) := fun W hT => by
                  have := cut_any E q q l v came oi olt W (Lib.hid hT.bq) (Lib.hid (HENV.out _ hT.b)) HBO.out.inv
                  rw [← hdk0] at this
                  exact this
                have HD2 : Hid (∀ W, RV W u u L rv came → Calls Tryd.prog 57 #[.pointer (some ⟨u, 0, none⟩), .int .i64 oi, .int .i64 olt] W fun e w' => e = .returned (.int .i64 dk) ∧ ∃ L' v', RV w' u u L' v' came ∧ Both (cutL l oi olt) came L' ∧ RStep W w' u) := fun W hr => by
                  have := rcut_any u u l L rv came oi olt W (Nat.le_of_lt hr.lt) (Lib.hid hr) HBO.out
                  rw [← hdk0] at this
                  exact this
                clear hdk0
                go_wp2_with fail
                refine wp_region_noPanic ?_
                refine wp_region_held_drew (S := (fun w' => w'.cell? ⟨OB, 0, none⟩ = some (.int .i64 oi) ∧ w'.cell? ⟨OB, 4, none⟩ = some (.int .i64 olt))) (by kernel_rfl) ⟨x0, x4⟩ (fun hHeld => ?_)
                refine wpAnyH_take (i := 0) (v := ?_) rfl (by kernel_rfl) (by kernel_rfl) (by kernel_rfl) (fun _ _ _ h => h) (Or.inl ⟨by rfl, ?_⟩) hHeld ?_
                rotate_left
                focus
                  intro w hSw
                  clear hSw
                  go_simp
                  try with_reducible rfl
                try simp only [Act.put, List.getElem_toArray, List.getElem_cons_zero, List.getElem_cons_succ, List.setIfInBounds_toArray, List.set_cons_zero, List.set_cons_succ]
                refine wpAnyH_take (i := 1) (v := ?_) rfl (by kernel_rfl) (by kernel_rfl) (by kernel_rfl) (fun _ _ _ h => h) (Or.inl ⟨by rfl, ?_⟩) hHeld ?_
                rotate_left
                focus
                  intro w hSw
                  clear hSw
                  go_simp
                  try with_reducible rfl
                try simp only [Act.put, List.getElem_toArray, List.getElem_cons_zero, List.getElem_cons_succ, List.setIfInBounds_toArray, List.set_cons_zero, List.set_cons_succ]
                refine wpAnyH_take (i := 2) (v := ?_) rfl (by kernel_rfl) (by kernel_rfl) (by kernel_rfl) (fun _ _ _ h => h) (Or.inl ⟨by rfl, ?_⟩) hHeld ?_
                rotate_left
                focus
                  intro w hSw
                  (try dsimp only at hSw)
                  go_simp
                  try with_reducible rfl
                try simp only [Act.put, List.getElem_toArray, List.getElem_cons_zero, List.getElem_cons_succ, List.setIfInBounds_toArray, List.set_cons_zero, List.set_cons_succ]
                refine wpAnyH_take (i := 3) (v := ?_) rfl (by kernel_rfl) (by kernel_rfl) (by kernel_rfl) (fun _ _ _ h => h) (Or.inl ⟨by rfl, ?_⟩) hHeld ?_
                rotate_left
                focus
                  intro w hSw
                  clear hSw
                  go_simp
                  try with_reducible rfl
                try simp only [Act.put, List.getElem_toArray, List.getElem_cons_zero, List.getElem_cons_succ, List.setIfInBounds_toArray, List.set_cons_zero, List.set_cons_succ]
                refine wpAnyH_take (i := 4) (v := ?_) rfl (by kernel_rfl) (by kernel_rfl) (by kernel_rfl) (fun _ _ _ h => h) (Or.inl ⟨by rfl, ?_⟩) hHeld ?_
                rotate_left
                focus
                  intro w hSw
                  (try dsimp only at hSw)
                  go_simp
                  try with_reducible rfl
                try simp only [Act.put, List.getElem_toArray, List.getElem_cons_zero, List.getElem_cons_succ, List.setIfInBounds_toArray, List.set_cons_zero, List.set_cons_succ]
                refine wpAnyH_take (i := 7) (v := ?_) rfl (by kernel_rfl) (by kernel_rfl) (by kernel_rfl) (fun _ _ _ h => h) (Or.inl ⟨by rfl, ?_⟩) hHeld ?_
                rotate_left
                focus
                  intro w hSw
                  clear hSw
                  go_simp
                  try with_reducible rfl
                try simp only [Act.put, List.getElem_toArray, List.getElem_cons_zero, List.getElem_cons_succ, List.setIfInBounds_toArray, List.set_cons_zero, List.set_cons_succ]
                refine wpAnyH_take (i := 8) (v := ?_) rfl (by kernel_rfl) (by kernel_rfl) (by kernel_rfl) (fun _ _ _ h => h) (Or.inl ⟨by rfl, ?_⟩) hHeld ?_
                rotate_left
                focus
                  intro w hSw
                  clear hSw
                  go_simp
                  try with_reducible rfl
                try simp only [Act.put, List.getElem_toArray, List.getElem_cons_zero, List.getElem_cons_succ, List.setIfInBounds_toArray, List.set_cons_zero, List.set_cons_succ]
                refine wpAnyH_take (i := 9) (v := ?_) rfl (by kernel_rfl) (by kernel_rfl) (by kernel_rfl) (fun _ _ _ h => h) (Or.inl ⟨by rfl, ?_⟩) hHeld ?_
                rotate_left
                focus
                  intro w hSw
                  (try dsimp only at hSw)
                  go_simp
                  try with_reducible rfl
                try simp only [Act.put, List.getElem_toArray, List.getElem_cons_zero, List.getElem_cons_succ, List.setIfInBounds_toArray, List.set_cons_zero, List.set_cons_succ]
                refine wpAnyH_take (i := 10) (v := ?_) rfl (by kernel_rfl) (by kernel_rfl) (by kernel_rfl) (fun _ _ _ h => h) (Or.inl ⟨by rfl, ?_⟩) hHeld ?_
                rotate_left
                focus
                  intro w hSw
                  clear hSw
                  go_simp
                  try with_reducible rfl
                try simp only [Act.put, List.getElem_toArray, List.getElem_cons_zero, List.getElem_cons_succ, List.setIfInBounds_toArray, List.set_cons_zero, List.set_cons_succ]
                refine wpAnyH_take (i := 11) (v := ?_) rfl (by kernel_rfl) (by kernel_rfl) (by kernel_rfl) (fun _ _ _ h => h) (Or.inl ⟨by rfl, ?_⟩) hHeld ?_
                rotate_left
                focus
                  intro w hSw
                  (try dsimp only at hSw)
                  go_simp
                  try with_reducible rfl
                try simp only [Act.put, List.getElem_toArray, List.getElem_cons_zero, List.getElem_cons_succ, List.setIfInBounds_toArray, List.set_cons_zero, List.set_cons_succ]
                refine wpAnyH_ready (rs := [5]) (by kernel_rfl) (by simp) ?_
                refine AllReadyH.cons rfl (fun K hK => ?_) AllReadyH.nil
                go_simp
                refine (HD1.out W8.drew (T8.out.below (show Below W8.heap.size W8 W8.drew from ⟨rfl, rfl, rfl, Nat.le_refl _, fun _ _ => rfl⟩))).mono ?_
                rintro e W9 ⟨rfl, v9, hs9⟩
                have T9 := Lib.hid ((T8.out.below (show Below W8.heap.size W8 W8.drew from ⟨rfl, rfl, rfl, Nat.le_refl _, fun _ _ => rfl⟩)).bstep hs9)
                have x0 := T9.out.x0
                have x4 := T9.out.x4
                clear hs9 HD1
                refine hK.out _ _ ⟨x0, x4⟩ (fun hHeld => ?_)
                clear hK K
                try simp only [Act.put, List.getElem_toArray, List.getElem_cons_zero, List.getElem_cons_succ, List.setIfInBounds_toArray, List.set_cons_zero, List.set_cons_succ]
                refine wpAnyH_ready (rs := [6]) (by kernel_rfl) (by simp) ?_
                refine AllReadyH.cons rfl (fun K hK => ?_) AllReadyH.nil
                go_simp
                refine (kind13_c W9 (HS0.out _ T9.out.b) (HER.out _ T9.out.b) dk hdk).mono ?_
                rintro e W10 ⟨rfl, hb10⟩
                have T10 := Lib.hid (T9.out.below hb10)
                have x0 := T10.out.x0
                have x4 := T10.out.x4
                clear hb10
                refine hK.out _ _ ⟨x0, x4⟩ (fun hHeld => ?_)
                clear hK K
                try simp only [Act.put, List.getElem_toArray, List.getElem_cons_zero, List.getElem_cons_succ, List.setIfInBounds_toArray, List.set_cons_zero, List.set_cons_succ]
                refine wpAnyH_ready (rs := [12]) (by kernel_rfl) (by simp) ?_
                refine AllReadyH.cons rfl (fun K hK => ?_) AllReadyH.nil
                go_simp
                refine (HD2.out W10 T10.out.r).mono ?_
                rintro e W11 ⟨rfl, L11, rv11, hr11, hb11, hs11⟩
                have T11 := Lib.hid (T10.out.rstep hr11 hs11)
                have HBO := Lib.hid hb11
                have x0 := T11.out.x0
                have x4 := T11.out.x4
                clear hr11 hb11 hs11
                refine hK.out _ _ ⟨x0, x4⟩ (fun hHeld => ?_)
                clear hK K
                try simp only [Act.put, List.getElem_toArray, List.getElem_cons_zero, List.getElem_cons_succ, List.setIfInBounds_toArray, List.set_cons_zero, List.set_cons_succ]
                refine wpAnyH_take (i := 13) (v := ?_) rfl (by kernel_rfl) (by kernel_rfl) (by kernel_rfl) (fun _ _ _ h => h) (Or.inl ⟨by rfl, ?_⟩) hHeld ?_
                rotate_left
                focus
                  intro w hSw
                  clear hSw
                  go_simp
                  try with_reducible rfl
                try simp only [Act.put, List.getElem_toArray, List.getElem_cons_zero, List.getElem_cons_succ, List.setIfInBounds_toArray, List.set_cons_zero, List.set_cons_succ]
                refine wpAnyH_done (by kernel_rfl) ?_ _
                refine NoPanic.normal ?_
                go_wp2_with fail
                go_meet
                exact ⟨came, _, _, L11, _, _, rfl, by omega, HBO, T11⟩
            · have n5 : (kd == 5) = false := by simpa using hk5
              as_aux_lemma =>
                obtain ⟨dk, hdk0⟩ : ∃ dk, dk = addK l ⟨oi, ott, osl, opr, olt, osq⟩ := ⟨_, rfl⟩
                have hdk : dk ≤ 14 := by rw [hdk0]; exact addK_le _ _
                have HD1 : Hid (∀ W, TwoB w W q u OB l v came L rv came ⟨oi, ott, osl, opr, olt, osq⟩ → Calls Tryd.prog 41 #[.pointer (some ⟨q, 0, none⟩), .agg #[.int .i64 oi, .int .i64 ott, .bool osl, .int .i64 opr, .int .i64 olt, .int .i64 osq]] W fun e w' => e = .returned (erV E dk) ∧ ∃ v', BS W w' q q v (addLK l ⟨oi, ott, osl, opr, olt, osq⟩ came) v' (addC l ⟨oi, ott, osl, opr, olt, osq⟩ came)) := fun W hT => by
                  have := add_any E q q l v came ⟨oi, ott, osl, opr, olt, osq⟩ W (Lib.hid hT.bq) (Lib.hid (HENV.out _ hT.b)) HBO.out.inv (by omega) (Nat.le_of_lt hT.bq.lt)
                  rw [← hdk0] at this
                  exact this
                have HD2 : Hid (∀ W, RV W u u L rv came → Calls Tryd.prog 58 #[.pointer (some ⟨u, 0, none⟩), .agg #[.int .i64 oi, .int .i64 ott, .bool osl, .int .i64 opr, .int .i64 olt, .int .i64 osq]] W fun e w' => e = .returned (.int .i64 dk) ∧ ∃ L' v', RV w' u u L' v' (addC l ⟨oi, ott, osl, opr, olt, osq⟩ came) ∧ Both (addLK l ⟨oi, ott, osl, opr, olt, osq⟩ came) (addC l ⟨oi, ott, osl, opr, olt, osq⟩ came) L' ∧ RStep W w' u) := fun W hr => by
                  have := radd_any u u l L rv came ⟨oi, ott, osl, opr, olt, osq⟩ W (Nat.le_of_lt hr.lt) (Lib.hid hr) HBO.out (by omega)
                  rw [← hdk0] at this
                  exact this
                have HAC : Hid (addC l ⟨oi, ott, osl, opr, olt, osq⟩ came ≤ k + 1) := by show _ ≤ _; unfold addC; split <;> omega
                obtain ⟨came2, hc2⟩ : ∃ z, z = addC l ⟨oi, ott, osl, opr, olt, osq⟩ came := ⟨_, rfl⟩
                rw [← hc2] at HD1 HD2 HAC
                have rO := T8.out.xr
                clear hdk0 hc2 x0 x4
                go_wp2_with fail
                refine wp_region_noPanic ?_
                refine wp_region_held_drew (S := (fun w' => w'.rangeAt OB 0 [.int .i64 oi, .int .i64 ott, .bool osl, .int .i64 opr, .int .i64 olt, .int .i64 osq])) (by kernel_rfl) rO (fun hHeld => ?_)
                refine wpAnyH_take (i := 0) (v := ?_) rfl (by kernel_rfl) (by kernel_rfl) (by kernel_rfl) (fun _ _ _ h => h) (Or.inl ⟨by rfl, ?_⟩) hHeld ?_
                rotate_left
                focus
                  intro w hSw
                  clear hSw
                  go_simp
                  try with_reducible rfl
                try simp only [Act.put, List.getElem_toArray, List.getElem_cons_zero, List.getElem_cons_succ, List.setIfInBounds_toArray, List.set_cons_zero, List.set_cons_succ]
                refine wpAnyH_take (i := 1) rfl (by kernel_rfl) (by kernel_rfl) (by kernel_rfl) (fun _ _ _ h => h) (yieldsIf_load_mid (by rfl) 67 _ rfl OB (0) rfl [.int .i64 oi, .int .i64 ott, .bool osl, .int .i64 opr, .int .i64 olt, .int .i64 osq] _ (fun w h => h) Tryd.underlying67 rfl size_ord) hHeld ?_
                try simp only [Act.put, List.getElem_toArray, List.getElem_cons_zero, List.getElem_cons_succ, List.setIfInBounds_toArray, List.set_cons_zero, List.set_cons_succ]
                refine wpAnyH_take (i := 4) (v := ?_) rfl (by kernel_rfl) (by kernel_rfl) (by kernel_rfl) (fun _ _ _ h => h) (Or.inl ⟨by rfl, ?_⟩) hHeld ?_
                rotate_left
                focus
                  intro w hSw
                  clear hSw
                  go_simp
                  try with_reducible rfl
                try simp only [Act.put, List.getElem_toArray, List.getElem_cons_zero, List.getElem_cons_succ, List.setIfInBounds_toArray, List.set_cons_zero, List.set_cons_succ]
                refine wpAnyH_take (i := 5) rfl (by kernel_rfl) (by kernel_rfl) (by kernel_rfl) (fun _ _ _ h => h) (yieldsIf_load_mid (by rfl) 67 _ rfl OB (0) rfl [.int .i64 oi, .int .i64 ott, .bool osl, .int .i64 opr, .int .i64 olt, .int .i64 osq] _ (fun w h => h) Tryd.underlying67 rfl size_ord) hHeld ?_
                try simp only [Act.put, List.getElem_toArray, List.getElem_cons_zero, List.getElem_cons_succ, List.setIfInBounds_toArray, List.set_cons_zero, List.set_cons_succ]
                refine wpAnyH_ready (rs := [2]) (by kernel_rfl) (by simp) ?_
                refine AllReadyH.cons rfl (fun K hK => ?_) AllReadyH.nil
                go_simp
                refine (HD1.out W8.drew (T8.out.below (show Below W8.heap.size W8 W8.drew from ⟨rfl, rfl, rfl, Nat.le_refl _, fun _ _ => rfl⟩))).mono ?_
                rintro e W9 ⟨rfl, v9, hs9⟩
                have T9 := Lib.hid ((T8.out.below (show Below W8.heap.size W8 W8.drew from ⟨rfl, rfl, rfl, Nat.le_refl _, fun _ _ => rfl⟩)).bstep hs9)
                have rO := T9.out.xr
                clear hs9 HD1
                refine hK.out _ _ rO (fun hHeld => ?_)
                clear hK K
                try simp only [Act.put, List.getElem_toArray, List.getElem_cons_zero, List.getElem_cons_succ, List.setIfInBounds_toArray, List.set_cons_zero, List.set_cons_succ]
                refine wpAnyH_ready (rs := [3]) (by kernel_rfl) (by simp) ?_
                refine AllReadyH.cons rfl (fun K hK => ?_) AllReadyH.nil
                go_simp
                refine (kind13_c W9 (HS0.out _ T9.out.b) (HER.out _ T9.out.b) dk hdk).mono ?_
                rintro e W10 ⟨rfl, hb10⟩
                have T10 := Lib.hid (T9.out.below hb10)
                have rO := T10.out.xr
                clear hb10
                refine hK.out _ _ rO (fun hHeld => ?_)
                clear hK K
                try simp only [Act.put, List.getElem_toArray, List.getElem_cons_zero, List.getElem_cons_succ, List.setIfInBounds_toArray, List.set_cons_zero, List.set_cons_succ]
                refine wpAnyH_ready (rs := [6]) (by kernel_rfl) (by simp) ?_
                refine AllReadyH.cons rfl (fun K hK => ?_) AllReadyH.nil
                go_simp
                refine (form_l oi ott osl opr olt osq W10).mono ?_
                rintro e W11 ⟨rfl, hb11⟩
                have T11 := Lib.hid (T10.out.below hb11)
                have rO := T11.out.xr
                clear hb11
                refine hK.out _ _ rO (fun hHeld => ?_)
                clear hK K
                try simp only [Act.put, List.getElem_toArray, List.getElem_cons_zero, List.getElem_cons_succ, List.setIfInBounds_toArray, List.set_cons_zero, List.set_cons_succ]
                refine wpAnyH_ready (rs := [7]) (by kernel_rfl) (by simp) ?_
                refine AllReadyH.cons rfl (fun K hK => ?_) AllReadyH.nil
                go_simp
                refine (HD2.out W11 T11.out.r).mono ?_
                rintro e W12 ⟨rfl, L12, rv12, hr12, hb12, hs12⟩
                have T12 := Lib.hid (T11.out.rstep hr12 hs12)
                have HBO := Lib.hid hb12
                have rO := T12.out.xr
                clear hr12 hb12 hs12
                refine hK.out _ _ rO (fun hHeld => ?_)
                clear hK K
                try simp only [Act.put, List.getElem_toArray, List.getElem_cons_zero, List.getElem_cons_succ, List.setIfInBounds_toArray, List.set_cons_zero, List.set_cons_succ]
                refine wpAnyH_take (i := 8) (v := ?_) rfl (by kernel_rfl) (by kernel_rfl) (by kernel_rfl) (fun _ _ _ h => h) (Or.inl ⟨by rfl, ?_⟩) hHeld ?_
                rotate_left
                focus
                  intro w hSw
                  clear hSw
                  go_simp
                  try with_reducible rfl
                try simp only [Act.put, List.getElem_toArray, List.getElem_cons_zero, List.getElem_cons_succ, List.setIfInBounds_toArray, List.set_cons_zero, List.set_cons_succ]
                refine wpAnyH_done (by kernel_rfl) ?_ _
                refine NoPanic.normal ?_
                go_wp2_with fail
                go_meet
                exact ⟨came2, _, _, L12, _, _, rfl, HAC.out, HBO, T12⟩
        case rest =>
          clear HV HR HBO T8 HK8 hck
          clear v l L rv came
          obtain ⟨came, l, v, L, rv, WR, rfl, hck, HBO, TR⟩ := hcut
          have HSM := Lib.hid HBO.out.inv.small
          have HFEW := Lib.hid HBO.out.few
          have x0 := TR.out.x0
          cases hj : L.findIdx? (hasId oi) with
          | none =>
            as_aux_lemma =>
              have HOF : Hid (Calls Tryd.prog 45 #[.pointer (some ⟨q, 0, none⟩), .int .i64 oi] WR fun e w' => e = .returned (.tuple #[.agg #[.int .i64 0, .int .i64 0, .bool false, .int .i64 0, .int .i64 0, .int .i64 0], .bool false]) ∧ Below WR.heap.size WR w') := by
                have := of_book q q l v came oi WR (Lib.hid TR.out.bq) HSM.out
                rw [getO_none (HBO.out.at_none hj)] at this
                exact this
              have HAT : Hid (∀ W, Below WR.heap.size WR W → Calls Tryd.prog 59 #[.pointer (some ⟨u, 0, none⟩), .int .i64 oi] W fun e w' => e = .returned (.int .i64 (-1)) ∧ W = w') := fun W hb => by
                have := rat_c u u L rv came oi W (Lib.hid (TR.out.r.below hb)) (by have := HFEW.out; omega)
                rw [at_of_none hj] at this
                exact this
              clear hj
              go_wp2_with fail
              refine HOF.out.mono ?_
              rintro e y1 ⟨rfl, hb1⟩
              obtain ⟨WT, hWT⟩ : ∃ z, z = y1.alloc (.cells #[.int .i64 0, .int .i64 0, .bool false, .int .i64 0, .int .i64 0, .int .i64 0] 67) := ⟨_, rfl⟩
              have hbt : Below y1.heap.size y1 WT := by rw [hWT]; exact (Below.refl _ _).alloc (Nat.le_refl _) _
              have HBT := Lib.hid (hb1.trans (hbt.mono hb1.size))
              have TT := Lib.hid (TR.out.below HBT.out)
              have HWT := Lib.hid hWT
              have x0 := TT.out.x0
              clear hb1 hbt hWT
              rw [HWT.out] at x0
              go_upto_region 22 with fail
              rw [← HWT.out]
              rw [← HWT.out] at x0
              go_wp2_with fail
              refine (HAT.out WT HBT.out).mono ?_
              rintro e y2 ⟨rfl, rfl⟩
              obtain ⟨gb, hgo⟩ : ∃ gb, gb = Ord.good ⟨oi, ott, osl, opr, olt, osq⟩ := ⟨_, rfl⟩
              obtain ⟨AL, cL, hvL, _, cU, _, _⟩ := TT.out.r.form
              have HLEN : Hid (∀ W, Below WT.heap.size WT W → Calls Tryd.prog 46 #[.pointer (some ⟨q, 0, none⟩)] W fun e w' => e = .returned (.int .i64 (L.length : Int)) ∧ Below W.heap.size W w') := fun W hb => by
                have := blen_c q q l v came W (Lib.hid (TT.out.bq.below hb)) HSM.out
                rw [← HBO.out.len] at this
                exact this
              have rO := TT.out.xr
              clear x0 hvL
              go_wp2_with fail
              refine wp_region_noPanic ?_
              refine wp_region_held_drew (S := (fun w' => w'.rangeAt OB 0 [.int .i64 oi, .int .i64 ott, .bool osl, .int .i64 opr, .int .i64 olt, .int .i64 osq] ∧ w'.cell? ⟨u, 0, none⟩ = some (.slice AL L.length cL))) (by kernel_rfl) ⟨rO, cU⟩ (fun hHeld => ?_)
              have HB : Below WT.heap.size WT WT.drew := ⟨rfl, rfl, rfl, Nat.le_refl _, fun _ _ => rfl⟩
              refine wpAnyH_take (i := 0) rfl (by kernel_rfl) (by kernel_rfl) (by kernel_rfl) (fun _ _ _ h => h) (yieldsIf_load_mid (by rfl) 67 _ rfl OB (0) rfl [.int .i64 oi, .int .i64 ott, .bool osl, .int .i64 opr, .int .i64 olt, .int .i64 osq] _ (fun w h => h.1) Tryd.underlying67 rfl size_ord) hHeld ?_
              try simp only [Act.put, List.getElem_toArray, List.getElem_cons_zero, List.getElem_cons_succ, List.setIfInBounds_toArray, List.set_cons_zero, List.set_cons_succ]
              refine wpAnyH_take (i := 2) rfl (by kernel_rfl) (by kernel_rfl) (by kernel_rfl) (fun _ _ _ h => h) (yieldsIf_load_mid (by rfl) 67 _ rfl OB (0) rfl [.int .i64 oi, .int .i64 ott, .bool osl, .int .i64 opr, .int .i64 olt, .int .i64 osq] _ (fun w h => h.1) Tryd.underlying67 rfl size_ord) hHeld ?_
              try simp only [Act.put, List.getElem_toArray, List.getElem_cons_zero, List.getElem_cons_succ, List.setIfInBounds_toArray, List.set_cons_zero, List.set_cons_succ]
              refine wpAnyH_ready (rs := [1]) (by kernel_rfl) (by simp) ?_
              refine AllReadyH.cons rfl (fun K hK => ?_) AllReadyH.nil
              go_simp
              refine (good_c ⟨oi, ott, osl, opr, olt, osq⟩ _).mono ?_
              rw [← hgo]
              rintro e z1 ⟨rfl, hb1⟩
              have hb1 : Below WT.heap.size WT z1 := ⟨hb1.os, hb1.tape, hb1.output, hb1.size, hb1.block⟩
              have rO := rangeAt_below rO hb1 (Nat.lt_of_lt_of_le TT.out.lt HB.size)
              have cU := (hb1.cell (p := ⟨u, 0, none⟩) (Nat.lt_of_lt_of_le TT.out.r.lt HB.size)).trans cU
              have HB := hb1
              refine hK.out _ _ ⟨rO, cU⟩ (fun hHeld => ?_)
              clear hK K
              try simp only [Act.put, List.getElem_toArray, List.getElem_cons_zero, List.getElem_cons_succ, List.setIfInBounds_toArray, List.set_cons_zero, List.set_cons_succ]
              refine wpAnyH_ready (rs := [3]) (by kernel_rfl) (by simp) ?_
              refine AllReadyH.cons rfl (fun K hK => ?_) AllReadyH.nil
              go_simp
              refine (form_l oi ott osl opr olt osq z1).mono ?_
              rintro e z2 ⟨rfl, hb2⟩
              have rO := rangeAt_below rO hb2 (Nat.lt_of_lt_of_le TT.out.lt HB.size)
              have cU := (hb2.cell (p := ⟨u, 0, none⟩) (Nat.lt_of_lt_of_le TT.out.r.lt HB.size)).trans cU
              have HB := HB.trans (hb2.mono HB.size)
              refine hK.out _ _ ⟨rO, cU⟩ (fun hHeld => ?_)
              clear hK K
              try simp only [Act.put, List.getElem_toArray, List.getElem_cons_zero, List.getElem_cons_succ, List.setIfInBounds_toArray, List.set_cons_zero, List.set_cons_succ]
              refine wpAnyH_ready (rs := [4]) (by kernel_rfl) (by simp) ?_
              refine AllReadyH.cons rfl (fun K hK => ?_) AllReadyH.nil
              go_simp
              refine (rgood_c ⟨oi, ott, osl, opr, olt, osq⟩ z2).mono ?_
              rw [← hgo]
              rintro e z3 ⟨rfl, hb3⟩
              have rO := rangeAt_below rO hb3 (Nat.lt_of_lt_of_le TT.out.lt HB.size)
              have cU := (hb3.cell (p := ⟨u, 0, none⟩) (Nat.lt_of_lt_of_le TT.out.r.lt HB.size)).trans cU
              have HB := HB.trans (hb3.mono HB.size)
              refine hK.out _ _ ⟨rO, cU⟩ (fun hHeld => ?_)
              clear hK K
              try simp only [Act.put, List.getElem_toArray, List.getElem_cons_zero, List.getElem_cons_succ, List.setIfInBounds_toArray, List.set_cons_zero, List.set_cons_succ]
              refine wpAnyH_take (i := 5) (v := ?_) rfl (by kernel_rfl) (by kernel_rfl) (by kernel_rfl) (fun _ _ _ h => h) (Or.inl ⟨by rfl, ?_⟩) hHeld ?_
              rotate_left
              focus
                intro w hSw
                clear hSw
                go_simp
                try with_reducible rfl
              try simp only [Act.put, List.getElem_toArray, List.getElem_cons_zero, List.getElem_cons_succ, List.setIfInBounds_toArray, List.set_cons_zero, List.set_cons_succ]
              refine wpAnyH_take (i := 6) (v := ?_) rfl (by kernel_rfl) (by kernel_rfl) (by kernel_rfl) (fun _ _ _ h => h) (Or.inl ⟨by rfl, ?_⟩) hHeld ?_
              rotate_left
              focus
                intro w hSw
                clear hSw
                go_simp
                try with_reducible rfl
              try simp only [Act.put, List.getElem_toArray, List.getElem_cons_zero, List.getElem_cons_succ, List.setIfInBounds_toArray, List.set_cons_zero, List.set_cons_succ]
              refine wpAnyH_take (i := 7) (v := ?_) rfl (by kernel_rfl) (by kernel_rfl) (by kernel_rfl) (fun _ _ _ h => h) (Or.inl ⟨by rfl, ?_⟩) hHeld ?_
              rotate_left
              focus
                intro w hSw
                clear hSw
                go_simp
                try with_reducible rfl
              try simp only [Act.put, List.getElem_toArray, List.getElem_cons_zero, List.getElem_cons_succ, List.setIfInBounds_toArray, List.set_cons_zero, List.set_cons_succ]
              refine wpAnyH_take (i := 8) (v := ?_) rfl (by kernel_rfl) (by kernel_rfl) (by kernel_rfl) (fun _ _ _ h => h) (Or.inl ⟨by rfl, ?_⟩) hHeld ?_
              rotate_left
              focus
                intro w hSw
                clear hSw
                go_simp
                try with_reducible rfl
              try simp only [Act.put, List.getElem_toArray, List.getElem_cons_zero, List.getElem_cons_succ, List.setIfInBounds_toArray, List.set_cons_zero, List.set_cons_succ]
              refine wpAnyH_take (i := 9) (v := ?_) rfl (by kernel_rfl) (by kernel_rfl) (by kernel_rfl) (fun _ _ _ h => h) (Or.inl ⟨by rfl, ?_⟩) hHeld ?_
              rotate_left
              focus
                intro w hSw
                clear hSw
                go_simp
                try with_reducible rfl
              try simp only [Act.put, List.getElem_toArray, List.getElem_cons_zero, List.getElem_cons_succ, List.setIfInBounds_toArray, List.set_cons_zero, List.set_cons_succ]
              refine wpAnyH_take (i := 10) (v := ?_) rfl (by kernel_rfl) (by kernel_rfl) (by kernel_rfl) (fun _ _ _ h => h) (Or.inl ⟨by rfl, ?_⟩) hHeld ?_
              rotate_left
              focus
                intro w hSw
                clear hSw
                go_simp
                try with_reducible rfl
              try simp only [Act.put, List.getElem_toArray, List.getElem_cons_zero, List.getElem_cons_succ, List.setIfInBounds_toArray, List.set_cons_zero, List.set_cons_succ]
              refine wpAnyH_take (i := 11) (v := ?_) rfl (by kernel_rfl) (by kernel_rfl) (by kernel_rfl) (fun _ _ _ h => h) (Or.inl ⟨by rfl, ?_⟩) hHeld ?_
              rotate_left
              focus
                intro w hSw
                clear hSw
                go_simp
                try with_reducible rfl
              try simp only [Act.put, List.getElem_toArray, List.getElem_cons_zero, List.getElem_cons_succ, List.setIfInBounds_toArray, List.set_cons_zero, List.set_cons_succ]
              refine wpAnyH_take (i := 12) (v := ?_) rfl (by kernel_rfl) (by kernel_rfl) (by kernel_rfl) (fun _ _ _ h => h) (Or.inl ⟨by rfl, ?_⟩) hHeld ?_
              rotate_left
              focus
                intro w hSw
                clear hSw
                go_simp
                try with_reducible rfl
              try simp only [Act.put, List.getElem_toArray, List.getElem_cons_zero, List.getElem_cons_succ, List.setIfInBounds_toArray, List.set_cons_zero, List.set_cons_succ]
              refine wpAnyH_take (i := 13) (v := ?_) rfl (by kernel_rfl) (by kernel_rfl) (by kernel_rfl) (fun _ _ _ h => h) (Or.inl ⟨by rfl, ?_⟩) hHeld ?_
              rotate_left
              focus
                intro w hSw
                clear hSw
                go_simp
                try with_reducible rfl
              try simp only [Act.put, List.getElem_toArray, List.getElem_cons_zero, List.getElem_cons_succ, List.setIfInBounds_toArray, List.set_cons_zero, List.set_cons_succ]
              refine wpAnyH_take (i := 14) (v := ?_) rfl (by kernel_rfl) (by kernel_rfl) (by kernel_rfl) (fun _ _ _ h => h) (Or.inl ⟨by rfl, ?_⟩) hHeld ?_
              rotate_left
              focus
                intro w hSw
                clear hSw
                go_simp
                try with_reducible rfl
              try simp only [Act.put, List.getElem_toArray, List.getElem_cons_zero, List.getElem_cons_succ, List.setIfInBounds_toArray, List.set_cons_zero, List.set_cons_succ]
              refine wpAnyH_take (i := 15) (v := undef) rfl (by kernel_rfl) (by kernel_rfl) (by kernel_rfl) (fun _ _ _ h => h) (Or.inr ⟨by rfl, rfl⟩) hHeld ?_
              try simp only [Act.put, List.getElem_toArray, List.getElem_cons_zero, List.getElem_cons_succ, List.setIfInBounds_toArray, List.set_cons_zero, List.set_cons_succ]
              refine wpAnyH_take (i := 16) (v := undef) rfl (by kernel_rfl) (by kernel_rfl) (by kernel_rfl) (fun _ _ _ h => h) (Or.inr ⟨by rfl, rfl⟩) hHeld ?_
              try simp only [Act.put, List.getElem_toArray, List.getElem_cons_zero, List.getElem_cons_succ, List.setIfInBounds_toArray, List.set_cons_zero, List.set_cons_succ]
              refine wpAnyH_take (i := 17) (v := undef) rfl (by kernel_rfl) (by kernel_rfl) (by kernel_rfl) (fun _ _ _ h => h) (Or.inr ⟨by rfl, rfl⟩) hHeld ?_
              try simp only [Act.put, List.getElem_toArray, List.getElem_cons_zero, List.getElem_cons_succ, List.setIfInBounds_toArray, List.set_cons_zero, List.set_cons_succ]
              refine wpAnyH_take (i := 18) (v := undef) rfl (by kernel_rfl) (by kernel_rfl) (by kernel_rfl) (fun _ _ _ h => h) (Or.inr ⟨by rfl, rfl⟩) hHeld ?_
              try simp only [Act.put, List.getElem_toArray, List.getElem_cons_zero, List.getElem_cons_succ, List.setIfInBounds_toArray, List.set_cons_zero, List.set_cons_succ]
              refine wpAnyH_take (i := 19) (v := undef) rfl (by kernel_rfl) (by kernel_rfl) (by kernel_rfl) (fun _ _ _ h => h) (Or.inr ⟨by rfl, rfl⟩) hHeld ?_
              try simp only [Act.put, List.getElem_toArray, List.getElem_cons_zero, List.getElem_cons_succ, List.setIfInBounds_toArray, List.set_cons_zero, List.set_cons_succ]
              refine wpAnyH_take (i := 20) (v := undef) rfl (by kernel_rfl) (by kernel_rfl) (by kernel_rfl) (fun _ _ _ h => h) (Or.inr ⟨by rfl, rfl⟩) hHeld ?_
              try simp only [Act.put, List.getElem_toArray, List.getElem_cons_zero, List.getElem_cons_succ, List.setIfInBounds_toArray, List.set_cons_zero, List.set_cons_succ]
              refine wpAnyH_take (i := 21) (v := undef) rfl (by kernel_rfl) (by kernel_rfl) (by kernel_rfl) (fun _ _ _ h => h) (Or.inr ⟨by rfl, rfl⟩) hHeld ?_
              try simp only [Act.put, List.getElem_toArray, List.getElem_cons_zero, List.getElem_cons_succ, List.setIfInBounds_toArray, List.set_cons_zero, List.set_cons_succ]
              refine wpAnyH_take (i := 22) (v := undef) rfl (by kernel_rfl) (by kernel_rfl) (by kernel_rfl) (fun _ _ _ h => h) (Or.inr ⟨by rfl, rfl⟩) hHeld ?_
              try simp only [Act.put, List.getElem_toArray, List.getElem_cons_zero, List.getElem_cons_succ, List.setIfInBounds_toArray, List.set_cons_zero, List.set_cons_succ]
              refine wpAnyH_take (i := 23) (v := undef) rfl (by kernel_rfl) (by kernel_rfl) (by kernel_rfl) (fun _ _ _ h => h) (Or.inr ⟨by rfl, rfl⟩) hHeld ?_
              try simp only [Act.put, List.getElem_toArray, List.getElem_cons_zero, List.getElem_cons_succ, List.setIfInBounds_toArray, List.set_cons_zero, List.set_cons_succ]
              refine wpAnyH_take (i := 24) (v := undef) rfl (by kernel_rfl) (by kernel_rfl) (by kernel_rfl) (fun _ _ _ h => h) (Or.inr ⟨by rfl, rfl⟩) hHeld ?_
              try simp only [Act.put, List.getElem_toArray, List.getElem_cons_zero, List.getElem_cons_succ, List.setIfInBounds_toArray, List.set_cons_zero, List.set_cons_succ]
              refine wpAnyH_take (i := 25) (v := ?_) rfl (by kernel_rfl) (by kernel_rfl) (by kernel_rfl) (fun _ _ _ h => h) (Or.inl ⟨by rfl, ?_⟩) hHeld ?_
              rotate_left
              focus
                intro w hSw
                clear hSw
                go_simp
                try with_reducible rfl
              try simp only [Act.put, List.getElem_toArray, List.getElem_cons_zero, List.getElem_cons_succ, List.setIfInBounds_toArray, List.set_cons_zero, List.set_cons_succ]
              refine wpAnyH_take (i := 26) (v := ?_) rfl (by kernel_rfl) (by kernel_rfl) (by kernel_rfl) (fun _ _ _ h => h) (Or.inl ⟨by rfl, ?_⟩) hHeld ?_
              rotate_left
              focus
                intro w hSw
                clear hSw
                go_simp
                try with_reducible rfl
              try simp only [Act.put, List.getElem_toArray, List.getElem_cons_zero, List.getElem_cons_succ, List.setIfInBounds_toArray, List.set_cons_zero, List.set_cons_succ]
              refine wpAnyH_take (i := 27) (v := ?_) rfl (by kernel_rfl) (by kernel_rfl) (by kernel_rfl) (fun _ _ _ h => h) (Or.inl ⟨by rfl, ?_⟩) hHeld ?_
              rotate_left
              focus
                intro w hSw
                clear hSw
                go_simp
                try with_reducible rfl
              try simp only [Act.put, List.getElem_toArray, List.getElem_cons_zero, List.getElem_cons_succ, List.setIfInBounds_toArray, List.set_cons_zero, List.set_cons_succ]
              refine wpAnyH_take (i := 28) (v := ?_) rfl (by kernel_rfl) (by kernel_rfl) (by kernel_rfl) (fun _ _ _ h => h) (Or.inl ⟨by rfl, ?_⟩) hHeld ?_
              rotate_left
              focus
                intro w hSw
                clear hSw
                go_simp
                try with_reducible rfl
              try simp only [Act.put, List.getElem_toArray, List.getElem_cons_zero, List.getElem_cons_succ, List.setIfInBounds_toArray, List.set_cons_zero, List.set_cons_succ]
              refine wpAnyH_take (i := 30) (v := ?_) rfl (by kernel_rfl) (by kernel_rfl) (by kernel_rfl) (fun _ _ _ h => h) (Or.inl ⟨by rfl, ?_⟩) hHeld ?_
              rotate_left
              focus
                intro w hSw
                clear hSw
                go_simp
                try with_reducible rfl
              try simp only [Act.put, List.getElem_toArray, List.getElem_cons_zero, List.getElem_cons_succ, List.setIfInBounds_toArray, List.set_cons_zero, List.set_cons_succ]
              refine wpAnyH_take (i := 31) (v := ?_) rfl (by kernel_rfl) (by kernel_rfl) (by kernel_rfl) (fun _ _ _ h => h) (Or.inl ⟨by rfl, ?_⟩) hHeld ?_
              rotate_left
              focus
                intro w hSw
                clear hSw
                go_simp
                try with_reducible rfl
              try simp only [Act.put, List.getElem_toArray, List.getElem_cons_zero, List.getElem_cons_succ, List.setIfInBounds_toArray, List.set_cons_zero, List.set_cons_succ]
              refine wpAnyH_take (i := 32) (v := ?_) rfl (by kernel_rfl) (by kernel_rfl) (by kernel_rfl) (fun _ _ _ h => h) (Or.inl ⟨by rfl, ?_⟩) hHeld ?_
              rotate_left
              focus
                intro w hSw
                clear hSw
                go_simp
                try with_reducible rfl
              try simp only [Act.put, List.getElem_toArray, List.getElem_cons_zero, List.getElem_cons_succ, List.setIfInBounds_toArray, List.set_cons_zero, List.set_cons_succ]
              refine wpAnyH_take (i := 33) (v := ?_) rfl (by kernel_rfl) (by kernel_rfl) (by kernel_rfl) (fun _ _ _ h => h) (Or.inl ⟨by rfl, ?_⟩) hHeld ?_
              rotate_left
              focus
                intro w hSw
                (try dsimp only at hSw)
                go_simp
                try with_reducible rfl
              try simp only [Act.put, List.getElem_toArray, List.getElem_cons_zero, List.getElem_cons_succ, List.setIfInBounds_toArray, List.set_cons_zero, List.set_cons_succ]
              refine wpAnyH_take (i := 34) (v := ?_) rfl (by kernel_rfl) (by kernel_rfl) (by kernel_rfl) (fun _ _ _ h => h) (Or.inl ⟨by rfl, ?_⟩) hHeld ?_
              rotate_left
              focus
                intro w hSw
                clear hSw
                go_simp
                try with_reducible rfl
              try simp only [Act.put, List.getElem_toArray, List.getElem_cons_zero, List.getElem_cons_succ, List.setIfInBounds_toArray, List.set_cons_zero, List.set_cons_succ]
              refine wpAnyH_ready (rs := [29]) (by kernel_rfl) (by simp) ?_
              refine AllReadyH.cons rfl (fun K hK => ?_) AllReadyH.nil
              go_simp
              refine (HLEN.out z3 HB).mono ?_
              rintro e z4 ⟨rfl, hb4⟩
              have rO := rangeAt_below rO hb4 (Nat.lt_of_lt_of_le TT.out.lt HB.size)
              have cU := (hb4.cell (p := ⟨u, 0, none⟩) (Nat.lt_of_lt_of_le TT.out.r.lt HB.size)).trans cU
              have HB := HB.trans (hb4.mono HB.size)
              refine hK.out _ _ ⟨rO, cU⟩ (fun hHeld => ?_)
              clear hK K
              try simp only [Act.put, List.getElem_toArray, List.getElem_cons_zero, List.getElem_cons_succ, List.setIfInBounds_toArray, List.set_cons_zero, List.set_cons_succ]
              refine wpAnyH_take (i := 35) (v := ?_) rfl (by kernel_rfl) (by kernel_rfl) (by kernel_rfl) (fun _ _ _ h => h) (Or.inl ⟨by rfl, ?_⟩) hHeld ?_
              rotate_left
              focus
                intro w hSw
                clear hSw
                go_simp
                try with_reducible rfl
              try simp only [Act.put, List.getElem_toArray, List.getElem_cons_zero, List.getElem_cons_succ, List.setIfInBounds_toArray, List.set_cons_zero, List.set_cons_succ]
              refine wpAnyH_take (i := 36) (v := ?_) rfl (by kernel_rfl) (by kernel_rfl) (by kernel_rfl) (fun _ _ _ h => h) (Or.inl ⟨by rfl, ?_⟩) hHeld ?_
              rotate_left
              focus
                intro w hSw
                clear hSw
                go_simp
                try with_reducible rfl
              try simp only [Act.put, List.getElem_toArray, List.getElem_cons_zero, List.getElem_cons_succ, List.setIfInBounds_toArray, List.set_cons_zero, List.set_cons_succ]
              refine wpAnyH_take (i := 37) (v := ?_) rfl (by kernel_rfl) (by kernel_rfl) (by kernel_rfl) (fun _ _ _ h => h) (Or.inl ⟨by rfl, ?_⟩) hHeld ?_
              rotate_left
              focus
                intro w hSw
                clear hSw
                go_simp
                try with_reducible rfl
              try simp only [Act.put, List.getElem_toArray, List.getElem_cons_zero, List.getElem_cons_succ, List.setIfInBounds_toArray, List.set_cons_zero, List.set_cons_succ]
              refine wpAnyH_take (i := 38) (v := ?_) rfl (by kernel_rfl) (by kernel_rfl) (by kernel_rfl) (fun _ _ _ h => h) (Or.inl ⟨by rfl, ?_⟩) hHeld ?_
              rotate_left
              focus
                intro w hSw
                clear hSw
                go_simp
                try with_reducible rfl
              try simp only [Act.put, List.getElem_toArray, List.getElem_cons_zero, List.getElem_cons_succ, List.setIfInBounds_toArray, List.set_cons_zero, List.set_cons_succ]
              refine wpAnyH_take (i := 40) (v := ?_) rfl (by kernel_rfl) (by kernel_rfl) (by kernel_rfl) (fun _ _ _ h => h) (Or.inl ⟨by rfl, ?_⟩) hHeld ?_
              rotate_left
              focus
                intro w hSw
                clear hSw
                go_simp
                try with_reducible rfl
              try simp only [Act.put, List.getElem_toArray, List.getElem_cons_zero, List.getElem_cons_succ, List.setIfInBounds_toArray, List.set_cons_zero, List.set_cons_succ]
              refine wpAnyH_ready (rs := [39]) (by kernel_rfl) (by simp) ?_
              refine AllReadyH.cons rfl (fun K hK => ?_) AllReadyH.nil
              go_simp
              refine (blist_c q q l v came true z4 (Lib.hid (TT.out.bq.below HB)) HSM.out).mono ?_
              rintro e z5 ⟨va4, rfl, hown4, hb5⟩
              obtain ⟨Aa4, ca4, hva4, _, _, hrd4⟩ := own_form Ord.k6 hown4
              subst hva4
              have HRD4 := Lib.hid hrd4
              clear hown4 hrd4
              have rO := rangeAt_below rO hb5 (Nat.lt_of_lt_of_le TT.out.lt HB.size)
              have cU := (hb5.cell (p := ⟨u, 0, none⟩) (Nat.lt_of_lt_of_le TT.out.r.lt HB.size)).trans cU
              have HB := HB.trans (hb5.mono HB.size)
              refine hK.out _ _ ⟨rO, cU⟩ (fun hHeld => ?_)
              clear hK K
              try simp only [Act.put, List.getElem_toArray, List.getElem_cons_zero, List.getElem_cons_succ, List.setIfInBounds_toArray, List.set_cons_zero, List.set_cons_succ]
              refine wpAnyH_ready (rs := [41]) (by kernel_rfl) (by simp) ?_
              refine AllReadyH.cons rfl (fun K hK => ?_) AllReadyH.nil
              go_simp
              refine (rlist_c u u L rv came true z5 (Lib.hid (TT.out.r.below HB)) (by have := HFEW.out; omega)).mono ?_
              rw [HBO.out.list true]
              rintro e z6 ⟨vb4, rfl, hown4, hb6⟩
              obtain ⟨Ab4, cb4, hvb4, _, _, hrd4⟩ := own_form Ord.k6 hown4
              subst hvb4
              have HRE4 := Lib.hid hrd4
              have HRD4 := Lib.hid ((HRD4.out.below hb6 (Nat.le_refl _)).mono hb6.size)
              clear hown4 hrd4
              have rO := rangeAt_below rO hb6 (Nat.lt_of_lt_of_le TT.out.lt HB.size)
              have cU := (hb6.cell (p := ⟨u, 0, none⟩) (Nat.lt_of_lt_of_le TT.out.r.lt HB.size)).trans cU
              have HB := HB.trans (hb6.mono HB.size)
              refine hK.out _ _ ⟨rO, cU⟩ (fun hHeld => ?_)
              clear hK K
              try simp only [Act.put, List.getElem_toArray, List.getElem_cons_zero, List.getElem_cons_succ, List.setIfInBounds_toArray, List.set_cons_zero, List.set_cons_succ]
              refine wpAnyH_ready (rs := [42]) (by kernel_rfl) (by simp) ?_
              refine AllReadyH.cons rfl (fun K hK => ?_) AllReadyH.nil
              go_simp
              refine (same13_c Aa4 ca4 Ab4 cb4 (l true) z6 HRD4 HRE4 (HSM.out true)).mono ?_
              rintro e z7 ⟨rfl, hb7⟩
              have rO := rangeAt_below rO hb7 (Nat.lt_of_lt_of_le TT.out.lt HB.size)
              have cU := (hb7.cell (p := ⟨u, 0, none⟩) (Nat.lt_of_lt_of_le TT.out.r.lt HB.size)).trans cU
              have HB := HB.trans (hb7.mono HB.size)
              refine hK.out _ _ ⟨rO, cU⟩ (fun hHeld => ?_)
              clear hK K
              try simp only [Act.put, List.getElem_toArray, List.getElem_cons_zero, List.getElem_cons_succ, List.setIfInBounds_toArray, List.set_cons_zero, List.set_cons_succ]
              refine wpAnyH_take (i := 43) (v := ?_) rfl (by kernel_rfl) (by kernel_rfl) (by kernel_rfl) (fun _ _ _ h => h) (Or.inl ⟨by rfl, ?_⟩) hHeld ?_
              rotate_left
              focus
                intro w hSw
                clear hSw
                go_simp
                try with_reducible rfl
              try simp only [Act.put, List.getElem_toArray, List.getElem_cons_zero, List.getElem_cons_succ, List.setIfInBounds_toArray, List.set_cons_zero, List.set_cons_succ]
              refine wpAnyH_take (i := 44) (v := ?_) rfl (by kernel_rfl) (by kernel_rfl) (by kernel_rfl) (fun _ _ _ h => h) (Or.inl ⟨by rfl, ?_⟩) hHeld ?_
              rotate_left
              focus
                intro w hSw
                clear hSw
                go_simp
                try with_reducible rfl
              try simp only [Act.put, List.getElem_toArray, List.getElem_cons_zero, List.getElem_cons_succ, List.setIfInBounds_toArray, List.set_cons_zero, List.set_cons_succ]
              refine wpAnyH_take (i := 45) (v := ?_) rfl (by kernel_rfl) (by kernel_rfl) (by kernel_rfl) (fun _ _ _ h => h) (Or.inl ⟨by rfl, ?_⟩) hHeld ?_
              rotate_left
              focus
                intro w hSw
                clear hSw
                go_simp
                try with_reducible rfl
              try simp only [Act.put, List.getElem_toArray, List.getElem_cons_zero, List.getElem_cons_succ, List.setIfInBounds_toArray, List.set_cons_zero, List.set_cons_succ]
              refine wpAnyH_take (i := 46) (v := ?_) rfl (by kernel_rfl) (by kernel_rfl) (by kernel_rfl) (fun _ _ _ h => h) (Or.inl ⟨by rfl, ?_⟩) hHeld ?_
              rotate_left
              focus
                intro w hSw
                clear hSw
                go_simp
                try with_reducible rfl
              try simp only [Act.put, List.getElem_toArray, List.getElem_cons_zero, List.getElem_cons_succ, List.setIfInBounds_toArray, List.set_cons_zero, List.set_cons_succ]
              refine wpAnyH_take (i := 48) (v := ?_) rfl (by kernel_rfl) (by kernel_rfl) (by kernel_rfl) (fun _ _ _ h => h) (Or.inl ⟨by rfl, ?_⟩) hHeld ?_
              rotate_left
              focus
                intro w hSw
                clear hSw
                go_simp
                try with_reducible rfl
              try simp only [Act.put, List.getElem_toArray, List.getElem_cons_zero, List.getElem_cons_succ, List.setIfInBounds_toArray, List.set_cons_zero, List.set_cons_succ]
              refine wpAnyH_ready (rs := [47]) (by kernel_rfl) (by simp) ?_
              refine AllReadyH.cons rfl (fun K hK => ?_) AllReadyH.nil
              go_simp
              refine (blist_c q q l v came false z7 (Lib.hid (TT.out.bq.below HB)) HSM.out).mono ?_
              rintro e z8 ⟨va7, rfl, hown7, hb8⟩
              obtain ⟨Aa7, ca7, hva7, _, _, hrd7⟩ := own_form Ord.k6 hown7
              subst hva7
              have HRD7 := Lib.hid hrd7
              clear hown7 hrd7
              have rO := rangeAt_below rO hb8 (Nat.lt_of_lt_of_le TT.out.lt HB.size)
              have cU := (hb8.cell (p := ⟨u, 0, none⟩) (Nat.lt_of_lt_of_le TT.out.r.lt HB.size)).trans cU
              have HB := HB.trans (hb8.mono HB.size)
              refine hK.out _ _ ⟨rO, cU⟩ (fun hHeld => ?_)
              clear hK K
              try simp only [Act.put, List.getElem_toArray, List.getElem_cons_zero, List.getElem_cons_succ, List.setIfInBounds_toArray, List.set_cons_zero, List.set_cons_succ]
              refine wpAnyH_ready (rs := [49]) (by kernel_rfl) (by simp) ?_
              refine AllReadyH.cons rfl (fun K hK => ?_) AllReadyH.nil
              go_simp
              refine (rlist_c u u L rv came false z8 (Lib.hid (TT.out.r.below HB)) (by have := HFEW.out; omega)).mono ?_
              rw [HBO.out.list false]
              rintro e z9 ⟨vb7, rfl, hown7, hb9⟩
              obtain ⟨Ab7, cb7, hvb7, _, _, hrd7⟩ := own_form Ord.k6 hown7
              subst hvb7
              have HRE7 := Lib.hid hrd7
              have HRD7 := Lib.hid ((HRD7.out.below hb9 (Nat.le_refl _)).mono hb9.size)
              clear hown7 hrd7
              have rO := rangeAt_below rO hb9 (Nat.lt_of_lt_of_le TT.out.lt HB.size)
              have cU := (hb9.cell (p := ⟨u, 0, none⟩) (Nat.lt_of_lt_of_le TT.out.r.lt HB.size)).trans cU
              have HB := HB.trans (hb9.mono HB.size)
              refine hK.out _ _ ⟨rO, cU⟩ (fun hHeld => ?_)
              clear hK K
              try simp only [Act.put, List.getElem_toArray, List.getElem_cons_zero, List.getElem_cons_succ, List.setIfInBounds_toArray, List.set_cons_zero, List.set_cons_succ]
              refine wpAnyH_ready (rs := [50]) (by kernel_rfl) (by simp) ?_
              refine AllReadyH.cons rfl (fun K hK => ?_) AllReadyH.nil
              go_simp
              refine (same13_c Aa7 ca7 Ab7 cb7 (l false) z9 HRD7 HRE7 (HSM.out false)).mono ?_
              rintro e z10 ⟨rfl, hb10⟩
              have rO := rangeAt_below rO hb10 (Nat.lt_of_lt_of_le TT.out.lt HB.size)
              have cU := (hb10.cell (p := ⟨u, 0, none⟩) (Nat.lt_of_lt_of_le TT.out.r.lt HB.size)).trans cU
              have HB := HB.trans (hb10.mono HB.size)
              refine hK.out _ _ ⟨rO, cU⟩ (fun hHeld => ?_)
              clear hK K
              try simp only [Act.put, List.getElem_toArray, List.getElem_cons_zero, List.getElem_cons_succ, List.setIfInBounds_toArray, List.set_cons_zero, List.set_cons_succ]
              refine wpAnyH_take (i := 51) (v := ?_) rfl (by kernel_rfl) (by kernel_rfl) (by kernel_rfl) (fun _ _ _ h => h) (Or.inl ⟨by rfl, ?_⟩) hHeld ?_
              rotate_left
              focus
                intro w hSw
                clear hSw
                go_simp
                try with_reducible rfl
              try simp only [Act.put, List.getElem_toArray, List.getElem_cons_zero, List.getElem_cons_succ, List.setIfInBounds_toArray, List.set_cons_zero, List.set_cons_succ]
              refine wpAnyH_take (i := 52) (v := ?_) rfl (by kernel_rfl) (by kernel_rfl) (by kernel_rfl) (fun _ _ _ h => h) (Or.inl ⟨by rfl, ?_⟩) hHeld ?_
              rotate_left
              focus
                intro w hSw
                clear hSw
                go_simp
                try with_reducible rfl
              try simp only [Act.put, List.getElem_toArray, List.getElem_cons_zero, List.getElem_cons_succ, List.setIfInBounds_toArray, List.set_cons_zero, List.set_cons_succ]
              refine wpAnyH_done (by kernel_rfl) ?_ _
              refine NoPanic.normal ?_
              as_aux_lemma =>
                go_wp2_with fail
                go_loopw [15] (fun s15 wx => ∃ (kk : Nat) (wy : World), wy = wx ∧ kk ≤ 2 ∧ s15 = .int .i64 kk ∧ Below WT.heap.size WT wy) (fun s15 _ => 2 - (intOf s15).toNat)
                case atStart => exact ⟨0, _, rfl, by omega, rfl, HB⟩
                case round =>
                  obtain ⟨kk, wy, rfl, hkk, rfl, hby⟩ := hrel
                  have TY := Lib.hid (TT.out.below hby)
                  have HBY := Lib.hid hby
                  by_cases hk2 : kk < 2
                  · have hk2' : (kk : Int) < 2 := by omega
                    obtain ⟨sd, hsd⟩ : ∃ sd, sd = ((kk : Int) == 1) := ⟨_, rfl⟩
                    have HSD := Lib.hid hsd
                    have HRL := Lib.hid (rlist_c u u L rv came sd wy (Lib.hid TY.out.r) (by have := HFEW.out; omega))
                    rw [HBO.out.list sd] at HRL
                    have HBST := Lib.hid (fun (W : World) (hb : Below wy.heap.size wy W) => best_c q q l v came sd W (Lib.hid (TY.out.bq.below hb)) HSM.out)
                    have hsd' : ((kk : Int) == 1) = sd := hsd.symm
                    clear hsd hby
                    cases hl : l sd with
                    | nil =>
                      rw [hl] at HRL
                      have HBS2 : Hid (∀ W, Below wy.heap.size wy W → Calls Tryd.prog 51 #[.pointer (some ⟨q, 0, none⟩), .bool sd] W fun e w' => e = .returned (.tuple #[.agg #[.int .i64 0, .int .i64 0, .bool false, .int .i64 0, .int .i64 0, .int .i64 0], .bool false]) ∧ Below W.heap.size W w') := fun W hb => by
                        have := HBST.out W hb
                        rw [hl] at this
                        exact this
                      clear hl HBST
                      go_wp2_with fail
                      refine HRL.out.mono ?_
                      rintro e y1 ⟨va, rfl, hown, hb1⟩
                      obtain ⟨Aa, ca, rfl⟩ := own_len hown
                      have HB1 := Lib.hid hb1
                      clear hown hb1
                      go_wp2_with fail
                      refine (HBS2.out y1 HB1.out).mono ?_
                      rintro e y2 ⟨rfl, hb2⟩
                      have HB2 := Lib.hid (HB1.out.trans (hb2.mono HB1.out.size))
                      have HSZ2 : Hid (wy.heap.size ≤ y2.heap.size) := HB2.out.size
                      clear hb2
                      go_wp2_with fail
                      refine wp_region_noPanic ?_
                      refine wp_region_held_drew (S := (fun _ => True)) (by kernel_rfl) trivial (fun hHeld => ?_)
                      refine wpAnyH_take (i := 0) (v := ?_) rfl (by kernel_rfl) (by kernel_rfl) (by kernel_rfl) (fun _ _ _ h => h) (Or.inl ⟨by rfl, ?_⟩) hHeld ?_
                      rotate_left
                      focus
                        intro w hSw
                        clear hSw
                        go_simp
                        try with_reducible rfl
                      try simp only [Act.put, List.getElem_toArray, List.getElem_cons_zero, List.getElem_cons_succ, List.setIfInBounds_toArray, List.set_cons_zero, List.set_cons_succ]
                      refine wpAnyH_take (i := 1) (v := ?_) rfl (by kernel_rfl) (by kernel_rfl) (by kernel_rfl) (fun _ _ _ h => h) (Or.inl ⟨by rfl, ?_⟩) hHeld ?_
                      rotate_left
                      focus
                        intro w hSw
                        clear hSw
                        go_simp
                        try with_reducible rfl
                      try simp only [Act.put, List.getElem_toArray, List.getElem_cons_zero, List.getElem_cons_succ, List.setIfInBounds_toArray, List.set_cons_zero, List.set_cons_succ]
                      refine wpAnyH_take (i := 2) (v := ?_) rfl (by kernel_rfl) (by kernel_rfl) (by kernel_rfl) (fun _ _ _ h => h) (Or.inl ⟨by rfl, ?_⟩) hHeld ?_
                      rotate_left
                      focus
                        intro w hSw
                        clear hSw
                        go_simp
                        try with_reducible rfl
                      try simp only [Act.put, List.getElem_toArray, List.getElem_cons_zero, List.getElem_cons_succ, List.setIfInBounds_toArray, List.set_cons_zero, List.set_cons_succ]
                      refine wpAnyH_take (i := 3) (v := ?_) rfl (by kernel_rfl) (by kernel_rfl) (by kernel_rfl) (fun _ _ _ h => h) (Or.inl ⟨by rfl, ?_⟩) hHeld ?_
                      rotate_left
                      focus
                        intro w hSw
                        clear hSw
                        go_simp
                        try with_reducible rfl
                      try simp only [Act.put, List.getElem_toArray, List.getElem_cons_zero, List.getElem_cons_succ, List.setIfInBounds_toArray, List.set_cons_zero, List.set_cons_succ]
                      refine wpAnyH_take (i := 4) (v := ?_) rfl (by kernel_rfl) (by kernel_rfl) (by kernel_rfl) (fun _ _ _ h => h) (Or.inl ⟨by rfl, ?_⟩) hHeld ?_
                      rotate_left
                      focus
                        intro w hSw
                        clear hSw
                        go_simp
                        try with_reducible rfl
                      try simp only [Act.put, List.getElem_toArray, List.getElem_cons_zero, List.getElem_cons_succ, List.setIfInBounds_toArray, List.set_cons_zero, List.set_cons_succ]
                      refine wpAnyH_take (i := 5) (v := ?_) rfl (by kernel_rfl) (by kernel_rfl) (by kernel_rfl) (fun _ _ _ h => h) (Or.inl ⟨by rfl, ?_⟩) hHeld ?_
                      rotate_left
                      focus
                        intro w hSw
                        clear hSw
                        go_simp
                        try with_reducible rfl
                      try simp only [Act.put, List.getElem_toArray, List.getElem_cons_zero, List.getElem_cons_succ, List.setIfInBounds_toArray, List.set_cons_zero, List.set_cons_succ]
                      refine wpAnyH_take (i := 6) (v := ?_) rfl (by kernel_rfl) (by kernel_rfl) (by kernel_rfl) (fun _ _ _ h => h) (Or.inl ⟨by rfl, ?_⟩) hHeld ?_
                      rotate_left
                      focus
                        intro w hSw
                        clear hSw
                        go_simp
                        try with_reducible rfl
                      try simp only [Act.put, List.getElem_toArray, List.getElem_cons_zero, List.getElem_cons_succ, List.setIfInBounds_toArray, List.set_cons_zero, List.set_cons_succ]
                      refine wpAnyH_take (i := 7) (v := ?_) rfl (by kernel_rfl) (by kernel_rfl) (by kernel_rfl) (fun _ _ _ h => h) (Or.inl ⟨by rfl, ?_⟩) hHeld ?_
                      rotate_left
                      focus
                        intro w hSw
                        clear hSw
                        go_simp
                        try with_reducible rfl
                      try simp only [Act.put, List.getElem_toArray, List.getElem_cons_zero, List.getElem_cons_succ, List.setIfInBounds_toArray, List.set_cons_zero, List.set_cons_succ]
                      refine wpAnyH_take (i := 8) (v := undef) rfl (by kernel_rfl) (by kernel_rfl) (by kernel_rfl) (fun _ _ _ h => h) (Or.inr ⟨by rfl, rfl⟩) hHeld ?_
                      try simp only [Act.put, List.getElem_toArray, List.getElem_cons_zero, List.getElem_cons_succ, List.setIfInBounds_toArray, List.set_cons_zero, List.set_cons_succ]
                      refine wpAnyH_take (i := 9) (v := undef) rfl (by kernel_rfl) (by kernel_rfl) (by kernel_rfl) (fun _ _ _ h => h) (Or.inr ⟨by rfl, rfl⟩) hHeld ?_
                      try simp only [Act.put, List.getElem_toArray, List.getElem_cons_zero, List.getElem_cons_succ, List.setIfInBounds_toArray, List.set_cons_zero, List.set_cons_succ]
                      refine wpAnyH_take (i := 10) (v := undef) rfl (by kernel_rfl) (by kernel_rfl) (by kernel_rfl) (fun _ _ _ h => h) (Or.inr ⟨by rfl, rfl⟩) hHeld ?_
                      try simp only [Act.put, List.getElem_toArray, List.getElem_cons_zero, List.getElem_cons_succ, List.setIfInBounds_toArray, List.set_cons_zero, List.set_cons_succ]
                      refine wpAnyH_take (i := 11) (v := undef) rfl (by kernel_rfl) (by kernel_rfl) (by kernel_rfl) (fun _ _ _ h => h) (Or.inr ⟨by rfl, rfl⟩) hHeld ?_
                      try simp only [Act.put, List.getElem_toArray, List.getElem_cons_zero, List.getElem_cons_succ, List.setIfInBounds_toArray, List.set_cons_zero, List.set_cons_succ]
                      refine wpAnyH_take (i := 12) (v := undef) rfl (by kernel_rfl) (by kernel_rfl) (by kernel_rfl) (fun _ _ _ h => h) (Or.inr ⟨by rfl, rfl⟩) hHeld ?_
                      try simp only [Act.put, List.getElem_toArray, List.getElem_cons_zero, List.getElem_cons_succ, List.setIfInBounds_toArray, List.set_cons_zero, List.set_cons_succ]
                      refine wpAnyH_take (i := 13) (v := undef) rfl (by kernel_rfl) (by kernel_rfl) (by kernel_rfl) (fun _ _ _ h => h) (Or.inr ⟨by rfl, rfl⟩) hHeld ?_
                      try simp only [Act.put, List.getElem_toArray, List.getElem_cons_zero, List.getElem_cons_succ, List.setIfInBounds_toArray, List.set_cons_zero, List.set_cons_succ]
                      refine wpAnyH_take (i := 14) (v := ?_) rfl (by kernel_rfl) (by kernel_rfl) (by kernel_rfl) (fun _ _ _ h => h) (Or.inl ⟨by rfl, ?_⟩) hHeld ?_
                      rotate_left
                      focus
                        intro w hSw
                        clear hSw
                        go_simp
                        try with_reducible rfl
                      try simp only [Act.put, List.getElem_toArray, List.getElem_cons_zero, List.getElem_cons_succ, List.setIfInBounds_toArray, List.set_cons_zero, List.set_cons_succ]
                      refine wpAnyH_take (i := 15) (v := ?_) rfl (by kernel_rfl) (by kernel_rfl) (by kernel_rfl) (fun _ _ _ h => h) (Or.inl ⟨by rfl, ?_⟩) hHeld ?_
                      rotate_left
                      focus
                        intro w hSw
                        clear hSw
                        go_simp
                        try with_reducible rfl
                      try simp only [Act.put, List.getElem_toArray, List.getElem_cons_zero, List.getElem_cons_succ, List.setIfInBounds_toArray, List.set_cons_zero, List.set_cons_succ]
                      refine wpAnyH_done (by kernel_rfl) ?_ _
                      refine NoPanic.normal ?_
                      go_wp2_with fail
                      go_roundw
                      case rel => exact ⟨kk + 1, _, rfl, by omega, by go_num, HBY.out.trans (((HB2.out.alloc HSZ2.out _).drew).mono HBY.out.size)⟩
                      case measure => simp [intOf]; omega
                    | cons y rest =>
                      rw [hl] at HRL
                      obtain ⟨yi, ytt, ysl, ypr, ylt, ysq⟩ := y
                      have HBS2 : Hid (∀ W, Below wy.heap.size wy W → Calls Tryd.prog 51 #[.pointer (some ⟨q, 0, none⟩), .bool sd] W fun e w' => e = .returned (.tuple #[.agg #[.int .i64 yi, .int .i64 ytt, .bool ysl, .int .i64 ypr, .int .i64 ylt, .int .i64 ysq], .bool true]) ∧ Below W.heap.size W w') := fun W hb => by
                        have := HBST.out W hb
                        rw [hl] at this
                        exact this
                      clear hl HBST
                      go_wp2_with fail
                      refine HRL.out.mono ?_
                      rintro e y1 ⟨va, rfl, hown, hb1⟩
                      obtain ⟨gl, cap, cur, hva, _, _, _, hblk, _, hrows⟩ := own_rows' Ord.k6 hown rfl (by simp)
                      subst hva
                      have rr : y1.rangeAt gl 0 [.int .i64 yi, .int .i64 ytt, .bool ysl, .int .i64 ypr, .int .i64 ylt, .int .i64 ysq] := by
                        have := hrows 0 _ rfl
                        simpa [Ord.cells] using this
                      have hglt : gl < y1.heap.size := (Array.getElem?_eq_some_iff.1 hblk).1
                      have HRR := Lib.hid rr
                      have HGL := Lib.hid hglt
                      have HB1 := Lib.hid hb1
                      have hlen : (⟨yi, ytt, ysl, ypr, ylt, ysq⟩ :: rest : List Ord).length = rest.length + 1 := rfl
                      rw [hlen]
                      generalize rest.length = m at *
                      clear hown hb1 hrows hblk rr hglt hlen
                      go_wp2_with fail
                      refine (HBS2.out y1 HB1.out).mono ?_
                      rintro e y2 ⟨rfl, hb2⟩
                      have HB2 := Lib.hid (HB1.out.trans (hb2.mono HB1.out.size))
                      have HRR2 := Lib.hid (rangeAt_below HRR.out hb2 HGL.out)
                      have HGL2 : Hid (gl < y2.heap.size) := Nat.lt_of_lt_of_le HGL.out hb2.size
                      obtain ⟨ZB, hZB⟩ : ∃ z, z = y2.heap.size := ⟨_, rfl⟩
                      obtain ⟨WZ, hWZ⟩ : ∃ z, z = y2.alloc (.cells #[.int .i64 yi, .int .i64 ytt, .bool ysl, .int .i64 ypr, .int .i64 ylt, .int .i64 ysq] 67) := ⟨_, rfl⟩
                      have hbz : Below y2.heap.size y2 WZ := by rw [hWZ]; exact (Below.refl _ _).alloc (Nat.le_refl _) _
                      have hblkz : Blk WZ ZB #[.int .i64 yi, .int .i64 ytt, .bool ysl, .int .i64 ypr, .int .i64 ylt, .int .i64 ysq] 67 := by rw [hWZ, hZB]; exact Blk.new y2 _ _
                      have r1 : WZ.rangeAt ZB 0 [.int .i64 yi, .int .i64 ytt, .bool ysl, .int .i64 ypr, .int .i64 ylt, .int .i64 ysq] := fun j x hj => by
                        rw [Nat.zero_add]
                        exact hblkz.cell j x (by simpa using hj)
                      have ol0 : ∃ ol : Nat, ol = 0 := ⟨_, rfl⟩
                      obtain ⟨ol, hol⟩ := ol0
                      have r2 : WZ.rangeAt gl 0 [.int .i64 yi, .int .i64 ytt, .bool ysl, .int .i64 ypr, .int .i64 ylt, .int .i64 ysq] := rangeAt_below HRR2.out hbz HGL2.out
                      have ZLT := Lib.hid hblkz.lt
                      have GLT : Hid (gl < WZ.heap.size) := Nat.lt_of_lt_of_le HGL2.out hbz.size
                      have HBZ := Lib.hid (HBY.out.trans ((HB2.out.trans (hbz.mono HB2.out.size)).mono HBY.out.size))
                      have HWZ := Lib.hid hWZ
                      have HZE := Lib.hid hZB
                      clear hb2 hbz hblkz hWZ hZB hol
                      go_upto_region 30 with fail
                      rw [← HWZ.out, ← HZE.out]
                      have hne := ror_neq_same yi ytt ysl ypr ylt ysq
                      have hgd := ror_guard
                      have hm0 : (0 : Int) < (m : Int) + 1 := by omega
                      refine wp_region_noPanic ?_
                      refine wp_region_held_drew (S := (fun w' => w'.rangeAt ZB 0 [.int .i64 yi, .int .i64 ytt, .bool ysl, .int .i64 ypr, .int .i64 ylt, .int .i64 ysq] ∧ w'.rangeAt gl 0 [.int .i64 yi, .int .i64 ytt, .bool ysl, .int .i64 ypr, .int .i64 ylt, .int .i64 ysq])) (by kernel_rfl) ⟨r1, r2⟩ (fun hHeld => ?_)
                      refine wpAnyH_take (i := 0) (v := ?_) rfl (by kernel_rfl) (by kernel_rfl) (by kernel_rfl) (fun _ _ _ h => h) (Or.inl ⟨by rfl, ?_⟩) hHeld ?_
                      rotate_left
                      focus
                        intro w hSw
                        clear hSw
                        go_simp
                        try with_reducible rfl
                      try simp only [Act.put, List.getElem_toArray, List.getElem_cons_zero, List.getElem_cons_succ, List.setIfInBounds_toArray, List.set_cons_zero, List.set_cons_succ]
                      refine wpAnyH_take (i := 1) (v := ?_) rfl (by kernel_rfl) (by kernel_rfl) (by kernel_rfl) (fun _ _ _ h => h) (Or.inl ⟨by rfl, ?_⟩) hHeld ?_
                      rotate_left
                      focus
                        intro w hSw
                        clear hSw
                        go_simp
                        try with_reducible rfl
                      try simp only [Act.put, List.getElem_toArray, List.getElem_cons_zero, List.getElem_cons_succ, List.setIfInBounds_toArray, List.set_cons_zero, List.set_cons_succ]
                      refine wpAnyH_take (i := 2) (v := ?_) rfl (by kernel_rfl) (by kernel_rfl) (by kernel_rfl) (fun _ _ _ h => h) (Or.inl ⟨by rfl, ?_⟩) hHeld ?_
                      rotate_left
                      focus
                        intro w hSw
                        clear hSw
                        go_simp
                        try with_reducible rfl
                      try simp only [Act.put, List.getElem_toArray, List.getElem_cons_zero, List.getElem_cons_succ, List.setIfInBounds_toArray, List.set_cons_zero, List.set_cons_succ]
                      refine wpAnyH_take (i := 3) (v := ?_) rfl (by kernel_rfl) (by kernel_rfl) (by kernel_rfl) (fun _ _ _ h => h) (Or.inl ⟨by rfl, ?_⟩) hHeld ?_
                      rotate_left
                      focus
                        intro w hSw
                        clear hSw
                        go_simp
                        try with_reducible rfl
                      try simp only [Act.put, List.getElem_toArray, List.getElem_cons_zero, List.getElem_cons_succ, List.setIfInBounds_toArray, List.set_cons_zero, List.set_cons_succ]
                      refine wpAnyH_take (i := 4) (v := ?_) rfl (by kernel_rfl) (by kernel_rfl) (by kernel_rfl) (fun _ _ _ h => h) (Or.inl ⟨by rfl, ?_⟩) hHeld ?_
                      rotate_left
                      focus
                        intro w hSw
                        clear hSw
                        go_simp
                        try with_reducible rfl
                      try simp only [Act.put, List.getElem_toArray, List.getElem_cons_zero, List.getElem_cons_succ, List.setIfInBounds_toArray, List.set_cons_zero, List.set_cons_succ]
                      refine wpAnyH_take (i := 5) (v := ?_) rfl (by kernel_rfl) (by kernel_rfl) (by kernel_rfl) (fun _ _ _ h => h) (Or.inl ⟨by rfl, ?_⟩) hHeld ?_
                      rotate_left
                      focus
                        intro w hSw
                        clear hSw
                        go_simp
                        try with_reducible rfl
                      try simp only [Act.put, List.getElem_toArray, List.getElem_cons_zero, List.getElem_cons_succ, List.setIfInBounds_toArray, List.set_cons_zero, List.set_cons_succ]
                      refine wpAnyH_take (i := 6) (v := ?_) rfl (by kernel_rfl) (by kernel_rfl) (by kernel_rfl) (fun _ _ _ h => h) (Or.inl ⟨by rfl, ?_⟩) hHeld ?_
                      rotate_left
                      focus
                        intro w hSw
                        clear hSw
                        go_simp
                        try with_reducible rfl
                      try simp only [Act.put, List.getElem_toArray, List.getElem_cons_zero, List.getElem_cons_succ, List.setIfInBounds_toArray, List.set_cons_zero, List.set_cons_succ]
                      refine wpAnyH_take (i := 7) (v := ?_) rfl (by kernel_rfl) (by kernel_rfl) (by kernel_rfl) (fun _ _ _ h => h) (Or.inl ⟨by rfl, ?_⟩) hHeld ?_
                      rotate_left
                      focus
                        intro w hSw
                        clear hSw
                        go_simp
                        try with_reducible rfl
                      try simp only [Act.put, List.getElem_toArray, List.getElem_cons_zero, List.getElem_cons_succ, List.setIfInBounds_toArray, List.set_cons_zero, List.set_cons_succ]
                      refine wpAnyH_take (i := 8) rfl (by kernel_rfl) (by kernel_rfl) (by kernel_rfl) (fun _ _ _ h => h) (yieldsIf_load_mid (by rfl) 67 _ rfl ZB (0) rfl [.int .i64 yi, .int .i64 ytt, .bool ysl, .int .i64 ypr, .int .i64 ylt, .int .i64 ysq] _ (fun w h => h.1) Tryd.underlying67 rfl size_ord) hHeld ?_
                      try simp only [Act.put, List.getElem_toArray, List.getElem_cons_zero, List.getElem_cons_succ, List.setIfInBounds_toArray, List.set_cons_zero, List.set_cons_succ]
                      refine wpAnyH_take (i := 10) (v := ?_) rfl (by kernel_rfl) (by kernel_rfl) (by kernel_rfl) (fun _ _ _ h => h) (Or.inl ⟨by rfl, ?_⟩) hHeld ?_
                      rotate_left
                      focus
                        intro w hSw
                        clear hSw
                        go_simp
                        try with_reducible rfl
                      try simp only [Act.put, List.getElem_toArray, List.getElem_cons_zero, List.getElem_cons_succ, List.setIfInBounds_toArray, List.set_cons_zero, List.set_cons_succ]
                      refine wpAnyH_take (i := 11) (v := ?_) rfl (by kernel_rfl) (by kernel_rfl) (by kernel_rfl) (fun _ _ _ h => h) (Or.inl ⟨by rfl, ?_⟩) hHeld ?_
                      rotate_left
                      focus
                        intro w hSw
                        clear hSw
                        go_simp
                        try with_reducible rfl
                      try simp only [Act.put, List.getElem_toArray, List.getElem_cons_zero, List.getElem_cons_succ, List.setIfInBounds_toArray, List.set_cons_zero, List.set_cons_succ]
                      refine wpAnyH_take (i := 12) rfl (by kernel_rfl) (by kernel_rfl) (by kernel_rfl) (fun _ _ _ h => h) (yieldsIf_load_mid (by rfl) 97 _ rfl gl (0) rfl [.int .i64 yi, .int .i64 ytt, .bool ysl, .int .i64 ypr, .int .i64 ylt, .int .i64 ysq] _ (fun w h => h.2) Tryd.underlying97 rfl size_ror) hHeld ?_
                      try simp only [Act.put, List.getElem_toArray, List.getElem_cons_zero, List.getElem_cons_succ, List.setIfInBounds_toArray, List.set_cons_zero, List.set_cons_succ]
                      refine wpAnyH_ready (rs := [9]) (by kernel_rfl) (by simp) ?_
                      refine AllReadyH.cons rfl (fun K hK => ?_) AllReadyH.nil
                      go_simp
                      refine (form_l yi ytt ysl ypr ylt ysq _).mono ?_
                      rintro e z3 ⟨rfl, hb3⟩
                      have hb3 : Below WZ.heap.size WZ z3 := ⟨hb3.os, hb3.tape, hb3.output, hb3.size, hb3.block⟩
                      have r1 := rangeAt_below r1 hb3 ZLT.out
                      have r2 := rangeAt_below r2 hb3 GLT.out
                      have HBZ := Lib.hid (HBZ.out.trans (hb3.mono HBZ.out.size))
                      clear hb3
                      refine hK.out _ _ ⟨r1, r2⟩ (fun hHeld => ?_)
                      clear hK K
                      try simp only [Act.put, List.getElem_toArray, List.getElem_cons_zero, List.getElem_cons_succ, List.setIfInBounds_toArray, List.set_cons_zero, List.set_cons_succ]
                      refine wpAnyH_take (i := 13) (v := ?_) rfl (by kernel_rfl) (by kernel_rfl) (by kernel_rfl) (fun _ _ _ h => h) (Or.inl ⟨by rfl, ?_⟩) hHeld ?_
                      rotate_left
                      focus
                        intro w hSw
                        clear hSw
                        go_simp
                        try with_reducible rfl
                      try simp only [Act.put, List.getElem_toArray, List.getElem_cons_zero, List.getElem_cons_succ, List.setIfInBounds_toArray, List.set_cons_zero, List.set_cons_succ]
                      refine wpAnyH_take (i := 14) (v := ?_) rfl (by kernel_rfl) (by kernel_rfl) (by kernel_rfl) (fun _ _ _ h => h) (Or.inl ⟨by rfl, ?_⟩) hHeld ?_
                      rotate_left
                      focus
                        intro w hSw
                        clear hSw
                        go_simp
                        try with_reducible rfl
                      try simp only [Act.put, List.getElem_toArray, List.getElem_cons_zero, List.getElem_cons_succ, List.setIfInBounds_toArray, List.set_cons_zero, List.set_cons_succ]
                      refine wpAnyH_take (i := 15) (v := ?_) rfl (by kernel_rfl) (by kernel_rfl) (by kernel_rfl) (fun _ _ _ h => h) (Or.inl ⟨by rfl, ?_⟩) hHeld ?_
                      rotate_left
                      focus
                        intro w hSw
                        clear hSw
                        go_simp
                        try with_reducible rfl
                      try simp only [Act.put, List.getElem_toArray, List.getElem_cons_zero, List.getElem_cons_succ, List.setIfInBounds_toArray, List.set_cons_zero, List.set_cons_succ]
                      refine wpAnyH_done (by kernel_rfl) ?_ _
                      refine NoPanic.normal ?_
                      go_wp2_with fail
                      go_roundw
                      case rel => exact ⟨kk + 1, _, rfl, by omega, by go_num, HBZ.out⟩
                      case measure => simp [intOf]; omega
                  · obtain rfl : kk = 2 := by omega
                    have TZ := TY
                    clear hby
                    go_wp2_with fail
                    go_roundw
                    case rel => exact ⟨k + 1, came, l, v, L, rv, _, rfl, by omega, by omega, by go_num, by omega, HBO, TZ.out.bq, TZ.out.r, TZ.out.b⟩
                    case measure => simp [intOf]; omega
          | some j =>
            as_aux_lemma =>
              obtain ⟨x, s, i, hx, hid, hf, hxi, hxs⟩ := HBO.out.at_some hj
              obtain ⟨yi, ytt, ysl, ypr, ylt, ysq⟩ := x
              have HOF : Hid (Calls Tryd.prog 45 #[.pointer (some ⟨q, 0, none⟩), .int .i64 oi] WR fun e w' => e = .returned (.tuple #[.agg #[.int .i64 yi, .int .i64 ytt, .bool ysl, .int .i64 ypr, .int .i64 ylt, .int .i64 ysq], .bool true]) ∧ Below WR.heap.size WR w') := by
                have := of_book q q l v came oi WR (Lib.hid TR.out.bq) HSM.out
                rw [getO_of hf hxi] at this
                exact this
              have HAT : Hid (∀ W, Below WR.heap.size WR W → Calls Tryd.prog 59 #[.pointer (some ⟨u, 0, none⟩), .int .i64 oi] W fun e w' => e = .returned (.int .i64 (j : Int)) ∧ W = w') := fun W hb => by
                have := rat_c u u L rv came oi W (Lib.hid (TR.out.r.below hb)) (by have := HFEW.out; omega)
                rw [at_of_some hj] at this
                exact this
              have hjl : j < L.length := (List.getElem?_eq_some_iff.1 hx).1
              have HX := Lib.hid hx
              clear hj hf hxi hxs hid hx
              go_wp2_with fail
              refine HOF.out.mono ?_
              rintro e y1 ⟨rfl, hb1⟩
              obtain ⟨YB, hYB⟩ : ∃ z, z = y1.heap.size := ⟨_, rfl⟩
              obtain ⟨WT, hWT⟩ : ∃ z, z = y1.alloc (.cells #[.int .i64 yi, .int .i64 ytt, .bool ysl, .int .i64 ypr, .int .i64 ylt, .int .i64 ysq] 67) := ⟨_, rfl⟩
              have hbt : Below y1.heap.size y1 WT := by rw [hWT]; exact (Below.refl _ _).alloc (Nat.le_refl _) _
              have hblk : Blk WT YB #[.int .i64 yi, .int .i64 ytt, .bool ysl, .int .i64 ypr, .int .i64 ylt, .int .i64 ysq] 67 := by rw [hWT, hYB]; exact Blk.new y1 _ _
              have r1 : WT.rangeAt YB 0 [.int .i64 yi, .int .i64 ytt, .bool ysl, .int .i64 ypr, .int .i64 ylt, .int .i64 ysq] := fun j x hj => by
                rw [Nat.zero_add]
                exact hblk.cell j x (by simpa using hj)
              have YLT := Lib.hid hblk.lt
              have HBT := Lib.hid (hb1.trans (hbt.mono hb1.size))
              have TT := Lib.hid (TR.out.below HBT.out)
              have HWT := Lib.hid hWT
              have HYE := Lib.hid hYB
              have x0 := TT.out.x0
              have HR1 := Lib.hid r1
              clear hb1 hbt hWT hYB hblk r1
              rw [HWT.out] at x0
              go_upto_region 22 with fail
              rw [← HWT.out, ← HYE.out]
              rw [← HWT.out] at x0
              go_wp2_with fail
              refine (HAT.out WT HBT.out).mono ?_
              rintro e y2 ⟨rfl, rfl⟩
              obtain ⟨gb, hgo⟩ : ∃ gb, gb = Ord.good ⟨oi, ott, osl, opr, olt, osq⟩ := ⟨_, rfl⟩
              obtain ⟨AL, cL, hvL, hrdL, cU, _, _⟩ := TT.out.r.form
              obtain ⟨gL, oL, hAL, hgL, hrows⟩ := hrdL.2 (by omega)
              subst hAL
              have r2 : WT.rangeAt gL (oL + j * 6) [.int .i64 yi, .int .i64 ytt, .bool ysl, .int .i64 ypr, .int .i64 ylt, .int .i64 ysq] := hrows j _ HX.out
              have GLT : Hid (gL < WT.heap.size) := hgL
              have r1 := HR1.out
              have HLEN : Hid (∀ W, Below WT.heap.size WT W → Calls Tryd.prog 46 #[.pointer (some ⟨q, 0, none⟩)] W fun e w' => e = .returned (.int .i64 (L.length : Int)) ∧ Below W.heap.size W w') := fun W hb => by
                have := blen_c q q l v came W (Lib.hid (TT.out.bq.below hb)) HSM.out
                rw [← HBO.out.len] at this
                exact this
              have rO := TT.out.xr
              have hne := ror_neq_same yi ytt ysl ypr ylt ysq
              have hgd := ror_guard
              have j0 : (0 : Int) ≤ (j : Int) := by omega
              have j1 : (j : Int) < (L.length : Int) := by omega
              clear x0 hvL hrows hrdL hgL
              go_wp2_with fail
              refine wp_region_noPanic ?_
              refine wp_region_held_drew (S := (fun w' => w'.rangeAt OB 0 [.int .i64 oi, .int .i64 ott, .bool osl, .int .i64 opr, .int .i64 olt, .int .i64 osq] ∧ w'.cell? ⟨u, 0, none⟩ = some (.slice (some ⟨gL, oL, none⟩) L.length cL) ∧ w'.rangeAt YB 0 [.int .i64 yi, .int .i64 ytt, .bool ysl, .int .i64 ypr, .int .i64 ylt, .int .i64 ysq] ∧ w'.rangeAt gL (oL + j * 6) [.int .i64 yi, .int .i64 ytt, .bool ysl, .int .i64 ypr, .int .i64 ylt, .int .i64 ysq])) (by kernel_rfl) ⟨rO, cU, r1, r2⟩ (fun hHeld => ?_)
              have HB : Below WT.heap.size WT WT.drew := ⟨rfl, rfl, rfl, Nat.le_refl _, fun _ _ => rfl⟩
              refine wpAnyH_take (i := 0) rfl (by kernel_rfl) (by kernel_rfl) (by kernel_rfl) (fun _ _ _ h => h) (yieldsIf_load_mid (by rfl) 67 _ rfl OB (0) rfl [.int .i64 oi, .int .i64 ott, .bool osl, .int .i64 opr, .int .i64 olt, .int .i64 osq] _ (fun w h => h.1) Tryd.underlying67 rfl size_ord) hHeld ?_
              try simp only [Act.put, List.getElem_toArray, List.getElem_cons_zero, List.getElem_cons_succ, List.setIfInBounds_toArray, List.set_cons_zero, List.set_cons_succ]
              refine wpAnyH_take (i := 2) rfl (by kernel_rfl) (by kernel_rfl) (by kernel_rfl) (fun _ _ _ h => h) (yieldsIf_load_mid (by rfl) 67 _ rfl OB (0) rfl [.int .i64 oi, .int .i64 ott, .bool osl, .int .i64 opr, .int .i64 olt, .int .i64 osq] _ (fun w h => h.1) Tryd.underlying67 rfl size_ord) hHeld ?_
              try simp only [Act.put, List.getElem_toArray, List.getElem_cons_zero, List.getElem_cons_succ, List.setIfInBounds_toArray, List.set_cons_zero, List.set_cons_succ]
              refine wpAnyH_ready (rs := [1]) (by kernel_rfl) (by simp) ?_
              refine AllReadyH.cons rfl (fun K hK => ?_) AllReadyH.nil
              go_simp
              refine (good_c ⟨oi, ott, osl, opr, olt, osq⟩ _).mono ?_
              rw [← hgo]
              rintro e z1 ⟨rfl, hb1⟩
              have hb1 : Below WT.heap.size WT z1 := ⟨hb1.os, hb1.tape, hb1.output, hb1.size, hb1.block⟩
              have rO := rangeAt_below rO hb1 (Nat.lt_of_lt_of_le TT.out.lt HB.size)
              have cU := (hb1.cell (p := ⟨u, 0, none⟩) (Nat.lt_of_lt_of_le TT.out.r.lt HB.size)).trans cU
              have r1 := rangeAt_below r1 hb1 (Nat.lt_of_lt_of_le YLT.out HB.size)
              have r2 := rangeAt_below r2 hb1 (Nat.lt_of_lt_of_le GLT.out HB.size)
              have HB := hb1
              refine hK.out _ _ ⟨rO, cU, r1, r2⟩ (fun hHeld => ?_)
              clear hK K
              try simp only [Act.put, List.getElem_toArray, List.getElem_cons_zero, List.getElem_cons_succ, List.setIfInBounds_toArray, List.set_cons_zero, List.set_cons_succ]
              refine wpAnyH_ready (rs := [3]) (by kernel_rfl) (by simp) ?_
              refine AllReadyH.cons rfl (fun K hK => ?_) AllReadyH.nil
              go_simp
              refine (form_l oi ott osl opr olt osq z1).mono ?_
              rintro e z2 ⟨rfl, hb2⟩
              have rO := rangeAt_below rO hb2 (Nat.lt_of_lt_of_le TT.out.lt HB.size)
              have cU := (hb2.cell (p := ⟨u, 0, none⟩) (Nat.lt_of_lt_of_le TT.out.r.lt HB.size)).trans cU
              have r1 := rangeAt_below r1 hb2 (Nat.lt_of_lt_of_le YLT.out HB.size)
              have r2 := rangeAt_below r2 hb2 (Nat.lt_of_lt_of_le GLT.out HB.size)
              have HB := HB.trans (hb2.mono HB.size)
              refine hK.out _ _ ⟨rO, cU, r1, r2⟩ (fun hHeld => ?_)
              clear hK K
              try simp only [Act.put, List.getElem_toArray, List.getElem_cons_zero, List.getElem_cons_succ, List.setIfInBounds_toArray, List.set_cons_zero, List.set_cons_succ]
              refine wpAnyH_ready (rs := [4]) (by kernel_rfl) (by simp) ?_
              refine AllReadyH.cons rfl (fun K hK => ?_) AllReadyH.nil
              go_simp
              refine (rgood_c ⟨oi, ott, osl, opr, olt, osq⟩ z2).mono ?_
              rw [← hgo]
              rintro e z3 ⟨rfl, hb3⟩
              have rO := rangeAt_below rO hb3 (Nat.lt_of_lt_of_le TT.out.lt HB.size)
              have cU := (hb3.cell (p := ⟨u, 0, none⟩) (Nat.lt_of_lt_of_le TT.out.r.lt HB.size)).trans cU
              have r1 := rangeAt_below r1 hb3 (Nat.lt_of_lt_of_le YLT.out HB.size)
              have r2 := rangeAt_below r2 hb3 (Nat.lt_of_lt_of_le GLT.out HB.size)
              have HB := HB.trans (hb3.mono HB.size)
              refine hK.out _ _ ⟨rO, cU, r1, r2⟩ (fun hHeld => ?_)
              clear hK K
              try simp only [Act.put, List.getElem_toArray, List.getElem_cons_zero, List.getElem_cons_succ, List.setIfInBounds_toArray, List.set_cons_zero, List.set_cons_succ]
              refine wpAnyH_take (i := 5) (v := ?_) rfl (by kernel_rfl) (by kernel_rfl) (by kernel_rfl) (fun _ _ _ h => h) (Or.inl ⟨by rfl, ?_⟩) hHeld ?_
              rotate_left
              focus
                intro w hSw
                clear hSw
                go_simp
                try with_reducible rfl
              try simp only [Act.put, List.getElem_toArray, List.getElem_cons_zero, List.getElem_cons_succ, List.setIfInBounds_toArray, List.set_cons_zero, List.set_cons_succ]
              refine wpAnyH_take (i := 6) (v := ?_) rfl (by kernel_rfl) (by kernel_rfl) (by kernel_rfl) (fun _ _ _ h => h) (Or.inl ⟨by rfl, ?_⟩) hHeld ?_
              rotate_left
              focus
                intro w hSw
                clear hSw
                go_simp
                try with_reducible rfl
              try simp only [Act.put, List.getElem_toArray, List.getElem_cons_zero, List.getElem_cons_succ, List.setIfInBounds_toArray, List.set_cons_zero, List.set_cons_succ]
              refine wpAnyH_take (i := 7) (v := ?_) rfl (by kernel_rfl) (by kernel_rfl) (by kernel_rfl) (fun _ _ _ h => h) (Or.inl ⟨by rfl, ?_⟩) hHeld ?_
              rotate_left
              focus
                intro w hSw
                clear hSw
                go_simp
                try with_reducible rfl
              try simp only [Act.put, List.getElem_toArray, List.getElem_cons_zero, List.getElem_cons_succ, List.setIfInBounds_toArray, List.set_cons_zero, List.set_cons_succ]
              refine wpAnyH_take (i := 8) (v := ?_) rfl (by kernel_rfl) (by kernel_rfl) (by kernel_rfl) (fun _ _ _ h => h) (Or.inl ⟨by rfl, ?_⟩) hHeld ?_
              rotate_left
              focus
                intro w hSw
                clear hSw
                go_simp
                try with_reducible rfl
              try simp only [Act.put, List.getElem_toArray, List.getElem_cons_zero, List.getElem_cons_succ, List.setIfInBounds_toArray, List.set_cons_zero, List.set_cons_succ]
              refine wpAnyH_take (i := 9) (v := ?_) rfl (by kernel_rfl) (by kernel_rfl) (by kernel_rfl) (fun _ _ _ h => h) (Or.inl ⟨by rfl, ?_⟩) hHeld ?_
              rotate_left
              focus
                intro w hSw
                clear hSw
                go_simp
                try with_reducible rfl
              try simp only [Act.put, List.getElem_toArray, List.getElem_cons_zero, List.getElem_cons_succ, List.setIfInBounds_toArray, List.set_cons_zero, List.set_cons_succ]
              refine wpAnyH_take (i := 10) (v := ?_) rfl (by kernel_rfl) (by kernel_rfl) (by kernel_rfl) (fun _ _ _ h => h) (Or.inl ⟨by rfl, ?_⟩) hHeld ?_
              rotate_left
              focus
                intro w hSw
                clear hSw
                go_simp
                try with_reducible rfl
              try simp only [Act.put, List.getElem_toArray, List.getElem_cons_zero, List.getElem_cons_succ, List.setIfInBounds_toArray, List.set_cons_zero, List.set_cons_succ]
              refine wpAnyH_take (i := 11) (v := ?_) rfl (by kernel_rfl) (by kernel_rfl) (by kernel_rfl) (fun _ _ _ h => h) (Or.inl ⟨by rfl, ?_⟩) hHeld ?_
              rotate_left
              focus
                intro w hSw
                clear hSw
                go_simp
                try with_reducible rfl
              try simp only [Act.put, List.getElem_toArray, List.getElem_cons_zero, List.getElem_cons_succ, List.setIfInBounds_toArray, List.set_cons_zero, List.set_cons_succ]
              refine wpAnyH_take (i := 12) (v := ?_) rfl (by kernel_rfl) (by kernel_rfl) (by kernel_rfl) (fun _ _ _ h => h) (Or.inl ⟨by rfl, ?_⟩) hHeld ?_
              rotate_left
              focus
                intro w hSw
                clear hSw
                go_simp
                try with_reducible rfl
              try simp only [Act.put, List.getElem_toArray, List.getElem_cons_zero, List.getElem_cons_succ, List.setIfInBounds_toArray, List.set_cons_zero, List.set_cons_succ]
              refine wpAnyH_take (i := 13) (v := ?_) rfl (by kernel_rfl) (by kernel_rfl) (by kernel_rfl) (fun _ _ _ h => h) (Or.inl ⟨by rfl, ?_⟩) hHeld ?_
              rotate_left
              focus
                intro w hSw
                clear hSw
                go_simp
                try with_reducible rfl
              try simp only [Act.put, List.getElem_toArray, List.getElem_cons_zero, List.getElem_cons_succ, List.setIfInBounds_toArray, List.set_cons_zero, List.set_cons_succ]
              refine wpAnyH_take (i := 14) (v := ?_) rfl (by kernel_rfl) (by kernel_rfl) (by kernel_rfl) (fun _ _ _ h => h) (Or.inl ⟨by rfl, ?_⟩) hHeld ?_
              rotate_left
              focus
                intro w hSw
                clear hSw
                go_simp
                try with_reducible rfl
              try simp only [Act.put, List.getElem_toArray, List.getElem_cons_zero, List.getElem_cons_succ, List.setIfInBounds_toArray, List.set_cons_zero, List.set_cons_succ]
              refine wpAnyH_take (i := 15) rfl (by kernel_rfl) (by kernel_rfl) (by kernel_rfl) (fun _ _ _ h => h) (yieldsIf_load_mid (by rfl) 67 _ rfl YB (0) rfl [.int .i64 yi, .int .i64 ytt, .bool ysl, .int .i64 ypr, .int .i64 ylt, .int .i64 ysq] _ (fun w h => h.2.2.1) Tryd.underlying67 rfl size_ord) hHeld ?_
              try simp only [Act.put, List.getElem_toArray, List.getElem_cons_zero, List.getElem_cons_succ, List.setIfInBounds_toArray, List.set_cons_zero, List.set_cons_succ]
              refine wpAnyH_take (i := 17) (v := ?_) rfl (by kernel_rfl) (by kernel_rfl) (by kernel_rfl) (fun _ _ _ h => h) (Or.inl ⟨by rfl, ?_⟩) hHeld ?_
              rotate_left
              focus
                intro w hSw
                clear hSw
                go_simp
                try with_reducible rfl
              try simp only [Act.put, List.getElem_toArray, List.getElem_cons_zero, List.getElem_cons_succ, List.setIfInBounds_toArray, List.set_cons_zero, List.set_cons_succ]
              refine wpAnyH_take (i := 18) (v := ?_) rfl (by kernel_rfl) (by kernel_rfl) (by kernel_rfl) (fun _ _ _ h => h) (Or.inl ⟨by rfl, ?_⟩) hHeld ?_
              rotate_left
              focus
                intro w hSw
                clear hSw
                go_simp
                try with_reducible rfl
              try simp only [Act.put, List.getElem_toArray, List.getElem_cons_zero, List.getElem_cons_succ, List.setIfInBounds_toArray, List.set_cons_zero, List.set_cons_succ]
              refine wpAnyH_take (i := 19) (v := ?_) rfl (by kernel_rfl) (by kernel_rfl) (by kernel_rfl) (fun _ _ _ h => h) (Or.inl ⟨by rfl, ?_⟩) hHeld ?_
              rotate_left
              focus
                intro w hSw
                clear hSw
                go_simp
                try with_reducible rfl
              try simp only [Act.put, List.getElem_toArray, List.getElem_cons_zero, List.getElem_cons_succ, List.setIfInBounds_toArray, List.set_cons_zero, List.set_cons_succ]
              refine wpAnyH_take (i := 20) (v := ?_) rfl (by kernel_rfl) (by kernel_rfl) (by kernel_rfl) (fun _ _ _ h => h) (Or.inl ⟨by rfl, ?_⟩) hHeld ?_
              rotate_left
              focus
                intro w hSw
                (try dsimp only at hSw)
                go_simp
                try with_reducible rfl
              try simp only [Act.put, List.getElem_toArray, List.getElem_cons_zero, List.getElem_cons_succ, List.setIfInBounds_toArray, List.set_cons_zero, List.set_cons_succ]
              refine wpAnyH_take (i := 21) (v := ?_) rfl (by kernel_rfl) (by kernel_rfl) (by kernel_rfl) (fun _ _ _ h => h) (Or.inl ⟨by rfl, ?_⟩) hHeld ?_
              rotate_left
              focus
                intro w hSw
                clear hSw
                go_simp
                try with_reducible rfl
              try simp only [Act.put, List.getElem_toArray, List.getElem_cons_zero, List.getElem_cons_succ, List.setIfInBounds_toArray, List.set_cons_zero, List.set_cons_succ]
              refine wpAnyH_take (i := 22) (v := ?_) rfl (by kernel_rfl) (by kernel_rfl) (by kernel_rfl) (fun _ _ _ h => h) (Or.inl ⟨by rfl, ?_⟩) hHeld ?_
              rotate_left
              focus
                intro w hSw
                clear hSw
                go_simp
                try with_reducible rfl
              try simp only [Act.put, List.getElem_toArray, List.getElem_cons_zero, List.getElem_cons_succ, List.setIfInBounds_toArray, List.set_cons_zero, List.set_cons_succ]
              refine wpAnyH_take (i := 23) rfl (by kernel_rfl) (by kernel_rfl) (by kernel_rfl) (fun _ _ _ h => h) (yieldsIf_load_mid (by rfl) 97 _ rfl gL (oL + j * 6) rfl [.int .i64 yi, .int .i64 ytt, .bool ysl, .int .i64 ypr, .int .i64 ylt, .int .i64 ysq] _ (fun w h => h.2.2.2) Tryd.underlying97 rfl size_ror) hHeld ?_
              try simp only [Act.put, List.getElem_toArray, List.getElem_cons_zero, List.getElem_cons_succ, List.setIfInBounds_toArray, List.set_cons_zero, List.set_cons_succ]
              refine wpAnyH_ready (rs := [16]) (by kernel_rfl) (by simp) ?_
              refine AllReadyH.cons rfl (fun K hK => ?_) AllReadyH.nil
              go_simp
              refine (form_l yi ytt ysl ypr ylt ysq z3).mono ?_
              rintro e z3b ⟨rfl, hb3b⟩
              have rO := rangeAt_below rO hb3b (Nat.lt_of_lt_of_le TT.out.lt HB.size)
              have cU := (hb3b.cell (p := ⟨u, 0, none⟩) (Nat.lt_of_lt_of_le TT.out.r.lt HB.size)).trans cU
              have r1 := rangeAt_below r1 hb3b (Nat.lt_of_lt_of_le YLT.out HB.size)
              have r2 := rangeAt_below r2 hb3b (Nat.lt_of_lt_of_le GLT.out HB.size)
              have HB := HB.trans (hb3b.mono HB.size)
              refine hK.out _ _ ⟨rO, cU, r1, r2⟩ (fun hHeld => ?_)
              clear hK K
              try simp only [Act.put, List.getElem_toArray, List.getElem_cons_zero, List.getElem_cons_succ, List.setIfInBounds_toArray, List.set_cons_zero, List.set_cons_succ]
              refine wpAnyH_take (i := 24) (v := ?_) rfl (by kernel_rfl) (by kernel_rfl) (by kernel_rfl) (fun _ _ _ h => h) (Or.inl ⟨by rfl, ?_⟩) hHeld ?_
              rotate_left
              focus
                intro w hSw
                clear hSw
                go_simp
                try with_reducible rfl
              try simp only [Act.put, List.getElem_toArray, List.getElem_cons_zero, List.getElem_cons_succ, List.setIfInBounds_toArray, List.set_cons_zero, List.set_cons_succ]
              refine wpAnyH_take (i := 25) (v := ?_) rfl (by kernel_rfl) (by kernel_rfl) (by kernel_rfl) (fun _ _ _ h => h) (Or.inl ⟨by rfl, ?_⟩) hHeld ?_
              rotate_left
              focus
                intro w hSw
                clear hSw
                go_simp
                try with_reducible rfl
              try simp only [Act.put, List.getElem_toArray, List.getElem_cons_zero, List.getElem_cons_succ, List.setIfInBounds_toArray, List.set_cons_zero, List.set_cons_succ]
              refine wpAnyH_take (i := 26) (v := ?_) rfl (by kernel_rfl) (by kernel_rfl) (by kernel_rfl) (fun _ _ _ h => h) (Or.inl ⟨by rfl, ?_⟩) hHeld ?_
              rotate_left
              focus
                intro w hSw
                clear hSw
                go_simp
                try with_reducible rfl
              try simp only [Act.put, List.getElem_toArray, List.getElem_cons_zero, List.getElem_cons_succ, List.setIfInBounds_toArray, List.set_cons_zero, List.set_cons_succ]
              refine wpAnyH_take (i := 27) (v := ?_) rfl (by kernel_rfl) (by kernel_rfl) (by kernel_rfl) (fun _ _ _ h => h) (Or.inl ⟨by rfl, ?_⟩) hHeld ?_
              rotate_left
              focus
                intro w hSw
                clear hSw
                go_simp
                try with_reducible rfl
              try simp only [Act.put, List.getElem_toArray, List.getElem_cons_zero, List.getElem_cons_succ, List.setIfInBounds_toArray, List.set_cons_zero, List.set_cons_succ]
              refine wpAnyH_take (i := 28) (v := ?_) rfl (by kernel_rfl) (by kernel_rfl) (by kernel_rfl) (fun _ _ _ h => h) (Or.inl ⟨by rfl, ?_⟩) hHeld ?_
              rotate_left
              focus
                intro w hSw
                clear hSw
                go_simp
                try with_reducible rfl
              try simp only [Act.put, List.getElem_toArray, List.getElem_cons_zero, List.getElem_cons_succ, List.setIfInBounds_toArray, List.set_cons_zero, List.set_cons_succ]
              refine wpAnyH_take (i := 30) (v := ?_) rfl (by kernel_rfl) (by kernel_rfl) (by kernel_rfl) (fun _ _ _ h => h) (Or.inl ⟨by rfl, ?_⟩) hHeld ?_
              rotate_left
              focus
                intro w hSw
                clear hSw
                go_simp
                try with_reducible rfl
              try simp only [Act.put, List.getElem_toArray, List.getElem_cons_zero, List.getElem_cons_succ, List.setIfInBounds_toArray, List.set_cons_zero, List.set_cons_succ]
              refine wpAnyH_take (i := 31) (v := ?_) rfl (by kernel_rfl) (by kernel_rfl) (by kernel_rfl) (fun _ _ _ h => h) (Or.inl ⟨by rfl, ?_⟩) hHeld ?_
              rotate_left
              focus
                intro w hSw
                clear hSw
                go_simp
                try with_reducible rfl
              try simp only [Act.put, List.getElem_toArray, List.getElem_cons_zero, List.getElem_cons_succ, List.setIfInBounds_toArray, List.set_cons_zero, List.set_cons_succ]
              refine wpAnyH_take (i := 32) (v := ?_) rfl (by kernel_rfl) (by kernel_rfl) (by kernel_rfl) (fun _ _ _ h => h) (Or.inl ⟨by rfl, ?_⟩) hHeld ?_
              rotate_left
              focus
                intro w hSw
                clear hSw
                go_simp
                try with_reducible rfl
              try simp only [Act.put, List.getElem_toArray, List.getElem_cons_zero, List.getElem_cons_succ, List.setIfInBounds_toArray, List.set_cons_zero, List.set_cons_succ]
              refine wpAnyH_take (i := 33) (v := ?_) rfl (by kernel_rfl) (by kernel_rfl) (by kernel_rfl) (fun _ _ _ h => h) (Or.inl ⟨by rfl, ?_⟩) hHeld ?_
              rotate_left
              focus
                intro w hSw
                (try dsimp only at hSw)
                go_simp
                try with_reducible rfl
              try simp only [Act.put, List.getElem_toArray, List.getElem_cons_zero, List.getElem_cons_succ, List.setIfInBounds_toArray, List.set_cons_zero, List.set_cons_succ]
              refine wpAnyH_take (i := 34) (v := ?_) rfl (by kernel_rfl) (by kernel_rfl) (by kernel_rfl) (fun _ _ _ h => h) (Or.inl ⟨by rfl, ?_⟩) hHeld ?_
              rotate_left
              focus
                intro w hSw
                clear hSw
                go_simp
                try with_reducible rfl
              try simp only [Act.put, List.getElem_toArray, List.getElem_cons_zero, List.getElem_cons_succ, List.setIfInBounds_toArray, List.set_cons_zero, List.set_cons_succ]
              refine wpAnyH_ready (rs := [29]) (by kernel_rfl) (by simp) ?_
              refine AllReadyH.cons rfl (fun K hK => ?_) AllReadyH.nil
              go_simp
              refine (HLEN.out z3b HB).mono ?_
              rintro e z4 ⟨rfl, hb4⟩
              have rO := rangeAt_below rO hb4 (Nat.lt_of_lt_of_le TT.out.lt HB.size)
              have cU := (hb4.cell (p := ⟨u, 0, none⟩) (Nat.lt_of_lt_of_le TT.out.r.lt HB.size)).trans cU
              have r1 := rangeAt_below r1 hb4 (Nat.lt_of_lt_of_le YLT.out HB.size)
              have r2 := rangeAt_below r2 hb4 (Nat.lt_of_lt_of_le GLT.out HB.size)
              have HB := HB.trans (hb4.mono HB.size)
              refine hK.out _ _ ⟨rO, cU, r1, r2⟩ (fun hHeld => ?_)
              clear hK K
              try simp only [Act.put, List.getElem_toArray, List.getElem_cons_zero, List.getElem_cons_succ, List.setIfInBounds_toArray, List.set_cons_zero, List.set_cons_succ]
              refine wpAnyH_take (i := 35) (v := ?_) rfl (by kernel_rfl) (by kernel_rfl) (by kernel_rfl) (fun _ _ _ h => h) (Or.inl ⟨by rfl, ?_⟩) hHeld ?_
              rotate_left
              focus
                intro w hSw
                clear hSw
                go_simp
                try with_reducible rfl
              try simp only [Act.put, List.getElem_toArray, List.getElem_cons_zero, List.getElem_cons_succ, List.setIfInBounds_toArray, List.set_cons_zero, List.set_cons_succ]
              refine wpAnyH_take (i := 36) (v := ?_) rfl (by kernel_rfl) (by kernel_rfl) (by kernel_rfl) (fun _ _ _ h => h) (Or.inl ⟨by rfl, ?_⟩) hHeld ?_
              rotate_left
              focus
                intro w hSw
                clear hSw
                go_simp
                try with_reducible rfl
              try simp only [Act.put, List.getElem_toArray, List.getElem_cons_zero, List.getElem_cons_succ, List.setIfInBounds_toArray, List.set_cons_zero, List.set_cons_succ]
              refine wpAnyH_take (i := 37) (v := ?_) rfl (by kernel_rfl) (by kernel_rfl) (by kernel_rfl) (fun _ _ _ h => h) (Or.inl ⟨by rfl, ?_⟩) hHeld ?_
              rotate_left
              focus
                intro w hSw
                clear hSw
                go_simp
                try with_reducible rfl
              try simp only [Act.put, List.getElem_toArray, List.getElem_cons_zero, List.getElem_cons_succ, List.setIfInBounds_toArray, List.set_cons_zero, List.set_cons_succ]
              refine wpAnyH_take (i := 38) (v := ?_) rfl (by kernel_rfl) (by kernel_rfl) (by kernel_rfl) (fun _ _ _ h => h) (Or.inl ⟨by rfl, ?_⟩) hHeld ?_
              rotate_left
              focus
                intro w hSw
                clear hSw
                go_simp
                try with_reducible rfl
              try simp only [Act.put, List.getElem_toArray, List.getElem_cons_zero, List.getElem_cons_succ, List.setIfInBounds_toArray, List.set_cons_zero, List.set_cons_succ]
              refine wpAnyH_take (i := 40) (v := ?_) rfl (by kernel_rfl) (by kernel_rfl) (by kernel_rfl) (fun _ _ _ h => h) (Or.inl ⟨by rfl, ?_⟩) hHeld ?_
              rotate_left
              focus
                intro w hSw
                clear hSw
                go_simp
                try with_reducible rfl
              try simp only [Act.put, List.getElem_toArray, List.getElem_cons_zero, List.getElem_cons_succ, List.setIfInBounds_toArray, List.set_cons_zero, List.set_cons_succ]
              refine wpAnyH_ready (rs := [39]) (by kernel_rfl) (by simp) ?_
              refine AllReadyH.cons rfl (fun K hK => ?_) AllReadyH.nil
              go_simp
              refine (blist_c q q l v came true z4 (Lib.hid (TT.out.bq.below HB)) HSM.out).mono ?_
              rintro e z5 ⟨va4, rfl, hown4, hb5⟩
              obtain ⟨Aa4, ca4, hva4, _, _, hrd4⟩ := own_form Ord.k6 hown4
              subst hva4
              have HRD4 := Lib.hid hrd4
              clear hown4 hrd4
              have rO := rangeAt_below rO hb5 (Nat.lt_of_lt_of_le TT.out.lt HB.size)
              have cU := (hb5.cell (p := ⟨u, 0, none⟩) (Nat.lt_of_lt_of_le TT.out.r.lt HB.size)).trans cU
              have r1 := rangeAt_below r1 hb5 (Nat.lt_of_lt_of_le YLT.out HB.size)
              have r2 := rangeAt_below r2 hb5 (Nat.lt_of_lt_of_le GLT.out HB.size)
              have HB := HB.trans (hb5.mono HB.size)
              refine hK.out _ _ ⟨rO, cU, r1, r2⟩ (fun hHeld => ?_)
              clear hK K
              try simp only [Act.put, List.getElem_toArray, List.getElem_cons_zero, List.getElem_cons_succ, List.setIfInBounds_toArray, List.set_cons_zero, List.set_cons_succ]
              refine wpAnyH_ready (rs := [41]) (by kernel_rfl) (by simp) ?_
              refine AllReadyH.cons rfl (fun K hK => ?_) AllReadyH.nil
              go_simp
              refine (rlist_c u u L rv came true z5 (Lib.hid (TT.out.r.below HB)) (by have := HFEW.out; omega)).mono ?_
              rw [HBO.out.list true]
              rintro e z6 ⟨vb4, rfl, hown4, hb6⟩
              obtain ⟨Ab4, cb4, hvb4, _, _, hrd4⟩ := own_form Ord.k6 hown4
              subst hvb4
              have HRE4 := Lib.hid hrd4
              have HRD4 := Lib.hid ((HRD4.out.below hb6 (Nat.le_refl _)).mono hb6.size)
              clear hown4 hrd4
              have rO := rangeAt_below rO hb6 (Nat.lt_of_lt_of_le TT.out.lt HB.size)
              have cU := (hb6.cell (p := ⟨u, 0, none⟩) (Nat.lt_of_lt_of_le TT.out.r.lt HB.size)).trans cU
              have r1 := rangeAt_below r1 hb6 (Nat.lt_of_lt_of_le YLT.out HB.size)
              have r2 := rangeAt_below r2 hb6 (Nat.lt_of_lt_of_le GLT.out HB.size)
              have HB := HB.trans (hb6.mono HB.size)
              refine hK.out _ _ ⟨rO, cU, r1, r2⟩ (fun hHeld => ?_)
              clear hK K
              try simp only [Act.put, List.getElem_toArray, List.getElem_cons_zero, List.getElem_cons_succ, List.setIfInBounds_toArray, List.set_cons_zero, List.set_cons_succ]
              refine wpAnyH_ready (rs := [42]) (by kernel_rfl) (by simp) ?_
              refine AllReadyH.cons rfl (fun K hK => ?_) AllReadyH.nil
              go_simp
              refine (same13_c Aa4 ca4 Ab4 cb4 (l true) z6 HRD4 HRE4 (HSM.out true)).mono ?_
              rintro e z7 ⟨rfl, hb7⟩
              have rO := rangeAt_below rO hb7 (Nat.lt_of_lt_of_le TT.out.lt HB.size)
              have cU := (hb7.cell (p := ⟨u, 0, none⟩) (Nat.lt_of_lt_of_le TT.out.r.lt HB.size)).trans cU
              have r1 := rangeAt_below r1 hb7 (Nat.lt_of_lt_of_le YLT.out HB.size)
              have r2 := rangeAt_below r2 hb7 (Nat.lt_of_lt_of_le GLT.out HB.size)
              have HB := HB.trans (hb7.mono HB.size)
              refine hK.out _ _ ⟨rO, cU, r1, r2⟩ (fun hHeld => ?_)
              clear hK K
              try simp only [Act.put, List.getElem_toArray, List.getElem_cons_zero, List.getElem_cons_succ, List.setIfInBounds_toArray, List.set_cons_zero, List.set_cons_succ]
              refine wpAnyH_take (i := 43) (v := ?_) rfl (by kernel_rfl) (by kernel_rfl) (by kernel_rfl) (fun _ _ _ h => h) (Or.inl ⟨by rfl, ?_⟩) hHeld ?_
              rotate_left
              focus
                intro w hSw
                clear hSw
                go_simp
                try with_reducible rfl
              try simp only [Act.put, List.getElem_toArray, List.getElem_cons_zero, List.getElem_cons_succ, List.setIfInBounds_toArray, List.set_cons_zero, List.set_cons_succ]
              refine wpAnyH_take (i := 44) (v := ?_) rfl (by kernel_rfl) (by kernel_rfl) (by kernel_rfl) (fun _ _ _ h => h) (Or.inl ⟨by rfl, ?_⟩) hHeld ?_
              rotate_left
              focus
                intro w hSw
                clear hSw
                go_simp
                try with_reducible rfl
              try simp only [Act.put, List.getElem_toArray, List.getElem_cons_zero, List.getElem_cons_succ, List.setIfInBounds_toArray, List.set_cons_zero, List.set_cons_succ]
              refine wpAnyH_take (i := 45) (v := ?_) rfl (by kernel_rfl) (by kernel_rfl) (by kernel_rfl) (fun _ _ _ h => h) (Or.inl ⟨by rfl, ?_⟩) hHeld ?_
              rotate_left
              focus
                intro w hSw
                clear hSw
                go_simp
                try with_reducible rfl
              try simp only [Act.put, List.getElem_toArray, List.getElem_cons_zero, List.getElem_cons_succ, List.setIfInBounds_toArray, List.set_cons_zero, List.set_cons_succ]
              refine wpAnyH_take (i := 46) (v := ?_) rfl (by kernel_rfl) (by kernel_rfl) (by kernel_rfl) (fun _ _ _ h => h) (Or.inl ⟨by rfl, ?_⟩) hHeld ?_
              rotate_left
              focus
                intro w hSw
                clear hSw
                go_simp
                try with_reducible rfl
              try simp only [Act.put, List.getElem_toArray, List.getElem_cons_zero, List.getElem_cons_succ, List.setIfInBounds_toArray, List.set_cons_zero, List.set_cons_succ]
              refine wpAnyH_take (i := 48) (v := ?_) rfl (by kernel_rfl) (by kernel_rfl) (by kernel_rfl) (fun _ _ _ h => h) (Or.inl ⟨by rfl, ?_⟩) hHeld ?_
              rotate_left
              focus
                intro w hSw
                clear hSw
                go_simp
                try with_reducible rfl
              try simp only [Act.put, List.getElem_toArray, List.getElem_cons_zero, List.getElem_cons_succ, List.setIfInBounds_toArray, List.set_cons_zero, List.set_cons_succ]
              refine wpAnyH_ready (rs := [47]) (by kernel_rfl) (by simp) ?_
              refine AllReadyH.cons rfl (fun K hK => ?_) AllReadyH.nil
              go_simp
              refine (blist_c q q l v came false z7 (Lib.hid (TT.out.bq.below HB)) HSM.out).mono ?_
              rintro e z8 ⟨va7, rfl, hown7, hb8⟩
              obtain ⟨Aa7, ca7, hva7, _, _, hrd7⟩ := own_form Ord.k6 hown7
              subst hva7
              have HRD7 := Lib.hid hrd7
              clear hown7 hrd7
              have rO := rangeAt_below rO hb8 (Nat.lt_of_lt_of_le TT.out.lt HB.size)
              have cU := (hb8.cell (p := ⟨u, 0, none⟩) (Nat.lt_of_lt_of_le TT.out.r.lt HB.size)).trans cU
              have r1 := rangeAt_below r1 hb8 (Nat.lt_of_lt_of_le YLT.out HB.size)
              have r2 := rangeAt_below r2 hb8 (Nat.lt_of_lt_of_le GLT.out HB.size)
              have HB := HB.trans (hb8.mono HB.size)
              refine hK.out _ _ ⟨rO, cU, r1, r2⟩ (fun hHeld => ?_)
              clear hK K
              try simp only [Act.put, List.getElem_toArray, List.getElem_cons_zero, List.getElem_cons_succ, List.setIfInBounds_toArray, List.set_cons_zero, List.set_cons_succ]
              refine wpAnyH_ready (rs := [49]) (by kernel_rfl) (by simp) ?_
              refine AllReadyH.cons rfl (fun K hK => ?_) AllReadyH.nil
              go_simp
              refine (rlist_c u u L rv came false z8 (Lib.hid (TT.out.r.below HB)) (by have := HFEW.out; omega)).mono ?_
              rw [HBO.out.list false]
              rintro e z9 ⟨vb7, rfl, hown7, hb9⟩
              obtain ⟨Ab7, cb7, hvb7, _, _, hrd7⟩ := own_form Ord.k6 hown7
              subst hvb7
              have HRE7 := Lib.hid hrd7
              have HRD7 := Lib.hid ((HRD7.out.below hb9 (Nat.le_refl _)).mono hb9.size)
              clear hown7 hrd7
              have rO := rangeAt_below rO hb9 (Nat.lt_of_lt_of_le TT.out.lt HB.size)
              have cU := (hb9.cell (p := ⟨u, 0, none⟩) (Nat.lt_of_lt_of_le TT.out.r.lt HB.size)).trans cU
              have r1 := rangeAt_below r1 hb9 (Nat.lt_of_lt_of_le YLT.out HB.size)
              have r2 := rangeAt_below r2 hb9 (Nat.lt_of_lt_of_le GLT.out HB.size)
              have HB := HB.trans (hb9.mono HB.size)
              refine hK.out _ _ ⟨rO, cU, r1, r2⟩ (fun hHeld => ?_)
              clear hK K
              try simp only [Act.put, List.getElem_toArray, List.getElem_cons_zero, List.getElem_cons_succ, List.setIfInBounds_toArray, List.set_cons_zero, List.set_cons_succ]
              refine wpAnyH_ready (rs := [50]) (by kernel_rfl) (by simp) ?_
              refine AllReadyH.cons rfl (fun K hK => ?_) AllReadyH.nil
              go_simp
              refine (same13_c Aa7 ca7 Ab7 cb7 (l false) z9 HRD7 HRE7 (HSM.out false)).mono ?_
              rintro e z10 ⟨rfl, hb10⟩
              have rO := rangeAt_below rO hb10 (Nat.lt_of_lt_of_le TT.out.lt HB.size)
              have cU := (hb10.cell (p := ⟨u, 0, none⟩) (Nat.lt_of_lt_of_le TT.out.r.lt HB.size)).trans cU
              have r1 := rangeAt_below r1 hb10 (Nat.lt_of_lt_of_le YLT.out HB.size)
              have r2 := rangeAt_below r2 hb10 (Nat.lt_of_lt_of_le GLT.out HB.size)
              have HB := HB.trans (hb10.mono HB.size)
              refine hK.out _ _ ⟨rO, cU, r1, r2⟩ (fun hHeld => ?_)
              clear hK K
              try simp only [Act.put, List.getElem_toArray, List.getElem_cons_zero, List.getElem_cons_succ, List.setIfInBounds_toArray, List.set_cons_zero, List.set_cons_succ]
              refine wpAnyH_take (i := 51) (v := ?_) rfl (by kernel_rfl) (by kernel_rfl) (by kernel_rfl) (fun _ _ _ h => h) (Or.inl ⟨by rfl, ?_⟩) hHeld ?_
              rotate_left
              focus
                intro w hSw
                clear hSw
                go_simp
                try with_reducible rfl
              try simp only [Act.put, List.getElem_toArray, List.getElem_cons_zero, List.getElem_cons_succ, List.setIfInBounds_toArray, List.set_cons_zero, List.set_cons_succ]
              refine wpAnyH_take (i := 52) (v := ?_) rfl (by kernel_rfl) (by kernel_rfl) (by kernel_rfl) (fun _ _ _ h => h) (Or.inl ⟨by rfl, ?_⟩) hHeld ?_
              rotate_left
              focus
                intro w hSw
                clear hSw
                go_simp
                try with_reducible rfl
              try simp only [Act.put, List.getElem_toArray, List.getElem_cons_zero, List.getElem_cons_succ, List.setIfInBounds_toArray, List.set_cons_zero, List.set_cons_succ]
              refine wpAnyH_done (by kernel_rfl) ?_ _
              refine NoPanic.normal ?_
              as_aux_lemma =>
                go_wp2_with fail
                go_loopw [15] (fun s15 wx => ∃ (kk : Nat) (wy : World), wy = wx ∧ kk ≤ 2 ∧ s15 = .int .i64 kk ∧ Below WT.heap.size WT wy) (fun s15 _ => 2 - (intOf s15).toNat)
                case atStart => exact ⟨0, _, rfl, by omega, rfl, HB⟩
                case round =>
                  obtain ⟨kk, wy, rfl, hkk, rfl, hby⟩ := hrel
                  have TY := Lib.hid (TT.out.below hby)
                  have HBY := Lib.hid hby
                  by_cases hk2 : kk < 2
                  · have hk2' : (kk : Int) < 2 := by omega
                    obtain ⟨sd, hsd⟩ : ∃ sd, sd = ((kk : Int) == 1) := ⟨_, rfl⟩
                    have HSD := Lib.hid hsd
                    have HRL := Lib.hid (rlist_c u u L rv came sd wy (Lib.hid TY.out.r) (by have := HFEW.out; omega))
                    rw [HBO.out.list sd] at HRL
                    have HBST := Lib.hid (fun (W : World) (hb : Below wy.heap.size wy W) => best_c q q l v came sd W (Lib.hid (TY.out.bq.below hb)) HSM.out)
                    have hsd' : ((kk : Int) == 1) = sd := hsd.symm
                    clear hsd hby
                    cases hl : l sd with
                    | nil =>
                      rw [hl] at HRL
                      have HBS2 : Hid (∀ W, Below wy.heap.size wy W → Calls Tryd.prog 51 #[.pointer (some ⟨q, 0, none⟩), .bool sd] W fun e w' => e = .returned (.tuple #[.agg #[.int .i64 0, .int .i64 0, .bool false, .int .i64 0, .int .i64 0, .int .i64 0], .bool false]) ∧ Below W.heap.size W w') := fun W hb => by
                        have := HBST.out W hb
                        rw [hl] at this
                        exact this
                      clear hl HBST
                      go_wp2_with fail
                      refine HRL.out.mono ?_
                      rintro e y1 ⟨va, rfl, hown, hb1⟩
                      obtain ⟨Aa, ca, rfl⟩ := own_len hown
                      have HB1 := Lib.hid hb1
                      clear hown hb1
                      go_wp2_with fail
                      refine (HBS2.out y1 HB1.out).mono ?_
                      rintro e y2 ⟨rfl, hb2⟩
                      have HB2 := Lib.hid (HB1.out.trans (hb2.mono HB1.out.size))
                      have HSZ2 : Hid (wy.heap.size ≤ y2.heap.size) := HB2.out.size
                      clear hb2
                      go_wp2_with fail
                      refine wp_region_noPanic ?_
                      refine wp_region_held_drew (S := (fun _ => True)) (by kernel_rfl) trivial (fun hHeld => ?_)
                      refine wpAnyH_take (i := 0) (v := ?_) rfl (by kernel_rfl) (by kernel_rfl) (by kernel_rfl) (fun _ _ _ h => h) (Or.inl ⟨by rfl, ?_⟩) hHeld ?_
                      rotate_left
                      focus
                        intro w hSw
                        clear hSw
                        go_simp
                        try with_reducible rfl
                      try simp only [Act.put, List.getElem_toArray, List.getElem_cons_zero, List.getElem_cons_succ, List.setIfInBounds_toArray, List.set_cons_zero, List.set_cons_succ]
                      refine wpAnyH_take (i := 1) (v := ?_) rfl (by kernel_rfl) (by kernel_rfl) (by kernel_rfl) (fun _ _ _ h => h) (Or.inl ⟨by rfl, ?_⟩) hHeld ?_
                      rotate_left
                      focus
                        intro w hSw
                        clear hSw
                        go_simp
                        try with_reducible rfl
                      try simp only [Act.put, List.getElem_toArray, List.getElem_cons_zero, List.getElem_cons_succ, List.setIfInBounds_toArray, List.set_cons_zero, List.set_cons_succ]
                      refine wpAnyH_take (i := 2) (v := ?_) rfl (by kernel_rfl) (by kernel_rfl) (by kernel_rfl) (fun _ _ _ h => h) (Or.inl ⟨by rfl, ?_⟩) hHeld ?_
                      rotate_left
                      focus
                        intro w hSw
                        clear hSw
                        go_simp
                        try with_reducible rfl
                      try simp only [Act.put, List.getElem_toArray, List.getElem_cons_zero, List.getElem_cons_succ, List.setIfInBounds_toArray, List.set_cons_zero, List.set_cons_succ]
                      refine wpAnyH_take (i := 3) (v := ?_) rfl (by kernel_rfl) (by kernel_rfl) (by kernel_rfl) (fun _ _ _ h => h) (Or.inl ⟨by rfl, ?_⟩) hHeld ?_
                      rotate_left
                      focus
                        intro w hSw
                        clear hSw
                        go_simp
                        try with_reducible rfl
                      try simp only [Act.put, List.getElem_toArray, List.getElem_cons_zero, List.getElem_cons_succ, List.setIfInBounds_toArray, List.set_cons_zero, List.set_cons_succ]
                      refine wpAnyH_take (i := 4) (v := ?_) rfl (by kernel_rfl) (by kernel_rfl) (by kernel_rfl) (fun _ _ _ h => h) (Or.inl ⟨by rfl, ?_⟩) hHeld ?_
                      rotate_left
                      focus
                        intro w hSw
                        clear hSw
                        go_simp
                        try with_reducible rfl
                      try simp only [Act.put, List.getElem_toArray, List.getElem_cons_zero, List.getElem_cons_succ, List.setIfInBounds_toArray, List.set_cons_zero, List.set_cons_succ]
                      refine wpAnyH_take (i := 5) (v := ?_) rfl (by kernel_rfl) (by kernel_rfl) (by kernel_rfl) (fun _ _ _ h => h) (Or.inl ⟨by rfl, ?_⟩) hHeld ?_
                      rotate_left
                      focus
                        intro w hSw
                        clear hSw
                        go_simp
                        try with_reducible rfl
                      try simp only [Act.put, List.getElem_toArray, List.getElem_cons_zero, List.getElem_cons_succ, List.setIfInBounds_toArray, List.set_cons_zero, List.set_cons_succ]
                      refine wpAnyH_take (i := 6) (v := ?_) rfl (by kernel_rfl) (by kernel_rfl) (by kernel_rfl) (fun _ _ _ h => h) (Or.inl ⟨by rfl, ?_⟩) hHeld ?_
                      rotate_left
                      focus
                        intro w hSw
                        clear hSw
                        go_simp
                        try with_reducible rfl
                      try simp only [Act.put, List.getElem_toArray, List.getElem_cons_zero, List.getElem_cons_succ, List.setIfInBounds_toArray, List.set_cons_zero, List.set_cons_succ]
                      refine wpAnyH_take (i := 7) (v := ?_) rfl (by kernel_rfl) (by kernel_rfl) (by kernel_rfl) (fun _ _ _ h => h) (Or.inl ⟨by rfl, ?_⟩) hHeld ?_
                      rotate_left
                      focus
                        intro w hSw
                        clear hSw
                        go_simp
                        try with_reducible rfl
                      try simp only [Act.put, List.getElem_toArray, List.getElem_cons_zero, List.getElem_cons_succ, List.setIfInBounds_toArray, List.set_cons_zero, List.set_cons_succ]
                      refine wpAnyH_take (i := 8) (v := undef) rfl (by kernel_rfl) (by kernel_rfl) (by kernel_rfl) (fun _ _ _ h => h) (Or.inr ⟨by rfl, rfl⟩) hHeld ?_
                      try simp only [Act.put, List.getElem_toArray, List.getElem_cons_zero, List.getElem_cons_succ, List.setIfInBounds_toArray, List.set_cons_zero, List.set_cons_succ]
                      refine wpAnyH_take (i := 9) (v := undef) rfl (by kernel_rfl) (by kernel_rfl) (by kernel_rfl) (fun _ _ _ h => h) (Or.inr ⟨by rfl, rfl⟩) hHeld ?_
                      try simp only [Act.put, List.getElem_toArray, List.getElem_cons_zero, List.getElem_cons_succ, List.setIfInBounds_toArray, List.set_cons_zero, List.set_cons_succ]
                      refine wpAnyH_take (i := 10) (v := undef) rfl (by kernel_rfl) (by kernel_rfl) (by kernel_rfl) (fun _ _ _ h => h) (Or.inr ⟨by rfl, rfl⟩) hHeld ?_
                      try simp only [Act.put, List.getElem_toArray, List.getElem_cons_zero, List.getElem_cons_succ, List.setIfInBounds_toArray, List.set_cons_zero, List.set_cons_succ]
                      refine wpAnyH_take (i := 11) (v := undef) rfl (by kernel_rfl) (by kernel_rfl) (by kernel_rfl) (fun _ _ _ h => h) (Or.inr ⟨by rfl, rfl⟩) hHeld ?_
                      try simp only [Act.put, List.getElem_toArray, List.getElem_cons_zero, List.getElem_cons_succ, List.setIfInBounds_toArray, List.set_cons_zero, List.set_cons_succ]
                      refine wpAnyH_take (i := 12) (v := undef) rfl (by kernel_rfl) (by kernel_rfl) (by kernel_rfl) (fun _ _ _ h => h) (Or.inr ⟨by rfl, rfl⟩) hHeld ?_
                      try simp only [Act.put, List.getElem_toArray, List.getElem_cons_zero, List.getElem_cons_succ, List.setIfInBounds_toArray, List.set_cons_zero, List.set_cons_succ]
                      refine wpAnyH_take (i := 13) (v := undef) rfl (by kernel_rfl) (by kernel_rfl) (by kernel_rfl) (fun _ _ _ h => h) (Or.inr ⟨by rfl, rfl⟩) hHeld ?_
                      try simp only [Act.put, List.getElem_toArray, List.getElem_cons_zero, List.getElem_cons_succ, List.setIfInBounds_toArray, List.set_cons_zero, List.set_cons_succ]
                      refine wpAnyH_take (i := 14) (v := ?_) rfl (by kernel_rfl) (by kernel_rfl) (by kernel_rfl) (fun _ _ _ h => h) (Or.inl ⟨by rfl, ?_⟩) hHeld ?_
                      rotate_left
                      focus
                        intro w hSw
                        clear hSw
                        go_simp
                        try with_reducible rfl
                      try simp only [Act.put, List.getElem_toArray, List.getElem_cons_zero, List.getElem_cons_succ, List.setIfInBounds_toArray, List.set_cons_zero, List.set_cons_succ]
                      refine wpAnyH_take (i := 15) (v := ?_) rfl (by kernel_rfl) (by kernel_rfl) (by kernel_rfl) (fun _ _ _ h => h) (Or.inl ⟨by rfl, ?_⟩) hHeld ?_
                      rotate_left
                      focus
                        intro w hSw
                        clear hSw
                        go_simp
                        try with_reducible rfl
                      try simp only [Act.put, List.getElem_toArray, List.getElem_cons_zero, List.getElem_cons_succ, List.setIfInBounds_toArray, List.set_cons_zero, List.set_cons_succ]
                      refine wpAnyH_done (by kernel_rfl) ?_ _
                      refine NoPanic.normal ?_
                      go_wp2_with fail
                      go_roundw
                      case rel => exact ⟨kk + 1, _, rfl, by omega, by go_num, HBY.out.trans (((HB2.out.alloc HSZ2.out _).drew).mono HBY.out.size)⟩
                      case measure => simp [intOf]; omega
                    | cons y rest =>
                      rw [hl] at HRL
                      obtain ⟨yi, ytt, ysl, ypr, ylt, ysq⟩ := y
                      have HBS2 : Hid (∀ W, Below wy.heap.size wy W → Calls Tryd.prog 51 #[.pointer (some ⟨q, 0, none⟩), .bool sd] W fun e w' => e = .returned (.tuple #[.agg #[.int .i64 yi, .int .i64 ytt, .bool ysl, .int .i64 ypr, .int .i64 ylt, .int .i64 ysq], .bool true]) ∧ Below W.heap.size W w') := fun W hb => by
                        have := HBST.out W hb
                        rw [hl] at this
                        exact this
                      clear hl HBST
                      go_wp2_with fail
                      refine HRL.out.mono ?_
                      rintro e y1 ⟨va, rfl, hown, hb1⟩
                      obtain ⟨gl, cap, cur, hva, _, _, _, hblk, _, hrows⟩ := own_rows' Ord.k6 hown rfl (by simp)
                      subst hva
                      have rr : y1.rangeAt gl 0 [.int .i64 yi, .int .i64 ytt, .bool ysl, .int .i64 ypr, .int .i64 ylt, .int .i64 ysq] := by
                        have := hrows 0 _ rfl
                        simpa [Ord.cells] using this
                      have hglt : gl < y1.heap.size := (Array.getElem?_eq_some_iff.1 hblk).1
                      have HRR := Lib.hid rr
                      have HGL := Lib.hid hglt
                      have HB1 := Lib.hid hb1
                      have hlen : (⟨yi, ytt, ysl, ypr, ylt, ysq⟩ :: rest : List Ord).length = rest.length + 1 := rfl
                      rw [hlen]
                      generalize rest.length = m at *
                      clear hown hb1 hrows hblk rr hglt hlen
                      go_wp2_with fail
                      refine (HBS2.out y1 HB1.out).mono ?_
                      rintro e y2 ⟨rfl, hb2⟩
                      have HB2 := Lib.hid (HB1.out.trans (hb2.mono HB1.out.size))
                      have HRR2 := Lib.hid (rangeAt_below HRR.out hb2 HGL.out)
                      have HGL2 : Hid (gl < y2.heap.size) := Nat.lt_of_lt_of_le HGL.out hb2.size
                      obtain ⟨ZB, hZB⟩ : ∃ z, z = y2.heap.size := ⟨_, rfl⟩
                      obtain ⟨WZ, hWZ⟩ : ∃ z, z = y2.alloc (.cells #[.int .i64 yi, .int .i64 ytt, .bool ysl, .int .i64 ypr, .int .i64 ylt, .int .i64 ysq] 67) := ⟨_, rfl⟩
                      have hbz : Below y2.heap.size y2 WZ := by rw [hWZ]; exact (Below.refl _ _).alloc (Nat.le_refl _) _
                      have hblkz : Blk WZ ZB #[.int .i64 yi, .int .i64 ytt, .bool ysl, .int .i64 ypr, .int .i64 ylt, .int .i64 ysq] 67 := by rw [hWZ, hZB]; exact Blk.new y2 _ _
                      have r1 : WZ.rangeAt ZB 0 [.int .i64 yi, .int .i64 ytt, .bool ysl, .int .i64 ypr, .int .i64 ylt, .int .i64 ysq] := fun j x hj => by
                        rw [Nat.zero_add]
                        exact hblkz.cell j x (by simpa using hj)
                      have ol0 : ∃ ol : Nat, ol = 0 := ⟨_, rfl⟩
                      obtain ⟨ol, hol⟩ := ol0
                      have r2 : WZ.rangeAt gl 0 [.int .i64 yi, .int .i64 ytt, .bool ysl, .int .i64 ypr, .int .i64 ylt, .int .i64 ysq] := rangeAt_below HRR2.out hbz HGL2.out
                      have ZLT := Lib.hid hblkz.lt
                      have GLT : Hid (gl < WZ.heap.size) := Nat.lt_of_lt_of_le HGL2.out hbz.size
                      have HBZ := Lib.hid (HBY.out.trans ((HB2.out.trans (hbz.mono HB2.out.size)).mono HBY.out.size))
                      have HWZ := Lib.hid hWZ
                      have HZE := Lib.hid hZB
                      clear hb2 hbz hblkz hWZ hZB hol
                      go_upto_region 30 with fail
                      rw [← HWZ.out, ← HZE.out]
                      have hne := ror_neq_same yi ytt ysl ypr ylt ysq
                      have hgd := ror_guard
                      have hm0 : (0 : Int) < (m : Int) + 1 := by omega
                      refine wp_region_noPanic ?_
                      refine wp_region_held_drew (S := (fun w' => w'.rangeAt ZB 0 [.int .i64 yi, .int .i64 ytt, .bool ysl, .int .i64 ypr, .int .i64 ylt, .int .i64 ysq] ∧ w'.rangeAt gl 0 [.int .i64 yi, .int .i64 ytt, .bool ysl, .int .i64 ypr, .int .i64 ylt, .int .i64 ysq])) (by kernel_rfl) ⟨r1, r2⟩ (fun hHeld => ?_)
                      refine wpAnyH_take (i := 0) (v := ?_) rfl (by kernel_rfl) (by kernel_rfl) (by kernel_rfl) (fun _ _ _ h => h) (Or.inl ⟨by rfl, ?_⟩) hHeld ?_
                      rotate_left
                      focus
                        intro w hSw
                        clear hSw
                        go_simp
                        try with_reducible rfl
                      try simp only [Act.put, List.getElem_toArray, List.getElem_cons_zero, List.getElem_cons_succ, List.setIfInBounds_toArray, List.set_cons_zero, List.set_cons_succ]
                      refine wpAnyH_take (i := 1) (v := ?_) rfl (by kernel_rfl) (by kernel_rfl) (by kernel_rfl) (fun _ _ _ h => h) (Or.inl ⟨by rfl, ?_⟩) hHeld ?_
                      rotate_left
                      focus
                        intro w hSw
                        clear hSw
                        go_simp
                        try with_reducible rfl
                      try simp only [Act.put, List.getElem_toArray, List.getElem_cons_zero, List.getElem_cons_succ, List.setIfInBounds_toArray, List.set_cons_zero, List.set_cons_succ]
                      refine wpAnyH_take (i := 2) (v := ?_) rfl (by kernel_rfl) (by kernel_rfl) (by kernel_rfl) (fun _ _ _ h => h) (Or.inl ⟨by rfl, ?_⟩) hHeld ?_
                      rotate_left
                      focus
                        intro w hSw
                        clear hSw
                        go_simp
                        try with_reducible rfl
                      try simp only [Act.put, List.getElem_toArray, List.getElem_cons_zero, List.getElem_cons_succ, List.setIfInBounds_toArray, List.set_cons_zero, List.set_cons_succ]
                      refine wpAnyH_take (i := 3) (v := ?_) rfl (by kernel_rfl) (by kernel_rfl) (by kernel_rfl) (fun _ _ _ h => h) (Or.inl ⟨by rfl, ?_⟩) hHeld ?_
                      rotate_left
                      focus
                        intro w hSw
                        clear hSw
                        go_simp
                        try with_reducible rfl
                      try simp only [Act.put, List.getElem_toArray, List.getElem_cons_zero, List.getElem_cons_succ, List.setIfInBounds_toArray, List.set_cons_zero, List.set_cons_succ]
                      refine wpAnyH_take (i := 4) (v := ?_) rfl (by kernel_rfl) (by kernel_rfl) (by kernel_rfl) (fun _ _ _ h => h) (Or.inl ⟨by rfl, ?_⟩) hHeld ?_
                      rotate_left
                      focus
                        intro w hSw
                        clear hSw
                        go_simp
                        try with_reducible rfl
                      try simp only [Act.put, List.getElem_toArray, List.getElem_cons_zero, List.getElem_cons_succ, List.setIfInBounds_toArray, List.set_cons_zero, List.set_cons_succ]
                      refine wpAnyH_take (i := 5) (v := ?_) rfl (by kernel_rfl) (by kernel_rfl) (by kernel_rfl) (fun _ _ _ h => h) (Or.inl ⟨by rfl, ?_⟩) hHeld ?_
                      rotate_left
                      focus
                        intro w hSw
                        clear hSw
                        go_simp
                        try with_reducible rfl
                      try simp only [Act.put, List.getElem_toArray, List.getElem_cons_zero, List.getElem_cons_succ, List.setIfInBounds_toArray, List.set_cons_zero, List.set_cons_succ]
                      refine wpAnyH_take (i := 6) (v := ?_) rfl (by kernel_rfl) (by kernel_rfl) (by kernel_rfl) (fun _ _ _ h => h) (Or.inl ⟨by rfl, ?_⟩) hHeld ?_
                      rotate_left
                      focus
                        intro w hSw
                        clear hSw
                        go_simp
                        try with_reducible rfl
                      try simp only [Act.put, List.getElem_toArray, List.getElem_cons_zero, List.getElem_cons_succ, List.setIfInBounds_toArray, List.set_cons_zero, List.set_cons_succ]
                      refine wpAnyH_take (i := 7) (v := ?_) rfl (by kernel_rfl) (by kernel_rfl) (by kernel_rfl) (fun _ _ _ h => h) (Or.inl ⟨by rfl, ?_⟩) hHeld ?_
                      rotate_left
                      focus
                        intro w hSw
                        clear hSw
                        go_simp
                        try with_reducible rfl
                      try simp only [Act.put, List.getElem_toArray, List.getElem_cons_zero, List.getElem_cons_succ, List.setIfInBounds_toArray, List.set_cons_zero, List.set_cons_succ]
                      refine wpAnyH_take (i := 8) rfl (by kernel_rfl) (by kernel_rfl) (by kernel_rfl) (fun _ _ _ h => h) (yieldsIf_load_mid (by rfl) 67 _ rfl ZB (0) rfl [.int .i64 yi, .int .i64 ytt, .bool ysl, .int .i64 ypr, .int .i64 ylt, .int .i64 ysq] _ (fun w h => h.1) Tryd.underlying67 rfl size_ord) hHeld ?_
                      try simp only [Act.put, List.getElem_toArray, List.getElem_cons_zero, List.getElem_cons_succ, List.setIfInBounds_toArray, List.set_cons_zero, List.set_cons_succ]
                      refine wpAnyH_take (i := 10) (v := ?_) rfl (by kernel_rfl) (by kernel_rfl) (by kernel_rfl) (fun _ _ _ h => h) (Or.inl ⟨by rfl, ?_⟩) hHeld ?_
                      rotate_left
                      focus
                        intro w hSw
                        clear hSw
                        go_simp
                        try with_reducible rfl
                      try simp only [Act.put, List.getElem_toArray, List.getElem_cons_zero, List.getElem_cons_succ, List.setIfInBounds_toArray, List.set_cons_zero, List.set_cons_succ]
                      refine wpAnyH_take (i := 11) (v := ?_) rfl (by kernel_rfl) (by kernel_rfl) (by kernel_rfl) (fun _ _ _ h => h) (Or.inl ⟨by rfl, ?_⟩) hHeld ?_
                      rotate_left
                      focus
                        intro w hSw
                        clear hSw
                        go_simp
                        try with_reducible rfl
                      try simp only [Act.put, List.getElem_toArray, List.getElem_cons_zero, List.getElem_cons_succ, List.setIfInBounds_toArray, List.set_cons_zero, List.set_cons_succ]
                      refine wpAnyH_take (i := 12) rfl (by kernel_rfl) (by kernel_rfl) (by kernel_rfl) (fun _ _ _ h => h) (yieldsIf_load_mid (by rfl) 97 _ rfl gl (0) rfl [.int .i64 yi, .int .i64 ytt, .bool ysl, .int .i64 ypr, .int .i64 ylt, .int .i64 ysq] _ (fun w h => h.2) Tryd.underlying97 rfl size_ror) hHeld ?_
                      try simp only [Act.put, List.getElem_toArray, List.getElem_cons_zero, List.getElem_cons_succ, List.setIfInBounds_toArray, List.set_cons_zero, List.set_cons_succ]
                      refine wpAnyH_ready (rs := [9]) (by kernel_rfl) (by simp) ?_
                      refine AllReadyH.cons rfl (fun K hK => ?_) AllReadyH.nil
                      go_simp
                      refine (form_l yi ytt ysl ypr ylt ysq _).mono ?_
                      rintro e z3 ⟨rfl, hb3⟩
                      have hb3 : Below WZ.heap.size WZ z3 := ⟨hb3.os, hb3.tape, hb3.output, hb3.size, hb3.block⟩
                      have r1 := rangeAt_below r1 hb3 ZLT.out
                      have r2 := rangeAt_below r2 hb3 GLT.out
                      have HBZ := Lib.hid (HBZ.out.trans (hb3.mono HBZ.out.size))
                      clear hb3
                      refine hK.out _ _ ⟨r1, r2⟩ (fun hHeld => ?_)
                      clear hK K
                      try simp only [Act.put, List.getElem_toArray, List.getElem_cons_zero, List.getElem_cons_succ, List.setIfInBounds_toArray, List.set_cons_zero, List.set_cons_succ]
                      refine wpAnyH_take (i := 13) (v := ?_) rfl (by kernel_rfl) (by kernel_rfl) (by kernel_rfl) (fun _ _ _ h => h) (Or.inl ⟨by rfl, ?_⟩) hHeld ?_
                      rotate_left
                      focus
                        intro w hSw
                        clear hSw
                        go_simp
                        try with_reducible rfl
                      try simp only [Act.put, List.getElem_toArray, List.getElem_cons_zero, List.getElem_cons_succ, List.setIfInBounds_toArray, List.set_cons_zero, List.set_cons_succ]
                      refine wpAnyH_take (i := 14) (v := ?_) rfl (by kernel_rfl) (by kernel_rfl) (by kernel_rfl) (fun _ _ _ h => h) (Or.inl ⟨by rfl, ?_⟩) hHeld ?_
                      rotate_left
                      focus
                        intro w hSw
                        clear hSw
                        go_simp
                        try with_reducible rfl
                      try simp only [Act.put, List.getElem_toArray, List.getElem_cons_zero, List.getElem_cons_succ, List.setIfInBounds_toArray, List.set_cons_zero, List.set_cons_succ]
                      refine wpAnyH_take (i := 15) (v := ?_) rfl (by kernel_rfl) (by kernel_rfl) (by kernel_rfl) (fun _ _ _ h => h) (Or.inl ⟨by rfl, ?_⟩) hHeld ?_
                      rotate_left
                      focus
                        intro w hSw
                        clear hSw
                        go_simp
                        try with_reducible rfl
                      try simp only [Act.put, List.getElem_toArray, List.getElem_cons_zero, List.getElem_cons_succ, List.setIfInBounds_toArray, List.set_cons_zero, List.set_cons_succ]
                      refine wpAnyH_done (by kernel_rfl) ?_ _
                      refine NoPanic.normal ?_
                      go_wp2_with fail
                      go_roundw
                      case rel => exact ⟨kk + 1, _, rfl, by omega, by go_num, HBZ.out⟩
                      case measure => simp [intOf]; omega
                  · obtain rfl : kk = 2 := by omega
                    have TZ := TY
                    clear hby
                    go_wp2_with fail
                    go_roundw
                    case rel => exact ⟨k + 1, came, l, v, L, rv, _, rfl, by omega, by omega, by go_num, by omega, HBO, TZ.out.bq, TZ.out.r, TZ.out.b⟩
                    case measure => simp [intOf]; omega
      · have hk2 : ¬ (k : Int) < 60 := by omega
        clear HV HR HBO
        have HZ := HB
        as_aux_lemma =>
          go_wp2_with fail
          refine (nil_drop E 1 wr (Lib.hid (HENV.out _ HZ.out))).mono ?_
          rintro e e0 ⟨rfl, hz⟩
          have HZ := Lib.hid (HZ.out.trans (hz.mono HZ.out.size))
          clear hz
          obtain ⟨f0, hf0⟩ : ∃ z, z = e0.alloc (.cells #[.int .i64 0, .int .i64 0, .bool false, .int .i64 0, .int .i64 0, .int .i64 0] 67) := ⟨_, rfl⟩
          have HZ := Lib.hid (show Below w.heap.size w f0 by rw [hf0]; exact HZ.out.alloc HZ.out.size _)
          have HM0 := Lib.hid hf0
          clear hf0
          go_upto_region 34 with fail
          rw [← HM0.out]
          go_wp2_with fail
          refine (nil_of 1 f0).mono ?_
          rintro e e1 ⟨rfl, hz⟩
          have HZ := Lib.hid (HZ.out.trans (hz.mono HZ.out.size))
          clear hz
          obtain ⟨f1, hf1⟩ : ∃ z, z = e1.alloc (.cells #[.int .i64 0, .int .i64 0, .bool false, .int .i64 0, .int .i64 0, .int .i64 0] 67) := ⟨_, rfl⟩
          have HZ := Lib.hid (show Below w.heap.size w f1 by rw [hf1]; exact HZ.out.alloc HZ.out.size _)
          have HM1 := Lib.hid hf1
          clear hf1
          simp only [ordV, Option.isSome]
          go_upto_region 35 with fail
          rw [← HM1.out]
          go_wp2_with fail
          refine (nil_best true f1).mono ?_
          rintro e e2 ⟨rfl, hz⟩
          have HZ := Lib.hid (HZ.out.trans (hz.mono HZ.out.size))
          clear hz
          obtain ⟨f2, hf2⟩ : ∃ z, z = e2.alloc (.cells #[.int .i64 0, .int .i64 0, .bool false, .int .i64 0, .int .i64 0, .int .i64 0] 67) := ⟨_, rfl⟩
          have HZ := Lib.hid (show Below w.heap.size w f2 by rw [hf2]; exact HZ.out.alloc HZ.out.size _)
          have HM2 := Lib.hid hf2
          clear hf2
          simp only [ordV, Option.isSome]
          go_upto_region 36 with fail
          rw [← HM2.out]
          go_wp2_with fail
          refine (nil_add E zeroO f2 (Lib.hid (HENV.out _ HZ.out))).mono ?_
          rintro e e3 ⟨rfl, hz⟩
          have HZ := Lib.hid (HZ.out.trans (hz.mono HZ.out.size))
          clear hz
          go_wp2_with fail
          refine (kind13_c e3 (HS0.out _ HZ.out) (HER.out _ HZ.out) 2 (by omega)).mono ?_
          rintro e e4 ⟨rfl, hz⟩
          have HZ := Lib.hid (HZ.out.trans (hz.mono HZ.out.size))
          clear hz
          go_wp2_with fail
          refine (kind13_c e4 (HS0.out _ HZ.out) (HER.out _ HZ.out) 2 (by omega)).mono ?_
          rintro e e5 ⟨rfl, hz⟩
          have HZ := Lib.hid (HZ.out.trans (hz.mono HZ.out.size))
          clear hz
          go_wp2_with fail
          refine (nil_cut E 1 1 e5 (Lib.hid (HENV.out _ HZ.out))).mono ?_
          rintro e e6 ⟨rfl, hz⟩
          have HZ := Lib.hid (HZ.out.trans (hz.mono HZ.out.size))
          clear hz
          go_wp2_with fail
          refine (kind13_c e6 (HS0.out _ HZ.out) (HER.out _ HZ.out) 2 (by omega)).mono ?_
          rintro e e7 ⟨rfl, hz⟩
          have HZ := Lib.hid (HZ.out.trans (hz.mono HZ.out.size))
          clear hz
          go_wp2_with fail
          refine (nil_list true e7).mono ?_
          rintro e e8 ⟨rfl, hz⟩
          have HZ := Lib.hid (HZ.out.trans (hz.mono HZ.out.size))
          clear hz
          go_wp2_with fail
          refine (nil_len e8).mono ?_
          rintro e e9 ⟨rfl, hz⟩
          have HZ := Lib.hid (HZ.out.trans (hz.mono HZ.out.size))
          clear hz
          go_wp2_with fail
          go_ret
          exact ⟨rfl, HZ.out⟩
    · have hk1 : ¬ (k : Int) < (len : Int) := by omega
      clear HV HR HBO
      have HZ := HB
      as_aux_lemma =>
        go_wp2_with fail
        refine (nil_drop E 1 wr (Lib.hid (HENV.out _ HZ.out))).mono ?_
        rintro e e0 ⟨rfl, hz⟩
        have HZ := Lib.hid (HZ.out.trans (hz.mono HZ.out.size))
        clear hz
        obtain ⟨f0, hf0⟩ : ∃ z, z = e0.alloc (.cells #[.int .i64 0, .int .i64 0, .bool false, .int .i64 0, .int .i64 0, .int .i64 0] 67) := ⟨_, rfl⟩
        have HZ := Lib.hid (show Below w.heap.size w f0 by rw [hf0]; exact HZ.out.alloc HZ.out.size _)
        have HM0 := Lib.hid hf0
        clear hf0
        go_upto_region 34 with fail
        rw [← HM0.out]
        go_wp2_with fail
        refine (nil_of 1 f0).mono ?_
        rintro e e1 ⟨rfl, hz⟩
        have HZ := Lib.hid (HZ.out.trans (hz.mono HZ.out.size))
        clear hz
        obtain ⟨f1, hf1⟩ : ∃ z, z = e1.alloc (.cells #[.int .i64 0, .int .i64 0, .bool false, .int .i64 0, .int .i64 0, .int .i64 0] 67) := ⟨_, rfl⟩
        have HZ := Lib.hid (show Below w.heap.size w f1 by rw [hf1]; exact HZ.out.alloc HZ.out.size _)
        have HM1 := Lib.hid hf1
        clear hf1
        simp only [ordV, Option.isSome]
        go_upto_region 35 with fail
        rw [← HM1.out]
        go_wp2_with fail
        refine (nil_best true f1).mono ?_
        rintro e e2 ⟨rfl, hz⟩
        have HZ := Lib.hid (HZ.out.trans (hz.mono HZ.out.size))
        clear hz
        obtain ⟨f2, hf2⟩ : ∃ z, z = e2.alloc (.cells #[.int .i64 0, .int .i64 0, .bool false, .int .i64 0, .int .i64 0, .int .i64 0] 67) := ⟨_, rfl⟩
        have HZ := Lib.hid (show Below w.heap.size w f2 by rw [hf2]; exact HZ.out.alloc HZ.out.size _)
        have HM2 := Lib.hid hf2
        clear hf2
        simp only [ordV, Option.isSome]
        go_upto_region 36 with fail
        rw [← HM2.out]
        go_wp2_with fail
        refine (nil_add E zeroO f2 (Lib.hid (HENV.out _ HZ.out))).mono ?_
        rintro e e3 ⟨rfl, hz⟩
        have HZ := Lib.hid (HZ.out.trans (hz.mono HZ.out.size))
        clear hz
        go_wp2_with fail
        refine (kind13_c e3 (HS0.out _ HZ.out) (HER.out _ HZ.out) 2 (by omega)).mono ?_
        rintro e e4 ⟨rfl, hz⟩
        have HZ := Lib.hid (HZ.out.trans (hz.mono HZ.out.size))
        clear hz
        go_wp2_with fail
        refine (kind13_c e4 (HS0.out _ HZ.out) (HER.out _ HZ.out) 2 (by omega)).mono ?_
        rintro e e5 ⟨rfl, hz⟩
        have HZ := Lib.hid (HZ.out.trans (hz.mono HZ.out.size))
        clear hz
        go_wp2_with fail
        refine (nil_cut E 1 1 e5 (Lib.hid (HENV.out _ HZ.out))).mono ?_
        rintro e e6 ⟨rfl, hz⟩
        have HZ := Lib.hid (HZ.out.trans (hz.mono HZ.out.size))
        clear hz
        go_wp2_with fail
        refine (kind13_c e6 (HS0.out _ HZ.out) (HER.out _ HZ.out) 2 (by omega)).mono ?_
        rintro e e7 ⟨rfl, hz⟩
        have HZ := Lib.hid (HZ.out.trans (hz.mono HZ.out.size))
        clear hz
        go_wp2_with fail
        refine (nil_list true e7).mono ?_
        rintro e e8 ⟨rfl, hz⟩
        have HZ := Lib.hid (HZ.out.trans (hz.mono HZ.out.size))
        clear hz
        go_wp2_with fail
        refine (nil_len e8).mono ?_
        rintro e e9 ⟨rfl, hz⟩
        have HZ := Lib.hid (HZ.out.trans (hz.mono HZ.out.size))
        clear hz
        go_wp2_with fail
        go_ret
        exact ⟨rfl, HZ.out⟩
end Go.Proofs.YtdebldpmloignaaDoor
