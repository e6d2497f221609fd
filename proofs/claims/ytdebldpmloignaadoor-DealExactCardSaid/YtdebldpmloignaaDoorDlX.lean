/-
  DealExact: both Matches in one contract each; the walk.
-/
import Derived.Test.YtdebldpmloignaaDoorDlU
import Derived.Test.YtdebldpmloignaaDoorDlS
import Derived.Test.YtdebldpmloignaaDoorKind14
import Derived.Test.YtdebldpmloignaaDoorLaidB
import Derived.Deep.CutRange
import Derived.Deep.CutBlock
namespace Go.Proofs.YtdebldpmloignaaDoor
open Go.RowKit
set_option linter.unusedVariables false
set_option linter.unusedSimpArgs false

/-- What an order leaves, come or not. -/
def fsK (l : Bool → List Ord) (o : Ord) : List Fill := if addK l o = 0 then dealF l o else []
def zK (l : Bool → List Ord) (o : Ord) : Int := if addK l o = 0 then dealZ l o else 0
def lK (l : Bool → List Ord) (o : Ord) (came : Nat) : Bool → List Ord := if addK l o = 0 then dealL l o came else l
def cK (l : Bool → List Ord) (o : Ord) (came : Nat) : Nat := if addK l o = 0 then dealC l o came else came
theorem cK_le (l : Bool → List Ord) (o : Ord) (came : Nat) : cK l o came ≤ came + 1 := by
  unfold cK dealC
  split <;> (try split) <;> omega
theorem match_one (E : Nat → Addr) (B q : Nat) (l : Bool → List Ord) (v : Bool → Value) (came : Nat) (o : Ord) (w : World) (h : Hid (BV w B q l v came)) (hE : Hid (EnvK w E)) (hI : Inv l came) (hc : came ≤ 1000000) (hBw : B ≤ w.heap.size) :
    Calls Tryd.prog 49 #[.pointer (some ⟨q, 0, none⟩), .agg o.cells.toArray] w fun e w' => ∃ s6 v', e = .returned (.tuple #[s6, .int .i64 (zK l o), erV E (addK l o)]) ∧ w'.ownsRow w.heap.size 82 6 s6 (fsK l o).length (flatOf Fill.cells (fsK l o)) ∧ BS w w' B q v (lK l o came) v' (cK l o came) := by
  refine (match_any E B q l v came o w h hE hI hc hBw).mono fun e w' hq => ?_
  rcases hq with ⟨hk, he, hb⟩ | ⟨hk, s8, v', he, hown, hs⟩
  · simp only [fsK, zK, lK, cK, if_neg hk]
    exact ⟨_, v, he, ⟨rfl, .inl ⟨rfl, rfl⟩⟩, BS.ofBelow h.out hb⟩
  · simp only [fsK, zK, lK, cK, if_pos hk]
    refine ⟨s8, v', ?_, hown, hs⟩
    rw [he, hk]
    rfl
theorem rmatch_one (B u : Nat) (l : Bool → List Ord) (L : List Ord) (v : Value) (came : Nat) (o : Ord) (w : World) (hB : B ≤ w.heap.size) (h : Hid (RV w B u L v came)) (hb : Both l came L) (hc : came ≤ 1000000) :
    Calls Tryd.prog 63 #[.pointer (some ⟨u, 0, none⟩), .agg o.cells.toArray] w fun e w' => ∃ s9 L' v', e = .returned (.tuple #[s9, .int .i64 (zK l o), .int .i64 (addK l o : Nat)]) ∧ w'.ownsRow w.heap.size 111 6 s9 (fsK l o).length (flatOf Fill.cells (fsK l o)) ∧ RV w' B u L' v' (cK l o came) ∧ Both (lK l o came) (cK l o came) L' ∧ RStep w w' B := by
  refine (rmatch_any B u l L v came o w hB h hb hc).mono fun e w' hq => ?_
  rcases hq with ⟨hk, he, hb'⟩ | ⟨hk, s9, L', v', he, hown, hr, hbo, hs⟩
  · simp only [fsK, zK, lK, cK, if_neg hk]
    exact ⟨_, L, v, he, ⟨rfl, .inl ⟨rfl, rfl⟩⟩, h.out.below hb', hb, RStep.ofBelow hB hb'⟩
  · simp only [fsK, zK, lK, cK, if_pos hk]
    refine ⟨s9, L', v', ?_, hown, hr, hbo, hs⟩
    rw [he, hk]
    rfl
theorem fillsK_ok {l : Bool → List Ord} {o : Ord} {came : Nat} (hI : Inv l came) : (fsK l o).length ≤ 1000 ∧ ∀ f ∈ fsK l o, OkF f := by
  unfold fsK
  by_cases hk : addK l o = 0
  · rw [if_pos hk]
    have hg := (addK_parts hk).1
    have hz : 0 ≤ o.lots := by unfold Ord.good at hg; simp at hg; omega
    have hS : ∀ x ∈ l (!o.sell), 1 ≤ x.lots := fun x hx => (hI.lotsR _ x hx).1
    refine ⟨Nat.le_trans (match_len hz hS) (Nat.le_trans (hI.len _) (by decide)), fun f hf => ?_⟩
    obtain ⟨i, hi⟩ := List.getElem?_of_mem hf
    obtain ⟨x, hx, he, h1, h2, _, _⟩ := match_fills hz hS i f hi
    have hxm := List.mem_of_getElem? hx
    have hgx := hI.good _ x hxm
    have hp : f.price = x.price := by rw [he]; exact fillO_price _ _ _
    unfold OkF
    unfold Ord.good at hgx
    simp at hgx
    omega
  · rw [if_neg hk]
    exact ⟨Nat.zero_le _, fun f hf => by cases hf⟩
theorem costs_range {xs : List Fill} (h : xs.length ≤ 1000 ∧ ∀ f ∈ xs, OkF f) (k : Nat) (hk : k ≤ xs.length) : 0 ≤ sumTo costF xs k ∧ sumTo costF xs k ≤ 1000000000000 := by
  obtain ⟨a, b⟩ := sumTo_range costF 1000000000 xs (fun f hf => costF_range (h.2 f hf)) k hk
  have h1 := h.1
  have : (k : Int) ≤ 1000 := by omega
  exact ⟨a, by omega⟩
theorem fill_neq_same (a b c d e f : Int) (w : World) : (binOp .neq 82 (.agg #[.int .i64 a, .int .i64 b, .int .i64 c, .int .i64 d, .int .i64 e, .int .i64 f]) (.agg #[.int .i64 a, .int .i64 b, .int .i64 c, .int .i64 d, .int .i64 e, .int .i64 f])).run Tryd.prog w = .ok (.bool false) w := by
  have hp : Tryd.prog.stoodInHeld 82 = false := by kernel_rfl
  rw [run_neq_struct, show (10000 : Nat) = 9999 + 1 from rfl, run_equalIn_agg w 9999 82 _ _ (by kernel_rfl) hp]
  have u3 := Tryd.underlying3
  simp only [Program.fieldsOf, Tryd.underlying82]
  go_simp
/-- The law's state: both books. -/
structure TwoD (w W : World) (q u : Nat) (l : Bool → List Ord) (v : Bool → Value) (c1 : Nat) (L : List Ord) (rv : Value) (c2 : Nat) : Prop where
  lo1 : w.heap.size ≤ q
  lo2 : w.heap.size ≤ u
  bq : BV W q q l v c1
  r : RV W u u L rv c2
  b : Below w.heap.size w W
section
variable {w W W' : World} {q u c1 c2 d1 d2 : Nat} {l l' : Bool → List Ord} {v v' : Bool → Value} {L L' : List Ord} {rv rv' : Value}
theorem TwoD.below (h : TwoD w W q u l v c1 L rv c2) (hb : Below W.heap.size W W') : TwoD w W' q u l v c1 L rv c2 :=
  ⟨h.lo1, h.lo2, h.bq.below hb, h.r.below hb, h.b.trans (hb.mono h.b.size)⟩
theorem TwoD.bstep (h : TwoD w W q u l v c1 L rv c2) (hs : BS W W' q q v l' v' d1) : TwoD w W' q u l' v' d1 L rv c2 :=
  ⟨h.lo1, h.lo2, hs.out, h.r.bstep hs h.bq, h.b.trans (hs.below h.bq h.lo1)⟩
theorem TwoD.rstep (h : TwoD w W q u l v c1 L rv c2) (hr : RV W' u u L' rv' d2) (hs : RStep W W' u) : TwoD w W' q u l v c1 L' rv' d2 :=
  ⟨h.lo1, h.lo2, h.bq.rstep hs, hr, h.b.trans (hs.below.mono h.lo2)⟩
end
set_option maxRecDepth 100000 in
set_option maxHeartbeats 8000000 in
theorem dealExact_walk (B0 : Nat) (E : Nat → Addr) (A : Option Addr) (len cap : Nat) (ds : List Ord) (w : World) (hE : Hid (Errs B0 w allKinds E)) (hB0 : B0 ≤ w.heap.size) (hz : Hid (RdRows w w.heap.size Ord.cells 6 A len ds)) (hcap : len ≤ cap) (hcm : cap ≤ maxLen) :
    Calls Tryd.prog 12 #[.slice A len cap] w fun e w' => e = .returned (.bool true) ∧ Below w.heap.size w w' := by
  have hlM : (len : Int) ≤ 9223372036854775807 := by unfold maxLen at hcm; omega
  have HER : Hid (∀ W, Below w.heap.size w W → Errs B0 W allKinds E) := fun W hb => hE.out.below (hb.mono hB0)
  have HENV : Hid (∀ W, Below w.heap.size w W → EnvK W E) := fun W hb => EnvK.of (HER.out W hb)
  have HS0 : Hid (∀ W, Below w.heap.size w W → B0 ≤ W.heap.size) := fun W hb => Nat.le_trans hB0 hb.size
  have HAW := Lib.hid (awake14_c w)
  have HLD : Hid (ds.length = len) := hz.out.1
  clear hcm hcap hE hB0
  go_enter Tryd.func12, Tryd.ntmps12
  go_wp2_with fail
  refine HAW.out.mono ?_
  rintro e w1 ⟨rfl, hb1⟩
  have HB1 := Lib.hid hb1
  clear hb1 HAW
  go_wp2_with fail
  obtain ⟨q, hq⟩ : ∃ q, q = w1.heap.size := ⟨_, rfl⟩
  have HNEW := Lib.hid (bnew_c w1)
  rw [← hq] at HNEW
  have HQ1 : Hid (w.heap.size ≤ q) := by show _ ≤ _; rw [hq]; exact HB1.out.size
  clear hq
  refine HNEW.out.mono ?_
  rintro e w2 ⟨rfl, hv2, hb2⟩
  obtain ⟨v2, hv2e⟩ : ∃ v2 : Bool → Value, v2 = fun _ => .slice none 0 0 := ⟨_, rfl⟩
  have HV2 : Hid (BV w2 q q (fun _ => []) v2 0) := by show BV _ _ _ _ _ _; rw [hv2e]; exact hv2
  have HB2 : Hid (Below w.heap.size w w2) := HB1.out.trans (hb2.mono (Nat.le_trans HQ1.out (Nat.le_refl _)))
  clear hv2 hb2 hv2e HNEW
  obtain ⟨u, hu⟩ : ∃ u, u = w2.heap.size := ⟨_, rfl⟩
  have HU := Lib.hid hu
  obtain ⟨w3, hw3⟩ : ∃ w3, w3 = w2.alloc (.cells #[.slice none 0 0, .int .i64 0] 94) := ⟨_, rfl⟩
  have HW3 := Lib.hid hw3
  have hb3 : Below w2.heap.size w2 w3 := by rw [hw3]; exact (Below.refl _ _).alloc (Nat.le_refl _) _
  have HV3 : Hid (BV w3 q q (fun _ => []) v2 0) := HV2.out.below hb3
  have HR3 : Hid (RV w3 u u [] (.slice none 0 0) 0) := by
    show RV _ _ _ _ _ _
    rw [hw3, hu]
    exact ⟨Nat.le_refl _, Blk.new w2 _ _, ⟨rfl, .inl ⟨rfl, rfl⟩⟩⟩
  have HB3 : Hid (Below w.heap.size w w3) := HB2.out.trans (hb3.mono HB2.out.size)
  have HU1 : Hid (w.heap.size ≤ u) := by show _ ≤ _; rw [hu]; exact HB2.out.size
  clear hb3 hw3 hu HV2
  go_upto_region 5 with fail
  rw [← HW3.out, ← HU.out]
  go_wp2_with fail
  go_loopw [5] (fun s5 wx => ∃ (k came : Nat) (l : Bool → List Ord) (v : Bool → Value) (L : List Ord) (rv : Value) (wr : World), wr = wx ∧ k ≤ 40 ∧ k ≤ len ∧ s5 = .int .i64 k ∧ came ≤ k ∧ Hid (Both l came L) ∧ Hid (BV wr q q l v came) ∧ Hid (RV wr u u L rv came) ∧ Hid (Below w.heap.size w wr)) (fun s5 _ => 40 - (intOf s5).toNat)
  case atStart => exact ⟨0, 0, _, v2, [], _, _, rfl, by omega, by omega, rfl, Nat.le_refl _, Lib.hid Both.empty, HV3, HR3, HB3⟩
  case round =>
    obtain ⟨k, came, l, v, L, rv, wr, rfl, hk, hkl, rfl, hck, HBO, HV, HR, HB⟩ := hrel
    clear HV3 HR3 HB3 HB2 HB1 HW3
    by_cases h1 : k < len
    · have hk1 : (k : Int) < (len : Int) := by omega
      by_cases h2 : k < 40
      · have hk2 : (k : Int) < 40 := by omega
        have k0 : (0 : Int) ≤ (k : Int) := by omega
        obtain ⟨b, off, rfl, hbb, hrows⟩ := hz.out.2 (by omega)
        obtain ⟨x, hx⟩ : ∃ x, ds[k]? = some x := ⟨_, List.getElem?_eq_getElem (by have := hz.out.1; omega)⟩
        have HROWS : Hid (∀ j y, ds[j]? = some y → ∀ W, Below w.heap.size w W → W.rangeAt b (off + j * 6) y.cells) := fun j y hy W hb => rangeAt_below (hrows j y hy) hb hbb
        obtain ⟨oi, ott, osl, opr, olt, osq⟩ := x
        have HRX : Hid (∀ W, Below w.heap.size w W → W.rangeAt b (off + k * 6) [.int .i64 oi, .int .i64 ott, .bool osl, .int .i64 opr, .int .i64 olt, .int .i64 osq]) := fun W hb => HROWS.out k _ hx W hb
        have T0 : Hid (TwoD w wr q u l v came L rv came) := ⟨HQ1.out, HU1.out, HV.out, HR.out, HB.out⟩
        have HM1 := Lib.hid (match_one E q q l v came ⟨oi, ott, osl, opr, olt, osq⟩ wr HV (Lib.hid (HENV.out _ HB.out)) HBO.out.inv (by omega) (Nat.le_of_lt HV.out.lt))
        have HM2 := Lib.hid (fun (W : World) (hr : RV W u u L rv came) => rmatch_one u u l L rv came ⟨oi, ott, osl, opr, olt, osq⟩ W (Nat.le_of_lt hr.lt) (Lib.hid hr) HBO.out (by omega))
        have HFOK := Lib.hid (fillsK_ok (o := ⟨oi, ott, osl, opr, olt, osq⟩) HBO.out.inv)
        have hdk : addK l ⟨oi, ott, osl, opr, olt, osq⟩ ≤ 14 := addK_le _ _
        have hc2 : cK l ⟨oi, ott, osl, opr, olt, osq⟩ came ≤ k + 1 := Nat.le_trans (cK_le _ _ _) (by omega)
        generalize addK l ⟨oi, ott, osl, opr, olt, osq⟩ = dk at HM1 HM2 hdk
        generalize fsK l ⟨oi, ott, osl, opr, olt, osq⟩ = fs at HM1 HM2 HFOK
        generalize zK l ⟨oi, ott, osl, opr, olt, osq⟩ = zz at HM1 HM2
        generalize lK l ⟨oi, ott, osl, opr, olt, osq⟩ came = l2 at HM1 HM2
        generalize cK l ⟨oi, ott, osl, opr, olt, osq⟩ came = c2 at HM1 HM2 hc2
        have r1 := HRX.out wr HB.out
        clear hrows hx HV HR HBO HB hck
        go_wp2_with (refine wpList_load_mid rfl 67 _ rfl b (off + k * 6) rfl [.int .i64 oi, .int .i64 ott, .bool osl, .int .i64 opr, .int .i64 olt, .int .i64 osq] _ r1 Tryd.underlying67 rfl size_ord ?_)
        refine HM1.out.mono ?_
        rintro e W1 ⟨s6, v1, rfl, hown1, hs1⟩
        have T1 := Lib.hid (T0.out.bstep hs1)
        have HO1 := Lib.hid hown1
        have r1 := HRX.out W1 T1.out.b
        clear hown1 hs1
        go_wp2_with (refine wpList_load_mid rfl 67 _ rfl b (off + k * 6) rfl [.int .i64 oi, .int .i64 ott, .bool osl, .int .i64 opr, .int .i64 olt, .int .i64 osq] _ r1 Tryd.underlying67 rfl size_ord ?_)
        refine (form14_l oi ott osl opr olt osq W1).mono ?_
        rintro e W2 ⟨rfl, hb2⟩
        have T2 := Lib.hid (T1.out.below hb2)
        have HO2 := Lib.hid ((Turns.of_below (F := fun _ => False) hb2).owns HO1.out (fun _ _ h => h))
        clear hb2 r1
        go_wp2_with fail
        refine (HM2.out W2 T2.out.r).mono ?_
        rintro e W3 ⟨s9, L3, v3, rfl, hown3, hr3, hb3, hs3⟩
        have T3 := Lib.hid (T2.out.rstep hr3 hs3)
        have HO3 := Lib.hid (hs3.owns HO2.out (by decide) (by decide))
        have HBO2 := Lib.hid hb3
        have HSM := Lib.hid HBO2.out.inv.small
        have HFEW := Lib.hid HBO2.out.few
        obtain ⟨A8, c8, hs6, _, _, hr8⟩ := own_form Fill.k6 HO3.out
        subst hs6
        obtain ⟨A9, c9, hs9, _, _, hr9⟩ := own_form Fill.k6 hown3
        subst hs9
        have HR8 := Lib.hid hr8
        have HR9 := Lib.hid hr9
        clear hr8 hr9 hown3 hr3 hb3 hs3 HM1 HM2 T0 T1 T2 HO1 HO2 HO3
        go_wp2_with fail
        refine (kind14_c W3 (HS0.out _ T3.out.b) (HER.out _ T3.out.b) dk hdk).mono ?_
        rintro e W4 ⟨rfl, hb4⟩
        have HB4 := Lib.hid hb4
        clear hb4
        go_wp2_with fail
        refine (blist_c q q l2 v1 c2 true W4 (Lib.hid (T3.out.bq.below HB4.out)) HSM.out).mono ?_
        rintro e W5 ⟨va4, rfl, hown4, hb5⟩
        obtain ⟨Aa4, ca4, hva4, _, _, hrd4⟩ := own_form Ord.k6 hown4
        subst hva4
        have HRD4 := Lib.hid hrd4
        have HB5 := Lib.hid (HB4.out.trans (hb5.mono HB4.out.size))
        clear hown4 hrd4 hb5
        go_wp2_with fail
        refine (rlist_c u u L3 v3 c2 true W5 (Lib.hid (T3.out.r.below HB5.out)) (by have := HFEW.out; omega)).mono ?_
        rw [HBO2.out.list true]
        rintro e W6 ⟨vb4, rfl, hown4, hb6⟩
        obtain ⟨Ab4, cb4, hvb4, _, _, hrd4⟩ := own_form Ord.k6 hown4
        subst hvb4
        have HRE4 := Lib.hid hrd4
        have HRD4 := Lib.hid ((HRD4.out.below hb6 (Nat.le_refl _)).mono hb6.size)
        have HB6 := Lib.hid (HB5.out.trans (hb6.mono HB5.out.size))
        clear hown4 hrd4 hb6
        go_wp2_with fail
        refine (same14_c Aa4 ca4 Ab4 cb4 (l2 true) W6 HRD4 HRE4 (HSM.out true)).mono ?_
        rintro e W7 ⟨rfl, hb7⟩
        have HB7 := Lib.hid (HB6.out.trans (hb7.mono HB6.out.size))
        clear hb7
        go_wp2_with fail
        refine (blist_c q q l2 v1 c2 false W7 (Lib.hid (T3.out.bq.below HB7.out)) HSM.out).mono ?_
        rintro e W8 ⟨va7, rfl, hown7, hb8⟩
        obtain ⟨Aa7, ca7, hva7, _, _, hrd7⟩ := own_form Ord.k6 hown7
        subst hva7
        have HRD7 := Lib.hid hrd7
        have HB8 := Lib.hid (HB7.out.trans (hb8.mono HB7.out.size))
        clear hown7 hrd7 hb8
        go_wp2_with fail
        refine (rlist_c u u L3 v3 c2 false W8 (Lib.hid (T3.out.r.below HB8.out)) (by have := HFEW.out; omega)).mono ?_
        rw [HBO2.out.list false]
        rintro e W9 ⟨vb7, rfl, hown7, hb9⟩
        obtain ⟨Ab7, cb7, hvb7, _, _, hrd7⟩ := own_form Ord.k6 hown7
        subst hvb7
        have HRE7 := Lib.hid hrd7
        have HRD7 := Lib.hid ((HRD7.out.below hb9 (Nat.le_refl _)).mono hb9.size)
        have HB9 := Lib.hid (HB8.out.trans (hb9.mono HB8.out.size))
        clear hown7 hrd7 hb9
        go_wp2_with fail
        refine (same14_c Aa7 ca7 Ab7 cb7 (l2 false) W9 HRD7 HRE7 (HSM.out false)).mono ?_
        rintro e W10 ⟨rfl, hb10⟩
        have HB10 := Lib.hid (HB9.out.trans (hb10.mono HB9.out.size))
        clear hb10
        clear HRD4 HRE4 HRD7 HRE7
        go_upto_region 12 with fail
        go_wp2_with fail
        go_loopw [12, 13] (fun s12 s13 wx => ∃ (j : Nat) (wy : World), wy = wx ∧ j ≤ fs.length ∧ s13 = .int .i64 j ∧ s12 = .int .i64 (sumTo costF fs j) ∧ Hid (Below W3.heap.size W3 wy)) (fun _ s13 _ => fs.length - (intOf s13).toNat)
        case atStart => exact ⟨0, _, rfl, Nat.zero_le _, rfl, rfl, HB10⟩
        case round =>
          obtain ⟨j, wy, rfl, hj, rfl, rfl, hby⟩ := hrel
          have hfn : fs.length ≤ 1000 := HFOK.out.1
          by_cases hlt : j < fs.length
          · obtain ⟨f, hf⟩ : ∃ f, fs[j]? = some f := ⟨_, List.getElem?_eq_getElem hlt⟩
            obtain ⟨g8, o8, hA8, hg8, hrow8⟩ := HR8.out.2 (by omega)
            obtain ⟨g9, o9, hA9, hg9, hrow9⟩ := HR9.out.2 (by omega)
            subst hA8
            subst hA9
            have hok := HFOK.out.2 f (List.mem_of_getElem? hf)
            have HS := Lib.hid (sumTo_succ costF fs j f hf)
            have hsr := costs_range HFOK.out j hj
            have hcr := costF_range hok
            have r8 := rangeAt_below (hrow8 j f hf) hby.out hg8
            have r9 := rangeAt_below (hrow9 j f hf) hby.out hg9
            obtain ⟨fa, fb, fc, fd, fp, fn⟩ := f
            have r8 : wy.rangeAt g8 (o8 + j * 6) [.int .i64 fa, .int .i64 fb, .int .i64 fc, .int .i64 fd, .int .i64 fp, .int .i64 fn] := r8
            have r9 : wy.rangeAt g9 (o9 + j * 6) [.int .i64 fa, .int .i64 fb, .int .i64 fc, .int .i64 fd, .int .i64 fp, .int .i64 fn] := r9
            have q0 : wy.cell? ⟨g9, o9 + j * 6, none⟩ = some (.int .i64 fa) := r9 0 _ rfl
            have q1 : wy.cell? ⟨g9, o9 + j * 6 + 1, none⟩ = some (.int .i64 fb) := r9 1 _ rfl
            have q2 : wy.cell? ⟨g9, o9 + j * 6 + 2, none⟩ = some (.int .i64 fc) := r9 2 _ rfl
            have q3 : wy.cell? ⟨g9, o9 + j * 6 + 3, none⟩ = some (.int .i64 fd) := r9 3 _ rfl
            have q4 : wy.cell? ⟨g9, o9 + j * 6 + 4, none⟩ = some (.int .i64 fp) := r9 4 _ rfl
            have q5 : wy.cell? ⟨g9, o9 + j * 6 + 5, none⟩ = some (.int .i64 fn) := r9 5 _ rfl
            have hc1 : costF ⟨fa, fb, fc, fd, fp, fn⟩ = fp * fn := rfl
            rw [hc1] at hcr HS
            obtain ⟨sm, hsm⟩ : ∃ s, s = sumTo costF fs j := ⟨_, rfl⟩
            rw [← hsm] at hsr HS ⊢
            have hw1 : IntKind.i64.wrap (fp * fn) = fp * fn := by rw [IntKind.wrap_i64]; omega
            have hw2 : IntKind.i64.wrap (sm + fp * fn) = sm + fp * fn := by rw [IntKind.wrap_i64]; omega
            have hne := fill_neq_same fa fb fc fd fp fn
            have hgd := fill_guard
            have j0 : (0 : Int) ≤ (j : Int) := by omega
            have j1 : (j : Int) < (fs.length : Int) := by omega
            clear hrow8 hrow9 hf hok hsr hcr r9 hc1 hsm
            go_wp2_with fail
            refine wp_region_noPanic ?_
            refine wp_region_held_drew (S := (fun w' => w'.rangeAt g8 (o8 + j * 6) [.int .i64 fa, .int .i64 fb, .int .i64 fc, .int .i64 fd, .int .i64 fp, .int .i64 fn] ∧ w'.cell? ⟨g9, o9 + j * 6, none⟩ = some (.int .i64 fa) ∧ w'.cell? ⟨g9, o9 + j * 6 + 1, none⟩ = some (.int .i64 fb) ∧ w'.cell? ⟨g9, o9 + j * 6 + 2, none⟩ = some (.int .i64 fc) ∧ w'.cell? ⟨g9, o9 + j * 6 + 3, none⟩ = some (.int .i64 fd) ∧ w'.cell? ⟨g9, o9 + j * 6 + 4, none⟩ = some (.int .i64 fp) ∧ w'.cell? ⟨g9, o9 + j * 6 + 5, none⟩ = some (.int .i64 fn))) (by kernel_rfl) ⟨r8, q0, q1, q2, q3, q4, q5⟩ (fun hHeld => ?_)
            refine wpAnyH_take (i := 0) (v := ?_) rfl (by kernel_rfl) (by kernel_rfl) (by kernel_rfl) (fun _ _ _ h => h) (Or.inl ⟨by rfl, ?_⟩) hHeld ?_
            rotate_left
            focus
              intro w hSw
              clear hSw
              go_simp
              try with_reducible rfl
            try simp only [Act.put, List.getElem_toArray, List.getElem_cons_zero, List.getElem_cons_succ, List.setIfInBounds_toArray, List.set_cons_zero, List.set_cons_succ]
            refine wpAnyH_take (i := 1) (v := ?_) rfl (by kernel_rfl) (by kernel_rfl) (by kernel_rfl) (fun _ _ _ h => h) (Or.inl ⟨by rfl, ?_⟩) hHeld ?_
            rotate_left
            focus
              intro w hSw
              clear hSw
              go_simp
              try with_reducible rfl
            try simp only [Act.put, List.getElem_toArray, List.getElem_cons_zero, List.getElem_cons_succ, List.setIfInBounds_toArray, List.set_cons_zero, List.set_cons_succ]
            refine wpAnyH_take (i := 2) (v := ?_) rfl (by kernel_rfl) (by kernel_rfl) (by kernel_rfl) (fun _ _ _ h => h) (Or.inl ⟨by rfl, ?_⟩) hHeld ?_
            rotate_left
            focus
              intro w hSw
              clear hSw
              go_simp
              try with_reducible rfl
            try simp only [Act.put, List.getElem_toArray, List.getElem_cons_zero, List.getElem_cons_succ, List.setIfInBounds_toArray, List.set_cons_zero, List.set_cons_succ]
            refine wpAnyH_take (i := 3) rfl (by kernel_rfl) (by kernel_rfl) (by kernel_rfl) (fun _ _ _ h => h) (yieldsIf_load_mid (by rfl) 82 _ rfl g8 (o8 + j * 6) rfl [.int .i64 fa, .int .i64 fb, .int .i64 fc, .int .i64 fd, .int .i64 fp, .int .i64 fn] _ (fun w h => h.1) Tryd.underlying82 rfl size_fill) hHeld ?_
            try simp only [Act.put, List.getElem_toArray, List.getElem_cons_zero, List.getElem_cons_succ, List.setIfInBounds_toArray, List.set_cons_zero, List.set_cons_succ]
            refine wpAnyH_take (i := 4) (v := ?_) rfl (by kernel_rfl) (by kernel_rfl) (by kernel_rfl) (fun _ _ _ h => h) (Or.inl ⟨by rfl, ?_⟩) hHeld ?_
            rotate_left
            focus
              intro w hSw
              clear hSw
              go_simp
              try with_reducible rfl
            try simp only [Act.put, List.getElem_toArray, List.getElem_cons_zero, List.getElem_cons_succ, List.setIfInBounds_toArray, List.set_cons_zero, List.set_cons_succ]
            refine wpAnyH_take (i := 5) (v := ?_) rfl (by kernel_rfl) (by kernel_rfl) (by kernel_rfl) (fun _ _ _ h => h) (Or.inl ⟨by rfl, ?_⟩) hHeld ?_
            rotate_left
            focus
              intro w hSw
              clear hSw
              go_simp
              try with_reducible rfl
            try simp only [Act.put, List.getElem_toArray, List.getElem_cons_zero, List.getElem_cons_succ, List.setIfInBounds_toArray, List.set_cons_zero, List.set_cons_succ]
            refine wpAnyH_take (i := 6) (v := ?_) rfl (by kernel_rfl) (by kernel_rfl) (by kernel_rfl) (fun _ _ _ h => h) (Or.inl ⟨by rfl, ?_⟩) hHeld ?_
            rotate_left
            focus
              intro w hSw
              clear hSw
              go_simp
              try with_reducible rfl
            try simp only [Act.put, List.getElem_toArray, List.getElem_cons_zero, List.getElem_cons_succ, List.setIfInBounds_toArray, List.set_cons_zero, List.set_cons_succ]
            refine wpAnyH_take (i := 7) (v := ?_) rfl (by kernel_rfl) (by kernel_rfl) (by kernel_rfl) (fun _ _ _ h => h) (Or.inl ⟨by rfl, ?_⟩) hHeld ?_
            rotate_left
            focus
              intro w hSw
              clear hSw
              go_simp
              try with_reducible rfl
            try simp only [Act.put, List.getElem_toArray, List.getElem_cons_zero, List.getElem_cons_succ, List.setIfInBounds_toArray, List.set_cons_zero, List.set_cons_succ]
            refine wpAnyH_take (i := 8) (v := ?_) rfl (by kernel_rfl) (by kernel_rfl) (by kernel_rfl) (fun _ _ _ h => h) (Or.inl ⟨by rfl, ?_⟩) hHeld ?_
            rotate_left
            focus
              intro w hSw
              (try dsimp only at hSw)
              go_simp
              try with_reducible rfl
            try simp only [Act.put, List.getElem_toArray, List.getElem_cons_zero, List.getElem_cons_succ, List.setIfInBounds_toArray, List.set_cons_zero, List.set_cons_succ]
            refine wpAnyH_take (i := 9) (v := ?_) rfl (by kernel_rfl) (by kernel_rfl) (by kernel_rfl) (fun _ _ _ h => h) (Or.inl ⟨by rfl, ?_⟩) hHeld ?_
            rotate_left
            focus
              intro w hSw
              clear hSw
              go_simp
              try with_reducible rfl
            try simp only [Act.put, List.getElem_toArray, List.getElem_cons_zero, List.getElem_cons_succ, List.setIfInBounds_toArray, List.set_cons_zero, List.set_cons_succ]
            refine wpAnyH_take (i := 10) (v := ?_) rfl (by kernel_rfl) (by kernel_rfl) (by kernel_rfl) (fun _ _ _ h => h) (Or.inl ⟨by rfl, ?_⟩) hHeld ?_
            rotate_left
            focus
              intro w hSw
              clear hSw
              go_simp
              try with_reducible rfl
            try simp only [Act.put, List.getElem_toArray, List.getElem_cons_zero, List.getElem_cons_succ, List.setIfInBounds_toArray, List.set_cons_zero, List.set_cons_succ]
            refine wpAnyH_take (i := 11) (v := ?_) rfl (by kernel_rfl) (by kernel_rfl) (by kernel_rfl) (fun _ _ _ h => h) (Or.inl ⟨by rfl, ?_⟩) hHeld ?_
            rotate_left
            focus
              intro w hSw
              clear hSw
              go_simp
              try with_reducible rfl
            try simp only [Act.put, List.getElem_toArray, List.getElem_cons_zero, List.getElem_cons_succ, List.setIfInBounds_toArray, List.set_cons_zero, List.set_cons_succ]
            refine wpAnyH_take (i := 12) (v := ?_) rfl (by kernel_rfl) (by kernel_rfl) (by kernel_rfl) (fun _ _ _ h => h) (Or.inl ⟨by rfl, ?_⟩) hHeld ?_
            rotate_left
            focus
              intro w hSw
              clear hSw
              go_simp
              try with_reducible rfl
            try simp only [Act.put, List.getElem_toArray, List.getElem_cons_zero, List.getElem_cons_succ, List.setIfInBounds_toArray, List.set_cons_zero, List.set_cons_succ]
            refine wpAnyH_take (i := 13) (v := ?_) rfl (by kernel_rfl) (by kernel_rfl) (by kernel_rfl) (fun _ _ _ h => h) (Or.inl ⟨by rfl, ?_⟩) hHeld ?_
            rotate_left
            focus
              intro w hSw
              (try dsimp only at hSw)
              go_simp
              try with_reducible rfl
            try simp only [Act.put, List.getElem_toArray, List.getElem_cons_zero, List.getElem_cons_succ, List.setIfInBounds_toArray, List.set_cons_zero, List.set_cons_succ]
            refine wpAnyH_take (i := 14) (v := ?_) rfl (by kernel_rfl) (by kernel_rfl) (by kernel_rfl) (fun _ _ _ h => h) (Or.inl ⟨by rfl, ?_⟩) hHeld ?_
            rotate_left
            focus
              intro w hSw
              clear hSw
              go_simp
              try with_reducible rfl
            try simp only [Act.put, List.getElem_toArray, List.getElem_cons_zero, List.getElem_cons_succ, List.setIfInBounds_toArray, List.set_cons_zero, List.set_cons_succ]
            refine wpAnyH_take (i := 15) (v := ?_) rfl (by kernel_rfl) (by kernel_rfl) (by kernel_rfl) (fun _ _ _ h => h) (Or.inl ⟨by rfl, ?_⟩) hHeld ?_
            rotate_left
            focus
              intro w hSw
              clear hSw
              go_simp
              try with_reducible rfl
            try simp only [Act.put, List.getElem_toArray, List.getElem_cons_zero, List.getElem_cons_succ, List.setIfInBounds_toArray, List.set_cons_zero, List.set_cons_succ]
            refine wpAnyH_take (i := 16) (v := ?_) rfl (by kernel_rfl) (by kernel_rfl) (by kernel_rfl) (fun _ _ _ h => h) (Or.inl ⟨by rfl, ?_⟩) hHeld ?_
            rotate_left
            focus
              intro w hSw
              clear hSw
              go_simp
              try with_reducible rfl
            try simp only [Act.put, List.getElem_toArray, List.getElem_cons_zero, List.getElem_cons_succ, List.setIfInBounds_toArray, List.set_cons_zero, List.set_cons_succ]
            refine wpAnyH_take (i := 17) (v := ?_) rfl (by kernel_rfl) (by kernel_rfl) (by kernel_rfl) (fun _ _ _ h => h) (Or.inl ⟨by rfl, ?_⟩) hHeld ?_
            rotate_left
            focus
              intro w hSw
              clear hSw
              go_simp
              try with_reducible rfl
            try simp only [Act.put, List.getElem_toArray, List.getElem_cons_zero, List.getElem_cons_succ, List.setIfInBounds_toArray, List.set_cons_zero, List.set_cons_succ]
            refine wpAnyH_take (i := 18) (v := ?_) rfl (by kernel_rfl) (by kernel_rfl) (by kernel_rfl) (fun _ _ _ h => h) (Or.inl ⟨by rfl, ?_⟩) hHeld ?_
            rotate_left
            focus
              intro w hSw
              (try dsimp only at hSw)
              go_simp
              try with_reducible rfl
            try simp only [Act.put, List.getElem_toArray, List.getElem_cons_zero, List.getElem_cons_succ, List.setIfInBounds_toArray, List.set_cons_zero, List.set_cons_succ]
            refine wpAnyH_take (i := 19) (v := ?_) rfl (by kernel_rfl) (by kernel_rfl) (by kernel_rfl) (fun _ _ _ h => h) (Or.inl ⟨by rfl, ?_⟩) hHeld ?_
            rotate_left
            focus
              intro w hSw
              clear hSw
              go_simp
              try with_reducible rfl
            try simp only [Act.put, List.getElem_toArray, List.getElem_cons_zero, List.getElem_cons_succ, List.setIfInBounds_toArray, List.set_cons_zero, List.set_cons_succ]
            refine wpAnyH_take (i := 20) (v := ?_) rfl (by kernel_rfl) (by kernel_rfl) (by kernel_rfl) (fun _ _ _ h => h) (Or.inl ⟨by rfl, ?_⟩) hHeld ?_
            rotate_left
            focus
              intro w hSw
              clear hSw
              go_simp
              try with_reducible rfl
            try simp only [Act.put, List.getElem_toArray, List.getElem_cons_zero, List.getElem_cons_succ, List.setIfInBounds_toArray, List.set_cons_zero, List.set_cons_succ]
            refine wpAnyH_take (i := 21) (v := ?_) rfl (by kernel_rfl) (by kernel_rfl) (by kernel_rfl) (fun _ _ _ h => h) (Or.inl ⟨by rfl, ?_⟩) hHeld ?_
            rotate_left
            focus
              intro w hSw
              clear hSw
              go_simp
              try with_reducible rfl
            try simp only [Act.put, List.getElem_toArray, List.getElem_cons_zero, List.getElem_cons_succ, List.setIfInBounds_toArray, List.set_cons_zero, List.set_cons_succ]
            refine wpAnyH_take (i := 22) (v := ?_) rfl (by kernel_rfl) (by kernel_rfl) (by kernel_rfl) (fun _ _ _ h => h) (Or.inl ⟨by rfl, ?_⟩) hHeld ?_
            rotate_left
            focus
              intro w hSw
              clear hSw
              go_simp
              try with_reducible rfl
            try simp only [Act.put, List.getElem_toArray, List.getElem_cons_zero, List.getElem_cons_succ, List.setIfInBounds_toArray, List.set_cons_zero, List.set_cons_succ]
            refine wpAnyH_take (i := 23) (v := ?_) rfl (by kernel_rfl) (by kernel_rfl) (by kernel_rfl) (fun _ _ _ h => h) (Or.inl ⟨by rfl, ?_⟩) hHeld ?_
            rotate_left
            focus
              intro w hSw
              (try dsimp only at hSw)
              go_simp
              try with_reducible rfl
            try simp only [Act.put, List.getElem_toArray, List.getElem_cons_zero, List.getElem_cons_succ, List.setIfInBounds_toArray, List.set_cons_zero, List.set_cons_succ]
            refine wpAnyH_take (i := 24) (v := ?_) rfl (by kernel_rfl) (by kernel_rfl) (by kernel_rfl) (fun _ _ _ h => h) (Or.inl ⟨by rfl, ?_⟩) hHeld ?_
            rotate_left
            focus
              intro w hSw
              clear hSw
              go_simp
              try with_reducible rfl
            try simp only [Act.put, List.getElem_toArray, List.getElem_cons_zero, List.getElem_cons_succ, List.setIfInBounds_toArray, List.set_cons_zero, List.set_cons_succ]
            refine wpAnyH_take (i := 25) (v := ?_) rfl (by kernel_rfl) (by kernel_rfl) (by kernel_rfl) (fun _ _ _ h => h) (Or.inl ⟨by rfl, ?_⟩) hHeld ?_
            rotate_left
            focus
              intro w hSw
              clear hSw
              go_simp
              try with_reducible rfl
            try simp only [Act.put, List.getElem_toArray, List.getElem_cons_zero, List.getElem_cons_succ, List.setIfInBounds_toArray, List.set_cons_zero, List.set_cons_succ]
            refine wpAnyH_take (i := 26) (v := ?_) rfl (by kernel_rfl) (by kernel_rfl) (by kernel_rfl) (fun _ _ _ h => h) (Or.inl ⟨by rfl, ?_⟩) hHeld ?_
            rotate_left
            focus
              intro w hSw
              clear hSw
              go_simp
              try with_reducible rfl
            try simp only [Act.put, List.getElem_toArray, List.getElem_cons_zero, List.getElem_cons_succ, List.setIfInBounds_toArray, List.set_cons_zero, List.set_cons_succ]
            refine wpAnyH_take (i := 27) (v := ?_) rfl (by kernel_rfl) (by kernel_rfl) (by kernel_rfl) (fun _ _ _ h => h) (Or.inl ⟨by rfl, ?_⟩) hHeld ?_
            rotate_left
            focus
              intro w hSw
              clear hSw
              go_simp
              try with_reducible rfl
            try simp only [Act.put, List.getElem_toArray, List.getElem_cons_zero, List.getElem_cons_succ, List.setIfInBounds_toArray, List.set_cons_zero, List.set_cons_succ]
            refine wpAnyH_take (i := 28) (v := ?_) rfl (by kernel_rfl) (by kernel_rfl) (by kernel_rfl) (fun _ _ _ h => h) (Or.inl ⟨by rfl, ?_⟩) hHeld ?_
            rotate_left
            focus
              intro w hSw
              (try dsimp only at hSw)
              go_simp
              try with_reducible rfl
            try simp only [Act.put, List.getElem_toArray, List.getElem_cons_zero, List.getElem_cons_succ, List.setIfInBounds_toArray, List.set_cons_zero, List.set_cons_succ]
            refine wpAnyH_take (i := 29) (v := ?_) rfl (by kernel_rfl) (by kernel_rfl) (by kernel_rfl) (fun _ _ _ h => h) (Or.inl ⟨by rfl, ?_⟩) hHeld ?_
            rotate_left
            focus
              intro w hSw
              clear hSw
              go_simp
              try with_reducible rfl
            try simp only [Act.put, List.getElem_toArray, List.getElem_cons_zero, List.getElem_cons_succ, List.setIfInBounds_toArray, List.set_cons_zero, List.set_cons_succ]
            refine wpAnyH_take (i := 30) (v := ?_) rfl (by kernel_rfl) (by kernel_rfl) (by kernel_rfl) (fun _ _ _ h => h) (Or.inl ⟨by rfl, ?_⟩) hHeld ?_
            rotate_left
            focus
              intro w hSw
              clear hSw
              go_simp
              try with_reducible rfl
            try simp only [Act.put, List.getElem_toArray, List.getElem_cons_zero, List.getElem_cons_succ, List.setIfInBounds_toArray, List.set_cons_zero, List.set_cons_succ]
            refine wpAnyH_take (i := 31) (v := ?_) rfl (by kernel_rfl) (by kernel_rfl) (by kernel_rfl) (fun _ _ _ h => h) (Or.inl ⟨by rfl, ?_⟩) hHeld ?_
            rotate_left
            focus
              intro w hSw
              clear hSw
              go_simp
              try with_reducible rfl
            try simp only [Act.put, List.getElem_toArray, List.getElem_cons_zero, List.getElem_cons_succ, List.setIfInBounds_toArray, List.set_cons_zero, List.set_cons_succ]
            refine wpAnyH_take (i := 32) (v := ?_) rfl (by kernel_rfl) (by kernel_rfl) (by kernel_rfl) (fun _ _ _ h => h) (Or.inl ⟨by rfl, ?_⟩) hHeld ?_
            rotate_left
            focus
              intro w hSw
              clear hSw
              go_simp
              try with_reducible rfl
            try simp only [Act.put, List.getElem_toArray, List.getElem_cons_zero, List.getElem_cons_succ, List.setIfInBounds_toArray, List.set_cons_zero, List.set_cons_succ]
            refine wpAnyH_take (i := 33) (v := ?_) rfl (by kernel_rfl) (by kernel_rfl) (by kernel_rfl) (fun _ _ _ h => h) (Or.inl ⟨by rfl, ?_⟩) hHeld ?_
            rotate_left
            focus
              intro w hSw
              (try dsimp only at hSw)
              go_simp
              try with_reducible rfl
            try simp only [Act.put, List.getElem_toArray, List.getElem_cons_zero, List.getElem_cons_succ, List.setIfInBounds_toArray, List.set_cons_zero, List.set_cons_succ]
            refine wpAnyH_take (i := 34) (v := ?_) rfl (by kernel_rfl) (by kernel_rfl) (by kernel_rfl) (fun _ _ _ h => h) (Or.inl ⟨by rfl, ?_⟩) hHeld ?_
            rotate_left
            focus
              intro w hSw
              clear hSw
              go_simp
              try with_reducible rfl
            try simp only [Act.put, List.getElem_toArray, List.getElem_cons_zero, List.getElem_cons_succ, List.setIfInBounds_toArray, List.set_cons_zero, List.set_cons_succ]
            refine wpAnyH_take (i := 35) (v := ?_) rfl (by kernel_rfl) (by kernel_rfl) (by kernel_rfl) (fun _ _ _ h => h) (Or.inl ⟨by rfl, ?_⟩) hHeld ?_
            rotate_left
            focus
              intro w hSw
              clear hSw
              go_simp
              try with_reducible rfl
            try simp only [Act.put, List.getElem_toArray, List.getElem_cons_zero, List.getElem_cons_succ, List.setIfInBounds_toArray, List.set_cons_zero, List.set_cons_succ]
            refine wpAnyH_done (by kernel_rfl) ?_ _
            refine NoPanic.normal ?_
            go_wp2_with fail
            refine wp_region_noPanic ?_
            refine wp_region_held_drew (S := (fun w' => w'.cell? ⟨g9, o9 + j * 6 + 4, none⟩ = some (.int .i64 fp) ∧ w'.cell? ⟨g9, o9 + j * 6 + 5, none⟩ = some (.int .i64 fn))) (by kernel_rfl) ⟨q4, q5⟩ (fun hHeld => ?_)
            refine wpAnyH_take (i := 0) (v := ?_) rfl (by kernel_rfl) (by kernel_rfl) (by kernel_rfl) (fun _ _ _ h => h) (Or.inl ⟨by rfl, ?_⟩) hHeld ?_
            rotate_left
            focus
              intro w hSw
              clear hSw
              go_simp
              try with_reducible rfl
            try simp only [Act.put, List.getElem_toArray, List.getElem_cons_zero, List.getElem_cons_succ, List.setIfInBounds_toArray, List.set_cons_zero, List.set_cons_succ]
            refine wpAnyH_take (i := 1) (v := ?_) rfl (by kernel_rfl) (by kernel_rfl) (by kernel_rfl) (fun _ _ _ h => h) (Or.inl ⟨by rfl, ?_⟩) hHeld ?_
            rotate_left
            focus
              intro w hSw
              clear hSw
              go_simp
              try with_reducible rfl
            try simp only [Act.put, List.getElem_toArray, List.getElem_cons_zero, List.getElem_cons_succ, List.setIfInBounds_toArray, List.set_cons_zero, List.set_cons_succ]
            refine wpAnyH_take (i := 2) (v := ?_) rfl (by kernel_rfl) (by kernel_rfl) (by kernel_rfl) (fun _ _ _ h => h) (Or.inl ⟨by rfl, ?_⟩) hHeld ?_
            rotate_left
            focus
              intro w hSw
              clear hSw
              go_simp
              try with_reducible rfl
            try simp only [Act.put, List.getElem_toArray, List.getElem_cons_zero, List.getElem_cons_succ, List.setIfInBounds_toArray, List.set_cons_zero, List.set_cons_succ]
            refine wpAnyH_take (i := 3) (v := ?_) rfl (by kernel_rfl) (by kernel_rfl) (by kernel_rfl) (fun _ _ _ h => h) (Or.inl ⟨by rfl, ?_⟩) hHeld ?_
            rotate_left
            focus
              intro w hSw
              clear hSw
              go_simp
              try with_reducible rfl
            try simp only [Act.put, List.getElem_toArray, List.getElem_cons_zero, List.getElem_cons_succ, List.setIfInBounds_toArray, List.set_cons_zero, List.set_cons_succ]
            refine wpAnyH_take (i := 4) (v := ?_) rfl (by kernel_rfl) (by kernel_rfl) (by kernel_rfl) (fun _ _ _ h => h) (Or.inl ⟨by rfl, ?_⟩) hHeld ?_
            rotate_left
            focus
              intro w hSw
              clear hSw
              go_simp
              try with_reducible rfl
            try simp only [Act.put, List.getElem_toArray, List.getElem_cons_zero, List.getElem_cons_succ, List.setIfInBounds_toArray, List.set_cons_zero, List.set_cons_succ]
            refine wpAnyH_take (i := 5) (v := ?_) rfl (by kernel_rfl) (by kernel_rfl) (by kernel_rfl) (fun _ _ _ h => h) (Or.inl ⟨by rfl, ?_⟩) hHeld ?_
            rotate_left
            focus
              intro w hSw
              (try dsimp only at hSw)
              go_simp
              try with_reducible rfl
            try simp only [Act.put, List.getElem_toArray, List.getElem_cons_zero, List.getElem_cons_succ, List.setIfInBounds_toArray, List.set_cons_zero, List.set_cons_succ]
            refine wpAnyH_take (i := 6) (v := ?_) rfl (by kernel_rfl) (by kernel_rfl) (by kernel_rfl) (fun _ _ _ h => h) (Or.inl ⟨by rfl, ?_⟩) hHeld ?_
            rotate_left
            focus
              intro w hSw
              clear hSw
              go_simp
              try with_reducible rfl
            try simp only [Act.put, List.getElem_toArray, List.getElem_cons_zero, List.getElem_cons_succ, List.setIfInBounds_toArray, List.set_cons_zero, List.set_cons_succ]
            refine wpAnyH_take (i := 7) (v := ?_) rfl (by kernel_rfl) (by kernel_rfl) (by kernel_rfl) (fun _ _ _ h => h) (Or.inl ⟨by rfl, ?_⟩) hHeld ?_
            rotate_left
            focus
              intro w hSw
              clear hSw
              go_simp
              try with_reducible rfl
            try simp only [Act.put, List.getElem_toArray, List.getElem_cons_zero, List.getElem_cons_succ, List.setIfInBounds_toArray, List.set_cons_zero, List.set_cons_succ]
            refine wpAnyH_take (i := 8) (v := ?_) rfl (by kernel_rfl) (by kernel_rfl) (by kernel_rfl) (fun _ _ _ h => h) (Or.inl ⟨by rfl, ?_⟩) hHeld ?_
            rotate_left
            focus
              intro w hSw
              clear hSw
              go_simp
              try with_reducible rfl
            try simp only [Act.put, List.getElem_toArray, List.getElem_cons_zero, List.getElem_cons_succ, List.setIfInBounds_toArray, List.set_cons_zero, List.set_cons_succ]
            refine wpAnyH_take (i := 9) (v := ?_) rfl (by kernel_rfl) (by kernel_rfl) (by kernel_rfl) (fun _ _ _ h => h) (Or.inl ⟨by rfl, ?_⟩) hHeld ?_
            rotate_left
            focus
              intro w hSw
              clear hSw
              go_simp
              try with_reducible rfl
            try simp only [Act.put, List.getElem_toArray, List.getElem_cons_zero, List.getElem_cons_succ, List.setIfInBounds_toArray, List.set_cons_zero, List.set_cons_succ]
            refine wpAnyH_take (i := 10) (v := ?_) rfl (by kernel_rfl) (by kernel_rfl) (by kernel_rfl) (fun _ _ _ h => h) (Or.inl ⟨by rfl, ?_⟩) hHeld ?_
            rotate_left
            focus
              intro w hSw
              (try dsimp only at hSw)
              go_simp
              try with_reducible rfl
            try simp only [Act.put, List.getElem_toArray, List.getElem_cons_zero, List.getElem_cons_succ, List.setIfInBounds_toArray, List.set_cons_zero, List.set_cons_succ]
            refine wpAnyH_take (i := 11) (v := ?_) rfl (by kernel_rfl) (by kernel_rfl) (by kernel_rfl) (fun _ _ _ h => h) (Or.inl ⟨by rfl, ?_⟩) hHeld ?_
            rotate_left
            focus
              intro w hSw
              clear hSw
              go_simp
              try with_reducible rfl
            try simp only [Act.put, List.getElem_toArray, List.getElem_cons_zero, List.getElem_cons_succ, List.setIfInBounds_toArray, List.set_cons_zero, List.set_cons_succ]
            refine wpAnyH_take (i := 12) (v := ?_) rfl (by kernel_rfl) (by kernel_rfl) (by kernel_rfl) (fun _ _ _ h => h) (Or.inl ⟨by rfl, ?_⟩) hHeld ?_
            rotate_left
            focus
              intro w hSw
              clear hSw
              go_simp
              try with_reducible rfl
            try simp only [Act.put, List.getElem_toArray, List.getElem_cons_zero, List.getElem_cons_succ, List.setIfInBounds_toArray, List.set_cons_zero, List.set_cons_succ]
            refine wpAnyH_take (i := 13) (v := ?_) rfl (by kernel_rfl) (by kernel_rfl) (by kernel_rfl) (fun _ _ _ h => h) (Or.inl ⟨by rfl, ?_⟩) hHeld ?_
            rotate_left
            focus
              intro w hSw
              clear hSw
              go_simp
              try with_reducible rfl
            try simp only [Act.put, List.getElem_toArray, List.getElem_cons_zero, List.getElem_cons_succ, List.setIfInBounds_toArray, List.set_cons_zero, List.set_cons_succ]
            refine wpAnyH_done (by kernel_rfl) ?_ _
            refine NoPanic.normal ?_
            go_wp2_with fail
            go_roundw
            case rel => exact ⟨j + 1, _, rfl, by omega, by go_num, by rw [HS.out], Lib.hid (show Below W3.heap.size W3 _ from ⟨hby.out.os, hby.out.tape, hby.out.output, hby.out.size, hby.out.block⟩)⟩
            case measure => simp [intOf]; omega
          · obtain rfl : j = fs.length := by omega
            rw [sumTo_all]
            have HWO := Lib.hid (worth_c A8 fs.length c8 fs wy (Lib.hid ((HR8.out.below hby.out (Nat.le_refl _)).mono hby.out.size)) hfn (Lib.hid HFOK.out.2))
            have hwf : (fs.map costF).sum = worthF fs := rfl
            rw [hwf]
            clear hwf
            go_wp2_with fail
            refine HWO.out.mono ?_
            rintro e W11 ⟨rfl, hb11⟩
            have HB11 := Lib.hid (hby.out.trans (hb11.mono hby.out.size))
            have HW11 := Lib.hid (T3.out.b.trans (HB11.out.mono T3.out.b.size))
            have r1 := HRX.out W11 HW11.out
            obtain ⟨OB, hOB⟩ : ∃ z : Nat, z = W11.heap.size := ⟨_, rfl⟩
            obtain ⟨WO, hWO⟩ : ∃ Z : World, Z = W11.alloc (.cells #[.int .i64 oi, .int .i64 ott, .bool osl, .int .i64 opr, .int .i64 olt, .int .i64 osq] 67) := ⟨_, rfl⟩
            have hbo : Below W11.heap.size W11 WO := by rw [hWO]; exact (Below.refl _ _).alloc (Nat.le_refl _) _
            have HKO : Hid (Blk WO OB #[.int .i64 oi, .int .i64 ott, .bool osl, .int .i64 opr, .int .i64 olt, .int .i64 osq] 67) := by show Blk _ _ _ _; rw [hWO, hOB]; exact Blk.new W11 _ _
            have HBO4 := Lib.hid (HB11.out.trans (hbo.mono HB11.out.size))
            have HBO3 := Lib.hid (HW11.out.trans (hbo.mono HW11.out.size))
            have HWOE := Lib.hid hWO
            have HOBE := Lib.hid hOB
            have k1' : (k : Int) < (len : Int) := hk1
            clear hb11 hbo hWO hOB HWO
            go_upto_region 22 with (refine wpList_load_mid rfl 67 _ rfl b (off + k * 6) rfl [.int .i64 oi, .int .i64 ott, .bool osl, .int .i64 opr, .int .i64 olt, .int .i64 osq] _ r1 Tryd.underlying67 rfl size_ord ?_)
            rw [← HWOE.out, ← HOBE.out]
            clear r1
            go_wp2_with fail
            go_loopw [15] (fun s15 wx => ∃ (j : Nat) (wy : World), wy = wx ∧ j ≤ 40 ∧ j ≤ len ∧ s15 = .int .i64 j ∧ Hid (Below WO.heap.size WO wy)) (fun s15 _ => 40 - (intOf s15).toNat)
            case atStart => exact ⟨0, _, rfl, by omega, by omega, rfl, Lib.hid (Below.refl _ _)⟩
            case round =>
              obtain ⟨j, wy, rfl, hj, hjl, rfl, HBY⟩ := hrel
              by_cases h3 : j < len
              · have h3' : (j : Int) < (len : Int) := by omega
                by_cases h4 : j < 40
                · have h4' : (j : Int) < 40 := by omega
                  have j0 : (0 : Int) ≤ (j : Int) := by omega
                  obtain ⟨y, hy⟩ : ∃ y, ds[j]? = some y := ⟨_, List.getElem?_eq_getElem (by have := HLD.out; omega)⟩
                  have r3 := HROWS.out j y hy wy (HBO3.out.trans (HBY.out.mono HBO3.out.size))
                  obtain ⟨xi, xtt, xsl, xpr, xlt, xsq⟩ := y
                  have r3 : wy.rangeAt b (off + j * 6) [.int .i64 xi, .int .i64 xtt, .bool xsl, .int .i64 xpr, .int .i64 xlt, .int .i64 xsq] := r3
                  obtain ⟨XB, hXB⟩ : ∃ z : Nat, z = wy.heap.size := ⟨_, rfl⟩
                  obtain ⟨WX, hWX⟩ : ∃ Z : World, Z = wy.alloc (.cells #[.int .i64 xi, .int .i64 xtt, .bool xsl, .int .i64 xpr, .int .i64 xlt, .int .i64 xsq] 67) := ⟨_, rfl⟩
                  have hbx : Below wy.heap.size wy WX := by rw [hWX]; exact (Below.refl _ _).alloc (Nat.le_refl _) _
                  have hkx : Blk WX XB #[.int .i64 xi, .int .i64 xtt, .bool xsl, .int .i64 xpr, .int .i64 xlt, .int .i64 xsq] 67 := by rw [hWX, hXB]; exact Blk.new wy _ _
                  have HBX := Lib.hid (HBY.out.trans (hbx.mono HBY.out.size))
                  have hko : Blk WX OB #[.int .i64 oi, .int .i64 ott, .bool osl, .int .i64 opr, .int .i64 olt, .int .i64 osq] 67 := HKO.out.below HBX.out
                  have rO : WX.rangeAt OB 0 [.int .i64 oi, .int .i64 ott, .bool osl, .int .i64 opr, .int .i64 olt, .int .i64 osq] := rangeAt_blk hko
                  have rX : WX.rangeAt XB 0 [.int .i64 xi, .int .i64 xtt, .bool xsl, .int .i64 xpr, .int .i64 xlt, .int .i64 xsq] := rangeAt_blk hkx
                  have OLT := Lib.hid hko.lt
                  have XLT := Lib.hid hkx.lt
                  have HWX := Lib.hid hWX
                  have HXE := Lib.hid hXB
                  clear hbx hkx hko hWX hXB hy
                  go_upto_region 26 with (refine wpList_load_mid rfl 67 _ rfl b (off + j * 6) rfl [.int .i64 xi, .int .i64 xtt, .bool xsl, .int .i64 xpr, .int .i64 xlt, .int .i64 xsq] _ r3 Tryd.underlying67 rfl size_ord ?_)
                  rw [← HWX.out, ← HXE.out]
                  clear r3
                  cases osl with
                  | true =>
                    cases xsl with
                    | true =>
                      have p2 : WX.cell? ⟨OB, 2, none⟩ = some (.bool true) := rO 2 _ rfl
                      have x2 : WX.cell? ⟨XB, 2, none⟩ = some (.bool true) := rX 2 _ rfl
                      have p3 : WX.cell? ⟨OB, 3, none⟩ = some (.int .i64 opr) := rO 3 _ rfl
                      have x3 : WX.cell? ⟨XB, 3, none⟩ = some (.int .i64 xpr) := rX 3 _ rfl
                      refine wp_region_noPanic ?_
                      refine wp_region_held_drew (S := (fun w' => w'.rangeAt OB 0 [.int .i64 oi, .int .i64 ott, .bool true, .int .i64 opr, .int .i64 olt, .int .i64 osq] ∧ w'.rangeAt XB 0 [.int .i64 xi, .int .i64 xtt, .bool true, .int .i64 xpr, .int .i64 xlt, .int .i64 xsq] ∧ w'.cell? ⟨OB, 2, none⟩ = some (.bool true) ∧ w'.cell? ⟨XB, 2, none⟩ = some (.bool true) ∧ w'.cell? ⟨OB, 3, none⟩ = some (.int .i64 opr) ∧ w'.cell? ⟨XB, 3, none⟩ = some (.int .i64 xpr))) (by kernel_rfl) ⟨rO, rX, p2, x2, p3, x3⟩ (fun hHeld => ?_)
                      refine wpAnyH_take (i := 0) rfl (by kernel_rfl) (by kernel_rfl) (by kernel_rfl) (fun _ _ _ h => h) (yieldsIf_load_mid (by rfl) 67 _ rfl OB (0) rfl [.int .i64 oi, .int .i64 ott, .bool true, .int .i64 opr, .int .i64 olt, .int .i64 osq] _ (fun w h => h.1) Tryd.underlying67 rfl size_ord) hHeld ?_
                      try simp only [Act.put, List.getElem_toArray, List.getElem_cons_zero, List.getElem_cons_succ, List.setIfInBounds_toArray, List.set_cons_zero, List.set_cons_succ]
                      refine wpAnyH_take (i := 1) rfl (by kernel_rfl) (by kernel_rfl) (by kernel_rfl) (fun _ _ _ h => h) (yieldsIf_load_mid (by rfl) 67 _ rfl XB (0) rfl [.int .i64 xi, .int .i64 xtt, .bool true, .int .i64 xpr, .int .i64 xlt, .int .i64 xsq] _ (fun w h => h.2.1) Tryd.underlying67 rfl size_ord) hHeld ?_
                      try simp only [Act.put, List.getElem_toArray, List.getElem_cons_zero, List.getElem_cons_succ, List.setIfInBounds_toArray, List.set_cons_zero, List.set_cons_succ]
                      refine wpAnyH_take (i := 3) (v := ?_) rfl (by kernel_rfl) (by kernel_rfl) (by kernel_rfl) (fun _ _ _ h => h) (Or.inl ⟨by rfl, ?_⟩) hHeld ?_
                      rotate_left
                      focus
                        intro w hSw
                        clear hSw
                        go_simp
                        try with_reducible rfl
                      try simp only [Act.put, List.getElem_toArray, List.getElem_cons_zero, List.getElem_cons_succ, List.setIfInBounds_toArray, List.set_cons_zero, List.set_cons_succ]
                      refine wpAnyH_take (i := 4) (v := ?_) rfl (by kernel_rfl) (by kernel_rfl) (by kernel_rfl) (fun _ _ _ h => h) (Or.inl ⟨by rfl, ?_⟩) hHeld ?_
                      rotate_left
                      focus
                        intro w hSw
                        (try dsimp only at hSw)
                        go_simp
                        try with_reducible rfl
                      try simp only [Act.put, List.getElem_toArray, List.getElem_cons_zero, List.getElem_cons_succ, List.setIfInBounds_toArray, List.set_cons_zero, List.set_cons_succ]
                      refine wpAnyH_ready (rs := [2]) (by kernel_rfl) (by simp) ?_
                      refine AllReadyH.cons rfl (fun K hK => ?_) AllReadyH.nil
                      go_simp
                      refine (meets_c ⟨oi, ott, true, opr, olt, osq⟩ ⟨xi, xtt, true, xpr, xlt, xsq⟩ _).mono ?_
                      rintro e z1 ⟨rfl, hm1⟩
                      have hm1 : Below WX.heap.size WX z1 := ⟨hm1.os, hm1.tape, hm1.output, hm1.size, hm1.block⟩
                      have rO1 := rangeAt_below rO hm1 (by first | exact OLT.out | exact Nat.lt_of_lt_of_le OLT.out (Nat.le_refl _))
                      have rX1 := rangeAt_below rX hm1 (by first | exact XLT.out | exact Nat.lt_of_lt_of_le XLT.out (Nat.le_refl _))
                      have HZ1 := Lib.hid hm1
                      have p21 : z1.cell? ⟨OB, 2, none⟩ = some (.bool true) := rO1 2 _ rfl
                      have x21 : z1.cell? ⟨XB, 2, none⟩ = some (.bool true) := rX1 2 _ rfl
                      have p31 : z1.cell? ⟨OB, 3, none⟩ = some (.int .i64 opr) := rO1 3 _ rfl
                      have x31 : z1.cell? ⟨XB, 3, none⟩ = some (.int .i64 xpr) := rX1 3 _ rfl
                      clear hm1
                      refine hK.out _ _ ⟨rO1, rX1, p21, x21, p31, x31⟩ (fun hHeld => ?_)
                      clear hK K
                      try simp only [Act.put, List.getElem_toArray, List.getElem_cons_zero, List.getElem_cons_succ, List.setIfInBounds_toArray, List.set_cons_zero, List.set_cons_succ]
                      refine wpAnyH_take (i := 5) (v := ?_) rfl (by kernel_rfl) (by kernel_rfl) (by kernel_rfl) (fun _ _ _ h => h) (Or.inl ⟨by rfl, ?_⟩) hHeld ?_
                      rotate_left
                      focus
                        intro w hSw
                        clear hSw
                        go_simp
                        try with_reducible rfl
                      try simp only [Act.put, List.getElem_toArray, List.getElem_cons_zero, List.getElem_cons_succ, List.setIfInBounds_toArray, List.set_cons_zero, List.set_cons_succ]
                      refine wpAnyH_take (i := 6) (v := ?_) rfl (by kernel_rfl) (by kernel_rfl) (by kernel_rfl) (fun _ _ _ h => h) (Or.inl ⟨by rfl, ?_⟩) hHeld ?_
                      rotate_left
                      focus
                        intro w hSw
                        clear hSw
                        go_simp
                        try with_reducible rfl
                      try simp only [Act.put, List.getElem_toArray, List.getElem_cons_zero, List.getElem_cons_succ, List.setIfInBounds_toArray, List.set_cons_zero, List.set_cons_succ]
                      refine wpAnyH_take (i := 7) (v := ?_) rfl (by kernel_rfl) (by kernel_rfl) (by kernel_rfl) (fun _ _ _ h => h) (Or.inl ⟨by rfl, ?_⟩) hHeld ?_
                      rotate_left
                      focus
                        intro w hSw
                        (try dsimp only at hSw)
                        go_simp
                        try with_reducible rfl
                      try simp only [Act.put, List.getElem_toArray, List.getElem_cons_zero, List.getElem_cons_succ, List.setIfInBounds_toArray, List.set_cons_zero, List.set_cons_succ]
                      refine wpAnyH_take (i := 8) (v := ?_) rfl (by kernel_rfl) (by kernel_rfl) (by kernel_rfl) (fun _ _ _ h => h) (Or.inl ⟨by rfl, ?_⟩) hHeld ?_
                      rotate_left
                      focus
                        intro w hSw
                        clear hSw
                        go_simp
                        try with_reducible rfl
                      try simp only [Act.put, List.getElem_toArray, List.getElem_cons_zero, List.getElem_cons_succ, List.setIfInBounds_toArray, List.set_cons_zero, List.set_cons_succ]
                      refine wpAnyH_take (i := 9) (v := ?_) rfl (by kernel_rfl) (by kernel_rfl) (by kernel_rfl) (fun _ _ _ h => h) (Or.inl ⟨by rfl, ?_⟩) hHeld ?_
                      rotate_left
                      focus
                        intro w hSw
                        clear hSw
                        go_simp
                        try with_reducible rfl
                      try simp only [Act.put, List.getElem_toArray, List.getElem_cons_zero, List.getElem_cons_succ, List.setIfInBounds_toArray, List.set_cons_zero, List.set_cons_succ]
                      refine wpAnyH_take (i := 10) (v := ?_) rfl (by kernel_rfl) (by kernel_rfl) (by kernel_rfl) (fun _ _ _ h => h) (Or.inl ⟨by rfl, ?_⟩) hHeld ?_
                      rotate_left
                      focus
                        intro w hSw
                        clear hSw
                        go_simp
                        try with_reducible rfl
                      try simp only [Act.put, List.getElem_toArray, List.getElem_cons_zero, List.getElem_cons_succ, List.setIfInBounds_toArray, List.set_cons_zero, List.set_cons_succ]
                      refine wpAnyH_take (i := 11) (v := undef) rfl (by kernel_rfl) (by kernel_rfl) (by kernel_rfl) (fun _ _ _ h => h) (Or.inr ⟨by rfl, rfl⟩) hHeld ?_
                      try simp only [Act.put, List.getElem_toArray, List.getElem_cons_zero, List.getElem_cons_succ, List.setIfInBounds_toArray, List.set_cons_zero, List.set_cons_succ]
                      refine wpAnyH_take (i := 12) (v := undef) rfl (by kernel_rfl) (by kernel_rfl) (by kernel_rfl) (fun _ _ _ h => h) (Or.inr ⟨by rfl, rfl⟩) hHeld ?_
                      try simp only [Act.put, List.getElem_toArray, List.getElem_cons_zero, List.getElem_cons_succ, List.setIfInBounds_toArray, List.set_cons_zero, List.set_cons_succ]
                      refine wpAnyH_take (i := 13) (v := undef) rfl (by kernel_rfl) (by kernel_rfl) (by kernel_rfl) (fun _ _ _ h => h) (Or.inr ⟨by rfl, rfl⟩) hHeld ?_
                      try simp only [Act.put, List.getElem_toArray, List.getElem_cons_zero, List.getElem_cons_succ, List.setIfInBounds_toArray, List.set_cons_zero, List.set_cons_succ]
                      refine wpAnyH_take (i := 14) (v := undef) rfl (by kernel_rfl) (by kernel_rfl) (by kernel_rfl) (fun _ _ _ h => h) (Or.inr ⟨by rfl, rfl⟩) hHeld ?_
                      try simp only [Act.put, List.getElem_toArray, List.getElem_cons_zero, List.getElem_cons_succ, List.setIfInBounds_toArray, List.set_cons_zero, List.set_cons_succ]
                      refine wpAnyH_take (i := 15) (v := undef) rfl (by kernel_rfl) (by kernel_rfl) (by kernel_rfl) (fun _ _ _ h => h) (Or.inr ⟨by rfl, rfl⟩) hHeld ?_
                      try simp only [Act.put, List.getElem_toArray, List.getElem_cons_zero, List.getElem_cons_succ, List.setIfInBounds_toArray, List.set_cons_zero, List.set_cons_succ]
                      refine wpAnyH_take (i := 16) (v := ?_) rfl (by kernel_rfl) (by kernel_rfl) (by kernel_rfl) (fun _ _ _ h => h) (Or.inl ⟨by rfl, ?_⟩) hHeld ?_
                      rotate_left
                      focus
                        intro w hSw
                        clear hSw
                        go_simp
                        try with_reducible rfl
                      try simp only [Act.put, List.getElem_toArray, List.getElem_cons_zero, List.getElem_cons_succ, List.setIfInBounds_toArray, List.set_cons_zero, List.set_cons_succ]
                      refine wpAnyH_take (i := 17) (v := ?_) rfl (by kernel_rfl) (by kernel_rfl) (by kernel_rfl) (fun _ _ _ h => h) (Or.inl ⟨by rfl, ?_⟩) hHeld ?_
                      rotate_left
                      focus
                        intro w hSw
                        clear hSw
                        go_simp
                        try with_reducible rfl
                      try simp only [Act.put, List.getElem_toArray, List.getElem_cons_zero, List.getElem_cons_succ, List.setIfInBounds_toArray, List.set_cons_zero, List.set_cons_succ]
                      refine wpAnyH_done (by kernel_rfl) ?_ _
                      refine NoPanic.normal ?_
                      go_wp2_with fail
                      go_roundw
                      case rel => exact ⟨j + 1, _, rfl, by omega, by omega, by go_num, Lib.hid (HBX.out.trans (HZ1.out.mono HBX.out.size))⟩
                      case measure => simp [intOf]; omega
                    | false =>
                      have p2 : WX.cell? ⟨OB, 2, none⟩ = some (.bool true) := rO 2 _ rfl
                      have x2 : WX.cell? ⟨XB, 2, none⟩ = some (.bool false) := rX 2 _ rfl
                      have p3 : WX.cell? ⟨OB, 3, none⟩ = some (.int .i64 opr) := rO 3 _ rfl
                      have x3 : WX.cell? ⟨XB, 3, none⟩ = some (.int .i64 xpr) := rX 3 _ rfl
                      refine wp_region_noPanic ?_
                      refine wp_region_held_drew (S := (fun w' => w'.rangeAt OB 0 [.int .i64 oi, .int .i64 ott, .bool true, .int .i64 opr, .int .i64 olt, .int .i64 osq] ∧ w'.rangeAt XB 0 [.int .i64 xi, .int .i64 xtt, .bool false, .int .i64 xpr, .int .i64 xlt, .int .i64 xsq] ∧ w'.cell? ⟨OB, 2, none⟩ = some (.bool true) ∧ w'.cell? ⟨XB, 2, none⟩ = some (.bool false) ∧ w'.cell? ⟨OB, 3, none⟩ = some (.int .i64 opr) ∧ w'.cell? ⟨XB, 3, none⟩ = some (.int .i64 xpr))) (by kernel_rfl) ⟨rO, rX, p2, x2, p3, x3⟩ (fun hHeld => ?_)
                      refine wpAnyH_take (i := 0) rfl (by kernel_rfl) (by kernel_rfl) (by kernel_rfl) (fun _ _ _ h => h) (yieldsIf_load_mid (by rfl) 67 _ rfl OB (0) rfl [.int .i64 oi, .int .i64 ott, .bool true, .int .i64 opr, .int .i64 olt, .int .i64 osq] _ (fun w h => h.1) Tryd.underlying67 rfl size_ord) hHeld ?_
                      try simp only [Act.put, List.getElem_toArray, List.getElem_cons_zero, List.getElem_cons_succ, List.setIfInBounds_toArray, List.set_cons_zero, List.set_cons_succ]
                      refine wpAnyH_take (i := 1) rfl (by kernel_rfl) (by kernel_rfl) (by kernel_rfl) (fun _ _ _ h => h) (yieldsIf_load_mid (by rfl) 67 _ rfl XB (0) rfl [.int .i64 xi, .int .i64 xtt, .bool false, .int .i64 xpr, .int .i64 xlt, .int .i64 xsq] _ (fun w h => h.2.1) Tryd.underlying67 rfl size_ord) hHeld ?_
                      try simp only [Act.put, List.getElem_toArray, List.getElem_cons_zero, List.getElem_cons_succ, List.setIfInBounds_toArray, List.set_cons_zero, List.set_cons_succ]
                      refine wpAnyH_take (i := 3) (v := ?_) rfl (by kernel_rfl) (by kernel_rfl) (by kernel_rfl) (fun _ _ _ h => h) (Or.inl ⟨by rfl, ?_⟩) hHeld ?_
                      rotate_left
                      focus
                        intro w hSw
                        clear hSw
                        go_simp
                        try with_reducible rfl
                      try simp only [Act.put, List.getElem_toArray, List.getElem_cons_zero, List.getElem_cons_succ, List.setIfInBounds_toArray, List.set_cons_zero, List.set_cons_succ]
                      refine wpAnyH_take (i := 4) (v := ?_) rfl (by kernel_rfl) (by kernel_rfl) (by kernel_rfl) (fun _ _ _ h => h) (Or.inl ⟨by rfl, ?_⟩) hHeld ?_
                      rotate_left
                      focus
                        intro w hSw
                        (try dsimp only at hSw)
                        go_simp
                        try with_reducible rfl
                      try simp only [Act.put, List.getElem_toArray, List.getElem_cons_zero, List.getElem_cons_succ, List.setIfInBounds_toArray, List.set_cons_zero, List.set_cons_succ]
                      refine wpAnyH_ready (rs := [2]) (by kernel_rfl) (by simp) ?_
                      refine AllReadyH.cons rfl (fun K hK => ?_) AllReadyH.nil
                      go_simp
                      refine (meets_c ⟨oi, ott, true, opr, olt, osq⟩ ⟨xi, xtt, false, xpr, xlt, xsq⟩ _).mono ?_
                      rintro e z1 ⟨rfl, hm1⟩
                      have hm1 : Below WX.heap.size WX z1 := ⟨hm1.os, hm1.tape, hm1.output, hm1.size, hm1.block⟩
                      have rO1 := rangeAt_below rO hm1 (by first | exact OLT.out | exact Nat.lt_of_lt_of_le OLT.out (Nat.le_refl _))
                      have rX1 := rangeAt_below rX hm1 (by first | exact XLT.out | exact Nat.lt_of_lt_of_le XLT.out (Nat.le_refl _))
                      have HZ1 := Lib.hid hm1
                      have p21 : z1.cell? ⟨OB, 2, none⟩ = some (.bool true) := rO1 2 _ rfl
                      have x21 : z1.cell? ⟨XB, 2, none⟩ = some (.bool false) := rX1 2 _ rfl
                      have p31 : z1.cell? ⟨OB, 3, none⟩ = some (.int .i64 opr) := rO1 3 _ rfl
                      have x31 : z1.cell? ⟨XB, 3, none⟩ = some (.int .i64 xpr) := rX1 3 _ rfl
                      clear hm1
                      refine hK.out _ _ ⟨rO1, rX1, p21, x21, p31, x31⟩ (fun hHeld => ?_)
                      clear hK K
                      try simp only [Act.put, List.getElem_toArray, List.getElem_cons_zero, List.getElem_cons_succ, List.setIfInBounds_toArray, List.set_cons_zero, List.set_cons_succ]
                      refine wpAnyH_take (i := 5) (v := ?_) rfl (by kernel_rfl) (by kernel_rfl) (by kernel_rfl) (fun _ _ _ h => h) (Or.inl ⟨by rfl, ?_⟩) hHeld ?_
                      rotate_left
                      focus
                        intro w hSw
                        clear hSw
                        go_simp
                        try with_reducible rfl
                      try simp only [Act.put, List.getElem_toArray, List.getElem_cons_zero, List.getElem_cons_succ, List.setIfInBounds_toArray, List.set_cons_zero, List.set_cons_succ]
                      refine wpAnyH_take (i := 6) (v := ?_) rfl (by kernel_rfl) (by kernel_rfl) (by kernel_rfl) (fun _ _ _ h => h) (Or.inl ⟨by rfl, ?_⟩) hHeld ?_
                      rotate_left
                      focus
                        intro w hSw
                        clear hSw
                        go_simp
                        try with_reducible rfl
                      try simp only [Act.put, List.getElem_toArray, List.getElem_cons_zero, List.getElem_cons_succ, List.setIfInBounds_toArray, List.set_cons_zero, List.set_cons_succ]
                      refine wpAnyH_take (i := 7) (v := ?_) rfl (by kernel_rfl) (by kernel_rfl) (by kernel_rfl) (fun _ _ _ h => h) (Or.inl ⟨by rfl, ?_⟩) hHeld ?_
                      rotate_left
                      focus
                        intro w hSw
                        (try dsimp only at hSw)
                        go_simp
                        try with_reducible rfl
                      try simp only [Act.put, List.getElem_toArray, List.getElem_cons_zero, List.getElem_cons_succ, List.setIfInBounds_toArray, List.set_cons_zero, List.set_cons_succ]
                      refine wpAnyH_take (i := 8) (v := ?_) rfl (by kernel_rfl) (by kernel_rfl) (by kernel_rfl) (fun _ _ _ h => h) (Or.inl ⟨by rfl, ?_⟩) hHeld ?_
                      rotate_left
                      focus
                        intro w hSw
                        clear hSw
                        go_simp
                        try with_reducible rfl
                      try simp only [Act.put, List.getElem_toArray, List.getElem_cons_zero, List.getElem_cons_succ, List.setIfInBounds_toArray, List.set_cons_zero, List.set_cons_succ]
                      refine wpAnyH_take (i := 9) (v := ?_) rfl (by kernel_rfl) (by kernel_rfl) (by kernel_rfl) (fun _ _ _ h => h) (Or.inl ⟨by rfl, ?_⟩) hHeld ?_
                      rotate_left
                      focus
                        intro w hSw
                        clear hSw
                        go_simp
                        try with_reducible rfl
                      try simp only [Act.put, List.getElem_toArray, List.getElem_cons_zero, List.getElem_cons_succ, List.setIfInBounds_toArray, List.set_cons_zero, List.set_cons_succ]
                      refine wpAnyH_take (i := 10) (v := ?_) rfl (by kernel_rfl) (by kernel_rfl) (by kernel_rfl) (fun _ _ _ h => h) (Or.inl ⟨by rfl, ?_⟩) hHeld ?_
                      rotate_left
                      focus
                        intro w hSw
                        clear hSw
                        go_simp
                        try with_reducible rfl
                      try simp only [Act.put, List.getElem_toArray, List.getElem_cons_zero, List.getElem_cons_succ, List.setIfInBounds_toArray, List.set_cons_zero, List.set_cons_succ]
                      refine wpAnyH_take (i := 11) (v := ?_) rfl (by kernel_rfl) (by kernel_rfl) (by kernel_rfl) (fun _ _ _ h => h) (Or.inl ⟨by rfl, ?_⟩) hHeld ?_
                      rotate_left
                      focus
                        intro w hSw
                        clear hSw
                        go_simp
                        try with_reducible rfl
                      try simp only [Act.put, List.getElem_toArray, List.getElem_cons_zero, List.getElem_cons_succ, List.setIfInBounds_toArray, List.set_cons_zero, List.set_cons_succ]
                      refine wpAnyH_take (i := 12) (v := ?_) rfl (by kernel_rfl) (by kernel_rfl) (by kernel_rfl) (fun _ _ _ h => h) (Or.inl ⟨by rfl, ?_⟩) hHeld ?_
                      rotate_left
                      focus
                        intro w hSw
                        (try dsimp only at hSw)
                        go_simp
                        try with_reducible rfl
                      try simp only [Act.put, List.getElem_toArray, List.getElem_cons_zero, List.getElem_cons_succ, List.setIfInBounds_toArray, List.set_cons_zero, List.set_cons_succ]
                      refine wpAnyH_take (i := 13) (v := ?_) rfl (by kernel_rfl) (by kernel_rfl) (by kernel_rfl) (fun _ _ _ h => h) (Or.inl ⟨by rfl, ?_⟩) hHeld ?_
                      rotate_left
                      focus
                        intro w hSw
                        clear hSw
                        go_simp
                        try with_reducible rfl
                      try simp only [Act.put, List.getElem_toArray, List.getElem_cons_zero, List.getElem_cons_succ, List.setIfInBounds_toArray, List.set_cons_zero, List.set_cons_succ]
                      refine wpAnyH_take (i := 14) (v := ?_) rfl (by kernel_rfl) (by kernel_rfl) (by kernel_rfl) (fun _ _ _ h => h) (Or.inl ⟨by rfl, ?_⟩) hHeld ?_
                      rotate_left
                      focus
                        intro w hSw
                        (try dsimp only at hSw)
                        go_simp
                        try with_reducible rfl
                      try simp only [Act.put, List.getElem_toArray, List.getElem_cons_zero, List.getElem_cons_succ, List.setIfInBounds_toArray, List.set_cons_zero, List.set_cons_succ]
                      refine wpAnyH_take (i := 15) (v := ?_) rfl (by kernel_rfl) (by kernel_rfl) (by kernel_rfl) (fun _ _ _ h => h) (Or.inl ⟨by rfl, ?_⟩) hHeld ?_
                      rotate_left
                      focus
                        intro w hSw
                        clear hSw
                        go_simp
                        try with_reducible rfl
                      try simp only [Act.put, List.getElem_toArray, List.getElem_cons_zero, List.getElem_cons_succ, List.setIfInBounds_toArray, List.set_cons_zero, List.set_cons_succ]
                      refine wpAnyH_take (i := 16) (v := ?_) rfl (by kernel_rfl) (by kernel_rfl) (by kernel_rfl) (fun _ _ _ h => h) (Or.inl ⟨by rfl, ?_⟩) hHeld ?_
                      rotate_left
                      focus
                        intro w hSw
                        clear hSw
                        go_simp
                        try with_reducible rfl
                      try simp only [Act.put, List.getElem_toArray, List.getElem_cons_zero, List.getElem_cons_succ, List.setIfInBounds_toArray, List.set_cons_zero, List.set_cons_succ]
                      refine wpAnyH_take (i := 17) (v := ?_) rfl (by kernel_rfl) (by kernel_rfl) (by kernel_rfl) (fun _ _ _ h => h) (Or.inl ⟨by rfl, ?_⟩) hHeld ?_
                      rotate_left
                      focus
                        intro w hSw
                        clear hSw
                        go_simp
                        try with_reducible rfl
                      try simp only [Act.put, List.getElem_toArray, List.getElem_cons_zero, List.getElem_cons_succ, List.setIfInBounds_toArray, List.set_cons_zero, List.set_cons_succ]
                      refine wpAnyH_done (by kernel_rfl) ?_ _
                      refine NoPanic.normal ?_
                      go_wp2_with fail
                      go_roundw
                      case rel => exact ⟨j + 1, _, rfl, by omega, by omega, by go_num, Lib.hid (HBX.out.trans (HZ1.out.mono HBX.out.size))⟩
                      case measure => simp [intOf]; omega
                  | false =>
                    cases xsl with
                    | true =>
                      have p2 : WX.cell? ⟨OB, 2, none⟩ = some (.bool false) := rO 2 _ rfl
                      have x2 : WX.cell? ⟨XB, 2, none⟩ = some (.bool true) := rX 2 _ rfl
                      have p3 : WX.cell? ⟨OB, 3, none⟩ = some (.int .i64 opr) := rO 3 _ rfl
                      have x3 : WX.cell? ⟨XB, 3, none⟩ = some (.int .i64 xpr) := rX 3 _ rfl
                      refine wp_region_noPanic ?_
                      refine wp_region_held_drew (S := (fun w' => w'.rangeAt OB 0 [.int .i64 oi, .int .i64 ott, .bool false, .int .i64 opr, .int .i64 olt, .int .i64 osq] ∧ w'.rangeAt XB 0 [.int .i64 xi, .int .i64 xtt, .bool true, .int .i64 xpr, .int .i64 xlt, .int .i64 xsq] ∧ w'.cell? ⟨OB, 2, none⟩ = some (.bool false) ∧ w'.cell? ⟨XB, 2, none⟩ = some (.bool true) ∧ w'.cell? ⟨OB, 3, none⟩ = some (.int .i64 opr) ∧ w'.cell? ⟨XB, 3, none⟩ = some (.int .i64 xpr))) (by kernel_rfl) ⟨rO, rX, p2, x2, p3, x3⟩ (fun hHeld => ?_)
                      refine wpAnyH_take (i := 0) rfl (by kernel_rfl) (by kernel_rfl) (by kernel_rfl) (fun _ _ _ h => h) (yieldsIf_load_mid (by rfl) 67 _ rfl OB (0) rfl [.int .i64 oi, .int .i64 ott, .bool false, .int .i64 opr, .int .i64 olt, .int .i64 osq] _ (fun w h => h.1) Tryd.underlying67 rfl size_ord) hHeld ?_
                      try simp only [Act.put, List.getElem_toArray, List.getElem_cons_zero, List.getElem_cons_succ, List.setIfInBounds_toArray, List.set_cons_zero, List.set_cons_succ]
                      refine wpAnyH_take (i := 1) rfl (by kernel_rfl) (by kernel_rfl) (by kernel_rfl) (fun _ _ _ h => h) (yieldsIf_load_mid (by rfl) 67 _ rfl XB (0) rfl [.int .i64 xi, .int .i64 xtt, .bool true, .int .i64 xpr, .int .i64 xlt, .int .i64 xsq] _ (fun w h => h.2.1) Tryd.underlying67 rfl size_ord) hHeld ?_
                      try simp only [Act.put, List.getElem_toArray, List.getElem_cons_zero, List.getElem_cons_succ, List.setIfInBounds_toArray, List.set_cons_zero, List.set_cons_succ]
                      refine wpAnyH_take (i := 3) (v := ?_) rfl (by kernel_rfl) (by kernel_rfl) (by kernel_rfl) (fun _ _ _ h => h) (Or.inl ⟨by rfl, ?_⟩) hHeld ?_
                      rotate_left
                      focus
                        intro w hSw
                        clear hSw
                        go_simp
                        try with_reducible rfl
                      try simp only [Act.put, List.getElem_toArray, List.getElem_cons_zero, List.getElem_cons_succ, List.setIfInBounds_toArray, List.set_cons_zero, List.set_cons_succ]
                      refine wpAnyH_take (i := 4) (v := ?_) rfl (by kernel_rfl) (by kernel_rfl) (by kernel_rfl) (fun _ _ _ h => h) (Or.inl ⟨by rfl, ?_⟩) hHeld ?_
                      rotate_left
                      focus
                        intro w hSw
                        (try dsimp only at hSw)
                        go_simp
                        try with_reducible rfl
                      try simp only [Act.put, List.getElem_toArray, List.getElem_cons_zero, List.getElem_cons_succ, List.setIfInBounds_toArray, List.set_cons_zero, List.set_cons_succ]
                      refine wpAnyH_ready (rs := [2]) (by kernel_rfl) (by simp) ?_
                      refine AllReadyH.cons rfl (fun K hK => ?_) AllReadyH.nil
                      go_simp
                      refine (meets_c ⟨oi, ott, false, opr, olt, osq⟩ ⟨xi, xtt, true, xpr, xlt, xsq⟩ _).mono ?_
                      rintro e z1 ⟨rfl, hm1⟩
                      have hm1 : Below WX.heap.size WX z1 := ⟨hm1.os, hm1.tape, hm1.output, hm1.size, hm1.block⟩
                      have rO1 := rangeAt_below rO hm1 (by first | exact OLT.out | exact Nat.lt_of_lt_of_le OLT.out (Nat.le_refl _))
                      have rX1 := rangeAt_below rX hm1 (by first | exact XLT.out | exact Nat.lt_of_lt_of_le XLT.out (Nat.le_refl _))
                      have HZ1 := Lib.hid hm1
                      have p21 : z1.cell? ⟨OB, 2, none⟩ = some (.bool false) := rO1 2 _ rfl
                      have x21 : z1.cell? ⟨XB, 2, none⟩ = some (.bool true) := rX1 2 _ rfl
                      have p31 : z1.cell? ⟨OB, 3, none⟩ = some (.int .i64 opr) := rO1 3 _ rfl
                      have x31 : z1.cell? ⟨XB, 3, none⟩ = some (.int .i64 xpr) := rX1 3 _ rfl
                      clear hm1
                      refine hK.out _ _ ⟨rO1, rX1, p21, x21, p31, x31⟩ (fun hHeld => ?_)
                      clear hK K
                      try simp only [Act.put, List.getElem_toArray, List.getElem_cons_zero, List.getElem_cons_succ, List.setIfInBounds_toArray, List.set_cons_zero, List.set_cons_succ]
                      refine wpAnyH_take (i := 5) (v := ?_) rfl (by kernel_rfl) (by kernel_rfl) (by kernel_rfl) (fun _ _ _ h => h) (Or.inl ⟨by rfl, ?_⟩) hHeld ?_
                      rotate_left
                      focus
                        intro w hSw
                        clear hSw
                        go_simp
                        try with_reducible rfl
                      try simp only [Act.put, List.getElem_toArray, List.getElem_cons_zero, List.getElem_cons_succ, List.setIfInBounds_toArray, List.set_cons_zero, List.set_cons_succ]
                      refine wpAnyH_take (i := 6) (v := undef) rfl (by kernel_rfl) (by kernel_rfl) (by kernel_rfl) (fun _ _ _ h => h) (Or.inr ⟨by rfl, rfl⟩) hHeld ?_
                      try simp only [Act.put, List.getElem_toArray, List.getElem_cons_zero, List.getElem_cons_succ, List.setIfInBounds_toArray, List.set_cons_zero, List.set_cons_succ]
                      refine wpAnyH_take (i := 7) (v := undef) rfl (by kernel_rfl) (by kernel_rfl) (by kernel_rfl) (fun _ _ _ h => h) (Or.inr ⟨by rfl, rfl⟩) hHeld ?_
                      try simp only [Act.put, List.getElem_toArray, List.getElem_cons_zero, List.getElem_cons_succ, List.setIfInBounds_toArray, List.set_cons_zero, List.set_cons_succ]
                      refine wpAnyH_take (i := 8) (v := undef) rfl (by kernel_rfl) (by kernel_rfl) (by kernel_rfl) (fun _ _ _ h => h) (Or.inr ⟨by rfl, rfl⟩) hHeld ?_
                      try simp only [Act.put, List.getElem_toArray, List.getElem_cons_zero, List.getElem_cons_succ, List.setIfInBounds_toArray, List.set_cons_zero, List.set_cons_succ]
                      refine wpAnyH_take (i := 9) (v := ?_) rfl (by kernel_rfl) (by kernel_rfl) (by kernel_rfl) (fun _ _ _ h => h) (Or.inl ⟨by rfl, ?_⟩) hHeld ?_
                      rotate_left
                      focus
                        intro w hSw
                        clear hSw
                        go_simp
                        try with_reducible rfl
                      try simp only [Act.put, List.getElem_toArray, List.getElem_cons_zero, List.getElem_cons_succ, List.setIfInBounds_toArray, List.set_cons_zero, List.set_cons_succ]
                      refine wpAnyH_take (i := 10) (v := ?_) rfl (by kernel_rfl) (by kernel_rfl) (by kernel_rfl) (fun _ _ _ h => h) (Or.inl ⟨by rfl, ?_⟩) hHeld ?_
                      rotate_left
                      focus
                        intro w hSw
                        clear hSw
                        go_simp
                        try with_reducible rfl
                      try simp only [Act.put, List.getElem_toArray, List.getElem_cons_zero, List.getElem_cons_succ, List.setIfInBounds_toArray, List.set_cons_zero, List.set_cons_succ]
                      refine wpAnyH_take (i := 11) (v := undef) rfl (by kernel_rfl) (by kernel_rfl) (by kernel_rfl) (fun _ _ _ h => h) (Or.inr ⟨by rfl, rfl⟩) hHeld ?_
                      try simp only [Act.put, List.getElem_toArray, List.getElem_cons_zero, List.getElem_cons_succ, List.setIfInBounds_toArray, List.set_cons_zero, List.set_cons_succ]
                      refine wpAnyH_take (i := 12) (v := undef) rfl (by kernel_rfl) (by kernel_rfl) (by kernel_rfl) (fun _ _ _ h => h) (Or.inr ⟨by rfl, rfl⟩) hHeld ?_
                      try simp only [Act.put, List.getElem_toArray, List.getElem_cons_zero, List.getElem_cons_succ, List.setIfInBounds_toArray, List.set_cons_zero, List.set_cons_succ]
                      refine wpAnyH_take (i := 13) (v := undef) rfl (by kernel_rfl) (by kernel_rfl) (by kernel_rfl) (fun _ _ _ h => h) (Or.inr ⟨by rfl, rfl⟩) hHeld ?_
                      try simp only [Act.put, List.getElem_toArray, List.getElem_cons_zero, List.getElem_cons_succ, List.setIfInBounds_toArray, List.set_cons_zero, List.set_cons_succ]
                      refine wpAnyH_take (i := 14) (v := undef) rfl (by kernel_rfl) (by kernel_rfl) (by kernel_rfl) (fun _ _ _ h => h) (Or.inr ⟨by rfl, rfl⟩) hHeld ?_
                      try simp only [Act.put, List.getElem_toArray, List.getElem_cons_zero, List.getElem_cons_succ, List.setIfInBounds_toArray, List.set_cons_zero, List.set_cons_succ]
                      refine wpAnyH_take (i := 15) (v := undef) rfl (by kernel_rfl) (by kernel_rfl) (by kernel_rfl) (fun _ _ _ h => h) (Or.inr ⟨by rfl, rfl⟩) hHeld ?_
                      try simp only [Act.put, List.getElem_toArray, List.getElem_cons_zero, List.getElem_cons_succ, List.setIfInBounds_toArray, List.set_cons_zero, List.set_cons_succ]
                      refine wpAnyH_take (i := 16) (v := ?_) rfl (by kernel_rfl) (by kernel_rfl) (by kernel_rfl) (fun _ _ _ h => h) (Or.inl ⟨by rfl, ?_⟩) hHeld ?_
                      rotate_left
                      focus
                        intro w hSw
                        clear hSw
                        go_simp
                        try with_reducible rfl
                      try simp only [Act.put, List.getElem_toArray, List.getElem_cons_zero, List.getElem_cons_succ, List.setIfInBounds_toArray, List.set_cons_zero, List.set_cons_succ]
                      refine wpAnyH_take (i := 17) (v := ?_) rfl (by kernel_rfl) (by kernel_rfl) (by kernel_rfl) (fun _ _ _ h => h) (Or.inl ⟨by rfl, ?_⟩) hHeld ?_
                      rotate_left
                      focus
                        intro w hSw
                        clear hSw
                        go_simp
                        try with_reducible rfl
                      try simp only [Act.put, List.getElem_toArray, List.getElem_cons_zero, List.getElem_cons_succ, List.setIfInBounds_toArray, List.set_cons_zero, List.set_cons_succ]
                      refine wpAnyH_done (by kernel_rfl) ?_ _
                      refine NoPanic.normal ?_
                      go_wp2_with fail
                      go_roundw
                      case rel => exact ⟨j + 1, _, rfl, by omega, by omega, by go_num, Lib.hid (HBX.out.trans (HZ1.out.mono HBX.out.size))⟩
                      case measure => simp [intOf]; omega
                    | false =>
                      have p2 : WX.cell? ⟨OB, 2, none⟩ = some (.bool false) := rO 2 _ rfl
                      have x2 : WX.cell? ⟨XB, 2, none⟩ = some (.bool false) := rX 2 _ rfl
                      have p3 : WX.cell? ⟨OB, 3, none⟩ = some (.int .i64 opr) := rO 3 _ rfl
                      have x3 : WX.cell? ⟨XB, 3, none⟩ = some (.int .i64 xpr) := rX 3 _ rfl
                      refine wp_region_noPanic ?_
                      refine wp_region_held_drew (S := (fun w' => w'.rangeAt OB 0 [.int .i64 oi, .int .i64 ott, .bool false, .int .i64 opr, .int .i64 olt, .int .i64 osq] ∧ w'.rangeAt XB 0 [.int .i64 xi, .int .i64 xtt, .bool false, .int .i64 xpr, .int .i64 xlt, .int .i64 xsq] ∧ w'.cell? ⟨OB, 2, none⟩ = some (.bool false) ∧ w'.cell? ⟨XB, 2, none⟩ = some (.bool false) ∧ w'.cell? ⟨OB, 3, none⟩ = some (.int .i64 opr) ∧ w'.cell? ⟨XB, 3, none⟩ = some (.int .i64 xpr))) (by kernel_rfl) ⟨rO, rX, p2, x2, p3, x3⟩ (fun hHeld => ?_)
                      refine wpAnyH_take (i := 0) rfl (by kernel_rfl) (by kernel_rfl) (by kernel_rfl) (fun _ _ _ h => h) (yieldsIf_load_mid (by rfl) 67 _ rfl OB (0) rfl [.int .i64 oi, .int .i64 ott, .bool false, .int .i64 opr, .int .i64 olt, .int .i64 osq] _ (fun w h => h.1) Tryd.underlying67 rfl size_ord) hHeld ?_
                      try simp only [Act.put, List.getElem_toArray, List.getElem_cons_zero, List.getElem_cons_succ, List.setIfInBounds_toArray, List.set_cons_zero, List.set_cons_succ]
                      refine wpAnyH_take (i := 1) rfl (by kernel_rfl) (by kernel_rfl) (by kernel_rfl) (fun _ _ _ h => h) (yieldsIf_load_mid (by rfl) 67 _ rfl XB (0) rfl [.int .i64 xi, .int .i64 xtt, .bool false, .int .i64 xpr, .int .i64 xlt, .int .i64 xsq] _ (fun w h => h.2.1) Tryd.underlying67 rfl size_ord) hHeld ?_
                      try simp only [Act.put, List.getElem_toArray, List.getElem_cons_zero, List.getElem_cons_succ, List.setIfInBounds_toArray, List.set_cons_zero, List.set_cons_succ]
                      refine wpAnyH_take (i := 3) (v := ?_) rfl (by kernel_rfl) (by kernel_rfl) (by kernel_rfl) (fun _ _ _ h => h) (Or.inl ⟨by rfl, ?_⟩) hHeld ?_
                      rotate_left
                      focus
                        intro w hSw
                        clear hSw
                        go_simp
                        try with_reducible rfl
                      try simp only [Act.put, List.getElem_toArray, List.getElem_cons_zero, List.getElem_cons_succ, List.setIfInBounds_toArray, List.set_cons_zero, List.set_cons_succ]
                      refine wpAnyH_take (i := 4) (v := ?_) rfl (by kernel_rfl) (by kernel_rfl) (by kernel_rfl) (fun _ _ _ h => h) (Or.inl ⟨by rfl, ?_⟩) hHeld ?_
                      rotate_left
                      focus
                        intro w hSw
                        (try dsimp only at hSw)
                        go_simp
                        try with_reducible rfl
                      try simp only [Act.put, List.getElem_toArray, List.getElem_cons_zero, List.getElem_cons_succ, List.setIfInBounds_toArray, List.set_cons_zero, List.set_cons_succ]
                      refine wpAnyH_ready (rs := [2]) (by kernel_rfl) (by simp) ?_
                      refine AllReadyH.cons rfl (fun K hK => ?_) AllReadyH.nil
                      go_simp
                      refine (meets_c ⟨oi, ott, false, opr, olt, osq⟩ ⟨xi, xtt, false, xpr, xlt, xsq⟩ _).mono ?_
                      rintro e z1 ⟨rfl, hm1⟩
                      have hm1 : Below WX.heap.size WX z1 := ⟨hm1.os, hm1.tape, hm1.output, hm1.size, hm1.block⟩
                      have rO1 := rangeAt_below rO hm1 (by first | exact OLT.out | exact Nat.lt_of_lt_of_le OLT.out (Nat.le_refl _))
                      have rX1 := rangeAt_below rX hm1 (by first | exact XLT.out | exact Nat.lt_of_lt_of_le XLT.out (Nat.le_refl _))
                      have HZ1 := Lib.hid hm1
                      have p21 : z1.cell? ⟨OB, 2, none⟩ = some (.bool false) := rO1 2 _ rfl
                      have x21 : z1.cell? ⟨XB, 2, none⟩ = some (.bool false) := rX1 2 _ rfl
                      have p31 : z1.cell? ⟨OB, 3, none⟩ = some (.int .i64 opr) := rO1 3 _ rfl
                      have x31 : z1.cell? ⟨XB, 3, none⟩ = some (.int .i64 xpr) := rX1 3 _ rfl
                      clear hm1
                      refine hK.out _ _ ⟨rO1, rX1, p21, x21, p31, x31⟩ (fun hHeld => ?_)
                      clear hK K
                      try simp only [Act.put, List.getElem_toArray, List.getElem_cons_zero, List.getElem_cons_succ, List.setIfInBounds_toArray, List.set_cons_zero, List.set_cons_succ]
                      refine wpAnyH_take (i := 5) (v := ?_) rfl (by kernel_rfl) (by kernel_rfl) (by kernel_rfl) (fun _ _ _ h => h) (Or.inl ⟨by rfl, ?_⟩) hHeld ?_
                      rotate_left
                      focus
                        intro w hSw
                        clear hSw
                        go_simp
                        try with_reducible rfl
                      try simp only [Act.put, List.getElem_toArray, List.getElem_cons_zero, List.getElem_cons_succ, List.setIfInBounds_toArray, List.set_cons_zero, List.set_cons_succ]
                      refine wpAnyH_take (i := 6) (v := undef) rfl (by kernel_rfl) (by kernel_rfl) (by kernel_rfl) (fun _ _ _ h => h) (Or.inr ⟨by rfl, rfl⟩) hHeld ?_
                      try simp only [Act.put, List.getElem_toArray, List.getElem_cons_zero, List.getElem_cons_succ, List.setIfInBounds_toArray, List.set_cons_zero, List.set_cons_succ]
                      refine wpAnyH_take (i := 7) (v := undef) rfl (by kernel_rfl) (by kernel_rfl) (by kernel_rfl) (fun _ _ _ h => h) (Or.inr ⟨by rfl, rfl⟩) hHeld ?_
                      try simp only [Act.put, List.getElem_toArray, List.getElem_cons_zero, List.getElem_cons_succ, List.setIfInBounds_toArray, List.set_cons_zero, List.set_cons_succ]
                      refine wpAnyH_take (i := 8) (v := undef) rfl (by kernel_rfl) (by kernel_rfl) (by kernel_rfl) (fun _ _ _ h => h) (Or.inr ⟨by rfl, rfl⟩) hHeld ?_
                      try simp only [Act.put, List.getElem_toArray, List.getElem_cons_zero, List.getElem_cons_succ, List.setIfInBounds_toArray, List.set_cons_zero, List.set_cons_succ]
                      refine wpAnyH_take (i := 9) (v := ?_) rfl (by kernel_rfl) (by kernel_rfl) (by kernel_rfl) (fun _ _ _ h => h) (Or.inl ⟨by rfl, ?_⟩) hHeld ?_
                      rotate_left
                      focus
                        intro w hSw
                        clear hSw
                        go_simp
                        try with_reducible rfl
                      try simp only [Act.put, List.getElem_toArray, List.getElem_cons_zero, List.getElem_cons_succ, List.setIfInBounds_toArray, List.set_cons_zero, List.set_cons_succ]
                      refine wpAnyH_take (i := 10) (v := ?_) rfl (by kernel_rfl) (by kernel_rfl) (by kernel_rfl) (fun _ _ _ h => h) (Or.inl ⟨by rfl, ?_⟩) hHeld ?_
                      rotate_left
                      focus
                        intro w hSw
                        clear hSw
                        go_simp
                        try with_reducible rfl
                      try simp only [Act.put, List.getElem_toArray, List.getElem_cons_zero, List.getElem_cons_succ, List.setIfInBounds_toArray, List.set_cons_zero, List.set_cons_succ]
                      refine wpAnyH_take (i := 11) (v := undef) rfl (by kernel_rfl) (by kernel_rfl) (by kernel_rfl) (fun _ _ _ h => h) (Or.inr ⟨by rfl, rfl⟩) hHeld ?_
                      try simp only [Act.put, List.getElem_toArray, List.getElem_cons_zero, List.getElem_cons_succ, List.setIfInBounds_toArray, List.set_cons_zero, List.set_cons_succ]
                      refine wpAnyH_take (i := 12) (v := undef) rfl (by kernel_rfl) (by kernel_rfl) (by kernel_rfl) (fun _ _ _ h => h) (Or.inr ⟨by rfl, rfl⟩) hHeld ?_
                      try simp only [Act.put, List.getElem_toArray, List.getElem_cons_zero, List.getElem_cons_succ, List.setIfInBounds_toArray, List.set_cons_zero, List.set_cons_succ]
                      refine wpAnyH_take (i := 13) (v := undef) rfl (by kernel_rfl) (by kernel_rfl) (by kernel_rfl) (fun _ _ _ h => h) (Or.inr ⟨by rfl, rfl⟩) hHeld ?_
                      try simp only [Act.put, List.getElem_toArray, List.getElem_cons_zero, List.getElem_cons_succ, List.setIfInBounds_toArray, List.set_cons_zero, List.set_cons_succ]
                      refine wpAnyH_take (i := 14) (v := undef) rfl (by kernel_rfl) (by kernel_rfl) (by kernel_rfl) (fun _ _ _ h => h) (Or.inr ⟨by rfl, rfl⟩) hHeld ?_
                      try simp only [Act.put, List.getElem_toArray, List.getElem_cons_zero, List.getElem_cons_succ, List.setIfInBounds_toArray, List.set_cons_zero, List.set_cons_succ]
                      refine wpAnyH_take (i := 15) (v := undef) rfl (by kernel_rfl) (by kernel_rfl) (by kernel_rfl) (fun _ _ _ h => h) (Or.inr ⟨by rfl, rfl⟩) hHeld ?_
                      try simp only [Act.put, List.getElem_toArray, List.getElem_cons_zero, List.getElem_cons_succ, List.setIfInBounds_toArray, List.set_cons_zero, List.set_cons_succ]
                      refine wpAnyH_take (i := 16) (v := ?_) rfl (by kernel_rfl) (by kernel_rfl) (by kernel_rfl) (fun _ _ _ h => h) (Or.inl ⟨by rfl, ?_⟩) hHeld ?_
                      rotate_left
                      focus
                        intro w hSw
                        clear hSw
                        go_simp
                        try with_reducible rfl
                      try simp only [Act.put, List.getElem_toArray, List.getElem_cons_zero, List.getElem_cons_succ, List.setIfInBounds_toArray, List.set_cons_zero, List.set_cons_succ]
                      refine wpAnyH_take (i := 17) (v := ?_) rfl (by kernel_rfl) (by kernel_rfl) (by kernel_rfl) (fun _ _ _ h => h) (Or.inl ⟨by rfl, ?_⟩) hHeld ?_
                      rotate_left
                      focus
                        intro w hSw
                        clear hSw
                        go_simp
                        try with_reducible rfl
                      try simp only [Act.put, List.getElem_toArray, List.getElem_cons_zero, List.getElem_cons_succ, List.setIfInBounds_toArray, List.set_cons_zero, List.set_cons_succ]
                      refine wpAnyH_done (by kernel_rfl) ?_ _
                      refine NoPanic.normal ?_
                      go_wp2_with fail
                      go_roundw
                      case rel => exact ⟨j + 1, _, rfl, by omega, by omega, by go_num, Lib.hid (HBX.out.trans (HZ1.out.mono HBX.out.size))⟩
                      case measure => simp [intOf]; omega
                · have h4' : ¬ (j : Int) < 40 := by omega
                  go_wp2_with fail
                  go_roundw
                  case rel => exact ⟨k + 1, c2, l2, v1, L3, v3, _, rfl, by omega, by omega, by go_num, by omega, HBO2, T3.out.bq.below (HBO4.out.trans (HBY.out.mono HBO4.out.size)), T3.out.r.below (HBO4.out.trans (HBY.out.mono HBO4.out.size)), Lib.hid (HBO3.out.trans (HBY.out.mono HBO3.out.size))⟩
                  case measure => simp [intOf]; omega
              · have h3' : ¬ (j : Int) < (len : Int) := by omega
                go_wp2_with fail
                go_roundw
                case rel => exact ⟨k + 1, c2, l2, v1, L3, v3, _, rfl, by omega, by omega, by go_num, by omega, HBO2, T3.out.bq.below (HBO4.out.trans (HBY.out.mono HBO4.out.size)), T3.out.r.below (HBO4.out.trans (HBY.out.mono HBO4.out.size)), Lib.hid (HBO3.out.trans (HBY.out.mono HBO3.out.size))⟩
                case measure => simp [intOf]; omega
      · have hk2 : ¬ (k : Int) < 40 := by omega
        have HZ := HB
        clear HV HR HBO
        go_wp2_with fail
        refine (match_nil E ⟨1, 0, false, 1, 1, 0⟩ wr (Lib.hid (HENV.out _ HZ.out))).mono ?_
        rintro e z1 ⟨rfl, hz1⟩
        have HZ := Lib.hid (HZ.out.trans (hz1.mono HZ.out.size))
        clear hz1
        go_wp2_with fail
        refine (kind14_c z1 (HS0.out _ HZ.out) (HER.out _ HZ.out) 2 (by omega)).mono ?_
        rintro e z2 ⟨rfl, hz2⟩
        have HZ := Lib.hid (HZ.out.trans (hz2.mono HZ.out.size))
        clear hz2
        go_wp2_with fail
        go_ret
        exact ⟨rfl, HZ.out⟩
    · have hk1 : ¬ (k : Int) < (len : Int) := by omega
      have HZ := HB
      clear HV HR HBO
      go_wp2_with fail
      refine (match_nil E ⟨1, 0, false, 1, 1, 0⟩ wr (Lib.hid (HENV.out _ HZ.out))).mono ?_
      rintro e z1 ⟨rfl, hz1⟩
      have HZ := Lib.hid (HZ.out.trans (hz1.mono HZ.out.size))
      clear hz1
      go_wp2_with fail
      refine (kind14_c z1 (HS0.out _ HZ.out) (HER.out _ HZ.out) 2 (by omega)).mono ?_
      rintro e z2 ⟨rfl, hz2⟩
      have HZ := Lib.hid (HZ.out.trans (hz2.mono HZ.out.size))
      clear hz2
      go_wp2_with fail
      go_ret
      exact ⟨rfl, HZ.out⟩
end Go.Proofs.YtdebldpmloignaaDoor
