/-
  RingExact: the walk.
-/
import Derived.Test.YtkinbidpbgkaoaaDoorRinC
import Derived.IntWalk
namespace Go.Proofs.YtkinbidpbgkaoaaDoor
open Go.RowKit
set_option linter.unusedVariables false

/-- The lines that were added. -/
def accL (xs : List ByteArray) (sz k : Nat) : List ByteArray := (xs.take k).filter fun s => goodL s sz
theorem accL_zero (xs : List ByteArray) (sz : Nat) : accL xs sz 0 = [] := rfl
theorem accL_yes {xs : List ByteArray} {sz k : Nat} {x : ByteArray} (h : xs[k]? = some x) (hg : goodL x sz = true) : accL xs sz (k + 1) = accL xs sz k ++ [x] := by
  unfold accL
  rw [List.take_add_one, h, List.filter_append]
  simp [hg]
theorem accL_no {xs : List ByteArray} {sz k : Nat} {x : ByteArray} (h : xs[k]? = some x) (hg : goodL x sz = false) : accL xs sz (k + 1) = accL xs sz k := by
  unfold accL
  rw [List.take_add_one, h, List.filter_append]
  simp [hg]
theorem accL_len (xs : List ByteArray) (sz k : Nat) : (accL xs sz k).length ≤ k := by
  unfold accL
  exact Nat.le_trans (List.length_filter_le _ _) (List.length_take_le _ _)
theorem drop_take_succ {l : List ByteArray} {i g : Nat} {x : ByteArray} (h : l[i]? = some x) (hg : g ≤ i) : (l.take (i + 1)).drop g = (l.take i).drop g ++ [x] := by
  have hi := (List.getElem?_eq_some_iff.1 h).1
  rw [List.take_add_one, h, List.drop_append_of_le_length (by rw [List.length_take]; omega)]
  rfl
theorem drop_take_no {l : List ByteArray} {i g : Nat} (hg : i ≤ g) : (l.take i).drop g = [] := List.drop_eq_nil_of_le (by rw [List.length_take]; omega)
theorem sumW_take {l : List ByteArray} {i : Nat} {x : ByteArray} (h : l[i]? = some x) : sumW (l.take (i + 1)) = sumW (l.take i) + (x.size + 1) := by
  rw [List.take_add_one, h, sumW_append]
  rw [show (some x).toList = [x] from rfl, sumW_one]
theorem sumW_take_le (l : List ByteArray) (i : Nat) : sumW (l.take i) ≤ sumW l := by
  have := sumW_append (l.take i) (l.drop i)
  rw [List.take_append_drop] at this
  omega

set_option maxRecDepth 100000 in
set_option maxHeartbeats 8000000 in
theorem ringExact_walk (Er : Nat → Addr) (size since : Int) (A : Option Addr) (len cap : Nat) (xs : List ByteArray) (w : World) (hE : Errs w.heap.size w [1, 2] Er) (hz : Hid (RdRows w w.heap.size strC 1 A len xs)) (hcap : len ≤ cap) (hcm : cap ≤ maxLen)
    (hs1 : -9223372036854775808 ≤ size) (hs2 : size ≤ 9223372036854775807) (hsi1 : -9223372036854775808 ≤ since) (hsi2 : since ≤ 9223372036854775807) :
    Calls Tryd.prog 9 #[.int .i64 size, .slice A len cap, .int .i64 since] w fun e w' => e = .returned (.bool true) ∧ Below w.heap.size w w' := by
  obtain ⟨i0, hi, hz0, hz1, hz2⟩ := info_parts info_str
  have hlM : (len : Int) ≤ 9223372036854775807 := by unfold maxLen at hcm; omega
  have HE := Lib.hid hE
  clear hE
  by_cases hlen : 40 < len
  · have hl40 : (40 : Int) < (len : Int) := by omega
    go_enter Tryd.func9, Tryd.ntmps9
    go_wp2_with fail
    refine (awake38_c w).mono ?_
    rintro e w1 ⟨rfl, hb1⟩
    go_wp2_with fail
    go_ret
    exact ⟨rfl, hb1⟩
  · have hl40 : ¬ (40 : Int) < (len : Int) := by omega
    by_cases hsize : size < 1 ∨ 65536 < size
    · have HN := fun w' => rnew_none size w' hsize
      have HNN := Lib.hid HN
      clear HN
      by_cases hs3 : size < 1
      · have d1 : decide (size < 1) = true := by simpa using hs3
        clear hsize hs3
        go_enter Tryd.func9, Tryd.ntmps9
        go_wp2_with fail
        refine (awake38_c w).mono ?_
        rintro e w1 ⟨rfl, hb1⟩
        go_wp2_with fail
        refine (HNN.out w1).mono ?_
        rintro e w' ⟨rfl, rfl⟩
        go_wp2_with fail
        go_ret
        exact ⟨rfl, hb1⟩
      · have d1 : decide (size < 1) = false := by simpa using hs3
        have d2 : decide (65536 < size) = true := by simp; omega
        clear hsize hs3
        go_enter Tryd.func9, Tryd.ntmps9
        go_wp2_with fail
        refine (awake38_c w).mono ?_
        rintro e w1 ⟨rfl, hb1⟩
        go_wp2_with fail
        refine (HNN.out w1).mono ?_
        rintro e w' ⟨rfl, rfl⟩
        go_wp2_with fail
        go_ret
        exact ⟨rfl, hb1⟩
    · obtain ⟨sz, rfl⟩ : ∃ sz : Nat, size = sz := ⟨size.toNat, by omega⟩
      have hz1' : 1 ≤ sz := by omega
      have hz2' : sz ≤ 65536 := by omega
      have d1 : decide ((sz : Int) < 1) = false := by simp; omega
      have d2 : decide (65536 < (sz : Int)) = false := by simp; omega
      clear hsize
      go_enter Tryd.func9, Tryd.ntmps9
      go_wp2_with fail
      refine (awake38_c w).mono ?_
      rintro e w1 ⟨rfl, hb1⟩
      go_wp2_with fail
      refine (rnew_c sz w1 hz1' hz2').mono ?_
      rintro e w2 ⟨rfl, hr2, hb2⟩
      have hbw2 := hb1.trans (hb2.mono hb1.size)
      have hs1 := hb1.size
      have HR2 := Lib.hid (hr2.below (below_grw w2 (.cells #[] 9)))
      have HO2 : Hid ((w2.alloc (.cells #[] 9)).ownsRow w1.heap.size 9 1 (.slice (some ⟨w2.heap.size, 0, none⟩) 0 0) 0 []) := own_empty hb2.size
      have HBW2 := Lib.hid (hbw2.trans ((below_grw w2 (.cells #[] 9)).mono hbw2.size))
      have hlt12 := hr2.blk.lt
      clear hr2 hb2 hb1 hbw2
      go_wp2_with fail
      go_loopw [8, 9, 10] (fun s8 s9 _ wx => ∃ (k : Nat) (v va : Value) (wr : World), wr = wx ∧ k ≤ len ∧ s9 = .int .i64 k ∧ va = s8 ∧ RngV wr w1.heap.size w1.heap.size sz (trim sz (accL xs sz k)) (accL xs sz k).length v ∧ OffRow wr w1.heap.size 1 va (accL xs sz k).length (flatOf strC (accL xs sz k)) ∧ Hid (∀ g, va.ownBlock = some g → ¬ RngF w1.heap.size v g) ∧ sumW (accL xs sz k) ≤ k * 101 ∧ Below w.heap.size w wr) (fun _ s9 _ _ => len - (intOf s9).toNat)
      case atStart =>
        exact ⟨0, _, _, _, rfl, by omega, rfl, rfl, HR2.out, OffRow.of_owns HO2.out, fun g hg hf => by
          simp [Value.ownBlock] at hg
          rcases hf with hf | hf
          · omega
          · simp [Value.ownBlock] at hf, by rw [accL_zero]; simp [sumW], HBW2.out⟩
      case round =>
        obtain ⟨k, v, va, wr, rfl, hk, rfl, rfl, hrg, hall, hap, hsm, hbl⟩ := hrel
        have hal := accL_len xs sz k
        have HRG := Lib.hid hrg
        have HALL := Lib.hid hall
        by_cases hlt : k < len
        · obtain ⟨b, off, rfl, hb, hrow⟩ := hz.out.2 (by omega)
          obtain ⟨x, hx⟩ : ∃ x, xs[k]? = some x := ⟨_, List.getElem?_eq_getElem (by have := hz.out.1; omega)⟩
          have cx := strC_at (hrow.below hbl hb) k x hx
          have HX := Lib.hid hx
          have hkl : (k : Int) < (len : Int) := by omega
          clear hrow hx hrg hall
          by_cases hxs : 100 < x.size
          · have hx1 : (100 : Int) < (x.size : Int) := by omega
            go_wp2_with fail
            go_ret
            exact ⟨rfl, hbl⟩
          · have hx1 : ¬ (100 : Int) < (x.size : Int) := by omega
            have HB := Lib.hid hb
            cases hgd : goodL x sz with
            | false =>
              have HBAD := goodL_no hgd
              have HNO := Lib.hid (accL_no HX.out hgd)
              have ha := ((HE.out.below hbl).var 1 (by decide)).2
              have ha' : wr.cell? ⟨0, 0, none⟩ = some (erV Er 1) := ha
              have HGO := good38_c x sz wr (by omega)
              rw [hgd] at HGO
              have HGOO := Lib.hid HGO
              clear ha hgd HGO
              go_wp2_with fail
              refine (radd_bad Er w1.heap.size w1.heap.size sz (trim sz (accL xs sz k)) (accL xs sz k).length v x wr HRG ha' HBAD (by omega)).mono ?_
              rintro e w' ⟨rfl, rfl⟩
              clear HBAD
              go_wp2_with fail
              refine HGOO.out.mono ?_
              rintro e w' ⟨rfl, rfl⟩
              go_wp2_with fail
              refine (is_erV _ (HE.out.below hbl) 1 1 (.inr (by decide)) (by decide)).mono ?_
              rintro e w' ⟨rfl, rfl⟩
              go_wp2_with fail
              go_roundw
              case rel => exact ⟨k + 1, v, _, _, rfl, by omega, by go_num, rfl, by rw [HNO.out]; exact HRG.out, by rw [HNO.out]; exact HALL.out, hap, by rw [HNO.out]; omega, hbl⟩
              case measure => simp [intOf]; omega
            | true =>
              obtain ⟨hnl, hwt⟩ := goodL_yes hgd
              have HYES := Lib.hid (accL_yes HX.out hgd)
              have HGO := fun w' => good38_c x sz w' (by omega)
              rw [hgd] at HGO
              have HGOO := Lib.hid HGO
              have HADD := Lib.hid (radd_ok w1.heap.size w1.heap.size sz (trim sz (accL xs sz k)) (accL xs sz k).length v x wr (Nat.le_of_lt HRG.out.blk.lt) HRG hnl hwt hz2' (trim_le _ _) (by omega))
              rw [← trim_snoc, ← HYES.out] at HADD
              clear hgd HGO hnl hwt
              go_wp2_with fail
              refine HADD.out.mono ?_
              rintro e w5 ⟨rfl, v5, hr5, ht5, hl5⟩
              have HR5 := Lib.hid hr5
              have hbl5 := hbl.trans (ht5.below (B := w.heap.size) hbl.size (fun g hf => by
                rcases hf with hf | hf
                · omega
                · have := (HRG.out.row.lt g hf).1; omega))
              have HALL5 : Hid (OffRow w5 w1.heap.size 1 va (accL xs sz k).length (flatOf strC (accL xs sz k))) := ht5.offs HALL.out hap.out
              have HAP5 : Hid (∀ g, va.ownBlock = some g → ¬ RngF w1.heap.size v5 g) := fun g hg hf => by
                rcases hf with hf | hf
                · exact hap.out g hg (.inl hf)
                · rcases hl5 g hf with h1 | h1
                  · exact hap.out g hg (.inr h1)
                  · have := (HALL.out.lt g hg).2; omega
              have c5 : w5.cell? ⟨b, off + k, none⟩ = some (.string x) := by
                have hrow := (hz.out.2 (by omega))
                obtain ⟨b', off', e', _, hrow'⟩ := hrow
                cases e'
                exact strC_at (hrow'.below hbl5 HB.out) k x HX.out
              clear hr5 ht5 hl5 HADD hap cx hbl
              go_wp2_with fail
              refine (HGOO.out w5).mono ?_
              rintro e w' ⟨rfl, rfl⟩
              go_wp2_with (at_builtin; refine wpList_app_off rfl _ _ 68 rfl w1.heap.size 9 i0 (.string ByteArray.empty) 1 16 Tryd.underlying68 hi hz0 hz1 hz2 rfl (by decide) _ _ _ rfl HALL5.out _ _ rfl ?ca0 ?ca1 ?ca2 ?ca3 ?ca4 ?ca5 ?_)
              case ca0 => rfl
              case ca1 => rfl
              case ca2 => intro u hu; simp at hu; subst hu; rfl
              case ca3 => unfold maxLen; omega
              case ca4 => omega
              case ca5 => exact Nat.le_of_lt HR5.out.blk.lt
              intro v6 w6 hown6 hg6 hlie6
              have HR6 : Hid (RngV w6 w1.heap.size w1.heap.size sz (trim sz (accL xs sz (k + 1))) ((accL xs sz k).length + 1) v5) := HR5.out.turns (Turns.of_grown hg6) (fun g hf e => HAP5.out g e hf)
              have hbl6 := hbl5.trans ((Turns.of_grown hg6).below hbl5.size (fun g hg => by have := (HALL5.out.lt g hg).1; omega))
              have HAP6 : Hid (∀ g, v6.ownBlock = some g → ¬ RngF w1.heap.size v5 g) := fun g hg hf => by
                rcases hlie6 with h1 | ⟨g', h1, h2⟩
                · exact HAP5.out g (by rw [← h1]; exact hg) hf
                · rw [h1] at hg
                  have e : g' = g := by simpa using hg
                  subst e
                  rcases hf with hf | hf
                  · have := HR5.out.blk.lt; omega
                  · have := (HR5.out.row.lt _ hf).2; omega
              have HOWN6 := Lib.hid hown6
              clear hown6 hg6 hlie6 hbl5 c5
              go_wp2_with fail
              go_roundw
              case rel => exact ⟨k + 1, v5, _, _, rfl, by omega, by go_num, rfl, by have := HR6.out; rw [HYES.out, List.length_append, List.length_singleton]; rw [HYES.out] at this; exact this, by rw [HYES.out, List.length_append, List.length_singleton, flatOf_append, flatOf_one]; exact HOWN6.out, HAP6.out, by rw [HYES.out, sumW_append, sumW_one]; omega, hbl6⟩
              case measure => simp [intOf]; omega
        · obtain rfl : k = len := by omega
          have hkl : ¬ (k : Int) < (k : Int) := by omega
          obtain ⟨all, hall'⟩ : ∃ z, z = accL xs sz k := ⟨_, rfl⟩
          clear hrg hall hap
          rw [← hall'] at HRG HALL hal hsm
          obtain ⟨Aa, ca, hva, hca1, hca2, _, hra⟩ := HALL.out.rows strC_k rfl
          subst hva
          obtain ⟨j, hj1, hj2, _⟩ := trim_drop sz all
          have htl := trim_len sz all
          have hjl : j = all.length - (trim sz all).length := by
            have := congrArg List.length hj2
            rw [List.length_drop] at this
            omega
          have HJ2 := Lib.hid hj2
          have hgk : (all.length : Int) - ((trim sz all).length : Int) = (j : Int) := by omega
          have HJL := Lib.hid hjl
          have HKEEP := Lib.hid (keep_c Aa all.length ca sz all wr (show Hid _ from hra) (by omega) (by omega) hz2')
          have hLg : all.length - j = (trim sz all).length := by omega
          have HLG := Lib.hid hLg
          have HRA := Lib.hid hra
          clear hj2 hjl hLg hall' hra
          go_wp2_with fail
          refine HKEEP.out.mono ?_
          rintro e w' ⟨rfl, rfl⟩
          go_wp2_with (refine wpList_cut rfl _ _ _ rfl 9 i0 Tryd.underlying68 hi 1 hz1 Aa all.length ca rfl j .i64 rfl hj1 hca1 wr.heap.size all HRA.out ?_)
          intro AK hkp
          rw [← HJ2.out] at hkp
          rw [HLG.out] at hkp ⊢
          have HKP := Lib.hid hkp
          clear hkp
          obtain ⟨gS, hG⟩ : ∃ z, z = if since < (all.length : Int) - (trim sz all).length + 1 then 0 else if since - ((all.length : Int) - (trim sz all).length + 1) < (trim sz all).length then (since - ((all.length : Int) - (trim sz all).length + 1)).toNat else (trim sz all).length := ⟨_, rfl⟩
          have HG := Lib.hid hG
          have hgs1 : gS ≤ (trim sz all).length := by
            rw [hG]
            split
            · omega
            · split <;> omega
          have hgs2 : ∀ i : Nat, i < (trim sz all).length → (gS ≤ i ↔ since ≤ (j : Int) + i + 1) := fun i hi => by
            rw [hG]
            split
            · omega
            · split <;> omega
          have HGS2 := Lib.hid hgs2
          have hKs := sumW_len (trim sz all)
          have hKl := trim_le sz all
          have HO2 : Hid ((wr.alloc (.cells #[] 9)).ownsRow wr.heap.size 9 1 (.slice (some ⟨wr.heap.size, 0, none⟩) 0 0) 0 []) := own_empty (Nat.le_refl _)
          clear hG hgs2
          go_wp2_with fail
          go_loopw [13, 14, 15] (fun s13 s14 s15 wx => ∃ (i : Nat) (vT : Value) (wz : World), wz = wx ∧ i ≤ (trim sz all).length ∧ s15 = .int .i64 i ∧ s13 = .int .i64 (sumW ((trim sz all).take i) : Nat) ∧ vT = s14 ∧ wz.ownsRow wr.heap.size 9 1 vT (((trim sz all).take i).drop gS).length (flatOf strC (((trim sz all).take i).drop gS)) ∧ Below wr.heap.size wr wz) (fun _ _ s15 _ => (trim sz all).length - (intOf s15).toNat)
          case atStart => exact ⟨0, _, _, rfl, by omega, rfl, by simp [sumW], rfl, by rw [List.take_zero, List.drop_nil]; exact HO2.out, below_grw wr _⟩
          case round =>
            obtain ⟨i, vT, wz, rfl, hi2, rfl, rfl, rfl, hown, hbz⟩ := hrel
            have HOWN := Lib.hid hown
            clear hown
            by_cases hlt2 : i < (trim sz all).length
            · obtain ⟨b2, o2, hAK, hb2, hrow2⟩ := HKP.out.2 (by omega)
              subst hAK
              obtain ⟨x, hx⟩ : ∃ x, (trim sz all)[i]? = some x := ⟨_, List.getElem?_eq_getElem hlt2⟩
              have cx := strC_at (hrow2.below hbz hb2) i x hx
              have hst := sumW_take hx
              have hst2 := sumW_take_le (trim sz all) (i + 1)
              rw [hst] at hst2
              have HST := Lib.hid hst
              have HX := Lib.hid hx
              have hik : (i : Int) < ((trim sz all).length : Int) := by omega
              have hszb := hbz.size
              clear hrow2 hst hx
              generalize sumW ((trim sz all).take i) = U at HST hst2
              by_cases hge : since ≤ (j : Int) + i + 1
              · have hgi : gS ≤ i := (HGS2.out i hlt2).2 hge
                have HDT := Lib.hid (drop_take_succ HX.out hgi)
                have hlen1 : ((List.take i (trim sz all)).drop gS).length ≤ 65536 := by rw [List.length_drop, List.length_take]; omega
                have HLEN1 := Lib.hid hlen1
                clear hlen1
                go_wp2_with (at_builtin; refine wpList_app1 rfl _ _ 68 rfl wr.heap.size 9 i0 (.string ByteArray.empty) 1 16 Tryd.underlying68 hi hz0 hz1 hz2 rfl (by decide) _ _ _ rfl HOWN.out _ _ rfl ?da0 ?da1 ?da2 ?da3 ?da4 ?da5 ?_)
                case da0 => rfl
                case da1 => rfl
                case da2 => intro u hu; simp at hu; subst hu; rfl
                case da3 => have := HLEN1.out; unfold maxLen; omega
                case da4 => have := HLEN1.out; omega
                case da5 => exact hszb
                intro v6 w6 hown6 hg6 _
                have hbz6 := below_app hbz hszb (Nat.le_refl _) HOWN.out hg6
                have HOWN6 := Lib.hid hown6
                have HL6 : Hid (((List.take i (trim sz all)).drop gS ++ [x]).length = i - gS + 1) := by
                  show _ = _
                  rw [List.length_append, List.length_drop, List.length_take, List.length_singleton]
                  omega
                clear hown6 hg6
                go_wp2_with fail
                go_roundw
                case rel => exact ⟨i + 1, _, _, rfl, by omega, by go_num, congrArg (Value.int .i64) (by have := HST.out; omega), rfl, by rw [HDT.out, flatOf_append, flatOf_one, HL6.out]; exact HOWN6.out, hbz6⟩
                case measure => simp [intOf]; omega
              · have hgi : ¬ gS ≤ i := fun h => hge ((HGS2.out i hlt2).1 h)
                have HDT : Hid (((trim sz all).take (i + 1)).drop gS = ((trim sz all).take i).drop gS) := by
                  show _ = _
                  rw [drop_take_no (by omega), drop_take_no (by omega)]
                clear hgi
                go_wp2_with fail
                go_roundw
                case rel => exact ⟨i + 1, _, _, rfl, by omega, by go_num, congrArg (Value.int .i64) (by have := HST.out; omega), rfl, by rw [HDT.out]; exact HOWN.out, hbz⟩
                case measure => simp [intOf]; omega
            · obtain rfl : i = (trim sz all).length := by omega
              have htk : (trim sz all).take (trim sz all).length = trim sz all := List.take_of_length_le (Nat.le_refl _)
              rw [htk] at HOWN ⊢
              have hdl : ((trim sz all).drop gS).length = (trim sz all).length - gS := List.length_drop
              rw [hdl] at HOWN
              obtain ⟨AT, cT, hvT, hcT, hrT⟩ := own_rows strC_k HOWN.out hdl
              subst hvT
              have HLT : Hid (RdRows wz wz.heap.size strC 1 AT ((trim sz all).length - gS) ((trim sz all).drop gS)) := hrT
              have HKP := Lib.hid ((HKP.out.below hbz (Nat.le_refl _)).mono hbz.size)
              have HRG := Lib.hid (HRG.out.below hbz)
              have HBW := Lib.hid (hbl.trans (hbz.mono hbl.size))
              have hg : wz.drew.cell? ⟨1, 0, none⟩ = some (erV Er 2) := ((HE.out.below HBW.out).var 2 (by decide)).2
              have hgl : 1 < wz.heap.size := Nat.lt_of_lt_of_le ((HE.out.below HBW.out).var 2 (by decide)).1 HBW.out.size
              obtain ⟨cK, hcK⟩ : ∃ cK, cK = ca - j := ⟨_, rfl⟩
              rw [← hcK]
              clear hrT hlt2 hbz hdl htk hi2 hcK
              have hw1 : IntKind.i64.wrap (j : Int) = (j : Int) := IntWalk.i64_in _ (by omega)
              have hw2 : IntKind.i64.wrap ((j : Int) + 1) = (j : Int) + 1 := IntWalk.i64_in _ (by omega)
              have hnlt : ¬ ((trim sz all).length : Int) < ((trim sz all).length : Int) := by omega
              go_wp2_with fail
              refine wp_region_noPanic ?_
              refine wp_region_held_drew (S := (fun w' => w'.cell? ⟨1, 0, none⟩ = some (erV Er 2))) (by kernel_rfl) hg (fun hHeld => ?_)
              have HB : Below wz.heap.size wz wz.drew := ⟨rfl, rfl, rfl, Nat.le_refl _, fun _ _ => rfl⟩
              refine wpAnyH_take (i := 0) (v := ?_) rfl (by kernel_rfl) (by kernel_rfl) (by kernel_rfl) (fun _ _ _ h => h) (Or.inl ⟨by rfl, ?_⟩) hHeld ?_
              rotate_left
              focus
                intro w hSw
                clear hSw
                go_simp
                try with_reducible rfl
              try simp only [Act.put, List.getElem_toArray, List.getElem_cons_zero, List.getElem_cons_succ, List.setIfInBounds_toArray, List.set_cons_zero, List.set_cons_succ]
              refine wpAnyH_take (i := 2) (v := ?_) rfl (by kernel_rfl) (by kernel_rfl) (by kernel_rfl) (fun _ _ _ h => h) (Or.inl ⟨by rfl, ?_⟩) hHeld ?_
              rotate_left
              focus
                intro w hSw
                clear hSw
                go_simp
                try with_reducible rfl
              try simp only [Act.put, List.getElem_toArray, List.getElem_cons_zero, List.getElem_cons_succ, List.setIfInBounds_toArray, List.set_cons_zero, List.set_cons_succ]
              refine wpAnyH_ready (rs := [1]) (by kernel_rfl) (by simp) ?_
              refine AllReadyH.cons rfl (fun K hK => ?_) AllReadyH.nil
              go_simp
              refine (rlines_c w1.heap.size w1.heap.size sz (trim sz all) all.length v _ (show Hid _ from HRG.out.below HB) (by omega)).mono ?_
              rintro e y ⟨v6, rfl, ho6, hb⟩
              obtain ⟨A6, c6, hv6, _, hrd6⟩ := own_rows (l := trim sz all) strC_k ho6 rfl
              subst hv6
              have hg := (hb.cell (p := ⟨1, 0, none⟩) (Nat.lt_of_lt_of_le hgl HB.size)).trans hg
              have HB := HB.trans (hb.mono HB.size)
              refine hK.out _ _ hg (fun hHeld => ?_)
              clear hK K
              try simp only [Act.put, List.getElem_toArray, List.getElem_cons_zero, List.getElem_cons_succ, List.setIfInBounds_toArray, List.set_cons_zero, List.set_cons_succ]
              refine wpAnyH_ready (rs := [3]) (by kernel_rfl) (by simp) ?_
              refine AllReadyH.cons rfl (fun K hK => ?_) AllReadyH.nil
              go_simp
              refine (same38_eq A6 AK (trim sz all).length c6 cK (trim sz all) _ hrd6 (show Hid _ from (HKP.out.below HB (Nat.le_refl _)).mono HB.size) (by omega)).mono ?_
              rintro e y ⟨rfl, hb⟩
              have hg := (hb.cell (p := ⟨1, 0, none⟩) (Nat.lt_of_lt_of_le hgl HB.size)).trans hg
              have HB := HB.trans (hb.mono HB.size)
              refine hK.out _ _ hg (fun hHeld => ?_)
              clear hK K
              try simp only [Act.put, List.getElem_toArray, List.getElem_cons_zero, List.getElem_cons_succ, List.setIfInBounds_toArray, List.set_cons_zero, List.set_cons_succ]
              refine wpAnyH_take (i := 4) (v := ?_) rfl (by kernel_rfl) (by kernel_rfl) (by kernel_rfl) (fun _ _ _ h => h) (Or.inl ⟨by rfl, ?_⟩) hHeld ?_
              rotate_left
              focus
                intro w hSw
                clear hSw
                go_simp
                try with_reducible rfl
              try simp only [Act.put, List.getElem_toArray, List.getElem_cons_zero, List.getElem_cons_succ, List.setIfInBounds_toArray, List.set_cons_zero, List.set_cons_succ]
              refine wpAnyH_take (i := 5) (v := ?_) rfl (by kernel_rfl) (by kernel_rfl) (by kernel_rfl) (fun _ _ _ h => h) (Or.inl ⟨by rfl, ?_⟩) hHeld ?_
              rotate_left
              focus
                intro w hSw
                clear hSw
                go_simp
                try with_reducible rfl
              try simp only [Act.put, List.getElem_toArray, List.getElem_cons_zero, List.getElem_cons_succ, List.setIfInBounds_toArray, List.set_cons_zero, List.set_cons_succ]
              refine wpAnyH_take (i := 7) (v := ?_) rfl (by kernel_rfl) (by kernel_rfl) (by kernel_rfl) (fun _ _ _ h => h) (Or.inl ⟨by rfl, ?_⟩) hHeld ?_
              rotate_left
              focus
                intro w hSw
                clear hSw
                go_simp
                try with_reducible rfl
              try simp only [Act.put, List.getElem_toArray, List.getElem_cons_zero, List.getElem_cons_succ, List.setIfInBounds_toArray, List.set_cons_zero, List.set_cons_succ]
              refine wpAnyH_take (i := 8) (v := ?_) rfl (by kernel_rfl) (by kernel_rfl) (by kernel_rfl) (fun _ _ _ h => h) (Or.inl ⟨by rfl, ?_⟩) hHeld ?_
              rotate_left
              focus
                intro w hSw
                clear hSw
                go_simp
                try with_reducible rfl
              try simp only [Act.put, List.getElem_toArray, List.getElem_cons_zero, List.getElem_cons_succ, List.setIfInBounds_toArray, List.set_cons_zero, List.set_cons_succ]
              refine wpAnyH_take (i := 9) (v := ?_) rfl (by kernel_rfl) (by kernel_rfl) (by kernel_rfl) (fun _ _ _ h => h) (Or.inl ⟨by rfl, ?_⟩) hHeld ?_
              rotate_left
              focus
                intro w hSw
                clear hSw
                go_simp
                try with_reducible rfl
              try simp only [Act.put, List.getElem_toArray, List.getElem_cons_zero, List.getElem_cons_succ, List.setIfInBounds_toArray, List.set_cons_zero, List.set_cons_succ]
              refine wpAnyH_take (i := 10) (v := ?_) rfl (by kernel_rfl) (by kernel_rfl) (by kernel_rfl) (fun _ _ _ h => h) (Or.inl ⟨by rfl, ?_⟩) hHeld ?_
              rotate_left
              focus
                intro w hSw
                clear hSw
                go_simp
                try with_reducible rfl
              try simp only [Act.put, List.getElem_toArray, List.getElem_cons_zero, List.getElem_cons_succ, List.setIfInBounds_toArray, List.set_cons_zero, List.set_cons_succ]
              refine wpAnyH_take (i := 11) (v := ?_) rfl (by kernel_rfl) (by kernel_rfl) (by kernel_rfl) (fun _ _ _ h => h) (Or.inl ⟨by rfl, ?_⟩) hHeld ?_
              rotate_left
              focus
                intro w hSw
                clear hSw
                go_simp
                try with_reducible rfl
              try simp only [Act.put, List.getElem_toArray, List.getElem_cons_zero, List.getElem_cons_succ, List.setIfInBounds_toArray, List.set_cons_zero, List.set_cons_succ]
              refine wpAnyH_ready (rs := [6]) (by kernel_rfl) (by simp) ?_
              refine AllReadyH.cons rfl (fun K hK => ?_) AllReadyH.nil
              go_simp
              refine (rfirst_c w1.heap.size w1.heap.size sz (trim sz all) all.length v _ (show Hid _ from HRG.out.below HB) (by omega) (by omega)).mono ?_
              rintro e y ⟨rfl, hb⟩
              have hg := (hb.cell (p := ⟨1, 0, none⟩) (Nat.lt_of_lt_of_le hgl HB.size)).trans hg
              have HB := HB.trans (hb.mono HB.size)
              refine hK.out _ _ hg (fun hHeld => ?_)
              clear hK K
              try simp only [Act.put, List.getElem_toArray, List.getElem_cons_zero, List.getElem_cons_succ, List.setIfInBounds_toArray, List.set_cons_zero, List.set_cons_succ]
              refine wpAnyH_take (i := 12) (v := ?_) rfl (by kernel_rfl) (by kernel_rfl) (by kernel_rfl) (fun _ _ _ h => h) (Or.inl ⟨by rfl, ?_⟩) hHeld ?_
              rotate_left
              focus
                intro w hSw
                clear hSw
                go_simp
                try with_reducible rfl
              try simp only [Act.put, List.getElem_toArray, List.getElem_cons_zero, List.getElem_cons_succ, List.setIfInBounds_toArray, List.set_cons_zero, List.set_cons_succ]
              refine wpAnyH_take (i := 13) (v := ?_) rfl (by kernel_rfl) (by kernel_rfl) (by kernel_rfl) (fun _ _ _ h => h) (Or.inl ⟨by rfl, ?_⟩) hHeld ?_
              rotate_left
              focus
                intro w hSw
                clear hSw
                go_simp
                try with_reducible rfl
              try simp only [Act.put, List.getElem_toArray, List.getElem_cons_zero, List.getElem_cons_succ, List.setIfInBounds_toArray, List.set_cons_zero, List.set_cons_succ]
              refine wpAnyH_take (i := 14) (v := ?_) rfl (by kernel_rfl) (by kernel_rfl) (by kernel_rfl) (fun _ _ _ h => h) (Or.inl ⟨by rfl, ?_⟩) hHeld ?_
              rotate_left
              focus
                intro w hSw
                clear hSw
                go_simp
                try with_reducible rfl
              try simp only [Act.put, List.getElem_toArray, List.getElem_cons_zero, List.getElem_cons_succ, List.setIfInBounds_toArray, List.set_cons_zero, List.set_cons_succ]
              refine wpAnyH_take (i := 15) (v := ?_) rfl (by kernel_rfl) (by kernel_rfl) (by kernel_rfl) (fun _ _ _ h => h) (Or.inl ⟨by rfl, ?_⟩) hHeld ?_
              rotate_left
              focus
                intro w hSw
                clear hSw
                go_simp
                try with_reducible rfl
              try simp only [Act.put, List.getElem_toArray, List.getElem_cons_zero, List.getElem_cons_succ, List.setIfInBounds_toArray, List.set_cons_zero, List.set_cons_succ]
              refine wpAnyH_take (i := 17) (v := ?_) rfl (by kernel_rfl) (by kernel_rfl) (by kernel_rfl) (fun _ _ _ h => h) (Or.inl ⟨by rfl, ?_⟩) hHeld ?_
              rotate_left
              focus
                intro w hSw
                clear hSw
                go_simp
                try with_reducible rfl
              try simp only [Act.put, List.getElem_toArray, List.getElem_cons_zero, List.getElem_cons_succ, List.setIfInBounds_toArray, List.set_cons_zero, List.set_cons_succ]
              refine wpAnyH_take (i := 18) (v := ?_) rfl (by kernel_rfl) (by kernel_rfl) (by kernel_rfl) (fun _ _ _ h => h) (Or.inl ⟨by rfl, ?_⟩) hHeld ?_
              rotate_left
              focus
                intro w hSw
                clear hSw
                go_simp
                try with_reducible rfl
              try simp only [Act.put, List.getElem_toArray, List.getElem_cons_zero, List.getElem_cons_succ, List.setIfInBounds_toArray, List.set_cons_zero, List.set_cons_succ]
              refine wpAnyH_ready (rs := [16]) (by kernel_rfl) (by simp) ?_
              refine AllReadyH.cons rfl (fun K hK => ?_) AllReadyH.nil
              go_simp
              refine (rcount_c w1.heap.size w1.heap.size sz (trim sz all) all.length v _ (show Hid _ from HRG.out.below HB)).mono ?_
              rintro e y2 ⟨rfl, rfl⟩
              refine hK.out _ _ hg (fun hHeld => ?_)
              clear hK K
              try simp only [Act.put, List.getElem_toArray, List.getElem_cons_zero, List.getElem_cons_succ, List.setIfInBounds_toArray, List.set_cons_zero, List.set_cons_succ]
              refine wpAnyH_take (i := 19) (v := ?_) rfl (by kernel_rfl) (by kernel_rfl) (by kernel_rfl) (fun _ _ _ h => h) (Or.inl ⟨by rfl, ?_⟩) hHeld ?_
              rotate_left
              focus
                intro w hSw
                clear hSw
                go_simp
                try with_reducible rfl
              try simp only [Act.put, List.getElem_toArray, List.getElem_cons_zero, List.getElem_cons_succ, List.setIfInBounds_toArray, List.set_cons_zero, List.set_cons_succ]
              refine wpAnyH_take (i := 20) (v := ?_) rfl (by kernel_rfl) (by kernel_rfl) (by kernel_rfl) (fun _ _ _ h => h) (Or.inl ⟨by rfl, ?_⟩) hHeld ?_
              rotate_left
              focus
                intro w hSw
                clear hSw
                go_simp
                try with_reducible rfl
              try simp only [Act.put, List.getElem_toArray, List.getElem_cons_zero, List.getElem_cons_succ, List.setIfInBounds_toArray, List.set_cons_zero, List.set_cons_succ]
              refine wpAnyH_take (i := 21) (v := ?_) rfl (by kernel_rfl) (by kernel_rfl) (by kernel_rfl) (fun _ _ _ h => h) (Or.inl ⟨by rfl, ?_⟩) hHeld ?_
              rotate_left
              focus
                intro w hSw
                clear hSw
                go_simp
                try with_reducible rfl
              try simp only [Act.put, List.getElem_toArray, List.getElem_cons_zero, List.getElem_cons_succ, List.setIfInBounds_toArray, List.set_cons_zero, List.set_cons_succ]
              refine wpAnyH_take (i := 22) (v := ?_) rfl (by kernel_rfl) (by kernel_rfl) (by kernel_rfl) (fun _ _ _ h => h) (Or.inl ⟨by rfl, ?_⟩) hHeld ?_
              rotate_left
              focus
                intro w hSw
                clear hSw
                go_simp
                try with_reducible rfl
              try simp only [Act.put, List.getElem_toArray, List.getElem_cons_zero, List.getElem_cons_succ, List.setIfInBounds_toArray, List.set_cons_zero, List.set_cons_succ]
              refine wpAnyH_take (i := 24) (v := ?_) rfl (by kernel_rfl) (by kernel_rfl) (by kernel_rfl) (fun _ _ _ h => h) (Or.inl ⟨by rfl, ?_⟩) hHeld ?_
              rotate_left
              focus
                intro w hSw
                clear hSw
                go_simp
                try with_reducible rfl
              try simp only [Act.put, List.getElem_toArray, List.getElem_cons_zero, List.getElem_cons_succ, List.setIfInBounds_toArray, List.set_cons_zero, List.set_cons_succ]
              refine wpAnyH_ready (rs := [23]) (by kernel_rfl) (by simp) ?_
              refine AllReadyH.cons rfl (fun K hK => ?_) AllReadyH.nil
              go_simp
              refine (rsize_c w1.heap.size w1.heap.size sz (trim sz all) all.length v _ (show Hid _ from HRG.out.below HB)).mono ?_
              rintro e y2 ⟨rfl, rfl⟩
              refine hK.out _ _ hg (fun hHeld => ?_)
              clear hK K
              try simp only [Act.put, List.getElem_toArray, List.getElem_cons_zero, List.getElem_cons_succ, List.setIfInBounds_toArray, List.set_cons_zero, List.set_cons_succ]
              refine wpAnyH_take (i := 25) (v := ?_) rfl (by kernel_rfl) (by kernel_rfl) (by kernel_rfl) (fun _ _ _ h => h) (Or.inl ⟨by rfl, ?_⟩) hHeld ?_
              rotate_left
              focus
                intro w hSw
                clear hSw
                go_simp
                try with_reducible rfl
              try simp only [Act.put, List.getElem_toArray, List.getElem_cons_zero, List.getElem_cons_succ, List.setIfInBounds_toArray, List.set_cons_zero, List.set_cons_succ]
              refine wpAnyH_take (i := 26) (v := ?_) rfl (by kernel_rfl) (by kernel_rfl) (by kernel_rfl) (fun _ _ _ h => h) (Or.inl ⟨by rfl, ?_⟩) hHeld ?_
              rotate_left
              focus
                intro w hSw
                clear hSw
                go_simp
                try with_reducible rfl
              try simp only [Act.put, List.getElem_toArray, List.getElem_cons_zero, List.getElem_cons_succ, List.setIfInBounds_toArray, List.set_cons_zero, List.set_cons_succ]
              refine wpAnyH_take (i := 27) (v := ?_) rfl (by kernel_rfl) (by kernel_rfl) (by kernel_rfl) (fun _ _ _ h => h) (Or.inl ⟨by rfl, ?_⟩) hHeld ?_
              rotate_left
              focus
                intro w hSw
                clear hSw
                go_simp
                try with_reducible rfl
              try simp only [Act.put, List.getElem_toArray, List.getElem_cons_zero, List.getElem_cons_succ, List.setIfInBounds_toArray, List.set_cons_zero, List.set_cons_succ]
              refine wpAnyH_take (i := 28) (v := ?_) rfl (by kernel_rfl) (by kernel_rfl) (by kernel_rfl) (fun _ _ _ h => h) (Or.inl ⟨by rfl, ?_⟩) hHeld ?_
              rotate_left
              focus
                intro w hSw
                clear hSw
                go_simp
                try with_reducible rfl
              try simp only [Act.put, List.getElem_toArray, List.getElem_cons_zero, List.getElem_cons_succ, List.setIfInBounds_toArray, List.set_cons_zero, List.set_cons_succ]
              refine wpAnyH_take (i := 29) (v := ?_) rfl (by kernel_rfl) (by kernel_rfl) (by kernel_rfl) (fun _ _ _ h => h) (Or.inl ⟨by rfl, ?_⟩) hHeld ?_
              rotate_left
              focus
                intro w hSw
                clear hSw
                go_simp
                try with_reducible rfl
              try simp only [Act.put, List.getElem_toArray, List.getElem_cons_zero, List.getElem_cons_succ, List.setIfInBounds_toArray, List.set_cons_zero, List.set_cons_succ]
              refine wpAnyH_take (i := 31) (v := ?_) rfl (by kernel_rfl) (by kernel_rfl) (by kernel_rfl) (fun _ _ _ h => h) (Or.inl ⟨by rfl, ?_⟩) hHeld ?_
              rotate_left
              focus
                intro w hSw
                clear hSw
                go_simp
                try with_reducible rfl
              try simp only [Act.put, List.getElem_toArray, List.getElem_cons_zero, List.getElem_cons_succ, List.setIfInBounds_toArray, List.set_cons_zero, List.set_cons_succ]
              refine wpAnyH_ready (rs := [30]) (by kernel_rfl) (by simp) ?_
              refine AllReadyH.cons rfl (fun K hK => ?_) AllReadyH.nil
              go_simp
              refine (rsince_c w1.heap.size w1.heap.size sz (trim sz all) all.length v since _ (show Hid _ from HRG.out.below HB) (by omega) (by omega) hsi1 hsi2 gS HG).mono ?_
              rintro e y ⟨A8, c8, rfl, _, hrd8, hb⟩
              have hg := (hb.cell (p := ⟨1, 0, none⟩) (Nat.lt_of_lt_of_le hgl HB.size)).trans hg
              have HB := HB.trans (hb.mono HB.size)
              refine hK.out _ _ hg (fun hHeld => ?_)
              clear hK K
              try simp only [Act.put, List.getElem_toArray, List.getElem_cons_zero, List.getElem_cons_succ, List.setIfInBounds_toArray, List.set_cons_zero, List.set_cons_succ]
              refine wpAnyH_ready (rs := [32]) (by kernel_rfl) (by simp) ?_
              refine AllReadyH.cons rfl (fun K hK => ?_) AllReadyH.nil
              go_simp
              refine (same38_eq A8 AT ((trim sz all).length - gS) c8 cT ((trim sz all).drop gS) _ hrd8 (show Hid _ from (HLT.out.below HB (Nat.le_refl _)).mono HB.size) (by omega)).mono ?_
              rintro e y ⟨rfl, hb⟩
              have hg := (hb.cell (p := ⟨1, 0, none⟩) (Nat.lt_of_lt_of_le hgl HB.size)).trans hg
              have HB := HB.trans (hb.mono HB.size)
              refine hK.out _ _ hg (fun hHeld => ?_)
              clear hK K
              try simp only [Act.put, List.getElem_toArray, List.getElem_cons_zero, List.getElem_cons_succ, List.setIfInBounds_toArray, List.set_cons_zero, List.set_cons_succ]
              refine wpAnyH_take (i := 33) (v := ?_) rfl (by kernel_rfl) (by kernel_rfl) (by kernel_rfl) (fun _ _ _ h => h) (Or.inl ⟨by rfl, ?_⟩) hHeld ?_
              rotate_left
              focus
                intro w hSw
                clear hSw
                go_simp
                try with_reducible rfl
              try simp only [Act.put, List.getElem_toArray, List.getElem_cons_zero, List.getElem_cons_succ, List.setIfInBounds_toArray, List.set_cons_zero, List.set_cons_succ]
              refine wpAnyH_take (i := 34) (v := ?_) rfl (by kernel_rfl) (by kernel_rfl) (by kernel_rfl) (fun _ _ _ h => h) (Or.inl ⟨by rfl, ?_⟩) hHeld ?_
              rotate_left
              focus
                intro w hSw
                clear hSw
                go_simp
                try with_reducible rfl
              try simp only [Act.put, List.getElem_toArray, List.getElem_cons_zero, List.getElem_cons_succ, List.setIfInBounds_toArray, List.set_cons_zero, List.set_cons_succ]
              refine wpAnyH_take (i := 35) (v := ?_) rfl (by kernel_rfl) (by kernel_rfl) (by kernel_rfl) (fun _ _ _ h => h) (Or.inl ⟨by rfl, ?_⟩) hHeld ?_
              rotate_left
              focus
                intro w hSw
                clear hSw
                go_simp
                try with_reducible rfl
              try simp only [Act.put, List.getElem_toArray, List.getElem_cons_zero, List.getElem_cons_succ, List.setIfInBounds_toArray, List.set_cons_zero, List.set_cons_succ]
              refine wpAnyH_take (i := 37) (v := ?_) rfl (by kernel_rfl) (by kernel_rfl) (by kernel_rfl) (fun _ _ _ h => h) (Or.inl ⟨by rfl, ?_⟩) hHeld ?_
              rotate_left
              focus
                intro w hSw
                (try dsimp only at hSw)
                go_simp
                try with_reducible rfl
              try simp only [Act.put, List.getElem_toArray, List.getElem_cons_zero, List.getElem_cons_succ, List.setIfInBounds_toArray, List.set_cons_zero, List.set_cons_succ]
              refine wpAnyH_ready (rs := [36]) (by kernel_rfl) (by simp) ?_
              refine AllReadyH.cons rfl (fun K hK => ?_) AllReadyH.nil
              go_simp
              refine (radd_nil Er ByteArray.empty _ hg).mono ?_
              rintro e y2 ⟨rfl, rfl⟩
              refine hK.out _ _ hg (fun hHeld => ?_)
              clear hK K
              try simp only [Act.put, List.getElem_toArray, List.getElem_cons_zero, List.getElem_cons_succ, List.setIfInBounds_toArray, List.set_cons_zero, List.set_cons_succ]
              refine wpAnyH_ready (rs := [38]) (by kernel_rfl) (by simp) ?_
              refine AllReadyH.cons rfl (fun K hK => ?_) AllReadyH.nil
              go_simp
              refine (is_erV _ (HE.out.below (HBW.out.trans (HB.mono HBW.out.size))) 2 2 (.inr (by decide)) (by decide)).mono ?_
              rintro e y2 ⟨rfl, rfl⟩
              refine hK.out _ _ hg (fun hHeld => ?_)
              clear hK K
              try simp only [Act.put, List.getElem_toArray, List.getElem_cons_zero, List.getElem_cons_succ, List.setIfInBounds_toArray, List.set_cons_zero, List.set_cons_succ]
              refine wpAnyH_take (i := 39) (v := ?_) rfl (by kernel_rfl) (by kernel_rfl) (by kernel_rfl) (fun _ _ _ h => h) (Or.inl ⟨by rfl, ?_⟩) hHeld ?_
              rotate_left
              focus
                intro w hSw
                clear hSw
                go_simp
                try with_reducible rfl
              try simp only [Act.put, List.getElem_toArray, List.getElem_cons_zero, List.getElem_cons_succ, List.setIfInBounds_toArray, List.set_cons_zero, List.set_cons_succ]
              refine wpAnyH_take (i := 40) (v := ?_) rfl (by kernel_rfl) (by kernel_rfl) (by kernel_rfl) (fun _ _ _ h => h) (Or.inl ⟨by rfl, ?_⟩) hHeld ?_
              rotate_left
              focus
                intro w hSw
                clear hSw
                go_simp
                try with_reducible rfl
              try simp only [Act.put, List.getElem_toArray, List.getElem_cons_zero, List.getElem_cons_succ, List.setIfInBounds_toArray, List.set_cons_zero, List.set_cons_succ]
              refine wpAnyH_take (i := 41) (v := ?_) rfl (by kernel_rfl) (by kernel_rfl) (by kernel_rfl) (fun _ _ _ h => h) (Or.inl ⟨by rfl, ?_⟩) hHeld ?_
              rotate_left
              focus
                intro w hSw
                clear hSw
                go_simp
                try with_reducible rfl
              try simp only [Act.put, List.getElem_toArray, List.getElem_cons_zero, List.getElem_cons_succ, List.setIfInBounds_toArray, List.set_cons_zero, List.set_cons_succ]
              refine wpAnyH_take (i := 44) (v := ?_) rfl (by kernel_rfl) (by kernel_rfl) (by kernel_rfl) (fun _ _ _ h => h) (Or.inl ⟨by rfl, ?_⟩) hHeld ?_
              rotate_left
              focus
                intro w hSw
                clear hSw
                go_simp
                try with_reducible rfl
              try simp only [Act.put, List.getElem_toArray, List.getElem_cons_zero, List.getElem_cons_succ, List.setIfInBounds_toArray, List.set_cons_zero, List.set_cons_succ]
              refine wpAnyH_take (i := 47) (v := ?_) rfl (by kernel_rfl) (by kernel_rfl) (by kernel_rfl) (fun _ _ _ h => h) (Or.inl ⟨by rfl, ?_⟩) hHeld ?_
              rotate_left
              focus
                intro w hSw
                clear hSw
                go_simp
                try with_reducible rfl
              try simp only [Act.put, List.getElem_toArray, List.getElem_cons_zero, List.getElem_cons_succ, List.setIfInBounds_toArray, List.set_cons_zero, List.set_cons_succ]
              refine wpAnyH_take (i := 50) (v := ?_) rfl (by kernel_rfl) (by kernel_rfl) (by kernel_rfl) (fun _ _ _ h => h) (Or.inl ⟨by rfl, ?_⟩) hHeld ?_
              rotate_left
              focus
                intro w hSw
                clear hSw
                go_simp
                try with_reducible rfl
              try simp only [Act.put, List.getElem_toArray, List.getElem_cons_zero, List.getElem_cons_succ, List.setIfInBounds_toArray, List.set_cons_zero, List.set_cons_succ]
              refine wpAnyH_take (i := 54) (v := ?_) rfl (by kernel_rfl) (by kernel_rfl) (by kernel_rfl) (fun _ _ _ h => h) (Or.inl ⟨by rfl, ?_⟩) hHeld ?_
              rotate_left
              focus
                intro w hSw
                clear hSw
                go_simp
                try with_reducible rfl
              try simp only [Act.put, List.getElem_toArray, List.getElem_cons_zero, List.getElem_cons_succ, List.setIfInBounds_toArray, List.set_cons_zero, List.set_cons_succ]
              refine wpAnyH_ready (rs := [42]) (by kernel_rfl) (by simp) ?_
              refine AllReadyH.cons rfl (fun K hK => ?_) AllReadyH.nil
              go_simp
              refine (rlines_nil _).mono ?_
              rintro e y2 ⟨rfl, rfl⟩
              refine hK.out _ _ hg (fun hHeld => ?_)
              clear hK K
              try simp only [Act.put, List.getElem_toArray, List.getElem_cons_zero, List.getElem_cons_succ, List.setIfInBounds_toArray, List.set_cons_zero, List.set_cons_succ]
              refine wpAnyH_take (i := 43) (v := ?_) rfl (by kernel_rfl) (by kernel_rfl) (by kernel_rfl) (fun _ _ _ h => h) (Or.inl ⟨by rfl, ?_⟩) hHeld ?_
              rotate_left
              focus
                intro w hSw
                clear hSw
                go_simp
                try with_reducible rfl
              try simp only [Act.put, List.getElem_toArray, List.getElem_cons_zero, List.getElem_cons_succ, List.setIfInBounds_toArray, List.set_cons_zero, List.set_cons_succ]
              refine wpAnyH_ready (rs := [45]) (by kernel_rfl) (by simp) ?_
              refine AllReadyH.cons rfl (fun K hK => ?_) AllReadyH.nil
              go_simp
              refine (rfirst_nil _).mono ?_
              rintro e y2 ⟨rfl, rfl⟩
              refine hK.out _ _ hg (fun hHeld => ?_)
              clear hK K
              try simp only [Act.put, List.getElem_toArray, List.getElem_cons_zero, List.getElem_cons_succ, List.setIfInBounds_toArray, List.set_cons_zero, List.set_cons_succ]
              refine wpAnyH_take (i := 46) (v := ?_) rfl (by kernel_rfl) (by kernel_rfl) (by kernel_rfl) (fun _ _ _ h => h) (Or.inl ⟨by rfl, ?_⟩) hHeld ?_
              rotate_left
              focus
                intro w hSw
                clear hSw
                go_simp
                try with_reducible rfl
              try simp only [Act.put, List.getElem_toArray, List.getElem_cons_zero, List.getElem_cons_succ, List.setIfInBounds_toArray, List.set_cons_zero, List.set_cons_succ]
              refine wpAnyH_ready (rs := [48]) (by kernel_rfl) (by simp) ?_
              refine AllReadyH.cons rfl (fun K hK => ?_) AllReadyH.nil
              go_simp
              refine (rcount_nil _).mono ?_
              rintro e y2 ⟨rfl, rfl⟩
              refine hK.out _ _ hg (fun hHeld => ?_)
              clear hK K
              try simp only [Act.put, List.getElem_toArray, List.getElem_cons_zero, List.getElem_cons_succ, List.setIfInBounds_toArray, List.set_cons_zero, List.set_cons_succ]
              refine wpAnyH_take (i := 49) (v := ?_) rfl (by kernel_rfl) (by kernel_rfl) (by kernel_rfl) (fun _ _ _ h => h) (Or.inl ⟨by rfl, ?_⟩) hHeld ?_
              rotate_left
              focus
                intro w hSw
                clear hSw
                go_simp
                try with_reducible rfl
              try simp only [Act.put, List.getElem_toArray, List.getElem_cons_zero, List.getElem_cons_succ, List.setIfInBounds_toArray, List.set_cons_zero, List.set_cons_succ]
              refine wpAnyH_ready (rs := [51]) (by kernel_rfl) (by simp) ?_
              refine AllReadyH.cons rfl (fun K hK => ?_) AllReadyH.nil
              go_simp
              refine (rsince_nil _).mono ?_
              rintro e y2 ⟨rfl, rfl⟩
              refine hK.out _ _ hg (fun hHeld => ?_)
              clear hK K
              try simp only [Act.put, List.getElem_toArray, List.getElem_cons_zero, List.getElem_cons_succ, List.setIfInBounds_toArray, List.set_cons_zero, List.set_cons_succ]
              refine wpAnyH_take (i := 52) (v := ?_) rfl (by kernel_rfl) (by kernel_rfl) (by kernel_rfl) (fun _ _ _ h => h) (Or.inl ⟨by rfl, ?_⟩) hHeld ?_
              rotate_left
              focus
                intro w hSw
                clear hSw
                go_simp
                try with_reducible rfl
              try simp only [Act.put, List.getElem_toArray, List.getElem_cons_zero, List.getElem_cons_succ, List.setIfInBounds_toArray, List.set_cons_zero, List.set_cons_succ]
              refine wpAnyH_take (i := 53) (v := ?_) rfl (by kernel_rfl) (by kernel_rfl) (by kernel_rfl) (fun _ _ _ h => h) (Or.inl ⟨by rfl, ?_⟩) hHeld ?_
              rotate_left
              focus
                intro w hSw
                clear hSw
                go_simp
                try with_reducible rfl
              try simp only [Act.put, List.getElem_toArray, List.getElem_cons_zero, List.getElem_cons_succ, List.setIfInBounds_toArray, List.set_cons_zero, List.set_cons_succ]
              refine wpAnyH_ready (rs := [55]) (by kernel_rfl) (by simp) ?_
              refine AllReadyH.cons rfl (fun K hK => ?_) AllReadyH.nil
              go_simp
              refine (rsize_nil _).mono ?_
              rintro e y2 ⟨rfl, rfl⟩
              refine hK.out _ _ hg (fun hHeld => ?_)
              clear hK K
              try simp only [Act.put, List.getElem_toArray, List.getElem_cons_zero, List.getElem_cons_succ, List.setIfInBounds_toArray, List.set_cons_zero, List.set_cons_succ]
              refine wpAnyH_take (i := 56) (v := ?_) rfl (by kernel_rfl) (by kernel_rfl) (by kernel_rfl) (fun _ _ _ h => h) (Or.inl ⟨by rfl, ?_⟩) hHeld ?_
              rotate_left
              focus
                intro w hSw
                clear hSw
                go_simp
                try with_reducible rfl
              try simp only [Act.put, List.getElem_toArray, List.getElem_cons_zero, List.getElem_cons_succ, List.setIfInBounds_toArray, List.set_cons_zero, List.set_cons_succ]
              refine wpAnyH_take (i := 57) (v := ?_) rfl (by kernel_rfl) (by kernel_rfl) (by kernel_rfl) (fun _ _ _ h => h) (Or.inl ⟨by rfl, ?_⟩) hHeld ?_
              rotate_left
              focus
                intro w hSw
                clear hSw
                go_simp
                try with_reducible rfl
              try simp only [Act.put, List.getElem_toArray, List.getElem_cons_zero, List.getElem_cons_succ, List.setIfInBounds_toArray, List.set_cons_zero, List.set_cons_succ]
              refine wpAnyH_take (i := 58) (v := ?_) rfl (by kernel_rfl) (by kernel_rfl) (by kernel_rfl) (fun _ _ _ h => h) (Or.inl ⟨by rfl, ?_⟩) hHeld ?_
              rotate_left
              focus
                intro w hSw
                clear hSw
                go_simp
                try with_reducible rfl
              try simp only [Act.put, List.getElem_toArray, List.getElem_cons_zero, List.getElem_cons_succ, List.setIfInBounds_toArray, List.set_cons_zero, List.set_cons_succ]
              refine wpAnyH_take (i := 59) (v := ?_) rfl (by kernel_rfl) (by kernel_rfl) (by kernel_rfl) (fun _ _ _ h => h) (Or.inl ⟨by rfl, ?_⟩) hHeld ?_
              rotate_left
              focus
                intro w hSw
                clear hSw
                go_simp
                try with_reducible rfl
              try simp only [Act.put, List.getElem_toArray, List.getElem_cons_zero, List.getElem_cons_succ, List.setIfInBounds_toArray, List.set_cons_zero, List.set_cons_succ]
              refine wpAnyH_done (by kernel_rfl) ?_ _
              refine NoPanic.normal ?_
              go_wp2_with fail
              go_ret
              exact ⟨rfl, HBW.out.trans (HB.mono HBW.out.size)⟩
end Go.Proofs.YtkinbidpbgkaoaaDoor
