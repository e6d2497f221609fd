/-
  WireWrites: the law's row and its card, out of the walk. 
-/
import Derived.Test.YtdebldpmloignaaDoorWirL
import Derived.Test.YtdebldpmloignaaDoorHand
import Derived.Test.YtdebldpmloignaaDoorLaid
import Derived.Test.YtdebldpmloignaaDoorCards
import Derived.Test.YtdebldpmloignaaDoorTie
import Derived.SevenTiedAt
namespace Go.Proofs.YtdebldpmloignaaDoor.wireWrites
open Go.ChangeShapes Go.WideShapes Go.ChangeAt Go.RowKit
open Go.ChangeMaps (open_string shut_string)
set_option maxRecDepth 100000

theorem errs {W : World} (h : laidMetH Tryd.prog Rows.wireWritesRow.laid W) : ∃ E, Env W E W.heap.size := by
  have h' : laidMet Tryd.prog (([2, 3].map fun k => sentTab.getD (k - 1) ("", [], 0)).map fun x => (x.1, sentDatum "*errors.errorString" x.2.1)) W ∧ handlesMet Tryd.prog [("errors.errorType", Rows.laid_errors_errorType)] W := h
  obtain ⟨E, hE⟩ := errs_of_laid [2, 3] (by decide) h'.1
  have hc := handle_of_met h'.2
  exact ⟨E, hE, Nat.le_refl _, hc, World.block_lt_of_cell? W ⟨14, 0, none⟩ hc⟩

theorem contract (H : Type) (enc : TypeId × Value → H) (W : World) (base : Nat) (args : Array Value) (ds gs : List (DataW H)) (before : List MemPlace)
    (hval : ∀ (j : Nat) t v, Tryd.f5.params[j]? = some t → args[j]? = some v → Value.okWide Tryd.prog W .any base t v)
    (hW : DataW.Whole enc Tryd.prog Tryd.f5.params.toList Rows.wireWritesSpec.vars false W args.toList ds gs before) (hL : laidMetH Tryd.prog Rows.wireWritesRow.laid W)
    (_hsize : (DataW.weightsEach Tryd.prog (Tryd.f5.params.toList ++ (OpenSpec.ofChange Rows.wireWritesSpec).bare.plain.varTypes Tryd.prog) (ds ++ gs)).all (· ≤ reachBytes) = true) (_hsh : W.ShapedOpen Tryd.prog) :
    Calls Tryd.prog 5 args W fun e W' => ∃ v, e = .returned v ∧ Rows.wireWritesSpec.post enc Tryd.prog Tryd.f5 false true false false W args v W' := by
  have hW' := hW
  obtain ⟨p, q, hA0, hV, rfl, hfz, hnd⟩ := hW
  have hA : DataW.TrodAll enc Tryd.prog W 0 (fun _ => true) true Tryd.f5.params.toList args.toList ds p := hA0
  rw [Tryd.params5] at hA hval
  obtain ⟨v0, vs0, d0, ds0, p0, q0, hargs, rfl, rfl, h0, r0⟩ := trodAll_cons hA
  obtain ⟨rfl, rfl, rfl⟩ := trodAll_nil r0
  obtain rfl : args = #[v0] := by cases args; simp_all
  obtain ⟨rfl, rfl⟩ := trodVars_none hV
  obtain ⟨E, hE⟩ := errs hL
  clear hA0
  have hlt : ∀ x ∈ p0 ++ [], x.block < W.heap.size := fun x hx => hW'.lt x (by simpa using hx)
  simp only [List.append_nil] at hW' hlt
  obtain ⟨A0, n0, m0, rfl⟩ := okWide_slice Tryd.underlying39 (hval 0 39 v0 rfl rfl)
  have hk0 := h0
  obtain ⟨z0, hr0, hc0, hm0, hn0, ho0⟩ := rd_of_wacts hk0
  refine (wireWrites_walk E W.heap.size A0 n0 m0 z0 W (Lib.hid hE) (Lib.hid hr0) (Lib.hid ho0) hc0 hm0).mono fun e W' ⟨he, hb⟩ => ?_
  subst he
  have t0 : ∀ sp : Nat → Bool, (∀ x ∈ p0, sp x.block = true) → DataW.Trod enc Tryd.prog W' 0 sp true 39 (.slice A0 n0 m0) d0 p0 := fun sp hsp => WideElems.Trod_stays laidOut (by kernel_rfl) (of_decide_eq_true (by kernel_rfl)) hk0 (fun x hx => hb.same (hlt x (by simp [hx]))) hsp
  exact ⟨_, rfl, post_of_below (pa := p0) (pv := []) hW' (fun _ _ _ => trodAll_cons_mk (shut_bool Tryd.underlying4 _) trodAll_mk0) (fun sp hsp => by have hh := (trodAll_cons_mk (t0 sp (fun x hx => hsp x (by simp [hx]))) trodAll_mk0); simp only [List.nil_append, List.append_nil] at hh; exact hh) (fun _ _ => rfl) (by simp) hb (ok_one (by kernel_rfl) rfl (okWide_bool_mk Tryd.underlying4 _))⟩

theorem laid_met (os : Os) : laidMetH Tryd.prog Rows.wireWritesRow.laid ((World.doorLaid Tryd.prog 275 os).forCall (fun _ _ => 0) ⟨#[], #[.slice none 0 0], []⟩).memory :=
  laidMetH_of_parts3 (fuel := 8) (laidMet_of_run' 8 (by kernel_rfl) (by kernel_rfl)) (by kernel_rfl) (by kernel_rfl)
theorem reads (os : Os) {H : Type} (enc : TypeId × Value → H) : ∃ places, DataW.whole enc Tryd.prog ((World.doorLaid Tryd.prog 275 os).forCall (fun _ _ => 0) ⟨#[], #[.slice none 0 0], []⟩).memory Tryd.f5.params.toList Rows.wireWritesSpec.vars false (#[.slice none 0 0] : Array Value).toList 8 = some ([.nil], [], places) :=
  ⟨[], by kernel_rfl⟩
theorem lifted (os : Os) (started : os.Started) (H : Type) (enc : TypeId × Value → H) (F : Stop.Interp) :
    ReturnsInHanded {} Tryd.checked os 5 .any ((OpenSpec.ofChange Rows.wireWritesSpec).preRow enc Tryd.prog Tryd.f5 Rows.wireWritesRow.domain false Rows.wireWritesRow.laid) (((OpenSpec.ofChange Rows.wireWritesSpec).at F).post enc Tryd.prog Tryd.f5 false true false false) := by
  obtain ⟨places, hx⟩ := reads os enc
  refine returnsInHanded_of_row (C := Tryd.checked) (s := OpenSpec.ofChange Rows.wireWritesSpec) own started (by kernel_rfl) Tryd.func5
    (witness_row_atRef (enc := enc) (C := Tryd.checked) false (World.doorLaid Tryd.prog 275 os) #[.slice none 0 0] rfl (by kernel_rfl) (by kernel_rfl) (by kernel_rfl)
      (OpenSpec.preRow_of_cond 8 hx (by kernel_rfl) (fun k hk => by cases hk) (by kernel_rfl) (laid_met os))) ?_
  intro W base args ds gs before hval hW _ _ hsize hL hsh _
  exact contract H enc W base args ds gs before hval hW hL hsize hsh
theorem said : Rows.WireWritesSaid :=
  OpenClaim.holds_of_cond 5 Tryd.f5 rfl rfl rfl rfl rfl rfl rfl ⟨rfl, rfl, rfl, rfl, rfl⟩ rfl rfl rfl rfl rfl (by kernel_rfl) Tryd.func5 (by kernel_rfl)
    (of_decide_eq_true (by kernel_rfl)) (by unfold Func.isWrapper; first | (rw [if_pos (by decide +kernel)]; kernel_rfl) | (rw [if_neg (by decide +kernel)]; exact ⟨rfl, rfl⟩))
    (fun os started H enc _ F => by rw [OpenClaim.pre_eq_preRow]; exact lifted os started H enc F)
theorem plain (f : FuncId) (fn : Func) (hf : Tryd.pinned.checked.prog.funcNamed "quitrent/quitrentlaw03.WireWrites" = some f) (hfn : Tryd.pinned.checked.prog.funcs[f]? = some fn) :
    true = Tryd.pinned.checked.prog.looks [] ∧ ∀ (j : Nat) t, fn.params[j]? = some t → Tryd.pinned.checked.prog.wantsStandIn t = false := by
  obtain rfl : f = 5 := Option.some.inj ((show Tryd.prog.funcNamed "quitrent/quitrentlaw03.WireWrites" = some 5 by kernel_rfl).symm.trans hf) |>.symm
  obtain rfl : fn = Tryd.f5 := (Option.some.inj (Tryd.func5.symm.trans hfn)).symm
  refine ⟨by kernel_rfl, fun j t ht => ?_⟩
  rw [Tryd.params5] at ht
  have hm : t = 39 := by
    have hm := Array.mem_of_getElem? ht
    first | simpa using hm | (simp at hm; omega) | (simp at hm; rcases hm with h | h | h <;> simp [h]) | (simp at hm; rcases hm with h | h | h | h <;> simp [h])
  rw [hm]
  exact (show Tryd.prog.wantsStandIn 39 = false by kernel_rfl)
theorem holds : Rows.WireWritesCardSaid :=
  Claim7.holds_tied_plain_at .later [] _ _ _ _ said (fun _ h => by cases h) (by kernel_rfl) (fun _ h => by cases h) wireWrites_row_tie rfl ⟨rfl, rfl⟩ (by kernel_rfl) rfl plain (by kernel_rfl)
#print axioms holds
end Go.Proofs.YtdebldpmloignaaDoor.wireWrites
