/-
  ReplyCodes: the law's row and its card, out of the walk. 
-/
import Derived.Test.YtbningfdpibdkaaDoorRpM
import Derived.Test.YtbningfdpibdkaaDoorHndR
import Derived.Test.YtbningfdpibdkaaDoorLaidJ
import Derived.Test.YtbningfdpibdkaaDoorLaid
import Derived.Test.YtbningfdpibdkaaDoorCards
import Derived.Test.YtbningfdpibdkaaDoorTie
import Derived.SevenTiedAt
namespace Go.Proofs.YtbningfdpibdkaaDoor.replyCodes
open Go.ChangeShapes Go.WideShapes Go.ChangeAt Go.RowKit
open Go.ChangeMaps (open_string shut_string)
set_option maxRecDepth 100000
set_option linter.unusedVariables false
set_option linter.unusedSimpArgs false

theorem errs {W : World} (h : laidMetH Tryd.prog Rows.replyCodesRow.laid W) : ∃ E, Env W E W.heap.size := by
  have h' : laidMet Tryd.prog (([1, 2, 3, 4, 5, 6, 7, 8, 9, 10, 11, 12, 13, 14].map fun k => sentTab.getD (k - 1) ("", [], 0)).map fun x => (x.1, sentDatum "*errors.errorString" x.2.1)) W ∧ handlesMet Tryd.prog [("errors.errorType", Rows.laid_errors_errorType)] W := h
  obtain ⟨E, hE⟩ := errs_of_laid [1, 2, 3, 4, 5, 6, 7, 8, 9, 10, 11, 12, 13, 14] (by decide) h'.1
  have hc := handle_of_met h'.2
  exact ⟨E, hE, Nat.le_refl _, hc, World.block_lt_of_cell? W ⟨14, 0, none⟩ hc⟩

theorem contract (H : Type) (enc : TypeId × Value → H) (W : World) (base : Nat) (args : Array Value) (ds gs : List (DataW H)) (before : List MemPlace)
    (hval : ∀ (j : Nat) t v, Tryd.f8.params[j]? = some t → args[j]? = some v → Value.okWide Tryd.prog W .any base t v)
    (hW : DataW.Whole enc Tryd.prog Tryd.f8.params.toList Rows.replyCodesSpec.vars false W args.toList ds gs before) (hL : laidMetH Tryd.prog Rows.replyCodesRow.laid W)
    (_hsize : (DataW.weightsEach Tryd.prog (Tryd.f8.params.toList ++ (OpenSpec.ofChange Rows.replyCodesSpec).bare.plain.varTypes Tryd.prog) (ds ++ gs)).all (· ≤ reachBytes) = true) (_hsh : W.ShapedOpen Tryd.prog) :
    Calls Tryd.prog 8 args W fun e W' => ∃ v, e = .returned v ∧ Rows.replyCodesSpec.post enc Tryd.prog Tryd.f8 false true false false W args v W' := by
  have hW' := hW
  obtain ⟨p, q, hA0, hV, rfl, hfz, hnd⟩ := hW
  have hA : DataW.TrodAll enc Tryd.prog W 0 (fun _ => true) true Tryd.f8.params.toList args.toList ds p := hA0
  rw [Tryd.params8] at hA hval
  obtain ⟨v0, vs0, d0, ds0, p0, q0, hargs, rfl, rfl, h0, r0⟩ := trodAll_cons hA
  obtain ⟨v1, vs1, d1, ds1, p1, q1, rfl, rfl, rfl, h1, r1⟩ := trodAll_cons r0
  obtain ⟨rfl, rfl, rfl⟩ := trodAll_nil r1
  obtain rfl : args = #[v0, v1] := by cases args; simp_all
  obtain ⟨rfl, rfl⟩ := trodVars_none hV
  obtain ⟨E, hE⟩ := errs hL
  clear hA0
  have hlt : ∀ x ∈ p0 ++ (p1 ++ []), x.block < W.heap.size := fun x hx => hW'.lt x (by simpa using hx)
  simp only [List.append_nil] at hW' hlt
  have hk0 := h0
  obtain ⟨a0, rfl, rfl, rfl, w0⟩ := open_int Tryd.underlying3 (hval 0 3 v0 rfl rfl) h0
  obtain ⟨b0, c0⟩ := bounds_i64 w0
  obtain ⟨A1, n1, m1, rfl⟩ := okWide_slice Tryd.underlying23 (hval 1 23 v1 rfl rfl)
  have hk1 := h1
  obtain ⟨z1, hr1, hc1, hm1, hn1, ho1⟩ := rd_of_intsJ hk1
  refine (replyCodes_walk E W.heap.size a0 A1 n1 m1 z1 W (Lib.hid hE) (Lib.hid hr1) hc1 hm1).mono fun e W' ⟨he, hb⟩ => ?_
  subst he
  have t1 : ∀ sp : Nat → Bool, (∀ x ∈ p1, sp x.block = true) → DataW.Trod enc Tryd.prog W' 0 sp true 23 (.slice A1 n1 m1) d1 p1 := fun sp hsp => WideElems.Trod_stays laidOut (by kernel_rfl) (of_decide_eq_true (by kernel_rfl)) hk1 (fun x hx => hb.same (hlt x (by simp [hx]))) hsp
  exact ⟨_, rfl, post_of_below (pa := p1) (pv := []) hW' (fun _ _ _ => trodAll_cons_mk (shut_bool Tryd.underlying4 _) trodAll_mk0) (fun sp hsp => by have hh := (trodAll_cons_mk (shut_int Tryd.underlying3 w0) (trodAll_cons_mk (t1 sp (fun x hx => hsp x (by simp [hx]))) trodAll_mk0)); simp only [List.nil_append, List.append_nil] at hh; exact hh) (fun _ _ => rfl) (by simp) hb (ok_one (by kernel_rfl) rfl (okWide_bool_mk Tryd.underlying4 _))⟩

theorem laid_met (os : Os) : laidMetH Tryd.prog Rows.replyCodesRow.laid ((World.doorLaid Tryd.prog 350 os).forCall (fun _ _ => 0) ⟨#[], #[.int .i64 0, .slice none 0 0], []⟩).memory :=
  laidMetH_of_parts3 (fuel := 8) (laidMet_of_run' 8 (by kernel_rfl) (by kernel_rfl)) (by kernel_rfl) (by kernel_rfl)
theorem reads (os : Os) {H : Type} (enc : TypeId × Value → H) : ∃ places, DataW.whole enc Tryd.prog ((World.doorLaid Tryd.prog 350 os).forCall (fun _ _ => 0) ⟨#[], #[.int .i64 0, .slice none 0 0], []⟩).memory Tryd.f8.params.toList Rows.replyCodesSpec.vars false (#[.int .i64 0, .slice none 0 0] : Array Value).toList 8 = some ([.lit (.int .i64 0), .nil], [], places) :=
  ⟨[], by kernel_rfl⟩
theorem lifted (os : Os) (started : os.Started) (H : Type) (enc : TypeId × Value → H) (F : Stop.Interp) :
    ReturnsInHanded {} Tryd.checked os 8 .any ((OpenSpec.ofChange Rows.replyCodesSpec).preRow enc Tryd.prog Tryd.f8 Rows.replyCodesRow.domain false Rows.replyCodesRow.laid) (((OpenSpec.ofChange Rows.replyCodesSpec).at F).post enc Tryd.prog Tryd.f8 false true false false) := by
  obtain ⟨places, hx⟩ := reads os enc
  refine returnsInHanded_of_row (C := Tryd.checked) (s := OpenSpec.ofChange Rows.replyCodesSpec) own started (by kernel_rfl) Tryd.func8
    (witness_row_atRef (enc := enc) (C := Tryd.checked) false (World.doorLaid Tryd.prog 350 os) #[.int .i64 0, .slice none 0 0] rfl (by kernel_rfl) (by kernel_rfl) (by kernel_rfl)
      (OpenSpec.preRow_of_cond 8 hx (by kernel_rfl) (fun k hk => by cases hk) (by kernel_rfl) (laid_met os))) ?_
  intro W base args ds gs before hval hW _ _ hsize hL hsh _
  exact contract H enc W base args ds gs before hval hW hL hsize hsh
theorem said : Rows.ReplyCodesSaid :=
  OpenClaim.holds_of_cond 8 Tryd.f8 rfl rfl rfl rfl rfl rfl rfl ⟨rfl, rfl, rfl, rfl, rfl⟩ rfl rfl rfl rfl rfl (by kernel_rfl) Tryd.func8 (by kernel_rfl)
    (of_decide_eq_true (by kernel_rfl)) (by unfold Func.isWrapper; first | (rw [if_pos (by decide +kernel)]; kernel_rfl) | (rw [if_neg (by decide +kernel)]; exact ⟨rfl, rfl⟩))
    (fun os started H enc _ F => by rw [OpenClaim.pre_eq_preRow]; exact lifted os started H enc F)
theorem plain (f : FuncId) (fn : Func) (hf : Tryd.pinned.checked.prog.funcNamed "quitrent/quitrentlaw24.ReplyCodes" = some f) (hfn : Tryd.pinned.checked.prog.funcs[f]? = some fn) :
    true = Tryd.pinned.checked.prog.looks [] ∧ ∀ (j : Nat) t, fn.params[j]? = some t → Tryd.pinned.checked.prog.wantsStandIn t = false := by
  obtain rfl : f = 8 := Option.some.inj ((show Tryd.prog.funcNamed "quitrent/quitrentlaw24.ReplyCodes" = some 8 by kernel_rfl).symm.trans hf) |>.symm
  obtain rfl : fn = Tryd.f8 := (Option.some.inj (Tryd.func8.symm.trans hfn)).symm
  refine ⟨by kernel_rfl, fun j t ht => ?_⟩
  rw [Tryd.params8] at ht
  have hm : t = 3 ∨ t = 23 := by
    have hm := Array.mem_of_getElem? ht
    first | simpa using hm | (simp at hm; omega) | (simp at hm; rcases hm with h | h | h <;> simp [h]) | (simp at hm; rcases hm with h | h | h | h <;> simp [h])
  rcases hm with hm | hm
  · rw [hm]; exact (show Tryd.prog.wantsStandIn 3 = false by kernel_rfl)
  · rw [hm]; exact (show Tryd.prog.wantsStandIn 23 = false by kernel_rfl)
theorem holds : Rows.ReplyCodesCardSaid :=
  Claim7.holds_tied_plain_at .later [] _ _ _ _ said (fun _ h => by cases h) (by kernel_rfl) (fun _ h => by cases h) replyCodes_row_tie rfl ⟨rfl, rfl⟩ (by kernel_rfl) rfl plain (by kernel_rfl)
#print axioms holds
end Go.Proofs.YtbningfdpibdkaaDoor.replyCodes
