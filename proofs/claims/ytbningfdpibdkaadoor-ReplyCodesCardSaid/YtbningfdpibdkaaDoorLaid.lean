/-
  From a row's list of sentinels to the facts that the walks ask; the world of the witness.
-/
import Derived.Test.YtbningfdpibdkaaDoorIs
import Derived.Test.YtbningfdpibdkaaDoorRows
import Derived.ProofKit
import Derived.LaidMore
import Derived.MakeChecks
import Derived.Deep.DeepHandedRow
import Derived.Deep.DeepWitnessRowRef
import Derived.Below
import Derived.ChangeSame
import Derived.Carry
import Derived.OpenVars
import Derived.OpenShut
import Derived.SevenTiedAt
namespace Go.Proofs.YtbningfdpibdkaaDoor
open Go.RowKit Go.ChangeShapes Go.WideShapes Go.ChangeAt

theorem getD_lt {α : Type} {i : Nat} (l : List α) (d : α) (h : i < l.length) : l.getD i d = l[i] := by simp [List.getD, h]

/-- Name, text and number of each sentinel, by kind. -/
def sentTab : List (String × List UInt8 × Nat) := [
  ("quitrent/api.ErrArg", [97, 110, 32, 97, 114, 103, 117, 109, 101, 110, 116, 32, 116, 104, 97, 116, 32, 99, 97, 110, 39, 116, 32, 98, 101], 0),
  ("quitrent/api.ErrNil", [97, 32, 110, 105, 108, 32, 116, 104, 105, 110, 103], 3),
  ("quitrent/api.ErrForm", [98, 121, 116, 101, 115, 32, 111, 102, 32, 110, 111, 32, 102, 111, 114, 109], 1),
  ("quitrent/api.ErrOver", [97, 32, 110, 117, 109, 98, 101, 114, 32, 116, 104, 97, 116, 32, 105, 115, 32, 116, 111, 111, 32, 103, 114, 101, 97, 116, 44, 32, 111, 114, 32, 98, 101, 108, 111, 119, 32, 110, 111, 116, 104, 105, 110, 103], 4),
  ("quitrent/api.ErrNone", [116, 104, 101, 114, 101, 32, 105, 115, 32, 110, 111, 110, 101], 5),
  ("quitrent/api.ErrDup", [116, 104, 101, 114, 101, 32, 105, 115, 32, 111, 110, 101], 6),
  ("quitrent/api.ErrFull", [116, 104, 101, 114, 101, 32, 97, 114, 101, 32, 116, 111, 111, 32, 109, 97, 110, 121], 7),
  ("quitrent/api.ErrQuota", [116, 111, 111, 32, 108, 105, 116, 116, 108, 101, 32, 113, 117, 111, 116, 97], 2),
  ("quitrent/api.ErrCeil", [109, 111, 114, 101, 32, 116, 104, 97, 110, 32, 109, 97, 121, 32, 98, 101, 32, 103, 105, 118, 101, 110, 32, 111, 117, 116], 8),
  ("quitrent/api.ErrRoom", [110, 111, 32, 109, 97, 99, 104, 105, 110, 101, 32, 104, 97, 115, 32, 114, 111, 111, 109], 9),
  ("quitrent/api.ErrBudget", [116, 111, 111, 32, 109, 97, 110, 121, 32, 101, 118, 105, 99, 116, 105, 111, 110, 115, 32, 111, 102, 32, 97, 32, 106, 111, 98], 10),
  ("quitrent/api.ErrFunds", [116, 111, 111, 32, 108, 105, 116, 116, 108, 101, 32, 99, 114, 101, 100, 105, 116], 11),
  ("quitrent/api.ErrState", [110, 111, 116, 32, 110, 111, 119], 12),
  ("quitrent/api.ErrDown", [116, 104, 101, 32, 112, 111, 119, 101, 114, 32, 105, 115, 32, 97, 119, 97, 121], 13)]
theorem sentTab_ok : (sentTab.all fun x => decide (Tryd.prog.globalNamed x.1 = some x.2.2) && decide ((Tryd.prog.globals[x.2.2]?).map (·.type) = some 30)) = true := by kernel_rfl
theorem sentTab_at : ∀ k : Nat, 1 ≤ k → k ≤ 14 → (sentTab.getD (k - 1) ("", [], 0)).2.2 = gno k ∧ sentTab.getD (k - 1) ("", [], 0) ∈ sentTab := by
  intro k h1 h2
  have : ∀ k : Fin 14, (sentTab.getD k.val ("", [], 0)).2.2 = gno (k.val + 1) := by decide
  have h := this ⟨k - 1, by omega⟩
  simp only [show k - 1 + 1 = k by omega] at h
  refine ⟨h, ?_⟩
  have hl : k - 1 < sentTab.length := by simp [sentTab]; omega
  rw [getD_lt _ _ hl]
  exact List.getElem_mem hl

theorem errIfaceSome : ∃ ms, Tryd.prog.underlying 30 = some (.interface ms) := ⟨_, Tryd.underlying30⟩
theorem starErr : "*" ++ "errors.errorString" = "*errors.errorString" := by decide
theorem rowErr : ∀ u, Tryd.prog.typeName? 3 u = some "*errors.errorString" → u = 104 := fun u h =>
  typeName_ptr_named (nm := "errors.errorString") (by rw [starErr]; kernel_rfl) (by kernel_rfl) (by decide) u (by rw [starErr]; exact h)

theorem errs_of_zip {B : Nat} {w : World} {S : List Nat} {az : List Addr} (hp : ∀ k ∈ S, 1 ≤ k ∧ k ≤ 14) (hl : az.length = S.length) (h : SentList 104 B w ((S.map gno).zip az)) :
    ∃ E, Errs B w S E := by
  refine ⟨fun k => az.getD (S.idxOf k) default, hp, ?_, ?_, ?_⟩
  · intro k hk
    have hi := List.idxOf_lt_length_of_mem hk
    have hm : (gno k, az.getD (S.idxOf k) default) ∈ (S.map gno).zip az := by
      refine List.mem_of_getElem? (i := S.idxOf k) ?_
      rw [List.getElem?_zip_eq_some, List.getElem?_map, List.getElem?_eq_getElem hi, List.getElem?_eq_getElem (by omega), getD_lt _ _ (by omega)]
      exact ⟨by simp, rfl⟩
    obtain ⟨h1, h2⟩ := h.var _ hm
    exact ⟨h1, by rw [erV_some _ _ (by have := hp k hk; omega)]; exact h2⟩
  · intro k hk
    have hi := List.idxOf_lt_length_of_mem hk
    have hm : (gno k, az.getD (S.idxOf k) default) ∈ (S.map gno).zip az := by
      refine List.mem_of_getElem? (i := S.idxOf k) ?_
      rw [List.getElem?_zip_eq_some, List.getElem?_map, List.getElem?_eq_getElem hi, List.getElem?_eq_getElem (by omega), getD_lt _ _ (by omega)]
      exact ⟨by simp, rfl⟩
    exact h.row _ hm
  · intro j hj k hk e
    have hi := List.idxOf_lt_length_of_mem hj
    have hi' := List.idxOf_lt_length_of_mem hk
    have hnd := h.nodup
    rw [List.map_snd_zip (by simp [hl])] at hnd
    simp only [getD_lt _ _ (show S.idxOf j < az.length by omega), getD_lt _ _ (show S.idxOf k < az.length by omega)] at e
    have := (List.getElem_inj hnd).1 e
    have e1 := List.getElem_idxOf hi
    have e2 := List.getElem_idxOf hi'
    simp only [this] at e1
    exact e1.symm.trans e2

/-- What the list of a row gives. S: the kinds in the row's order. -/
theorem errs_of_laid {W : World} (S : List Nat) (hp : ∀ k ∈ S, 1 ≤ k ∧ k ≤ 14)
    (h : laidMet Tryd.prog ((S.map fun k => sentTab.getD (k - 1) ("", [], 0)).map fun x => (x.1, sentDatum "*errors.errorString" x.2.1)) W) : ∃ E, Errs W.heap.size W S E := by
  obtain ⟨az, hl, hs⟩ := sent_of_laid Tryd.underlying30 rowErr Tryd.underlying104 Tryd.underlying106 rfl rfl Tryd.underlying9 (by kernel_rfl) (by kernel_rfl) _ h (by
    intro x hx
    obtain ⟨k, hk, rfl⟩ := List.mem_map.1 hx
    have hm := (sentTab_at k (hp k hk).1 (hp k hk).2).2
    have := List.all_eq_true.1 sentTab_ok _ hm
    simpa using this)
  rw [List.length_map] at hl
  refine errs_of_zip hp hl ?_
  have e : ((S.map fun k => sentTab.getD (k - 1) ("", [], 0)).map (·.2.2)) = S.map gno := by
    rw [List.map_map]
    exact List.map_congr_left fun k hk => (sentTab_at k (hp k hk).1 (hp k hk).2).1
  rw [e] at hs
  exact hs

theorem own : ownKnob Tryd.prog.godebug = none := by kernel_rfl
theorem laidOut : laidOutB Tryd.prog = true := by kernel_rfl

section
variable {H : Type} {enc : TypeId × Value → H} {P : Program}
theorem post_of_below {f : Func} {s : ChangeSpec} {apart fresh handsOn again : Bool} {W W' : World} {args : Array Value} {v : Value} {ds gs : List (DataW H)} {before pa pv : List MemPlace}
    (hW : DataW.Whole enc P f.params.toList s.vars apart W args.toList ds gs before)
    (hres : ∀ (b : Nat) (sp : Nat → Bool) (hd : Bool), DataW.TrodAll enc P W' b sp hd f.resultTypes.toList (v.resultList f.resultTypes.size) (s.fn H (ds ++ gs)).results [])
    (hargs : ∀ sp : Nat → Bool, (∀ p ∈ before, sp p.block = true) → DataW.TrodAll enc P W' 0 sp true f.params.toList args.toList (s.fn H (ds ++ gs)).args pa)
    (hvars : ∀ sp : Nat → Bool, (∀ p ∈ before, sp p.block = true) → DataW.TrodVars enc P W' sp s.vars (s.fn H (ds ++ gs)).vars pv)
    (hps : before = pa ++ pv) (hb : Below W.heap.size W W')
    (hok : ∀ (j : Nat) (t : TypeId) (r : Value), f.resultTypes[j]? = some t → (v.resultList f.resultTypes.size)[j]? = some r → Value.okWide P W' .any 0 t r) :
    s.post enc P f apart fresh handsOn again W args v W' := by
  have hlt : ∀ p ∈ before, p.block < W.heap.size := fun p hp => hW.lt p hp
  have hold : ∀ p ∈ before, (fun b => decide (b < W.heap.size)) p.block = true := fun p hp => by simpa using hlt p hp
  refine ⟨ds, gs, before, [], pa, pv, hW, hres _ _ _, hargs _ hold, hvars _ hold, World.keptBut_mono (fun p hp => ⟨hp, ?_⟩) (hb.frame (· ∈ before)), fun _ => ?_⟩
  · rw [hps, List.mem_append] at hp
    exact Or.inr hp
  · obtain ⟨_, _, _, _, _, hz, hn⟩ := hW
    refine ⟨hok, _, _, ([] ++ pa) ++ pv, ⟨[] ++ pa, pv, trodAll_append (hargs _ (fun _ _ => rfl)) (hres _ _ _), hvars _ (fun _ _ => rfl), rfl, ?_, ?_⟩, ?_⟩
    · intro b off hp
      have hin : MemPlace.cell b off ∈ before := by rw [hps]; simpa using hp
      rw [hb.frozen (hlt _ hin)]
      exact hz b off hin
    · intro ha
      have := hn ha
      rw [hps] at this
      simpa using this
    · intro p hp _
      rw [hps]
      simpa using hp
end

/-- A slice of whole numbers that came in, laid open for a walk. -/
theorem rd_of_ints {H : Type} {enc : TypeId × Value → H} {W : World} {A : Option Addr} {n m : Nat} {d : DataW H} {p : List MemPlace} (h : DataW.Trod enc Tryd.prog W 0 (fun _ => true) true 23 (.slice A n m) d p) (hlt : ∀ x ∈ p, x.block < W.heap.size) :
    ∃ zs, RdInts W W.heap.size A n zs ∧ n ≤ m ∧ m ≤ maxLen := by
  obtain ⟨fuel, hf⟩ := h
  rcases open_ints Tryd.underlying23 Tryd.underlying3 (by kernel_rfl) hf with ⟨hcs, _⟩ | ⟨a, len, cap, zs, hcs, _, hl, hm, hz, hx, hcell, _⟩
  · simp [Value.cells] at hcs
    obtain ⟨rfl, rfl, rfl⟩ := hcs
    exact ⟨[], ⟨rfl, fun h => absurd h (by omega)⟩, Nat.le_refl _, Nat.zero_le _⟩
  · simp [Value.cells] at hcs
    obtain ⟨rfl, rfl, rfl⟩ := hcs
    simp only [Prod.mk.injEq] at hx
    simp only [if_true] at hz
    refine ⟨zs.take n, ⟨by rw [List.length_take]; omega, fun hn => ?_⟩, hl, hm⟩
    obtain ⟨b, off, rfl, hc⟩ := ints_at hcell (by omega)
    refine ⟨b, off, rfl, World.block_lt_of_cell? W ⟨b, off + 0, none⟩ (hc 0 (by omega)), fun i hi => ?_⟩
    rw [hc i (by omega)]
    congr 2
    simp only [List.getD_eq_getElem?_getD, List.getElem?_take, if_pos hi]

/-- A whole number of 64 bits: its bounds. -/
theorem bounds_i64 {x : Int} (h : (Lit.int .i64 x).wf = true) : -9223372036854775808 ≤ x ∧ x ≤ 9223372036854775807 := by
  simp [Lit.wf, IntKind.min, IntKind.max, IntKind.signed, IntKind.bits] at h
  omega
theorem bounds_u64 {x : Int} (h : (Lit.int .u64 x).wf = true) : 0 ≤ x ∧ x ≤ 18446744073709551615 := by
  simp [Lit.wf, IntKind.min, IntKind.max, IntKind.signed, IntKind.bits] at h
  omega
end Go.Proofs.YtbningfdpibdkaaDoor
