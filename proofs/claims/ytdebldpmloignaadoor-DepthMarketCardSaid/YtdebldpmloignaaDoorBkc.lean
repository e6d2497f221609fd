/-
  book: each deed in one contract, of the book and of the document's.
-/
import Derived.Test.YtdebldpmloignaaDoorBkb
namespace Go.Proofs.YtdebldpmloignaaDoor
open Go.RowKit
set_option linter.unusedVariables false
set_option linter.unusedSimpArgs false

def zeroO : Ord := ⟨0, 0, false, 0, 0, 0⟩
/-- The order that stands there, or none. -/
def ordO (l : Bool → List Ord) (id : Int) : Ord := (getO l id).getD zeroO
theorem ordV_of (r : Option Ord) : ordV r = .agg (r.getD zeroO).cells.toArray := by cases r <;> rfl
def dropK (l : Bool → List Ord) (id : Int) : Nat := if (getO l id).isSome then 0 else 5
def dropL (l : Bool → List Ord) (id : Int) : Bool → List Ord := match fnd l id with
  | none => l
  | some (s, i) => updL l s ((l s).eraseIdx i)
def cutL (l : Bool → List Ord) (id k : Int) : Bool → List Ord := if cutK l id k ≠ 0 then l else match fnd l id with
  | none => l
  | some (s, i) => match (l s)[i]? with
    | none => l
    | some x => if k = x.lots then updL l s ((l s).eraseIdx i) else updL l s ((l s).set i { x with lots := x.lots - k })
def addLK (l : Bool → List Ord) (o : Ord) (came : Nat) : Bool → List Ord := if addK l o = 0 then addL l o came else l
def addC (l : Bool → List Ord) (o : Ord) (came : Nat) : Nat := if addK l o = 0 then came + 1 else came
theorem getO_none {l : Bool → List Ord} {id : Int} (h : fnd l id = none) : getO l id = none := by unfold getO; rw [h]
theorem dropK_none {l : Bool → List Ord} {id : Int} (h : fnd l id = none) : dropK l id = 5 := by unfold dropK; rw [getO_none h]; rfl
theorem dropL_none {l : Bool → List Ord} {id : Int} (h : fnd l id = none) : dropL l id = l := by unfold dropL; rw [h]
theorem ordO_none {l : Bool → List Ord} {id : Int} (h : fnd l id = none) : ordO l id = zeroO := by unfold ordO; rw [getO_none h]; rfl
theorem dropK_some {l : Bool → List Ord} {id : Int} {s : Bool} {i : Nat} {x : Ord} (h : fnd l id = some (s, i)) (hx : (l s)[i]? = some x) : dropK l id = 0 := by unfold dropK; rw [getO_of h hx]; rfl
theorem dropL_some {l : Bool → List Ord} {id : Int} {s : Bool} {i : Nat} (h : fnd l id = some (s, i)) : dropL l id = updL l s ((l s).eraseIdx i) := by unfold dropL; rw [h]
theorem ordO_some {l : Bool → List Ord} {id : Int} {s : Bool} {i : Nat} {x : Ord} (h : fnd l id = some (s, i)) (hx : (l s)[i]? = some x) : ordO l id = x := by unfold ordO; rw [getO_of h hx]; rfl
theorem cutK_none {l : Bool → List Ord} {id k : Int} (h : fnd l id = none) : cutK l id k = 5 := by unfold cutK; rw [getO_none h]
theorem cutK_some {l : Bool → List Ord} {id k : Int} {s : Bool} {i : Nat} {x : Ord} (h : fnd l id = some (s, i)) (hx : (l s)[i]? = some x) : cutK l id k = if k < 1 ∨ x.lots < k then 1 else 0 := by unfold cutK; rw [getO_of h hx]
theorem cutL_err {l : Bool → List Ord} {id k : Int} (h : cutK l id k ≠ 0) : cutL l id k = l := by unfold cutL; rw [if_pos h]
theorem cutL_ok {l : Bool → List Ord} {id k : Int} {s : Bool} {i : Nat} {x : Ord} (h : fnd l id = some (s, i)) (hx : (l s)[i]? = some x) (h0 : cutK l id k = 0) : cutL l id k = if k = x.lots then updL l s ((l s).eraseIdx i) else updL l s ((l s).set i { x with lots := x.lots - k }) := by
  unfold cutL
  rw [if_neg (by omega), h]
  simp only [hx]
theorem cutK_le (l : Bool → List Ord) (id k : Int) : cutK l id k ≤ 14 := by unfold cutK; split <;> (try split) <;> omega
theorem dropK_le (l : Bool → List Ord) (id : Int) : dropK l id ≤ 14 := by unfold dropK; split <;> omega
theorem addK_le (l : Bool → List Ord) (o : Ord) : addK l o ≤ 14 := by unfold addK; split <;> (try split) <;> (try split) <;> omega
theorem Inv.lots {l : Bool → List Ord} {came : Nat} (h : Inv l came) {s : Bool} {i : Nat} {x : Ord} (hx : (l s)[i]? = some x) : 1 ≤ x.lots ∧ x.lots ≤ 1000 := by
  have := h.good s x (List.mem_of_getElem? hx)
  unfold Ord.good at this
  simp at this
  omega
theorem Inv.small {l : Bool → List Ord} {came : Nat} (h : Inv l came) : ∀ s, (l s).length ≤ 1000000 := fun s => Nat.le_trans (h.len s) (by decide)
theorem drop_any (E : Nat → Addr) (B q : Nat) (l : Bool → List Ord) (v : Bool → Value) (came : Nat) (id : Int) (w : World) (h : Hid (BV w B q l v came)) (hE : Hid (EnvK w E)) (hI : Inv l came) :
    Calls Tryd.prog 47 #[.pointer (some ⟨q, 0, none⟩), .int .i64 id] w fun e w' => e = .returned (.tuple #[.agg (ordO l id).cells.toArray, erV E (dropK l id)]) ∧ ∃ v', BS w w' B q v (dropL l id) v' came := by
  cases hf : fnd l id with
  | none =>
    rw [dropK_none hf, dropL_none hf, ordO_none hf]
    exact (drop_none E B q l v came id w h hE hI.small hf).mono fun e w' ⟨he, hb⟩ => ⟨he, v, BS.ofBelow h.out hb⟩
  | some p =>
    obtain ⟨s, i⟩ := p
    obtain ⟨x, hx, _⟩ := fnd_some hf
    rw [dropK_some hf hx, dropL_some hf, ordO_some hf hx]
    exact drop_ok B q l v came id s i x w h hI.small hf hx
theorem cut_any (E : Nat → Addr) (B q : Nat) (l : Bool → List Ord) (v : Bool → Value) (came : Nat) (id k : Int) (w : World) (h : Hid (BV w B q l v came)) (hE : Hid (EnvK w E)) (hI : Inv l came) :
    Calls Tryd.prog 44 #[.pointer (some ⟨q, 0, none⟩), .int .i64 id, .int .i64 k] w fun e w' => e = .returned (erV E (cutK l id k)) ∧ ∃ v', BS w w' B q v (cutL l id k) v' came := by
  cases hf : fnd l id with
  | none =>
    have hk := cutK_none (k := k) hf
    rw [cutL_err (by omega), hk]
    exact (cut_none E B q l v came id k w h hE hI.small hf).mono fun e w' ⟨he, hb⟩ => ⟨he, v, BS.ofBelow h.out hb⟩
  | some p =>
    obtain ⟨s, i⟩ := p
    obtain ⟨x, hx, _⟩ := fnd_some hf
    have hk := cutK_some (k := k) hf hx
    have hl := hI.lots hx
    by_cases h1 : k < 1 ∨ x.lots < k
    · rw [if_pos h1] at hk
      rw [cutL_err (by omega), hk]
      exact (cut_arg E B q l v came id k s i x w h hE hI.small hf hx h1).mono fun e w' ⟨he, hb⟩ => ⟨he, v, BS.ofBelow h.out hb⟩
    · rw [if_neg h1] at hk
      rw [cutL_ok hf hx hk, hk]
      by_cases h2 : k = x.lots
      · rw [if_pos h2]
        exact cut_gone B q l v came id k s i x w h hI.small hf hx (by omega) h2 (by omega)
      · rw [if_neg h2]
        exact cut_part B q l v came id k s i x w h hI.small hf hx (by omega) (by omega) (by omega)
theorem add_any (E : Nat → Addr) (B q : Nat) (l : Bool → List Ord) (v : Bool → Value) (came : Nat) (o : Ord) (w : World) (h : Hid (BV w B q l v came)) (hE : Hid (EnvK w E)) (hI : Inv l came) (hc : came ≤ 1000000) (hBw : B ≤ w.heap.size) :
    Calls Tryd.prog 41 #[.pointer (some ⟨q, 0, none⟩), .agg o.cells.toArray] w fun e w' => e = .returned (erV E (addK l o)) ∧ ∃ v', BS w w' B q v (addLK l o came) v' (addC l o came) := by
  by_cases hk : addK l o = 0
  · unfold addLK addC
    rw [if_pos hk, if_pos hk, hk]
    exact add_c B q l v came o w h (fun s => Nat.le_trans (hI.len s) (by decide)) hI hc hBw hk
  · unfold addLK addC
    rw [if_neg hk, if_neg hk]
    exact (add_err E B q l v came o w h hE hI.small hk).mono fun e w' ⟨he, hb⟩ => ⟨he, v, BS.ofBelow h.out hb⟩
theorem rdrop_any (B u : Nat) (l : Bool → List Ord) (L : List Ord) (v : Value) (came : Nat) (id : Int) (w : World) (hB : B ≤ w.heap.size) (h : Hid (RV w B u L v came)) (hb : Both l came L) :
    Calls Tryd.prog 55 #[.pointer (some ⟨u, 0, none⟩), .int .i64 id] w fun e w' => e = .returned (.tuple #[.agg (ordO l id).cells.toArray, .int .i64 (dropK l id)]) ∧ ∃ L' v', RV w' B u L' v' came ∧ Both (dropL l id) came L' ∧ RStep w w' B := by
  have hN := hb.few
  cases hj : L.findIdx? (hasId id) with
  | none =>
    have hf := hb.at_none hj
    rw [dropK_none hf, dropL_none hf, ordO_none hf]
    exact (rdrop_none B u L v came id w h (by omega) hj).mono fun e w' ⟨he, hb'⟩ => ⟨he, L, v, h.out.below hb', hb, RStep.ofBelow hB hb'⟩
  | some j =>
    obtain ⟨x, s, i, hx, hid, hf, hxi, hs⟩ := hb.at_some hj
    rw [dropK_some hf hxi, dropL_some hf, ordO_some hf hxi]
    exact (rdrop_ok B u L v came id j x w hB h (by omega) hj hx).mono fun e w' ⟨he, v', hv', hs'⟩ => ⟨he, _, v', hv', hb.erase hxi hx, hs'⟩
theorem rcut_any (B u : Nat) (l : Bool → List Ord) (L : List Ord) (v : Value) (came : Nat) (id k : Int) (w : World) (hB : B ≤ w.heap.size) (h : Hid (RV w B u L v came)) (hb : Both l came L) :
    Calls Tryd.prog 57 #[.pointer (some ⟨u, 0, none⟩), .int .i64 id, .int .i64 k] w fun e w' => e = .returned (.int .i64 (cutK l id k)) ∧ ∃ L' v', RV w' B u L' v' came ∧ Both (cutL l id k) came L' ∧ RStep w w' B := by
  have hN := hb.few
  cases hj : L.findIdx? (hasId id) with
  | none =>
    have hf := hb.at_none hj
    have hk := cutK_none (k := k) hf
    rw [cutL_err (by omega), hk]
    exact (rcut_none B u L v came id k w h (by omega) hj).mono fun e w' ⟨he, hw⟩ => ⟨he, L, v, hw ▸ h.out, hb, hw ▸ RStep.ofBelow hB (Below.refl _ w)⟩
  | some j =>
    obtain ⟨x, s, i, hx, hid, hf, hxi, hs⟩ := hb.at_some hj
    have hk := cutK_some (k := k) hf hxi
    have hl := hb.inv.lots hxi
    by_cases h1 : k < 1 ∨ x.lots < k
    · rw [if_pos h1] at hk
      rw [cutL_err (by omega), hk]
      exact (rcut_arg B u L v came id k j x w h (by omega) hj hx h1).mono fun e w' ⟨he, hw⟩ => ⟨he, L, v, hw ▸ h.out, hb, hw ▸ RStep.ofBelow hB (Below.refl _ w)⟩
    · rw [if_neg h1] at hk
      rw [cutL_ok hf hxi hk, hk]
      by_cases h2 : k = x.lots
      · rw [if_pos h2]
        exact (rcut_gone B u L v came id k j x w hB h (by omega) hj hx (by omega) h2 (by omega)).mono fun e w' ⟨he, v', hv', hs'⟩ => ⟨he, _, v', hv', hb.erase hxi hx, hs'⟩
      · rw [if_neg h2]
        exact (rcut_part B u L v came id k j x w h (by omega) hj hx (by omega) (by omega) (by omega)).mono fun e w' ⟨he, v', hv', hs'⟩ => ⟨he, _, v', hv', hb.set (x.lots - k) hxi hx ⟨by omega, by omega⟩, hs'⟩
theorem radd_any (B u : Nat) (l : Bool → List Ord) (L : List Ord) (v : Value) (came : Nat) (o : Ord) (w : World) (hB : B ≤ w.heap.size) (h : Hid (RV w B u L v came)) (hb : Both l came L) (hc : came ≤ 1000000) :
    Calls Tryd.prog 58 #[.pointer (some ⟨u, 0, none⟩), .agg o.cells.toArray] w fun e w' => e = .returned (.int .i64 (addK l o)) ∧ ∃ L' v', RV w' B u L' v' (addC l o came) ∧ Both (addLK l o came) (addC l o came) L' ∧ RStep w w' B := by
  have hN := hb.few
  by_cases hk : addK l o = 0
  · unfold addLK addC
    rw [if_pos hk, if_pos hk, hk]
    exact (radd_ok B u L v came o w hB h (by omega) hc (by rw [← hb.addK_eq]; exact hk)).mono fun e w' ⟨he, v', hv', hs'⟩ => ⟨he, _, v', hv', hb.add hk, hs'⟩
  · unfold addLK addC
    rw [if_neg hk, if_neg hk]
    rw [hb.addK_eq]
    exact (radd_err B u L v came o w h (by omega) (by rw [← hb.addK_eq]; exact hk)).mono fun e w' ⟨he, hb'⟩ => ⟨he, L, v, h.out.below hb', hb, RStep.ofBelow hB hb'⟩
/-- Blocks that the document's book leaves alone. -/
theorem RStep.blk {w w' : World} {B q : Nat} {cs : Array Value} {T : TypeId} (h : RStep w w' B) (hb : Blk w q cs T) (h1 : T ≠ 97) (h2 : T ≠ 94) : Blk w' q cs T := hb.of (h.block q cs T hb h1 h2)
theorem RStep.owns {w w' : World} {B base : Nat} {e : TypeId} {size n : Nat} {v : Value} {xs : List Value} (h : RStep w w' B) (ho : w.ownsRow base e size v n xs) (h1 : e ≠ 97) (h2 : e ≠ 94) : w'.ownsRow base e size v n xs := by
  refine ⟨ho.1, ho.2.imp id ?_⟩
  rintro ⟨g, cap, cur, hv, hb, hc, hr⟩
  exact ⟨g, cap, cur, hv, hb, by rw [h.block g cur e hc h1 h2]; exact hc, hr⟩
theorem BV.rstep {w w' : World} {B B' q : Nat} {l : Bool → List Ord} {v : Bool → Value} {came : Nat} (h : BV w B q l v came) (hs : RStep w w' B') : BV w' B q l v came :=
  ⟨h.low, hs.blk h.blk (by decide) (by decide), fun s => hs.owns (h.row s) (by decide) (by decide), h.notq, h.apart⟩
theorem BV.types {w : World} {B q : Nat} {l : Bool → List Ord} {v : Bool → Value} {came k : Nat} (h : BV w B q l v came) (hk : BF q v k) : ∃ c, Blk w k c 67 ∨ Blk w k c 143 := by
  rcases hk with rfl | ⟨s, hs⟩
  · exact ⟨_, .inr h.blk⟩
  · obtain ⟨cur, hc⟩ := own_type (h.row s) hs
    exact ⟨cur, .inl hc⟩
theorem BV.far {w : World} {B q : Nat} {l : Bool → List Ord} {v : Bool → Value} {came k : Nat} {cs : Array Value} {T : TypeId} (h : BV w B q l v came) (hb : Blk w k cs T) (h1 : T ≠ 67) (h2 : T ≠ 143) : ¬ BF q v k := fun hk => by
  obtain ⟨c, hc | hc⟩ := h.types hk
  · exact h1 (hb.type_eq hc)
  · exact h2 (hb.type_eq hc)
theorem RV.bstep {w w' : World} {B B' q u : Nat} {l l' : Bool → List Ord} {v v' : Bool → Value} {c c' came : Nat} {L : List Ord} {rv : Value} (h : RV w B u L rv came) (hs : BS w w' B' q v l' v' c') (hq : BV w B' q l v c) : RV w' B u L rv came :=
  ⟨h.low, hs.turns.blk h.blk (hq.far h.blk (by decide) (by decide)), hs.turns.owns h.row (fun g hg => by
    obtain ⟨cur, hc⟩ := own_type h.row hg
    exact hq.far hc (by decide) (by decide))⟩
end Go.Proofs.YtdebldpmloignaaDoor
