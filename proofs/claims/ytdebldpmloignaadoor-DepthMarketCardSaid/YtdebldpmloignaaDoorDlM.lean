/-
  deal: Match of an order that can come.
-/
import Derived.Test.YtdebldpmloignaaDoorDlB
namespace Go.Proofs.YtdebldpmloignaaDoor
open Go.RowKit
set_option linter.unusedVariables false
set_option linter.unusedSimpArgs false

theorem BS.new {F : Nat → Prop} {w W W' : World} {B q : Nat} {L : Bool → List Ord} {v0 v : Bool → Value} {came : Nat} (h : BS w W B q v0 L v came) (ht : Turns F W W') (hF : ∀ k, F k → w.heap.size ≤ k) (hn : ∀ k, BF q v k → ¬ F k) : BS w W' B q v0 L v came :=
  ⟨h.out.turns ht hn, h.turns.trans ht (fun k hk hf => by have := hF k hf; omega), h.own⟩
theorem BS.drew {w W : World} {B q : Nat} {L : Bool → List Ord} {v0 v : Bool → Value} {came : Nat} (h : BS w W B q v0 L v came) : BS w W.drew B q v0 L v came := h.new (F := fun _ => False) ⟨rfl, rfl, rfl, Nat.le_refl _, fun _ _ _ => rfl⟩ (fun k hk => hk.elim) (fun k _ hk => hk)
/-- Match's variables: the book, the order, the fills. -/
structure MC (w W : World) (B q : Nat) (L : Bool → List Ord) (v0 v : Bool → Value) (came : Nat) (oc : Ord) (s8 : Value) (fs : List Fill) : Prop where
  st : BS w W B q v0 L v came
  ob : Blk W w.heap.size oc.cells.toArray 67
  aw : Away q v w.heap.size
  own : W.ownsRow w.heap.size 82 6 s8 fs.length (flatOf Fill.cells fs)
section
variable {w W W' : World} {B q came c' : Nat} {L L' : Bool → List Ord} {v0 v v' : Bool → Value} {oc : Ord} {s8 s8' : Value} {fs : List Fill}
theorem MC.sz (h : MC w W B q L v0 v came oc s8 fs) : w.heap.size ≤ W.heap.size := h.st.turns.size
theorem MC.bv (h : MC w W B q L v0 v came oc s8 fs) : BV W B q L v came := h.st.out
theorem MC.r3 (h : MC w W B q L v0 v came oc s8 fs) : W.rangeAt w.heap.size 0 oc.cells := rangeAt_blk h.ob
theorem MC.k2 (h : MC w W B q L v0 v came oc s8 fs) : W.cell? ⟨w.heap.size, 2, none⟩ = some (.bool oc.sell) := h.ob.cell 2 _ rfl
theorem MC.k4 (h : MC w W B q L v0 v came oc s8 fs) : W.cell? ⟨w.heap.size, 4, none⟩ = some (.int .i64 oc.lots) := h.ob.cell 4 _ rfl
theorem MC.f4 (h : MC w W B q L v0 v came oc s8 fs) : W.frozen? ⟨w.heap.size, 4, none⟩ = false := h.ob.free 4
theorem MC.far (h : MC w W B q L v0 v came oc s8 fs) {k : Nat} {cs : Array Value} (hb : Blk W k cs 82) : ¬ BF q v k := h.bv.far hb (by decide) (by decide)
theorem MC.ofar (h : MC w W B q L v0 v came oc s8 fs) : ∀ g, s8.ownBlock = some g → ¬ BF q v g := fun g hg => by
  obtain ⟨cur, hc⟩ := own_type h.own hg
  exact h.far hc
theorem MC.below (h : MC w W B q L v0 v came oc s8 fs) (hb : Below W.heap.size W W') : MC w W' B q L v0 v came oc s8 fs :=
  ⟨h.st.trans (BS.ofBelow h.bv hb), h.ob.below hb, h.aw, (Turns.of_below (F := fun _ => False) hb).owns h.own (fun _ _ h => h)⟩
theorem MC.drew (h : MC w W B q L v0 v came oc s8 fs) : MC w W.drew B q L v0 v came oc s8 fs := ⟨h.st.drew, h.ob, h.aw, h.own⟩
theorem MC.book (h : MC w W B q L v0 v came oc s8 fs) (hs : BS W W' B q v L' v' c') : MC w W' B q L' v0 v' c' oc s8 fs :=
  ⟨h.st.trans hs, hs.keep h.ob h.aw, hs.away h.ob.lt h.aw, hs.turns.owns h.own h.ofar⟩
theorem MC.keepF (h : MC w W B q L v0 v came oc s8 fs) (hs : BS W W' B q v L' v' c') {k : Nat} {cs : Array Value} (hb : Blk W k cs 82) : Blk W' k cs 82 := hs.turns.blk hb (h.far hb)
theorem MC.setl (z : Int) (h : MC w W B q L v0 v came oc s8 fs) : MC w (W.setCell ⟨w.heap.size, 4, none⟩ (.int .i64 z)) B q L v0 v came { oc with lots := z } s8 fs := by
  have hset : Turns (fun k => k = w.heap.size) W (W.setCell ⟨w.heap.size, 4, none⟩ (.int .i64 z)) := Turns.set (F := fun k => k = w.heap.size) rfl
  refine ⟨h.st.new hset (fun k hk => by omega) (fun k hk e => h.aw k hk e), h.ob.set 4 (.int .i64 z), h.aw, hset.owns h.own (fun g hg e => ?_)⟩
  obtain ⟨cur, hc⟩ := own_type h.own hg
  subst e
  exact absurd (h.ob.type_eq hc) (by decide)
theorem MC.setl_far (h : MC w W B q L v0 v came oc s8 fs) {z : Int} {k : Nat} {cs : Array Value} (hb : Blk W k cs 82) : Blk (W.setCell ⟨w.heap.size, 4, none⟩ (.int .i64 z)) k cs 82 := by
  have hset : Turns (fun k => k = w.heap.size) W (W.setCell ⟨w.heap.size, 4, none⟩ (.int .i64 z)) := Turns.set (F := fun k => k = w.heap.size) rfl
  exact hset.blk hb (fun e => by subst e; exact absurd (h.ob.type_eq hb) (by decide))
theorem MC.app {f : Fill} (h : MC w W B q L v0 v came oc s8 fs) (hg : W.grownBy W' s8.ownBlock) (ho : W'.ownsRow w.heap.size 82 6 s8' (fs ++ [f]).length (flatOf Fill.cells (fs ++ [f]))) : MC w W' B q L v0 v came oc s8' (fs ++ [f]) := by
  have ht := Turns.of_grown hg
  refine ⟨h.st.new ht (fun k hk => (h.own.lt k hk).1) (fun k hk e => h.ofar k e hk), ht.blk h.ob (fun e => ?_), h.aw, ho⟩
  obtain ⟨cur, hc⟩ := own_type h.own e
  exact absurd (h.ob.type_eq hc) (by decide)
theorem MC.row {g : Nat} {cs ds : Array Value} (h : MC w W B q L v0 v came oc s8 fs) (hb : Blk W g cs 82) (hg : w.heap.size ≤ g) (hne : s8.ownBlock ≠ some g) : MC w (W.setRow g ds) B q L v0 v came oc s8 fs := by
  have ht := rturns_setRow W g ds
  refine ⟨h.st.new ht (fun k hk => by omega) (fun k hk e => by subst e; exact h.far hb hk), h.ob.setRow_far (fun e => ?_), h.aw, ht.owns h.own (fun k hk e => hne (by rw [hk, e]))⟩
  subst e
  exact absurd (h.ob.type_eq hb) (by decide)
end
def lotsAt (X : Nat) (W : World) : Nat := match W.cell? ⟨X, 4, none⟩ with
  | some (.int _ n) => n.toNat
  | _ => 0
theorem lotsAt_of {X : Nat} {W : World} {n : Int} (h : W.cell? ⟨X, 4, none⟩ = some (.int .i64 n)) : lotsAt X W = n.toNat := by unfold lotsAt; rw [h]
/-- The plain state of a round. -/
structure ML (o : Ord) (l : Bool → List Ord) (came : Nat) (fs : List Fill) (z : Int) (S : List Ord) : Prop where
  inv : Inv (updL l (!o.sell) S) came
  eq : matchS o o.lots (l (!o.sell)) = (fs ++ (matchS o z S).1, (matchS o z S).2)
  z0 : 0 ≤ z
  z1 : (fs.length : Int) + z ≤ o.lots
  few : S.length ≤ (l (!o.sell)).length
  ids : ∀ x ∈ S, ∃ y ∈ l (!o.sell), y.id = x.id
theorem ML.start {o : Ord} {l : Bool → List Ord} {came : Nat} (h : Inv l came) (hz : 0 ≤ o.lots) : ML o l came [] o.lots (l (!o.sell)) :=
  ⟨by rw [updL_self]; exact h, by simp, hz, by simp, Nat.le_refl _, fun x hx => ⟨x, hx, rfl⟩⟩
theorem ML.good {o x : Ord} {l : Bool → List Ord} {came : Nat} {fs : List Fill} {z : Int} {r : List Ord} (h : ML o l came fs z (x :: r)) : x.sell = !o.sell ∧ 1 ≤ x.lots ∧ x.lots ≤ 1000 ∧ 1 ≤ x.price ∧ x.price ≤ 1000000 := by
  have hm : x ∈ updL l (!o.sell) (x :: r) (!o.sell) := by rw [updL_same]; simp
  have h1 := h.inv.side _ x hm
  have h2 := h.inv.good _ x hm
  unfold Ord.good at h2
  simp at h2
  exact ⟨h1, by omega, by omega, by omega, by omega⟩
theorem ML.fnd {o x : Ord} {l : Bool → List Ord} {came : Nat} {fs : List Fill} {z : Int} {r : List Ord} (h : ML o l came fs z (x :: r)) : fnd (updL l (!o.sell) (x :: r)) x.id = some (!o.sell, 0) := h.inv.fnd_of (by rw [updL_same]; rfl)
theorem ML.step {o x : Ord} {l : Bool → List Ord} {came : Nat} {fs : List Fill} {z : Int} {r : List Ord} (h : ML o l came fs z (x :: r)) (hn : nextOk o z (x :: r) = true) :
    ML o l came (fs ++ [fillO o x (minL z x)]) (cutZ z (x :: r)) (cutS z (x :: r)) ∧ cutZ z (x :: r) = z - minL z x ∧ 1 ≤ minL z x ∧ minL z x ≤ x.lots ∧ minL z x ≤ z := by
  have hg := h.good
  have hz := (nextOk_cons hn).1
  have h0 := h.z0
  have h1 := h.z1
  have hm : cutZ z (x :: r) = z - minL z x ∧ 1 ≤ minL z x ∧ minL z x ≤ x.lots ∧ minL z x ≤ z := by
    unfold cutZ minL
    simp only
    split <;> omega
  refine ⟨⟨?_, ?_, by omega, by rw [List.length_append]; simp; omega, ?_, ?_⟩, hm⟩
  · have hx : (updL l (!o.sell) (x :: r) (!o.sell))[0]? = some x := by rw [updL_same]; rfl
    unfold cutS
    simp only
    split
    · have := h.inv.set (z := x.lots - z) hx ⟨by omega, by omega⟩
      rw [updL_same, updL_updL] at this
      exact this
    · have := h.inv.erase (s := !o.sell) (i := 0)
      rw [updL_same, updL_updL] at this
      exact this
  · rw [h.eq, matchS_step hn]
    simp
  · have := h.few
    unfold cutS
    simp only
    split <;> simp at this ⊢ <;> omega
  · intro y hy
    unfold cutS at hy
    simp only at hy
    split at hy
    · rcases List.mem_cons.1 hy with rfl | hy
      · exact h.ids x (by simp)
      · exact h.ids y (by simp [hy])
    · exact h.ids y (by simp [hy])
theorem ML.stop {o : Ord} {l : Bool → List Ord} {came : Nat} {fs : List Fill} {z : Int} {S : List Ord} (h : ML o l came fs z S) (hn : nextOk o z S = false) : matchS o o.lots (l (!o.sell)) = (fs, z, S) := by
  rw [h.eq, matchS_stop hn]
  simp
/-- The first order of the other side, cut. -/
theorem cut_head (o x : Ord) (l : Bool → List Ord) (came : Nat) (fs : List Fill) (z : Int) (r : List Ord) (B q : Nat) (v : Bool → Value) (w : World) (hm : ML o l came fs z (x :: r)) (hn : nextOk o z (x :: r) = true) (h : Hid (BV w B q (updL l (!o.sell) (x :: r)) v came)) :
    Calls Tryd.prog 44 #[.pointer (some ⟨q, 0, none⟩), .int .i64 x.id, .int .i64 (minL z x)] w (CutQ w B q v (updL l (!o.sell) (cutS z (x :: r))) came) := by
  have hg := hm.good
  have hz := (nextOk_cons hn).1
  have h0 := hm.z0
  have hx : (updL l (!o.sell) (x :: r) (!o.sell))[0]? = some x := by rw [updL_same]; rfl
  unfold cutS minL
  simp only
  by_cases hlt : z < x.lots
  · rw [if_pos hlt, if_pos hlt]
    have := cut_part B q _ v came x.id z (!o.sell) 0 x w h hm.inv.small hm.fnd hx (by omega) hlt (by omega)
    rw [updL_same, updL_updL] at this
    exact this
  · rw [if_neg hlt, if_neg hlt]
    have := cut_gone B q _ v came x.id x.lots (!o.sell) 0 x w h hm.inv.small hm.fnd hx (by omega) rfl (by omega)
    rw [updL_same, updL_updL] at this
    exact this
theorem next_any (o : Ord) (l : Bool → List Ord) (came : Nat) (fs : List Fill) (z : Int) (S : List Ord) (B q : Nat) (v : Bool → Value) (w : World) (hm : ML o l came fs z S) (h : Hid (BV w B q (updL l (!o.sell) S) v came)) :
    Calls Tryd.prog 89 #[.pointer (some ⟨q, 0, none⟩), .agg ({ o with lots := z } : Ord).cells.toArray] w fun e w' => ∃ fa fb_ fc fd fe fl : Int, e = .returned (.tuple #[.agg #[.int .i64 fa, .int .i64 fb_, .int .i64 fc, .int .i64 fd, .int .i64 fe, .int .i64 fl], .bool (nextOk o z S)]) ∧ (nextOk o z S = true → ∃ x r, S = x :: r ∧ (⟨fa, fb_, fc, fd, fe, fl⟩ : Fill) = fillO o x (minL z x)) ∧ Below w.heap.size w w' := by
  suffices H : Calls Tryd.prog 89 #[.pointer (some ⟨q, 0, none⟩), .agg ({ o with lots := z } : Ord).cells.toArray] w fun e w' => ∃ f : Fill, e = .returned (.tuple #[.agg f.cells.toArray, .bool (nextOk o z S)]) ∧ (nextOk o z S = true → ∃ x r, S = x :: r ∧ f = fillO o x (minL z x)) ∧ Below w.heap.size w w' from
    H.mono fun e w' ⟨⟨a, b, c, d, f, g⟩, h1, h2, h3⟩ => ⟨a, b, c, d, f, g, h1, h2, h3⟩
  cases hS : S with
  | nil =>
    refine (next_no B q _ v came { o with lots := z } w h hm.inv.small (.inl (by show updL l (!o.sell) S (!o.sell) = []; rw [updL_same, hS]))).mono fun e w' ⟨he, hb⟩ => ⟨⟨0, 0, 0, 0, 0, 0⟩, he, fun h => (by cases h), hb⟩
  | cons x r =>
    subst hS
    by_cases hz : z = 0
    · refine (next_no B q _ v came { o with lots := z } w h hm.inv.small (.inr hz)).mono fun e w' ⟨he, hb⟩ => ⟨⟨0, 0, 0, 0, 0, 0⟩, ?_, fun h => absurd hz (nextOk_cons h).1, hb⟩
      rw [he]
      have : nextOk o z (x :: r) = false := by unfold nextOk; simp only [if_pos hz]
      rw [this]
      rfl
    · have hg := hm.good
      refine (next_ok B q _ v came { o with lots := z } x w h hm.inv.small (by show (updL l (!o.sell) (x :: r) (!o.sell)).head? = some x; rw [updL_same]; rfl) hg.1 hz).mono fun e w' ⟨he, hb⟩ => ⟨fillO o x (minL z x), ?_, fun h => ⟨x, r, rfl, rfl⟩, hb⟩
      rw [he]
      have : nextOk o z (x :: r) = meetsO o x := by unfold nextOk; simp only [if_neg hz]
      rw [this]
      rfl
/-- What an order leaves. -/
def dealF (l : Bool → List Ord) (o : Ord) : List Fill := (matchS o o.lots (l (!o.sell))).1
def dealZ (l : Bool → List Ord) (o : Ord) : Int := (matchS o o.lots (l (!o.sell))).2.1
def dealS (l : Bool → List Ord) (o : Ord) : List Ord := (matchS o o.lots (l (!o.sell))).2.2
def dealL (l : Bool → List Ord) (o : Ord) (came : Nat) : Bool → List Ord := if dealZ l o = 0 then updL l (!o.sell) (dealS l o) else addL (updL l (!o.sell) (dealS l o)) { o with lots := dealZ l o } came
def dealC (l : Bool → List Ord) (o : Ord) (came : Nat) : Nat := if dealZ l o = 0 then came else came + 1
def MatchQ (w : World) (B q : Nat) (v : Bool → Value) (l : Bool → List Ord) (o : Ord) (came : Nat) (e : Ending) (w' : World) : Prop :=
  ∃ s8 v', e = .returned (.tuple #[s8, .int .i64 (dealZ l o), .nilIface]) ∧ w'.ownsRow w.heap.size 82 6 s8 (dealF l o).length (flatOf Fill.cells (dealF l o)) ∧ BS w w' B q v (dealL l o came) v' (dealC l o came)
theorem addK_parts {l : Bool → List Ord} {o : Ord} (hk : addK l o = 0) : Ord.good o = true ∧ fnd l o.id = none ∧ (l true).length + (l false).length < 32 := by
  unfold addK at hk
  cases hg : Ord.good o with
  | false => rw [hg, if_pos rfl] at hk; cases hk
  | true =>
    rw [hg, if_neg (by simp)] at hk
    cases hf : fnd l o.id with
    | some p => rw [hf, if_pos (by rfl)] at hk; cases hk
    | none =>
      rw [hf, if_neg (by simp)] at hk
      refine ⟨rfl, rfl, ?_⟩
      by_cases h32 : 32 ≤ (l true).length + (l false).length
      · rw [if_pos h32] at hk; cases hk
      · omega
theorem fnd_none_iff {l : Bool → List Ord} {id : Int} (h : ∀ s, ∀ x ∈ l s, x.id ≠ id) : fnd l id = none := by
  cases hf : fnd l id with
  | none => rfl
  | some p =>
    obtain ⟨s, i⟩ := p
    obtain ⟨x, hx, he⟩ := fnd_some hf
    exact absurd he (h s x (List.mem_of_getElem? hx))
theorem ML.addK {o : Ord} {l : Bool → List Ord} {came : Nat} {fs : List Fill} {z : Int} {S : List Ord} (h : ML o l came fs z S) (hk : addK l o = 0) (hz : z ≠ 0) : addK (updL l (!o.sell) S) { o with lots := z } = 0 := by
  obtain ⟨hg, hf, hn⟩ := addK_parts hk
  have h0 := h.z0
  have h1 := h.z1
  have h2 := h.few
  have hg2 : Ord.good { o with lots := z } = true := by
    unfold Ord.good at hg ⊢
    simp at hg ⊢
    omega
  have hf2 : Go.Proofs.YtdebldpmloignaaDoor.fnd (updL l (!o.sell) S) o.id = none := by
    refine fnd_none_iff fun s x hx => ?_
    by_cases e : s = !o.sell
    · subst e
      rw [updL_same] at hx
      obtain ⟨y, hy, he⟩ := h.ids x hx
      rw [← he]
      exact fnd_none hf _ y hy
    · rw [updL_other _ _ _ _ e] at hx
      exact fnd_none hf s x hx
  have hn2 : ¬ 32 ≤ (updL l (!o.sell) S true).length + (updL l (!o.sell) S false).length := by
    cases hs : o.sell
    · rw [hs] at h2
      simp [updL] at h2 ⊢
      omega
    · rw [hs] at h2
      simp [updL] at h2 ⊢
      omega
  unfold Go.Proofs.YtdebldpmloignaaDoor.addK
  rw [hg2, if_neg (by simp), if_neg (by rw [hf2]; simp), if_neg hn2]
end Go.Proofs.YtdebldpmloignaaDoor
