/-
  book: Add.
-/
import Derived.Test.YtdebldpmloignaaDoorBokB
namespace Go.Proofs.YtdebldpmloignaaDoor
open Go.RowKit
set_option linter.unusedVariables false
set_option linter.unusedSimpArgs false

def updL (l : Bool → List Ord) (s : Bool) (x : List Ord) : Bool → List Ord := fun t => if t = s then x else l t
def updV (v : Bool → Value) (s : Bool) (x : Value) : Bool → Value := fun t => if t = s then x else v t
theorem updL_same (l : Bool → List Ord) (s : Bool) (x : List Ord) : updL l s x s = x := if_pos rfl
theorem updL_other (l : Bool → List Ord) (s t : Bool) (x : List Ord) (h : t ≠ s) : updL l s x t = l t := if_neg h
/-- What a step of the book leaves. -/
structure BS (w w' : World) (B q : Nat) (v : Bool → Value) (l' : Bool → List Ord) (v' : Bool → Value) (came' : Nat) : Prop where
  out : BV w' B q l' v' came'
  turns : Turns (BF q v) w w'
  own : ∀ s g, (v' s).ownBlock = some g → (∃ t, (v t).ownBlock = some g) ∨ w.heap.size ≤ g
theorem BS.trans {w w1 w2 : World} {B q : Nat} {v v1 v2 : Bool → Value} {l1 l2 : Bool → List Ord} {c1 c2 : Nat} (h : BS w w1 B q v l1 v1 c1) (k : BS w1 w2 B q v1 l2 v2 c2) : BS w w2 B q v l2 v2 c2 :=
  ⟨k.out, h.turns.trans k.turns (fun g hg hf => by
    rcases hf with rfl | ⟨s, hs⟩
    · exact .inl rfl
    · rcases h.own s g hs with ⟨t, ht⟩ | h2
      · exact .inr ⟨t, ht⟩
      · omega), fun s g hg => by
    rcases k.own s g hg with ⟨t, ht⟩ | h2
    · exact h.own t g ht
    · exact .inr (Nat.le_trans h.turns.size h2)⟩
theorem BS.refl {w : World} {B q : Nat} {v : Bool → Value} {l : Bool → List Ord} {c : Nat} (h : BV w B q l v c) : BS w w B q v l v c := ⟨h, Turns.refl _ _, fun s g hg => .inl ⟨s, hg⟩⟩
theorem BS.ofBelow {w w' : World} {B q : Nat} {v : Bool → Value} {l : Bool → List Ord} {c : Nat} (h : BV w B q l v c) (hb : Below w.heap.size w w') : BS w w' B q v l v c := ⟨h.below hb, Turns.of_below hb, fun s g hg => .inl ⟨s, hg⟩⟩
theorem BS.below {w w' : World} {B C q : Nat} {v v' : Bool → Value} {l l' : Bool → List Ord} {c c' : Nat} (h : BS w w' B q v l' v' c') (h0 : BV w B q l v c) (hC : C ≤ B) : Below C w w' :=
  h.turns.below (by have := h0.lt; have := h0.low; omega) (fun k hk => by have := (h0.low_not k hk).1; omega)
/-- One side's row is another one. -/
theorem BV.put {w w1 : World} {B q : Nat} {l : Bool → List Ord} {v : Bool → Value} {came : Nat} {s : Bool} {x : List Ord} {v1 : Value} (h : BV w B q l v came) (hg : w.grownBy w1 (v s).ownBlock) (hown : w1.ownsRow B 67 6 v1 x.length (flatOf Ord.cells x)) (hlie : v1.ownBlock = (v s).ownBlock ∨ ∃ g, v1.ownBlock = some g ∧ w.heap.size ≤ g) :
    BS w (w1.setCell ⟨q, offS s, none⟩ v1) B q v (updL l s x) (updV v s v1) came := by
  have hlt := h.lt
  have hnq : v1.ownBlock ≠ some q := by
    rcases hlie with e | ⟨g, e, hgl⟩
    · rw [e]; exact h.notq s
    · rw [e]; intro e2; cases e2; omega
  have hq1 : Blk w1 q #[v true, v false, .int .i64 came] 143 := h.blk.of (hg.block q hlt (fun e => h.notq s e.symm))
  have hset : Turns (fun k => k = q) w1 (w1.setCell ⟨q, offS s, none⟩ v1) := Turns.set (F := fun k => k = q) rfl
  have ho : ∀ t, t ≠ s → (v t).ownBlock = none ∨ (v t).ownBlock ≠ (v s).ownBlock := fun t ht => by
    cases t <;> cases s
    · exact absurd rfl ht
    · rcases h.apart with e | e
      · rw [e]; cases (v false).ownBlock <;> simp
      · exact .inr e.symm
    · exact h.apart
    · exact absurd rfl ht
  have fresh : ∀ t g, t ≠ s → (v t).ownBlock = some g → v1.ownBlock ≠ some g := fun t g ht hv e => by
    rcases hlie with e2 | ⟨g2, e2, hgl⟩
    · rcases ho t ht with e3 | e3
      · rw [e3] at hv; cases hv
      · exact e3 (by rw [hv, ← e, e2])
    · rw [e2] at e; cases e
      have := ((h.row t).lt g hv).2
      omega
  refine ⟨⟨h.low, ?_, ?_, ?_, ?_⟩, ?_, ?_⟩
  · have := hq1.set (offS s) v1
    cases s
    · exact this
    · exact this
  · intro t
    by_cases e : t = s
    · subst e
      simp only [updL, updV, if_true]
      exact hset.owns hown (fun g hg e => hnq (by rw [hg, e]))
    · simp only [updL, updV, if_neg e]
      exact hset.owns ((h.row t).kept hg (ho t e)) (fun g hg e2 => h.notq t (by rw [hg, e2]))
  · intro t
    by_cases e : t = s
    · simp only [updV, if_pos e]; exact hnq
    · simp only [updV, if_neg e]; exact h.notq t
  · cases s
    · show (v true).ownBlock = none ∨ (v true).ownBlock ≠ v1.ownBlock
      cases hv : (v true).ownBlock with
      | none => exact .inl rfl
      | some g => exact .inr (fun e => fresh true g (by simp) hv e.symm)
    · show v1.ownBlock = none ∨ v1.ownBlock ≠ (v false).ownBlock
      cases hv : (v false).ownBlock with
      | none => cases v1.ownBlock <;> simp
      | some g => exact .inr (fresh false g (by simp) hv)
  · exact ((Turns.of_grown hg).mono (fun k _ hk => .inr ⟨s, hk⟩)).trans (hset.mono (fun k _ hk => .inl hk)) (fun k _ hk => hk)
  · intro t g hgt
    by_cases e : t = s
    · rw [show updV v s v1 t = v1 from if_pos e] at hgt
      rcases hlie with e2 | ⟨g2, e2, hgl⟩
      · exact .inl ⟨s, by rw [← e2]; exact hgt⟩
      · rw [e2] at hgt; cases hgt; exact .inr hgl
    · rw [show updV v s v1 t = v t from if_neg e] at hgt
      exact .inl ⟨t, hgt⟩
def EnvK (w : World) (E : Nat → Addr) : Prop := ∀ k, (k = 1 ∨ k = 2 ∨ k = 5 ∨ k = 6 ∨ k = 7) → True → w.cell? ⟨gno k, 0, none⟩ = some (erV E k)
theorem EnvK.below {w w' : World} {E : Nat → Addr} (h : EnvK w E) (hb : Below w.heap.size w w') : EnvK w' E := fun k h1 h2 =>
  (hb.cell (p := ⟨gno k, 0, none⟩) (World.block_lt_of_cell? w ⟨gno k, 0, none⟩ (h k h1 h2))).trans (h k h1 h2)
theorem EnvK.of5 {B : Nat} {w : World} {S : List Nat} {E : Nat → Addr} (h : Errs B w S E) (hS : ∀ k ∈ [1, 2, 5, 6, 7], k ∈ S) : EnvK w E := fun k h1 _ => (h.var k (hS k (by simp; omega))).2
theorem EnvK.of {B : Nat} {w : World} {E : Nat → Addr} (h : Errs B w allKinds E) : EnvK w E := EnvK.of5 h (by unfold allKinds; decide)
/-- Why an order can't come: a kind of error; 0: it can. -/
def addK (l : Bool → List Ord) (o : Ord) : Nat := if Ord.good o = false then 1 else if (fnd l o.id).isSome then 6 else if 32 ≤ (l true).length + (l false).length then 7 else 0
set_option maxRecDepth 100000 in
set_option maxHeartbeats 1000000 in
theorem add_err (E : Nat → Addr) (B q : Nat) (l : Bool → List Ord) (v : Bool → Value) (came : Nat) (o : Ord) (w : World) (h : Hid (BV w B q l v came)) (hE : Hid (EnvK w E)) (hN : ∀ s, (l s).length ≤ 1000000) (hk : addK l o ≠ 0) :
    Calls Tryd.prog 41 #[.pointer (some ⟨q, 0, none⟩), .agg o.cells.toArray] w fun e w' => e = .returned (erV E (addK l o)) ∧ Below w.heap.size w w' := by
  have hb0 : Below w.heap.size w (w.alloc (.cells o.cells.toArray 67)) := (Below.refl _ w).alloc (Nat.le_refl _) _
  have hE0 := hE.out.below hb0
  have hsz0 : w.heap.size ≤ (w.alloc (.cells o.cells.toArray 67)).heap.size := hb0.size
  have HG := Lib.hid (good_c o (w.alloc (.cells o.cells.toArray 67)))
  have HF := Lib.hid (fun (w1 : World) (hb : Below w.heap.size w w1) => find_c B q l v came o.id w1 (Lib.hid (h.out.below hb)) hN)
  have HL := Lib.hid (fun (w1 : World) (hb : Below w.heap.size w w1) => blen_c B q l v came w1 (Lib.hid (h.out.below hb)) hN)
  have HENV := Lib.hid (fun (w1 : World) (hb : Below w.heap.size w w1) => hE.out.below hb)
  have HB0 := Lib.hid hb0
  have HS0 := Lib.hid hsz0
  have hXlt : w.heap.size < (w.alloc (.cells o.cells.toArray 67)).heap.size := by simp
  have hX0 : (w.alloc (.cells o.cells.toArray 67)).heap[w.heap.size]? = some (.cells o.cells.toArray 67 (0, 0)) := heap_alloc_new w _
  have HX0 := Lib.hid hX0
  have HXLT := Lib.hid hXlt
  by_cases hg : Ord.good o = false
  · have hkk : addK l o = 1 := by unfold addK; rw [if_pos hg]
    rw [hkk, erV_some E 1 (by decide)]
    rw [hg] at HG
    clear hkk hk hg h hE hN hb0 hE0 hsz0 hX0 hXlt
    obtain ⟨id, tenant, sell, price, lots, seq⟩ := o
    simp only [Ord.cells] at *
    go_enter Tryd.func41, Tryd.ntmps41
    go_wp2_with fail
    refine HG.out.mono ?_
    rintro e w1 ⟨rfl, hb1⟩
    have hx1 := (hb1.block w.heap.size HXLT.out).trans HX0.out
    have HB1 := Lib.hid (HB0.out.trans (hb1.mono HS0.out))
    have x0 := Blk.cell hx1 0 _ rfl
    have ce : w1.cell? ⟨2, 0, none⟩ = some (.iface 202 (.pointer (some (E 1)))) := by rw [← erV_some E 1 (by decide)]; exact HENV.out w1 HB1.out 1 (by decide) (by decide)
    clear hb1 hx1
    go_wp2_with fail
    go_ret
    exact ⟨rfl, HB1.out⟩
  · have hg1 : Ord.good o = true := by simpa using hg
    rw [hg1] at HG
    cases hf : fnd l o.id with
    | some p =>
      obtain ⟨s, i⟩ := p
      have hkk : addK l o = 6 := by unfold addK; rw [if_neg hg, hf, if_pos (by rfl)]
      rw [hkk, erV_some E 6 (by decide)]
      rw [hf] at HF
      clear hkk hk hg hg1 hf h hE hN hb0 hE0 hsz0 hX0 hXlt
      obtain ⟨id, tenant, sell, price, lots, seq⟩ := o
      simp only [Ord.cells] at *
      go_enter Tryd.func41, Tryd.ntmps41
      go_wp2_with fail
      refine HG.out.mono ?_
      rintro e w1 ⟨rfl, hb1⟩
      have hx1 := (hb1.block w.heap.size HXLT.out).trans HX0.out
      have HB1 := Lib.hid (HB0.out.trans (hb1.mono HS0.out))
      have x0 := Blk.cell hx1 0 _ rfl
      clear hb1 hx1
      go_wp2_with fail
      refine (HF.out w1 HB1.out).mono ?_
      rintro e w2 ⟨rfl, hb2⟩
      have HB2 := Lib.hid (HB1.out.trans (hb2.mono HB1.out.size))
      have ce : w2.cell? ⟨3, 0, none⟩ = some (.iface 202 (.pointer (some (E 6)))) := by rw [← erV_some E 6 (by decide)]; exact HENV.out w2 HB2.out 6 (by decide) (by decide)
      clear hb2
      unfold fndV
      go_wp2_with fail
      go_ret
      exact ⟨rfl, HB2.out⟩
    | none =>
      by_cases hfull : 32 ≤ (l true).length + (l false).length
      · have hkk : addK l o = 7 := by unfold addK; rw [if_neg hg, hf, if_neg (by simp), if_pos hfull]
        rw [hkk, erV_some E 7 (by decide)]
        rw [hf] at HF
        have hfull' : (32 : Int) ≤ (((l true).length + (l false).length : Nat) : Int) := by omega
        generalize (l true).length + (l false).length = nn at HL hfull'
        clear hkk hk hg hg1 hf h hE hN hb0 hE0 hsz0 hX0 hXlt hfull
        obtain ⟨id, tenant, sell, price, lots, seq⟩ := o
        simp only [Ord.cells] at *
        go_enter Tryd.func41, Tryd.ntmps41
        go_wp2_with fail
        refine HG.out.mono ?_
        rintro e w1 ⟨rfl, hb1⟩
        have hx1 := (hb1.block w.heap.size HXLT.out).trans HX0.out
        have HB1 := Lib.hid (HB0.out.trans (hb1.mono HS0.out))
        have x0 := Blk.cell hx1 0 _ rfl
        clear hb1 hx1
        go_wp2_with fail
        refine (HF.out w1 HB1.out).mono ?_
        rintro e w2 ⟨rfl, hb2⟩
        have HB2 := Lib.hid (HB1.out.trans (hb2.mono HB1.out.size))
        clear hb2
        unfold fndV
        go_wp2_with fail
        refine (HL.out w2 HB2.out).mono ?_
        rintro e w3 ⟨rfl, hb3⟩
        have HB3 := Lib.hid (HB2.out.trans (hb3.mono HB2.out.size))
        have ce : w3.cell? ⟨4, 0, none⟩ = some (.iface 202 (.pointer (some (E 7)))) := by rw [← erV_some E 7 (by decide)]; exact HENV.out w3 HB3.out 7 (by decide) (by decide)
        clear hb3
        go_wp2_with fail
        go_ret
        exact ⟨rfl, HB3.out⟩
      · exact absurd (by unfold addK; rw [if_neg hg, hf, if_neg (by simp), if_neg hfull]) hk
/-- The order, as it stands in the book. -/
def Ord.at (o : Ord) (n : Nat) : Ord := { o with seq := (n : Int) }
def insAt (xs : List Ord) (t : Nat) (y : Ord) : List Ord := xs.take t ++ y :: xs.drop t
theorem insAt_len {xs : List Ord} {t : Nat} {y : Ord} (h : t ≤ xs.length) : (insAt xs t y).length = xs.length + 1 := by unfold insAt; simp; omega
def AddQ (w : World) (B q : Nat) (v : Bool → Value) (l' : Bool → List Ord) (came' : Nat) (e : Ending) (w' : World) : Prop := e = .returned .nilIface ∧ ∃ v', BS w w' B q v l' v' came'
theorem egCmp : ∀ (args : Array Value) (w : World), (callFunc 84 args).run Tryd.prog w = .ok (.enter 84 args) w := enters_of Tryd.func84 (by kernel_rfl) rfl
set_option maxRecDepth 100000 in
set_option maxHeartbeats 4000000 in
theorem add_ok (B q : Nat) (l : Bool → List Ord) (v : Bool → Value) (came : Nat) (o : Ord) (t : Nat) (w : World) (h : Hid (BV w B q l v came)) (hN : ∀ s, (l s).length ≤ 1000) (hc : came ≤ 1000000) (hBw : B ≤ w.heap.size) (hk : addK l o = 0) (ht : t ≤ (l o.sell).length)
    (hlo : Hid (∀ j x, j < t → (l o.sell)[j]? = some x → cmpO x (o.at (came + 1)) < 0)) (hhi : Hid (∀ j x, t ≤ j → (l o.sell)[j]? = some x → 0 ≤ cmpO x (o.at (came + 1)))) :
    Calls Tryd.prog 41 #[.pointer (some ⟨q, 0, none⟩), .agg o.cells.toArray] w (AddQ w B q v (updL l o.sell (insAt (l o.sell) t (o.at (came + 1)))) (came + 1)) := by
  have hN6 : ∀ s, (l s).length ≤ 1000000 := fun s => Nat.le_trans (hN s) (by decide)
  have hb0 : Below w.heap.size w (w.alloc (.cells o.cells.toArray 67)) := (Below.refl _ w).alloc (Nat.le_refl _) _
  have hsz0 : w.heap.size ≤ (w.alloc (.cells o.cells.toArray 67)).heap.size := hb0.size
  have HG := Lib.hid (good_c o (w.alloc (.cells o.cells.toArray 67)))
  have HF := Lib.hid (fun (w1 : World) (hb : Below w.heap.size w w1) => find_c B q l v came o.id w1 (Lib.hid (h.out.below hb)) hN6)
  have HL := Lib.hid (fun (w1 : World) (hb : Below w.heap.size w w1) => blen_c B q l v came w1 (Lib.hid (h.out.below hb)) hN6)
  have HB0 := Lib.hid hb0
  have HS0 := Lib.hid hsz0
  have hXlt : w.heap.size < (w.alloc (.cells o.cells.toArray 67)).heap.size := by simp
  have hX0 : (w.alloc (.cells o.cells.toArray 67)).heap[w.heap.size]? = some (.cells o.cells.toArray 67 (0, 0)) := heap_alloc_new w _
  have HX0 := Lib.hid hX0
  have HXLT := Lib.hid hXlt
  have hg1 : Ord.good o = true := by
    cases hg : Ord.good o with
    | true => rfl
    | false => unfold addK at hk; rw [if_pos hg] at hk; cases hk
  have hf : fnd l o.id = none := by
    cases hf : fnd l o.id with
    | none => rfl
    | some p => unfold addK at hk; rw [if_neg (by rw [hg1]; simp), hf, if_pos (by rfl)] at hk; cases hk
  have hfull : ¬ 32 ≤ (l true).length + (l false).length := fun h1 => by
    unfold addK at hk
    rw [if_neg (by rw [hg1]; simp), hf, if_neg (by simp), if_pos h1] at hk
    cases hk
  rw [hg1] at HG
  rw [hf] at HF
  have hfull' : ¬ (32 : Int) ≤ (((l true).length + (l false).length : Nat) : Int) := by omega
  have hqlt := h.out.lt
  have hqX : ¬ q = w.heap.size := by omega
  have hqX2 : ¬ w.heap.size = q := by omega
  generalize (l true).length + (l false).length = nn at HL hfull'
  obtain ⟨came2, hc2⟩ : ∃ z : Int, z = (came : Int) + 1 := ⟨_, rfl⟩
  have HC2 : Hid (came2 = ((came + 1 : Nat) : Int)) := by show _ = _; omega
  have HCC := Lib.hid hc2
  clear hc2
  have hcc : (came : Int) ≤ 1000000 := by omega
  clear hk hg1 hf hfull hb0 hsz0 hX0 hXlt hc
  obtain ⟨id, tenant, sell, price, lots, seq⟩ := o
  simp only [Ord.cells] at *
  go_enter Tryd.func41, Tryd.ntmps41
  go_wp2_with fail
  refine HG.out.mono ?_
  rintro e w1 ⟨rfl, hb1⟩
  have hx1 := (hb1.block w.heap.size HXLT.out).trans HX0.out
  have HB1 := Lib.hid (HB0.out.trans (hb1.mono HS0.out))
  have x0 := Blk.cell hx1 0 _ rfl
  have HXX := Lib.hid hx1
  have HY : Hid (Ord.at ⟨id, tenant, sell, price, lots, seq⟩ (came + 1) = ⟨id, tenant, sell, price, lots, came2⟩) := by show _ = _; unfold Ord.at; rw [HC2.out]
  clear hb1 hx1
  go_wp2_with fail
  refine (HF.out w1 HB1.out).mono ?_
  rintro e w2 ⟨rfl, hb2⟩
  have hx2 := (hb2.block w.heap.size (by have := HXX.out; exact (Array.getElem?_eq_some_iff.1 this).1)).trans HXX.out
  have HB2 := Lib.hid (HB1.out.trans (hb2.mono HB1.out.size))
  have HXX2 := Lib.hid hx2
  clear hb2 hx2 x0
  unfold fndV
  go_wp2_with fail
  refine (HL.out w2 HB2.out).mono ?_
  rintro e w3 ⟨rfl, hb3⟩
  have hx3 := (hb3.block w.heap.size (by have := HXX2.out; exact (Array.getElem?_eq_some_iff.1 this).1)).trans HXX2.out
  have HB3 := Lib.hid (HB2.out.trans (hb3.mono HB2.out.size))
  have hb3' := h.out.below HB3.out
  have cq2 : w3.cell? ⟨q, 2, none⟩ = some (.int .i64 came) := hb3'.blk.cell 2 _ rfl
  have fq2 := hb3'.blk.free 2
  have xf := Blk.free hx3 5
  have xc := Blk.cell hx3 5 _ rfl
  have xs2 := Blk.cell hx3 2 _ rfl
  clear hb3 HL HF HG
  go_wp2_with fail
  rw [← HCC.out]
  obtain ⟨W4, hW4⟩ : ∃ W4, W4 = (w3.setCell ⟨q, 2, none⟩ (.int .i64 came2)).setCell ⟨w.heap.size, 5, none⟩ (.int .i64 came2) := ⟨_, rfl⟩
  have hbq4 : Blk W4 q #[v true, v false, .int .i64 ((came + 1 : Nat) : Int)] 143 := by
    rw [hW4, ← HC2.out]
    exact (Turns.set (F := fun k => k = w.heap.size) rfl).blk (hb3'.blk.set 2 (.int .i64 came2)) hqX
  have ht4 : Turns (BF q v) w W4 := by
    rw [hW4]
    exact ((Turns.of_below (F := BF q v) HB3.out).trans (Turns.set (F := fun k => k = q) rfl) (fun k _ hk => .inl hk)).trans (Turns.set (F := fun k => k = w.heap.size) rfl) (fun k hk hf => absurd hf (by omega))
  have hX3 := HXX2.out
  have hrx4 : W4.rangeAt w.heap.size 0 [.int .i64 id, .int .i64 tenant, .bool sell, .int .i64 price, .int .i64 lots, .int .i64 came2] := fun j u hj => by
    rw [hW4, Nat.zero_add]
    have h1 : Blk (w3.setCell ⟨q, 2, none⟩ (.int .i64 came2)) w.heap.size #[.int .i64 id, .int .i64 tenant, .bool sell, .int .i64 price, .int .i64 lots, .int .i64 seq] 67 := (Turns.set (F := fun k => k = q) rfl).blk hx3 hqX2
    exact (h1.set 5 (.int .i64 came2)).cell j u (by simpa using hj)
  have hT34 : Turns (fun k => k = q ∨ k = w.heap.size) w3 W4 := by
    rw [hW4]
    exact ((Turns.set (F := fun k => k = q) rfl).mono (fun k _ hk => .inl hk)).trans ((Turns.set (F := fun k => k = w.heap.size) rfl)) (fun k _ hk => .inr hk)
  have hrow4 : ∀ s, W4.ownsRow B 67 6 (v s) (l s).length (flatOf Ord.cells (l s)) := fun s => hT34.owns (hb3'.row s) (fun g hg e => by
    rcases e with e | e
    · exact h.out.notq s (by rw [hg, e])
    · have := ((h.out.row s).lt g hg).2; omega)
  have HST : Hid (BS w W4 B q v l v (came + 1)) := ⟨⟨h.out.low, hbq4, hrow4, h.out.notq, h.out.apart⟩, ht4, fun s g hg => .inl ⟨s, hg⟩⟩
  have HQ6 : Hid (q < W4.heap.size) := HST.out.out.lt
  have HX6 : Hid (w.heap.size < W4.heap.size) := by
    have := HB3.out.size
    have h2 := (Array.getElem?_eq_some_iff.1 hx3).1
    have h3 := hT34.size
    show _ < _
    omega
  have HXN : Hid (some w.heap.size ≠ (v sell).ownBlock) := fun e => by have := ((h.out.row sell).lt _ e.symm).2; omega
  have HQN : Hid (some q ≠ (v sell).ownBlock) := fun e => h.out.notq sell e.symm
  have HQX2 : Hid (q ≠ w.heap.size) := hqX
  have gq := HST.out.out.cellF sell
  have hfrm := (HST.out.out.form sell).1
  have HLEN : Hid ((l sell).length ≤ 1000) := hN sell
  have HLEN2 : Hid (t ≤ (l sell).length) := ht
  have HBS : Hid (∀ W, Below W4.heap.size W4 W → Calls Tryd.prog 83 #[.slice (sA (v sell)) (l sell).length (sC (v sell)), .agg #[.int .i64 id, .int .i64 tenant, .bool sell, .int .i64 price, .int .i64 lots, .int .i64 came2], .func (.func 84) #[] #[]] W fun e w' => (∃ b, e = .returned (.tuple #[.int .i64 t, .bool b])) ∧ Below W.heap.size W w') := fun W hb =>
    bsearch_ord Ord.cells Ord.k6 (fun x => cmpO x ⟨id, tenant, sell, price, lots, came2⟩) ⟨id, tenant, sell, price, lots, came2⟩ 84 egCmp (sA (v sell)) (l sell).length (sC (v sell)) (l sell) W ((HST.out.out.below hb).form sell).2.1 (Nat.le_trans HLEN.out (by decide)) t HLEN2.out
      (by rw [← HY.out]; exact hlo) (by rw [← HY.out]; exact hhi) (fun W x => compare_c x ⟨id, tenant, sell, price, lots, came2⟩ W)
  have HINS : Hid (∀ W vb, Below W4.heap.size W4 W → W.heap[vb]? = some (.cells #[.int .i64 id, .int .i64 tenant, .bool sell, .int .i64 price, .int .i64 lots, .int .i64 came2] 67 (0, 0)) → W4.heap.size ≤ vb → Calls Tryd.prog 85 #[.slice (sA (v sell)) (l sell).length (sC (v sell)), .int .i64 t, .slice (some ⟨vb, 0, none⟩) 1 1] W (InsQ W B (v sell) (l sell).length (insAt (l sell) t ⟨id, tenant, sell, price, lots, came2⟩))) := fun W vb hb hv hvb => by
    have hh := insert_ord B vb (v sell) (l sell).length t (l sell) ⟨id, tenant, sell, price, lots, came2⟩ W rfl ((HST.out.out.below hb).row sell) HLEN2.out (Nat.le_trans HLEN.out (by decide)) hv (fun e => by have := ((HST.out.out.row sell).lt vb e).2; omega) (Nat.le_trans hBw (Nat.le_trans ht4.size hb.size))
    rw [hfrm] at hh
    rw [hfrm]
    exact hh
  have HEND : Hid (∀ W, Below W4.heap.size W4 W → ∀ v8 W8, W8.ownsRow B 67 6 v8 ((l sell).length + 1) (flatOf Ord.cells (insAt (l sell) t ⟨id, tenant, sell, price, lots, came2⟩)) → W.grownBy W8 (v sell).ownBlock → (v8.ownBlock = (v sell).ownBlock ∨ ∃ g, v8.ownBlock = some g ∧ W.heap.size ≤ g) → BS w (W8.setCell ⟨q, offS sell, none⟩ v8) B q v (updL l sell (insAt (l sell) t (Ord.at ⟨id, tenant, sell, price, lots, seq⟩ (came + 1)))) (updV v sell v8) (came + 1)) := fun W hb v8 W8 ho hg hlie => by
    rw [HY.out]
    have hbs := BS.ofBelow HST.out.out hb
    exact (HST.out.trans hbs).trans (hbs.out.put hg (by rw [insAt_len HLEN2.out]; exact ho) hlie)
  obtain ⟨A, hA⟩ : ∃ A, A = sA (v sell) := ⟨_, rfl⟩
  obtain ⟨c, hcap⟩ : ∃ c, c = sC (v sell) := ⟨_, rfl⟩
  obtain ⟨n, hn⟩ : ∃ n, n = (l sell).length := ⟨_, rfl⟩
  rw [← hA, ← hcap, ← hn] at gq HBS HINS
  rw [← hn] at HEND
  have rX := hrx4
  rw [← hW4]
  clear hW4 hbq4 ht4 hX3 hrx4 hT34 hrow4 hfrm hA hcap hn HLEN HLEN2 hb3' cq2 fq2 xf xc xs2 hN hN6 ht hlo hhi h hBw hqX hqX2 hcc hqlt hx3 HXX HXX2 HB1 HB2 HB3 HB0 HS0 HX0 HXLT HC2 HCC HY
  refine (side_c q sell W4).mono ?_
  rintro e y ⟨rfl, rfl⟩
  go_wp2_with fail
  refine wp_region_noPanic ?_
  refine wp_region_held_drew (S := (fun w' => w'.cell? ⟨q, offS sell, none⟩ = some (.slice A n c) ∧ w'.rangeAt w.heap.size 0 [.int .i64 id, .int .i64 tenant, .bool sell, .int .i64 price, .int .i64 lots, .int .i64 came2])) (by kernel_rfl) ⟨gq, rX⟩ (fun hHeld => ?_)
  have HB6 := (Below.refl W4.heap.size W4).drew
  refine wpAnyH_take (i := 0) (v := ?_) rfl (by kernel_rfl) (by kernel_rfl) (by kernel_rfl) (fun _ _ _ h => h) (Or.inl ⟨by rfl, ?_⟩) hHeld ?_
  rotate_left
  focus
    intro w hSw
    clear hSw
    go_simp
    try with_reducible rfl
  try simp only [Act.put, List.getElem_toArray, List.getElem_cons_zero, List.getElem_cons_succ, List.setIfInBounds_toArray, List.set_cons_zero, List.set_cons_succ]
  refine wpAnyH_take (i := 1) (v := ?_) rfl (by kernel_rfl) (by kernel_rfl) (by kernel_rfl) (fun _ _ _ h => h) (Or.inl ⟨by rfl, ?_⟩) hHeld ?_
  rotate_left
  focus
    intro w hSw
    clear hSw
    go_simp
    try with_reducible rfl
  try simp only [Act.put, List.getElem_toArray, List.getElem_cons_zero, List.getElem_cons_succ, List.setIfInBounds_toArray, List.set_cons_zero, List.set_cons_succ]
  refine wpAnyH_take (i := 2) (v := ?_) rfl (by kernel_rfl) (by kernel_rfl) (by kernel_rfl) (fun _ _ _ h => h) (Or.inl ⟨by rfl, ?_⟩) hHeld ?_
  rotate_left
  focus
    intro w hSw
    (try dsimp only at hSw)
    go_simp
    try with_reducible rfl
  try simp only [Act.put, List.getElem_toArray, List.getElem_cons_zero, List.getElem_cons_succ, List.setIfInBounds_toArray, List.set_cons_zero, List.set_cons_succ]
  refine wpAnyH_take (i := 3) rfl (by kernel_rfl) (by kernel_rfl) (by kernel_rfl) (fun _ _ _ h => h) (yieldsIf_load_mid (by rfl) 67 _ rfl w.heap.size (0) rfl [.int .i64 id, .int .i64 tenant, .bool sell, .int .i64 price, .int .i64 lots, .int .i64 came2] _ (fun w h => h.2) Tryd.underlying67 rfl size_ord) hHeld ?_
  try simp only [Act.put, List.getElem_toArray, List.getElem_cons_zero, List.getElem_cons_succ, List.setIfInBounds_toArray, List.set_cons_zero, List.set_cons_succ]
  refine wpAnyH_ready (rs := [4]) (by kernel_rfl) (by simp) ?_
  refine AllReadyH.cons rfl (fun K hK => ?_) AllReadyH.nil
  go_simp
  refine (HBS.out _ HB6).mono ?_
  rintro e W7 ⟨⟨bb, rfl⟩, hb7⟩
  have hb7 : Below W4.heap.size W4 W7 := ⟨hb7.os, hb7.tape, hb7.output, hb7.size, hb7.block⟩
  have gq := (hb7.cell (p := ⟨q, offS sell, none⟩) HQ6.out).trans gq
  have rX := rangeAt_below rX hb7 HX6.out
  have HB7 := Lib.hid hb7
  clear hb7
  refine hK.out _ _ ⟨gq, rX⟩ (fun hHeld => ?_)
  clear hK K
  try simp only [Act.put, List.getElem_toArray, List.getElem_cons_zero, List.getElem_cons_succ, List.setIfInBounds_toArray, List.set_cons_zero, List.set_cons_succ]
  refine wpAnyH_take (i := 5) (v := ?_) rfl (by kernel_rfl) (by kernel_rfl) (by kernel_rfl) (fun _ _ _ h => h) (Or.inl ⟨by rfl, ?_⟩) hHeld ?_
  rotate_left
  focus
    intro w hSw
    clear hSw
    go_simp
    try with_reducible rfl
  try simp only [Act.put, List.getElem_toArray, List.getElem_cons_zero, List.getElem_cons_succ, List.setIfInBounds_toArray, List.set_cons_zero, List.set_cons_succ]
  refine wpAnyH_take (i := 6) (v := ?_) rfl (by kernel_rfl) (by kernel_rfl) (by kernel_rfl) (fun _ _ _ h => h) (Or.inl ⟨by rfl, ?_⟩) hHeld ?_
  rotate_left
  focus
    intro w hSw
    clear hSw
    go_simp
    try with_reducible rfl
  try simp only [Act.put, List.getElem_toArray, List.getElem_cons_zero, List.getElem_cons_succ, List.setIfInBounds_toArray, List.set_cons_zero, List.set_cons_succ]
  refine wpAnyH_take (i := 7) (v := ?_) rfl (by kernel_rfl) (by kernel_rfl) (by kernel_rfl) (fun _ _ _ h => h) (Or.inl ⟨by rfl, ?_⟩) hHeld ?_
  rotate_left
  focus
    intro w hSw
    clear hSw
    go_simp
    try with_reducible rfl
  try simp only [Act.put, List.getElem_toArray, List.getElem_cons_zero, List.getElem_cons_succ, List.setIfInBounds_toArray, List.set_cons_zero, List.set_cons_succ]
  refine wpAnyH_take (i := 8) (v := ?_) rfl (by kernel_rfl) (by kernel_rfl) (by kernel_rfl) (fun _ _ _ h => h) (Or.inl ⟨by rfl, ?_⟩) hHeld ?_
  rotate_left
  focus
    intro w hSw
    clear hSw
    go_simp
    try with_reducible rfl
  try simp only [Act.put, List.getElem_toArray, List.getElem_cons_zero, List.getElem_cons_succ, List.setIfInBounds_toArray, List.set_cons_zero, List.set_cons_succ]
  refine wpAnyH_take (i := 9) (v := ?_) rfl (by kernel_rfl) (by kernel_rfl) (by kernel_rfl) (fun _ _ _ h => h) (Or.inl ⟨by rfl, ?_⟩) hHeld ?_
  rotate_left
  focus
    intro w hSw
    clear hSw
    go_simp
    try with_reducible rfl
  try simp only [Act.put, List.getElem_toArray, List.getElem_cons_zero, List.getElem_cons_succ, List.setIfInBounds_toArray, List.set_cons_zero, List.set_cons_succ]
  refine wpAnyH_done (by kernel_rfl) ?_ _
  refine NoPanic.normal ?_
  go_wp2_with fail
  refine wp_region_noPanic ?_
  refine wp_region_held_drew (S := (fun w' => w'.rangeAt w.heap.size 0 [.int .i64 id, .int .i64 tenant, .bool sell, .int .i64 price, .int .i64 lots, .int .i64 came2])) (by kernel_rfl) rX (fun hHeld => ?_)
  refine wpAnyH_take (i := 0) (v := ?_) rfl (by kernel_rfl) (by kernel_rfl) (by kernel_rfl) (fun _ _ _ h => h) (Or.inl ⟨by rfl, ?_⟩) hHeld ?_
  rotate_left
  focus
    intro w hSw
    clear hSw
    go_simp
    try with_reducible rfl
  try simp only [Act.put, List.getElem_toArray, List.getElem_cons_zero, List.getElem_cons_succ, List.setIfInBounds_toArray, List.set_cons_zero, List.set_cons_succ]
  refine wpAnyH_take (i := 1) (v := ?_) rfl (by kernel_rfl) (by kernel_rfl) (by kernel_rfl) (fun _ _ _ h => h) (Or.inl ⟨by rfl, ?_⟩) hHeld ?_
  rotate_left
  focus
    intro w hSw
    clear hSw
    go_simp
    try with_reducible rfl
  try simp only [Act.put, List.getElem_toArray, List.getElem_cons_zero, List.getElem_cons_succ, List.setIfInBounds_toArray, List.set_cons_zero, List.set_cons_succ]
  refine wpAnyH_take (i := 2) (v := ?_) rfl (by kernel_rfl) (by kernel_rfl) (by kernel_rfl) (fun _ _ _ h => h) (Or.inl ⟨by rfl, ?_⟩) hHeld ?_
  rotate_left
  focus
    intro w hSw
    clear hSw
    go_simp
    try with_reducible rfl
  try simp only [Act.put, List.getElem_toArray, List.getElem_cons_zero, List.getElem_cons_succ, List.setIfInBounds_toArray, List.set_cons_zero, List.set_cons_succ]
  refine wpAnyH_take (i := 4) (v := ?_) rfl (by kernel_rfl) (by kernel_rfl) (by kernel_rfl) (fun _ _ _ h => h) (Or.inl ⟨by rfl, ?_⟩) hHeld ?_
  rotate_left
  focus
    intro w hSw
    clear hSw
    go_simp
    try with_reducible rfl
  try simp only [Act.put, List.getElem_toArray, List.getElem_cons_zero, List.getElem_cons_succ, List.setIfInBounds_toArray, List.set_cons_zero, List.set_cons_succ]
  refine wpAnyH_take (i := 5) rfl (by kernel_rfl) (by kernel_rfl) (by kernel_rfl) (fun _ _ _ h => h) (yieldsIf_load_mid (by rfl) 67 _ rfl w.heap.size (0) rfl [.int .i64 id, .int .i64 tenant, .bool sell, .int .i64 price, .int .i64 lots, .int .i64 came2] _ (fun w h => h) Tryd.underlying67 rfl size_ord) hHeld ?_
  try simp only [Act.put, List.getElem_toArray, List.getElem_cons_zero, List.getElem_cons_succ, List.setIfInBounds_toArray, List.set_cons_zero, List.set_cons_succ]
  refine wpAnyH_ready (rs := [3, 6]) (by kernel_rfl) (by simp) ?_
  refine AllReadyH.cons rfl (fun K hK => ?_) (AllReadyH.cons rfl (fun K hK => ?_) AllReadyH.nil)
  · go_simp
    refine hK.out _ _ rX (fun hHeld => ?_)
    clear hK K
    try simp only [Act.put, List.getElem_toArray, List.getElem_cons_zero, List.getElem_cons_succ, List.setIfInBounds_toArray, List.set_cons_zero, List.set_cons_succ]
    refine wpAnyH_ready (rs := [6]) (by kernel_rfl) (by simp) ?_
    refine AllReadyH.cons rfl (fun K hK => ?_) AllReadyH.nil
    go_simp
    have gq : (W7.drew.alloc (.cells #[.int .i64 id, .int .i64 tenant, .bool sell, .int .i64 price, .int .i64 lots, .int .i64 came2] 67)).cell? ⟨q, offS sell, none⟩ = some (.slice A n c) := Lib.cell?_alloc_some (W := W7.drew) (.cells #[.int .i64 id, .int .i64 tenant, .bool sell, .int .i64 price, .int .i64 lots, .int .i64 came2] 67) gq
    have rX : (W7.drew.alloc (.cells #[.int .i64 id, .int .i64 tenant, .bool sell, .int .i64 price, .int .i64 lots, .int .i64 came2] 67)).rangeAt w.heap.size 0 [.int .i64 id, .int .i64 tenant, .bool sell, .int .i64 price, .int .i64 lots, .int .i64 came2] := World.rangeAt_alloc (w := W7.drew) rX (.cells #[.int .i64 id, .int .i64 tenant, .bool sell, .int .i64 price, .int .i64 lots, .int .i64 came2] 67)
    have gq' : (W7.alloc (.cells #[.int .i64 id, .int .i64 tenant, .bool sell, .int .i64 price, .int .i64 lots, .int .i64 came2] 67)).cell? ⟨q, offS sell, none⟩ = some (.slice A n c) := gq
    have hW7 : W4.heap.size ≤ W7.heap.size := HB7.out.size
    have HB8 : Hid (Below W4.heap.size W4 (W7.drew.alloc (.cells #[.int .i64 id, .int .i64 tenant, .bool sell, .int .i64 price, .int .i64 lots, .int .i64 came2] 67))) := HB7.out.drew.alloc hW7 _
    have HNW : Hid ((W7.drew.alloc (.cells #[.int .i64 id, .int .i64 tenant, .bool sell, .int .i64 price, .int .i64 lots, .int .i64 came2] 67)).heap[W7.heap.size]? = some (.cells #[.int .i64 id, .int .i64 tenant, .bool sell, .int .i64 price, .int .i64 lots, .int .i64 came2] 67 (0, 0))) := heap_alloc_new W7.drew _
    refine hK.out _ _ rX (fun hHeld => ?_)
    clear hK K
    try simp only [Act.put, List.getElem_toArray, List.getElem_cons_zero, List.getElem_cons_succ, List.setIfInBounds_toArray, List.set_cons_zero, List.set_cons_succ]
    refine wpAnyH_ready (rs := [7]) (by kernel_rfl) (by simp) ?_
    refine AllReadyH.cons rfl (fun K hK => ?_) AllReadyH.nil
    go_simp
    refine (HINS.out _ W7.heap.size HB8.out HNW.out hW7).mono ?_
    rintro e W8 ⟨v8, rfl, hown8, hg8, hlie8⟩
    obtain ⟨a8, c8, rfl⟩ := own_len hown8
    have rX := rangeAt_grown rX hg8 HXN.out
    have gq8 := hg8.cell gq HQN.out
    have fq8 : W8.frozen? ⟨q, offS sell, none⟩ = false := (hg8.frozen_far ⟨q, offS sell, none⟩ (Nat.lt_of_lt_of_le HQ6.out HB8.out.size) HQN.out).trans ((HST.out.out.below HB8.out).blk.free (offS sell))
    have HFIN := Lib.hid (HEND.out _ HB8.out _ _ hown8 hg8 hlie8)
    clear hown8 hg8 hlie8
    refine hK.out _ _ rX (fun hHeld => ?_)
    clear hK K
    try simp only [Act.put, List.getElem_toArray, List.getElem_cons_zero, List.getElem_cons_succ, List.setIfInBounds_toArray, List.set_cons_zero, List.set_cons_succ]
    refine wpAnyH_take (i := 8) (v := ?_) rfl (by kernel_rfl) (by kernel_rfl) (by kernel_rfl) (fun _ _ _ h => h) (Or.inl ⟨by rfl, ?_⟩) hHeld ?_
    rotate_left
    focus
      intro w hSw
      clear hSw
      go_simp
      try with_reducible rfl
    try simp only [Act.put, List.getElem_toArray, List.getElem_cons_zero, List.getElem_cons_succ, List.setIfInBounds_toArray, List.set_cons_zero, List.set_cons_succ]
    refine wpAnyH_ready (rs := [9]) (by kernel_rfl) (by simp) ?_
    refine AllReadyH.cons rfl (fun K hK => ?_) AllReadyH.nil
    go_simp
    refine hK.out _ _ (fun j u hj => (World.cell?_setCell_far _ _ _ _ HQX2.out).trans (rX j u hj)) (fun hHeld => ?_)
    clear hK K
    try simp only [Act.put, List.getElem_toArray, List.getElem_cons_zero, List.getElem_cons_succ, List.setIfInBounds_toArray, List.set_cons_zero, List.set_cons_succ]
    refine wpAnyH_done (by kernel_rfl) ?_ _
    refine NoPanic.normal ?_
    go_wp2_with fail
    go_ret
    exact ⟨rfl, _, HFIN.out⟩
  · go_simp
    have gq : (W7.drew.alloc (.cells #[.int .i64 id, .int .i64 tenant, .bool sell, .int .i64 price, .int .i64 lots, .int .i64 came2] 67)).cell? ⟨q, offS sell, none⟩ = some (.slice A n c) := Lib.cell?_alloc_some (W := W7.drew) (.cells #[.int .i64 id, .int .i64 tenant, .bool sell, .int .i64 price, .int .i64 lots, .int .i64 came2] 67) gq
    have rX : (W7.drew.alloc (.cells #[.int .i64 id, .int .i64 tenant, .bool sell, .int .i64 price, .int .i64 lots, .int .i64 came2] 67)).rangeAt w.heap.size 0 [.int .i64 id, .int .i64 tenant, .bool sell, .int .i64 price, .int .i64 lots, .int .i64 came2] := World.rangeAt_alloc (w := W7.drew) rX (.cells #[.int .i64 id, .int .i64 tenant, .bool sell, .int .i64 price, .int .i64 lots, .int .i64 came2] 67)
    have gq' : (W7.alloc (.cells #[.int .i64 id, .int .i64 tenant, .bool sell, .int .i64 price, .int .i64 lots, .int .i64 came2] 67)).cell? ⟨q, offS sell, none⟩ = some (.slice A n c) := gq
    have hW7 : W4.heap.size ≤ W7.heap.size := HB7.out.size
    have HB8 : Hid (Below W4.heap.size W4 (W7.drew.alloc (.cells #[.int .i64 id, .int .i64 tenant, .bool sell, .int .i64 price, .int .i64 lots, .int .i64 came2] 67))) := HB7.out.drew.alloc hW7 _
    have HNW : Hid ((W7.drew.alloc (.cells #[.int .i64 id, .int .i64 tenant, .bool sell, .int .i64 price, .int .i64 lots, .int .i64 came2] 67)).heap[W7.heap.size]? = some (.cells #[.int .i64 id, .int .i64 tenant, .bool sell, .int .i64 price, .int .i64 lots, .int .i64 came2] 67 (0, 0))) := heap_alloc_new W7.drew _
    refine hK.out _ _ rX (fun hHeld => ?_)
    clear hK K
    try simp only [Act.put, List.getElem_toArray, List.getElem_cons_zero, List.getElem_cons_succ, List.setIfInBounds_toArray, List.set_cons_zero, List.set_cons_succ]
    refine wpAnyH_ready (rs := [3]) (by kernel_rfl) (by simp) ?_
    refine AllReadyH.cons rfl (fun K hK => ?_) AllReadyH.nil
    go_simp
    refine hK.out _ _ rX (fun hHeld => ?_)
    clear hK K
    try simp only [Act.put, List.getElem_toArray, List.getElem_cons_zero, List.getElem_cons_succ, List.setIfInBounds_toArray, List.set_cons_zero, List.set_cons_succ]
    refine wpAnyH_ready (rs := [7]) (by kernel_rfl) (by simp) ?_
    refine AllReadyH.cons rfl (fun K hK => ?_) AllReadyH.nil
    go_simp
    refine (HINS.out _ W7.heap.size HB8.out HNW.out hW7).mono ?_
    rintro e W8 ⟨v8, rfl, hown8, hg8, hlie8⟩
    obtain ⟨a8, c8, rfl⟩ := own_len hown8
    have rX := rangeAt_grown rX hg8 HXN.out
    have gq8 := hg8.cell gq HQN.out
    have fq8 : W8.frozen? ⟨q, offS sell, none⟩ = false := (hg8.frozen_far ⟨q, offS sell, none⟩ (Nat.lt_of_lt_of_le HQ6.out HB8.out.size) HQN.out).trans ((HST.out.out.below HB8.out).blk.free (offS sell))
    have HFIN := Lib.hid (HEND.out _ HB8.out _ _ hown8 hg8 hlie8)
    clear hown8 hg8 hlie8
    refine hK.out _ _ rX (fun hHeld => ?_)
    clear hK K
    try simp only [Act.put, List.getElem_toArray, List.getElem_cons_zero, List.getElem_cons_succ, List.setIfInBounds_toArray, List.set_cons_zero, List.set_cons_succ]
    refine wpAnyH_take (i := 8) (v := ?_) rfl (by kernel_rfl) (by kernel_rfl) (by kernel_rfl) (fun _ _ _ h => h) (Or.inl ⟨by rfl, ?_⟩) hHeld ?_
    rotate_left
    focus
      intro w hSw
      clear hSw
      go_simp
      try with_reducible rfl
    try simp only [Act.put, List.getElem_toArray, List.getElem_cons_zero, List.getElem_cons_succ, List.setIfInBounds_toArray, List.set_cons_zero, List.set_cons_succ]
    refine wpAnyH_ready (rs := [9]) (by kernel_rfl) (by simp) ?_
    refine AllReadyH.cons rfl (fun K hK => ?_) AllReadyH.nil
    go_simp
    refine hK.out _ _ (fun j u hj => (World.cell?_setCell_far _ _ _ _ HQX2.out).trans (rX j u hj)) (fun hHeld => ?_)
    clear hK K
    try simp only [Act.put, List.getElem_toArray, List.getElem_cons_zero, List.getElem_cons_succ, List.setIfInBounds_toArray, List.set_cons_zero, List.set_cons_succ]
    refine wpAnyH_done (by kernel_rfl) ?_ _
    refine NoPanic.normal ?_
    go_wp2_with fail
    go_ret
    exact ⟨rfl, _, HFIN.out⟩
end Go.Proofs.YtdebldpmloignaaDoor
