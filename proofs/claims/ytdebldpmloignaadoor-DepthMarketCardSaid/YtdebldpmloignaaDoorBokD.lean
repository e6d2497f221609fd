/-
  book: Cut.
-/
import Derived.Test.YtdebldpmloignaaDoorBokC
namespace Go.Proofs.YtdebldpmloignaaDoor
open Go.RowKit
set_option linter.unusedVariables false
set_option linter.unusedSimpArgs false

theorem own_setLots {w : World} {base g n cap i : Nat} {xs : List Ord} {x : Ord} (z : Int) (h : w.ownsRow base 67 6 (.slice (some ⟨g, 0, none⟩) n cap) n (flatOf Ord.cells xs)) (hl : xs.length = n) (hx : xs[i]? = some x) :
    (w.setCell ⟨g, i * 6 + 4, none⟩ (.int .i64 z)).ownsRow base 67 6 (.slice (some ⟨g, 0, none⟩) n cap) n (flatOf Ord.cells (xs.set i { x with lots := z })) := by
  have hi : i < xs.length := (List.getElem?_eq_some_iff.1 hx).1
  obtain ⟨g', cap', cur, hv, hnc, hcm, hbg, hblk, hcs, hrows⟩ := own_rows' Ord.k6 h hl (by omega)
  cases hv
  have hb2 : (w.setCell ⟨g, i * 6 + 4, none⟩ (.int .i64 z)).heap[g]? = some (.cells (cur.setIfInBounds (i * 6 + 4) (.int .i64 z)) 67 (0, 0)) := Blk.set (w := w) (cs := cur) hblk (i * 6 + 4) (.int .i64 z)
  refine own_of_rows Ord.k6 (by decide) hbg hb2 (by simp [hcs]) hnc hcm (by rw [List.length_set, hl]) ?_
  intro t u hu j val hj
  have hjl : j < 6 := by have := (List.getElem?_eq_some_iff.1 hj).1; rwa [Ord.k6] at this
  rw [Nat.zero_add, cell_of_row _ g (t * 6 + j) _ 67 (0, 0) hb2]
  by_cases ht : t = i
  · subst ht
    rw [List.getElem?_set_self hi] at hu
    cases hu
    have ho := hrows t x hx
    match j, hjl, hj with
    | 4, _, hj =>
      have hj' : Value.int .i64 z = val := by simpa [Ord.cells] using hj
      subst hj'
      rw [Array.getElem?_setIfInBounds_self]
      have hsz : t * 6 + 4 < cur.size := by omega
      simp [hsz]
    | 0, _, hj => exact (by
        rw [Array.getElem?_setIfInBounds_ne (by omega)]
        have := ho 0 val hj
        rwa [Nat.zero_add, cell_of_row w g (t * 6 + 0) cur 67 (0, 0) hblk] at this)
    | 1, _, hj => exact (by
        rw [Array.getElem?_setIfInBounds_ne (by omega)]
        have := ho 1 val hj
        rwa [Nat.zero_add, cell_of_row w g (t * 6 + 1) cur 67 (0, 0) hblk] at this)
    | 2, _, hj => exact (by
        rw [Array.getElem?_setIfInBounds_ne (by omega)]
        have := ho 2 val hj
        rwa [Nat.zero_add, cell_of_row w g (t * 6 + 2) cur 67 (0, 0) hblk] at this)
    | 3, _, hj => exact (by
        rw [Array.getElem?_setIfInBounds_ne (by omega)]
        have := ho 3 val hj
        rwa [Nat.zero_add, cell_of_row w g (t * 6 + 3) cur 67 (0, 0) hblk] at this)
    | 5, _, hj => exact (by
        rw [Array.getElem?_setIfInBounds_ne (by omega)]
        have := ho 5 val hj
        rwa [Nat.zero_add, cell_of_row w g (t * 6 + 5) cur 67 (0, 0) hblk] at this)
  · rw [List.getElem?_set_ne (by omega)] at hu
    rw [Array.getElem?_setIfInBounds_ne (by omega)]
    have := hrows t u hu j val hj
    rwa [Nat.zero_add, cell_of_row w g (t * 6 + j) cur 67 (0, 0) hblk] at this
theorem BV.setLots {w : World} {B q g n cap i : Nat} {l : Bool → List Ord} {v : Bool → Value} {came : Nat} {s : Bool} {x : Ord} (z : Int) (h : BV w B q l v came) (hv : v s = .slice (some ⟨g, 0, none⟩) n cap) (hx : (l s)[i]? = some x) :
    BS w (w.setCell ⟨g, i * 6 + 4, none⟩ (.int .i64 z)) B q v (updL l s ((l s).set i { x with lots := z })) v came := by
  have hob : (v s).ownBlock = some g := by rw [hv]; rfl
  have hset : Turns (fun k => k = g) w (w.setCell ⟨g, i * 6 + 4, none⟩ (.int .i64 z)) := Turns.set (F := fun k => k = g) rfl
  have hgq : g ≠ q := fun e => h.notq s (by rw [hob, e])
  have hlen : (l s).length = n := by
    have := (h.form s).1
    rw [hv] at this
    exact (Value.slice.inj this).2.1.symm
  refine ⟨⟨h.low, hset.blk h.blk (fun e => hgq e.symm), ?_, h.notq, h.apart⟩, hset.mono (fun k _ hk => .inr ⟨s, by rw [hk]; exact hob⟩), fun t g hg => .inl ⟨t, hg⟩⟩
  intro t
  by_cases e : t = s
  · subst e
    rw [updL_same, List.length_set, hv, hlen]
    have h2 := h.row t
    rw [hv, hlen] at h2
    exact own_setLots z h2 hlen hx
  · rw [updL_other _ _ _ _ e]
    refine hset.owns (h.row t) (fun g2 hg2 e2 => ?_)
    subst e2
    cases t <;> cases s
    · exact e rfl
    · rcases h.apart with e3 | e3
      · rw [hob] at e3; cases e3
      · exact e3 (by rw [hob, hg2])
    · rcases h.apart with e3 | e3
      · rw [hg2] at e3; cases e3
      · exact e3 (by rw [hg2, hob])
    · exact e rfl
/-- Why lots can't be cut: a kind of error; 0: they can. -/
def cutK (l : Bool → List Ord) (id k : Int) : Nat := match getO l id with
  | none => 5
  | some x => if k < 1 ∨ x.lots < k then 1 else 0
theorem getO_of {l : Bool → List Ord} {id : Int} {s : Bool} {i : Nat} {x : Ord} (hf : fnd l id = some (s, i)) (hx : (l s)[i]? = some x) : getO l id = some x := by
  unfold getO; rw [hf]; exact hx
set_option maxRecDepth 100000 in
set_option maxHeartbeats 1000000 in
theorem cut_none (E : Nat → Addr) (B q : Nat) (l : Bool → List Ord) (v : Bool → Value) (came : Nat) (id k : Int) (w : World) (h : Hid (BV w B q l v came)) (hE : Hid (EnvK w E)) (hN : ∀ s, (l s).length ≤ 1000000) (hf : fnd l id = none) :
    Calls Tryd.prog 44 #[.pointer (some ⟨q, 0, none⟩), .int .i64 id, .int .i64 k] w fun e w' => e = .returned (erV E 5) ∧ Below w.heap.size w w' := by
  have HF := Lib.hid (find_c B q l v came id w h hN)
  rw [hf] at HF
  rw [erV_some E 5 (by decide)]
  have HENV := Lib.hid (fun (w1 : World) (hb : Below w.heap.size w w1) => hE.out.below hb)
  clear hf h hE hN
  go_enter Tryd.func44, Tryd.ntmps44
  go_wp2_with fail
  refine HF.out.mono ?_
  rintro e w1 ⟨rfl, hb1⟩
  have HB1 := Lib.hid hb1
  have ce : w1.cell? ⟨6, 0, none⟩ = some (.iface 202 (.pointer (some (E 5)))) := by rw [← erV_some E 5 (by decide)]; exact HENV.out w1 HB1.out 5 (by decide) (by decide)
  clear hb1
  unfold fndV
  go_wp2_with fail
  go_ret
  exact ⟨rfl, HB1.out⟩
set_option maxRecDepth 100000 in
set_option maxHeartbeats 1000000 in
theorem cut_arg (E : Nat → Addr) (B q : Nat) (l : Bool → List Ord) (v : Bool → Value) (came : Nat) (id k : Int) (s : Bool) (i : Nat) (x : Ord) (w : World) (h : Hid (BV w B q l v came)) (hE : Hid (EnvK w E)) (hN : ∀ s, (l s).length ≤ 1000000) (hf : fnd l id = some (s, i)) (hx : (l s)[i]? = some x) (hk : k < 1 ∨ x.lots < k) :
    Calls Tryd.prog 44 #[.pointer (some ⟨q, 0, none⟩), .int .i64 id, .int .i64 k] w fun e w' => e = .returned (erV E 1) ∧ Below w.heap.size w w' := by
  have hin : i < (l s).length := (List.getElem?_eq_some_iff.1 hx).1
  obtain ⟨g, cap, cur, hv, hnc, hcm, hbg, hblk, hcs, hrows⟩ := own_rows' Ord.k6 (h.out.row s) rfl (by omega)
  have r0 : w.rangeAt g (i * 6) x.cells := by
    have := hrows i x hx
    rwa [Nat.zero_add] at this
  have cl0 : w.cell? ⟨g, i * 6 + 4, none⟩ = some (.int .i64 x.lots) := r0 4 _ rfl
  have gq0 : w.cell? ⟨q, offS s, none⟩ = some (.slice (some ⟨g, 0, none⟩) (l s).length cap) := by rw [← hv]; exact h.out.cell s
  have hqlt := h.out.lt
  have hglt : g < w.heap.size := (Array.getElem?_eq_some_iff.1 hblk).1
  have hgq : ¬ g = q := fun e => h.out.notq s (by rw [hv, ← e]; rfl)
  have hqg : ¬ q = g := fun e => hgq e.symm
  have HF := Lib.hid (find_c B q l v came id w h hN)
  rw [hf] at HF
  have hin' : (i : Int) < ((l s).length : Int) := by omega
  have hil : (i : Int) ≤ 1000000 := by have := hN s; omega
  rw [erV_some E 1 (by decide)]
  have HENV := Lib.hid (fun (w1 : World) (hb : Below w.heap.size w w1) => hE.out.below hb)
  have HCL := Lib.hid cl0
  have HGQ := Lib.hid gq0
  obtain ⟨xl, hxl⟩ : ∃ z, z = x.lots := ⟨_, rfl⟩
  rw [← hxl] at HCL hk
  generalize (l s).length = n at *
  have hway : (decide (k < 1) = true) ∨ (decide (k < 1) = false ∧ decide (xl < k) = true) := by
    by_cases h1 : k < 1
    · exact .inl (decide_eq_true h1)
    · exact .inr ⟨decide_eq_false h1, decide_eq_true (by omega)⟩
  have HGL := Lib.hid hglt
  have HQL := Lib.hid hqlt
  clear hf hx hk h hE hN hrows hblk hcs hbg hcm hnc hv r0 cl0 gq0 hxl hglt hqlt
  rcases hway with d1 | ⟨d1, d2⟩
  all_goals
    go_enter Tryd.func44, Tryd.ntmps44
    go_wp2_with fail
    refine HF.out.mono ?_
    rintro e w1 ⟨rfl, hb1⟩
    have HB1 := Lib.hid hb1
    have gq := (hb1.cell (p := ⟨q, offS s, none⟩) HQL.out).trans HGQ.out
    have cl := (hb1.cell (p := ⟨g, i * 6 + 4, none⟩) HGL.out).trans HCL.out
    have ce : w1.cell? ⟨2, 0, none⟩ = some (.iface 202 (.pointer (some (E 1)))) := by rw [← erV_some E 1 (by decide)]; exact HENV.out w1 HB1.out 1 (by decide) (by decide)
    clear hb1
    unfold fndV
    go_wp2_with fail
    go_ret
    exact ⟨rfl, HB1.out⟩
def CutQ (w : World) (B q : Nat) (v : Bool → Value) (l' : Bool → List Ord) (came : Nat) (e : Ending) (w' : World) : Prop := e = .returned .nilIface ∧ ∃ v', BS w w' B q v l' v' came
set_option maxRecDepth 100000 in
set_option maxHeartbeats 1000000 in
theorem cut_part (B q : Nat) (l : Bool → List Ord) (v : Bool → Value) (came : Nat) (id k : Int) (s : Bool) (i : Nat) (x : Ord) (w : World) (h : Hid (BV w B q l v came)) (hN : ∀ s, (l s).length ≤ 1000000) (hf : fnd l id = some (s, i)) (hx : (l s)[i]? = some x) (hk1 : 1 ≤ k) (hk2 : k < x.lots) (hk3 : x.lots ≤ 1000000) :
    Calls Tryd.prog 44 #[.pointer (some ⟨q, 0, none⟩), .int .i64 id, .int .i64 k] w (CutQ w B q v (updL l s ((l s).set i { x with lots := x.lots - k })) came) := by
  have hin : i < (l s).length := (List.getElem?_eq_some_iff.1 hx).1
  obtain ⟨g, cap, cur, hv, hnc, hcm, hbg, hblk, hcs, hrows⟩ := own_rows' Ord.k6 (h.out.row s) rfl (by omega)
  have r0 : w.rangeAt g (i * 6) x.cells := by
    have := hrows i x hx
    rwa [Nat.zero_add] at this
  have cl0 : w.cell? ⟨g, i * 6 + 4, none⟩ = some (.int .i64 x.lots) := r0 4 _ rfl
  have gq0 : w.cell? ⟨q, offS s, none⟩ = some (.slice (some ⟨g, 0, none⟩) (l s).length cap) := by rw [← hv]; exact h.out.cell s
  have hqlt := h.out.lt
  have hglt : g < w.heap.size := (Array.getElem?_eq_some_iff.1 hblk).1
  have hgq : ¬ g = q := fun e => h.out.notq s (by rw [hv, ← e]; rfl)
  have hqg : ¬ q = g := fun e => hgq e.symm
  have HF := Lib.hid (find_c B q l v came id w h hN)
  rw [hf] at HF
  have hin' : (i : Int) < ((l s).length : Int) := by omega
  have hil : (i : Int) ≤ 1000000 := by have := hN s; omega
  have HEND := Lib.hid (fun (w1 : World) (hb : Below w.heap.size w w1) => (show BS w (w1.setCell ⟨g, i * 6 + 4, none⟩ (.int .i64 (x.lots - k))) B q v (updL l s ((l s).set i { x with lots := x.lots - k })) v came from (BS.ofBelow h.out hb).trans ((h.out.below hb).setLots (x.lots - k) hv hx)))
  have HFR := Lib.hid (fun (w1 : World) (hb : Below w.heap.size w w1) => (show w1.frozen? ⟨g, i * 6 + 4, none⟩ = false from Blk.free (w := w1) ((hb.block g hglt).trans hblk) (i * 6 + 4)))
  have HCL := Lib.hid cl0
  have HGQ := Lib.hid gq0
  obtain ⟨LR, hLR⟩ : ∃ LR, LR = updL l s ((l s).set i { x with lots := x.lots - k }) := ⟨_, rfl⟩
  rw [← hLR] at HEND ⊢
  obtain ⟨xl, hxl⟩ : ∃ z, z = x.lots := ⟨_, rfl⟩
  rw [← hxl] at HCL hk2 hk3 HEND
  generalize (l s).length = n at *
  have d1 : decide (k < 1) = false := decide_eq_false (by omega)
  have d2 : decide (xl < k) = false := decide_eq_false (by omega)
  have d3 : ((xl - k) == 0) = false := beq_eq_false_iff_ne.2 (by omega)
  have d4 : ¬ (xl - k = 0) := by omega
  have HGL := Lib.hid hglt
  have HQL := Lib.hid hqlt
  clear hf hx h hN hrows hblk hcs hbg hcm hnc hv r0 cl0 gq0 hxl hglt hqlt hLR
  go_enter Tryd.func44, Tryd.ntmps44
  go_wp2_with fail
  refine HF.out.mono ?_
  rintro e w1 ⟨rfl, hb1⟩
  have HB1 := Lib.hid hb1
  have gq := (hb1.cell (p := ⟨q, offS s, none⟩) HQL.out).trans HGQ.out
  have cl := (hb1.cell (p := ⟨g, i * 6 + 4, none⟩) HGL.out).trans HCL.out
  have fl := HFR.out w1 hb1
  clear hb1
  unfold fndV
  go_wp2_with fail
  go_ret
  exact ⟨rfl, _, HEND.out _ HB1.out⟩
set_option maxRecDepth 100000 in
set_option maxHeartbeats 1000000 in
theorem cut_gone (B q : Nat) (l : Bool → List Ord) (v : Bool → Value) (came : Nat) (id k : Int) (s : Bool) (i : Nat) (x : Ord) (w : World) (h : Hid (BV w B q l v came)) (hN : ∀ s, (l s).length ≤ 1000000) (hf : fnd l id = some (s, i)) (hx : (l s)[i]? = some x) (hk1 : 1 ≤ k) (hk2 : k = x.lots) (hk3 : x.lots ≤ 1000000) :
    Calls Tryd.prog 44 #[.pointer (some ⟨q, 0, none⟩), .int .i64 id, .int .i64 k] w (CutQ w B q v (updL l s ((l s).eraseIdx i)) came) := by
  have hin : i < (l s).length := (List.getElem?_eq_some_iff.1 hx).1
  obtain ⟨g, cap, cur, hv, hnc, hcm, hbg, hblk, hcs, hrows⟩ := own_rows' Ord.k6 (h.out.row s) rfl (by omega)
  have r0 : w.rangeAt g (i * 6) x.cells := by
    have := hrows i x hx
    rwa [Nat.zero_add] at this
  have cl0 : w.cell? ⟨g, i * 6 + 4, none⟩ = some (.int .i64 x.lots) := r0 4 _ rfl
  have gq0 : w.cell? ⟨q, offS s, none⟩ = some (.slice (some ⟨g, 0, none⟩) (l s).length cap) := by rw [← hv]; exact h.out.cell s
  have hqlt := h.out.lt
  have hglt : g < w.heap.size := (Array.getElem?_eq_some_iff.1 hblk).1
  have hgq : ¬ g = q := fun e => h.out.notq s (by rw [hv, ← e]; rfl)
  have hqg : ¬ q = g := fun e => hgq e.symm
  have HF := Lib.hid (find_c B q l v came id w h hN)
  rw [hf] at HF
  have hin' : (i : Int) < ((l s).length : Int) := by omega
  have hil : (i : Int) ≤ 1000000 := by have := hN s; omega
  have HST := Lib.hid (fun (w1 : World) (hb : Below w.heap.size w w1) => (show BS w (w1.setCell ⟨g, i * 6 + 4, none⟩ (.int .i64 0)) B q v (updL l s ((l s).set i { x with lots := 0 })) v came from (BS.ofBelow h.out hb).trans ((h.out.below hb).setLots 0 hv hx)))
  have HFR := Lib.hid (fun (w1 : World) (hb : Below w.heap.size w w1) => (show w1.frozen? ⟨g, i * 6 + 4, none⟩ = false from Blk.free (w := w1) ((hb.block g hglt).trans hblk) (i * 6 + 4)))
  have HDEL : Hid (∀ w1, Below w.heap.size w w1 → Calls Tryd.prog 87 #[.slice (some ⟨g, 0, none⟩) (l s).length cap, .int .i64 i, .int .i64 ((i : Int) + 1)] (w1.setCell ⟨g, i * 6 + 4, none⟩ (.int .i64 0)) fun e w' => ∃ a c, e = .returned (.slice a ((l s).length - 1) c) ∧ BS w (w'.setCell ⟨q, offS s, none⟩ (.slice a ((l s).length - 1) c)) B q v (updL l s ((l s).eraseIdx i)) (updV v s (.slice a ((l s).length - 1) c)) came ∧ w'.frozen? ⟨q, offS s, none⟩ = false ∧ w'.cell? ⟨q, offS s, none⟩ = some (.slice (some ⟨g, 0, none⟩) (l s).length cap)) := fun w1 hb => by
    have hst := HST.out w1 hb
    have hrow := hst.out.row s
    rw [updL_same, List.length_set, hv] at hrow
    refine (delete_ord B (.slice (some ⟨g, 0, none⟩) (l s).length cap) (l s).length i ((l s).set i { x with lots := 0 }) _ (List.length_set ..) hrow hin).mono ?_
    rintro e w' ⟨v', rfl, ho, hg, hob⟩
    obtain ⟨a, c, rfl⟩ := own_len ho
    have e1 : ((l s).set i { x with lots := 0 }).eraseIdx i = (l s).eraseIdx i := by
      rw [List.eraseIdx_eq_take_drop_succ, List.eraseIdx_eq_take_drop_succ, List.take_set_of_le (Nat.le_refl i), List.drop_set_of_lt (Nat.lt_succ_self i)]
    rw [e1] at ho
    have e2 : ((l s).eraseIdx i).length = (l s).length - 1 := List.length_eraseIdx_of_lt hin
    have hp := hst.out.put (s := s) (x := (l s).eraseIdx i) (w1 := w') (v1 := .slice a ((l s).length - 1) c) (by rw [hv]; exact hg) (by rw [e2]; exact ho) (.inl (by rw [hob, hv]))
    have e3 : updL (updL l s ((l s).set i { x with lots := 0 })) s ((l s).eraseIdx i) = updL l s ((l s).eraseIdx i) := by
      funext t
      unfold updL
      by_cases e : t = s <;> simp [e]
    rw [e3] at hp
    have hbk : w'.heap[q]? = (w1.setCell ⟨g, i * 6 + 4, none⟩ (.int .i64 0)).heap[q]? := hg.block q hst.out.lt (by
      intro e
      exact hqg (by have : some q = some g := e; cases this; rfl))
    refine ⟨a, c, rfl, hst.trans hp, ?_, ?_⟩
    · rw [World.frozen?_of_block (w := w1.setCell ⟨g, i * 6 + 4, none⟩ (.int .i64 0)) (a := ⟨q, offS s, none⟩) hbk]
      exact hst.out.blk.free (offS s)
    · rw [World.cell?_of_block (w := w1.setCell ⟨g, i * 6 + 4, none⟩ (.int .i64 0)) (a := ⟨q, offS s, none⟩) hbk, ← hv]
      exact hst.out.cell s
  have HCL := Lib.hid cl0
  have HGQ := Lib.hid gq0
  obtain ⟨LR, hLR⟩ : ∃ LR, LR = updL l s ((l s).eraseIdx i) := ⟨_, rfl⟩
  rw [← hLR] at HDEL ⊢
  rw [← hk2] at HCL hk3
  generalize (l s).length = n at *
  have d1 : decide (k < 1) = false := decide_eq_false (by omega)
  have HGL := Lib.hid hglt
  have HQL := Lib.hid hqlt
  clear hf hx h hN hrows hblk hcs hbg hcm hnc hv r0 cl0 gq0 hk2 hglt hqlt hLR HST
  go_enter Tryd.func44, Tryd.ntmps44
  go_wp2_with fail
  refine HF.out.mono ?_
  rintro e w1 ⟨rfl, hb1⟩
  have HB1 := Lib.hid hb1
  have gq := (hb1.cell (p := ⟨q, offS s, none⟩) HQL.out).trans HGQ.out
  have cl := (hb1.cell (p := ⟨g, i * 6 + 4, none⟩) HGL.out).trans HCL.out
  have fl := HFR.out w1 hb1
  clear hb1
  unfold fndV
  go_wp2_with fail
  refine (HDEL.out w1 HB1.out).mono ?_
  rintro e w2 ⟨a, c, rfl, hbs, fq2, gq2⟩
  have HFIN := Lib.hid hbs
  clear hbs
  go_wp2_with fail
  go_ret
  exact ⟨rfl, _, HFIN.out⟩
end Go.Proofs.YtdebldpmloignaaDoor
