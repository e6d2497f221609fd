/-
  depth: Range, isSide, Cost by contract.
-/
import Derived.Test.YtdebldpmloignaaDoorDepAB
import Derived.Test.YtdebldpmloignaaDoorBokC
namespace Go.Proofs.YtdebldpmloignaaDoor
open Go.RowKit
set_option linter.unusedVariables false
set_option linter.unusedSimpArgs false


def foldTo {α β : Type} (f : β → α → β) (s : β) (xs : List α) (k : Nat) : β := (xs.take k).foldl f s
theorem foldTo_zero {α β : Type} (f : β → α → β) (s : β) (xs : List α) : foldTo f s xs 0 = s := by simp [foldTo]
theorem foldTo_succ {α β : Type} (f : β → α → β) (s : β) (xs : List α) (k : Nat) (x : α) (h : xs[k]? = some x) : foldTo f s xs (k + 1) = f (foldTo f s xs k) x := by
  unfold foldTo
  rw [List.take_add_one, h]
  simp
theorem foldTo_all {α β : Type} (f : β → α → β) (s : β) (xs : List α) : foldTo f s xs xs.length = xs.foldl f s := by simp [foldTo]
theorem results_tmp4 {fn : Func} {t u v x : Tmp} (h : fn.results = #[.tmp t, .tmp u, .tmp v, .tmp x]) (tmps : Array Value) (P : Program) (w : World) :
    (results fn tmps).run P w = .ok (.tuple #[tmps.getD t undef, tmps.getD u undef, tmps.getD v undef, tmps.getD x undef]) w := by
  simp [results, h]
def loStep (a : Int) (f : Fill) : Int := if f.price < a then f.price else a
def hiStep (a : Int) (f : Fill) : Int := if a < f.price then f.price else a
theorem min_lo (a : Int) (f : Fill) : min a f.price = loStep a f := by unfold loStep; split <;> omega
theorem max_hi (a : Int) (f : Fill) : max a f.price = hiStep a f := by unfold hiStep; split <;> omega
def rangeF (l : List Fill) : Int × Int := match l with | [] => (0, 0) | f :: r => ((f :: r).foldl loStep f.price, (f :: r).foldl hiStep f.price)
set_option maxRecDepth 100000 in
set_option maxHeartbeats 1000000 in
theorem range_c (A : Option Addr) (n c : Nat) (xs : List Fill) (w : World) (hA : A = Option.none → n = 0) (hr : Hid (RdRows w w.heap.size Fill.cells 6 A n xs)) (hn : n ≤ maxLen) :
    Calls Tryd.prog 71 #[.slice A n c] w fun e w' => e = .returned (.tuple #[.int .i64 (rangeF (keptF xs)).1, .int .i64 (rangeF (keptF xs)).2]) ∧ Below w.heap.size w w' := by
  obtain ⟨hk1, hk2⟩ := okF_kept (xs := xs)
  have HG : Hid (goodF xs = false → keptF xs = []) := fun h => by simp [keptF, h]
  have hsc := sold_c A n c xs w hA hr hn
  have HS := Lib.hid hsc
  clear hsc
  generalize goodF xs = gg at HS HG
  generalize keptF xs = l at HS HG hk1 hk2 ⊢
  cases l with
  | nil =>
    cases gg <;> (
      go_enter Tryd.func71, Tryd.ntmps71
      go_wp2_with fail
      refine HS.out.mono ?_
      rintro e w1 ⟨v, rfl, ⟨A1, cap1, rfl, hcp, hA1, hrd⟩, hb1⟩
      go_wp2_with fail
      go_ret2
      exact ⟨rfl, hb1⟩)
  | cons f r =>
    obtain rfl : gg = true := by
      cases gg with
      | true => rfl
      | false => exact absurd (HG.out rfl) (by simp)
    have hne : (((f :: r).length : Int) == 0) = false := beq_eq_false_iff_ne.2 (by simp; omega)
    have hlen : 0 < (f :: r).length := by simp
    have hspec : Hid (rangeF (f :: r) = ((f :: r).foldl loStep f.price, (f :: r).foldl hiStep f.price)) := rfl
    have hf1 : Hid (foldTo loStep f.price (f :: r) (f :: r).length = (f :: r).foldl loStep f.price) := foldTo_all _ _ _
    have hf2 : Hid (foldTo hiStep f.price (f :: r) (f :: r).length = (f :: r).foldl hiStep f.price) := foldTo_all _ _ _
    have hx0 : Hid ((f :: r)[0]? = some f) := rfl
    rw [hspec.out, ← hf1.out, ← hf2.out]
    obtain ⟨p0, hp0⟩ : ∃ p0, p0 = f.price := ⟨_, rfl⟩
    rw [← hp0]
    clear hspec hf1 hf2 HG
    have HK1 := Lib.hid hk1
    have HP0 := Lib.hid hp0
    clear hp0 hk2 hk1
    generalize hL : f :: r = l at *
    clear hL
    go_enter Tryd.func71, Tryd.ntmps71
    go_wp2_with fail
    refine HS.out.mono ?_
    rintro e w1 ⟨v, rfl, ⟨A1, cap1, rfl, hcp, hA1, hrd⟩, hb1⟩
    obtain ⟨b, off, rfl, hb, hrows⟩ := hrd.2 (by omega)
    have hc4 : w1.cell? ⟨b, off + 4, none⟩ = some (.int .i64 p0) := by
      have := hrows 0 f hx0.out 4 (.int .i64 f.price) rfl
      rw [HP0.out]
      simpa using this
    have HR := Lib.hid hrows
    have HB1 := Lib.hid hb1
    have hk1 := HK1.out
    clear hrows hrd hb1 hA1 HS
    go_wp2_with fail
    go_quiet (fail)
    clear hc4
    go_wp2_with fail
    go_loopw [5, 6, 8, 31] (fun s5 s6 _ s31 wr => ∃ kk : Nat, kk ≤ l.length ∧ s31 = .int .i64 kk ∧ s5 = .int .i64 (foldTo loStep p0 l kk) ∧ s6 = .int .i64 (foldTo hiStep p0 l kk) ∧ Below w1.heap.size w1 wr) (fun _ _ _ s31 _ => l.length - (intOf s31).toNat)
    case atStart => exact ⟨0, Nat.zero_le _, rfl, by rw [foldTo_zero], by rw [foldTo_zero], ⟨rfl, rfl, rfl, Nat.le_refl _, fun _ _ => rfl⟩⟩
    case round =>
      obtain ⟨kk, hkk, rfl, rfl, rfl, hbl⟩ := hrel
      by_cases hlt : kk < l.length
      · obtain ⟨x, hx⟩ : ∃ x, l[kk]? = some x := ⟨_, List.getElem?_eq_getElem (by omega)⟩
        have r1 := rangeAt_below (HR.out kk x hx) hbl hb
        have hs1 := Lib.hid (foldTo_succ loStep p0 l kk x hx)
        have hs2 := Lib.hid (foldTo_succ hiStep p0 l kk x hx)
        clear hx
        obtain ⟨ask, bid, seller, buyer, price, lots⟩ := x
        generalize foldTo loStep p0 l kk = lo at hs1 ⊢
        generalize foldTo hiStep p0 l kk = hi at hs2 ⊢
        go_wp2_with (refine wpList_load_mid rfl 82 _ rfl b (off + kk * 6) rfl [.int .i64 ask, .int .i64 bid, .int .i64 seller, .int .i64 buyer, .int .i64 price, .int .i64 lots] _ r1 Tryd.underlying82 rfl size_fill ?_)
        go_region
        go_wp2_with fail
        go_roundw
        case rel => exact ⟨kk + 1, by omega, by go_num, by rw [hs1.out]; first | rfl | exact congrArg _ (min_lo lo ⟨ask, bid, seller, buyer, price, lots⟩), by rw [hs2.out]; first | rfl | exact congrArg _ (max_hi hi ⟨ask, bid, seller, buyer, price, lots⟩), below_drew (hbl.alloc hbl.size _)⟩
        case measure => simp [intOf]; omega
      · have hkl : kk = l.length := by omega
        subst hkl
        go_wp2_with fail
        go_ret2
        exact ⟨rfl, HB1.out.trans (hbl.mono HB1.out.size)⟩

/-! ### The reference -/

theorem below_undrew {B : Nat} {w w' : World} (h : Below B w.drew w') : Below B w w' := ⟨h.os, h.tape, h.output, h.size, h.block⟩
def okAt (xs : List Ord) (k : Nat) (x : Ord) : Bool := x.good && (x.sell == (xs.headD x).sell) && (decide (k = 0) || !(if x.sell then decide (x.price < (xs.getD (k - 1) x).price) else decide ((xs.getD (k - 1) x).price < x.price)))
def side (xs : List Ord) : Bool := decide (xs.length ≤ 1000) && (List.range xs.length).all fun k => match xs[k]? with | some x => okAt xs k x | none => true
theorem side_false {xs : List Ord} {k : Nat} {x : Ord} (hx : xs[k]? = some x) (h : okAt xs k x = false) : side xs = false := by
  have hk := (List.getElem?_eq_some_iff.1 hx).1
  unfold side
  rw [Bool.and_eq_false_iff]
  refine .inr (List.all_eq_false.2 ⟨k, by simpa using hk, by simp [hx, h]⟩)
theorem side_all {xs : List Ord} (h : ∀ (k : Nat) (x : Ord), xs[k]? = some x → okAt xs k x = true) : side xs = decide (xs.length ≤ 1000) := by
  unfold side
  have : ((List.range xs.length).all fun k => match xs[k]? with | some x => okAt xs k x | none => true) = true := by
    rw [List.all_eq_true]
    intro k hk
    have hk' : k < xs.length := by simpa using hk
    rw [List.getElem?_eq_getElem hk']
    exact h k _ (List.getElem?_eq_getElem hk')
  rw [this, Bool.and_true]
set_option maxRecDepth 100000 in
set_option maxHeartbeats 2000000 in
theorem isSide_c (A : Option Addr) (n c : Nat) (xs : List Ord) (w : World) (hr : Hid (RdRows w w.heap.size Ord.cells 6 A n xs)) (hn : n ≤ maxLen) :
    Calls Tryd.prog 91 #[.slice A n c] w fun e w' => e = .returned (.bool (side xs)) ∧ Below w.heap.size w w' := by
  have hl := hr.out.1
  go_enter Tryd.func91, Tryd.ntmps91
  go_wp2_with fail
  go_loopw [3, 4, 7] (fun _ _ s7 wr => ∃ kk : Nat, kk ≤ n ∧ s7 = .int .i64 kk ∧ Below w.heap.size w wr ∧ Hid (∀ (j : Nat) (y : Ord), j < kk → xs[j]? = some y → okAt xs j y = true)) (fun _ _ s7 _ => n - (intOf s7).toNat)
  case atStart => exact ⟨0, Nat.zero_le _, rfl, Below.refl _ w, fun j y hj => absurd hj (Nat.not_lt_zero _)⟩
  case round =>
    obtain ⟨kk, hkk, rfl, hbl, hno⟩ := hrel
    have hn63 : n ≤ 9223372036854775807 := hn
    by_cases hlt : kk < n
    · obtain ⟨b, off, rfl, hb, hrows⟩ := hr.out.2 (by omega)
      obtain ⟨x, hx⟩ : ∃ x, xs[kk]? = some x := ⟨_, List.getElem?_eq_getElem (by omega)⟩
      have HX := Lib.hid hx
      have r1 := rangeAt_below (hrows kk x hx) hbl hb
      have hf0 : xs[0]? = some (xs.headD x) := by cases xs with | nil => simp at hl; omega | cons a r => rfl
      have c2 : wr.cell? ⟨b, off + 2, none⟩ = some (.bool (xs.headD x).sell) := by
        have := rangeAt_below (hrows 0 _ hf0) hbl hb 2 (.bool (xs.headD x).sell) rfl
        simpa using this
      have cp : 0 < kk → wr.cell? ⟨b, off + (kk - 1) * 6 + 3, none⟩ = some (.int .i64 (xs.getD (kk - 1) x).price) := fun h => by
        have hp : xs[kk - 1]? = some (xs.getD (kk - 1) x) := by rw [List.getD_eq_getElem?_getD, List.getElem?_eq_getElem (by omega)]; rfl
        exact rangeAt_below (hrows (kk - 1) _ hp) hbl hb 3 _ rfl
      have hok : okAt xs kk x = (x.good && (x.sell == (xs.headD x).sell) && (decide (kk = 0) || !(if x.sell then decide (x.price < (xs.getD (kk - 1) x).price) else decide ((xs.getD (kk - 1) x).price < x.price)))) := rfl
      generalize (xs.headD x).sell = fs at c2 hok
      generalize (xs.getD (kk - 1) x).price = pp at cp hok
      have HOK := Lib.hid hok
      clear hrows hx hok hf0
      obtain ⟨id, tenant, sell, price, lots, seq⟩ := x
      simp only at HOK
      cases hgd : Ord.good ⟨id, tenant, sell, price, lots, seq⟩ with
      | false =>
        rw [hgd] at HOK
        go_wp2_with (refine wpList_load_mid rfl 67 _ rfl b (off + kk * 6) rfl [.int .i64 id, .int .i64 tenant, .bool sell, .int .i64 price, .int .i64 lots, .int .i64 seq] _ r1 Tryd.underlying67 rfl size_ord ?_)
        obtain ⟨W, hW⟩ : ∃ W, W = wr.alloc (.cells #[.int .i64 id, .int .i64 tenant, .bool sell, .int .i64 price, .int .i64 lots, .int .i64 seq] 67) := ⟨_, rfl⟩
        rw [← hW]
        have hblk : W.heap[wr.heap.size]? = some (.cells #[.int .i64 id, .int .i64 tenant, .bool sell, .int .i64 price, .int .i64 lots, .int .i64 seq] 67 (0, 0)) := by rw [hW]; exact alloc_new' rfl
        have g0 := cell_of_row W wr.heap.size 0 _ _ _ hblk
        have g1 := cell_of_row W wr.heap.size 1 _ _ _ hblk
        have g2 := cell_of_row W wr.heap.size 2 _ _ _ hblk
        have g3 := cell_of_row W wr.heap.size 3 _ _ _ hblk
        have g4 := cell_of_row W wr.heap.size 4 _ _ _ hblk
        have g5 := cell_of_row W wr.heap.size 5 _ _ _ hblk
        simp only [List.getElem?_toArray, List.getElem?_cons_zero, List.getElem?_cons_succ] at g0 g1 g2 g3 g4 g5
        have c2 : W.cell? ⟨b, off + 2, none⟩ = some (.bool fs) := by rw [hW]; exact Lib.cell?_alloc_some _ c2
        have cp : 0 < kk → W.cell? ⟨b, off + (kk - 1) * 6 + 3, none⟩ = some (.int .i64 pp) := fun h => by rw [hW]; exact Lib.cell?_alloc_some _ (cp h)
        have hblW : Below w.heap.size w W := by rw [hW]; exact hbl.alloc hbl.size _
        have hszW : wr.heap.size < W.heap.size := by rw [hW]; simp
        have hbW : b < W.heap.size := by have := hblW.size; omega
        clear hblk hW r1 hbl
        have hgc : ∀ W0, Calls Tryd.prog 53 #[.agg #[.int .i64 id, .int .i64 tenant, .bool sell, .int .i64 price, .int .i64 lots, .int .i64 seq]] W0 fun e w' => e = .returned (.bool false) ∧ Below W0.heap.size W0 w' := fun W0 => by rw [← hgd]; exact good_c ⟨id, tenant, sell, price, lots, seq⟩ W0
        have HGC := Lib.hid hgc
        have hn0 : (0 : Int) < n := by omega
        have hn0n : 0 < n := by omega
        have HCP := Lib.hid cp
        clear hgc cp hgd
        refine wp_region_noPanic ?_
        refine wp_region_held_drew (S := (fun w' => w'.cell? ⟨wr.heap.size, 0, none⟩ = some (.int .i64 id) ∧ w'.cell? ⟨wr.heap.size, 1, none⟩ = some (.int .i64 tenant) ∧ w'.cell? ⟨wr.heap.size, 2, none⟩ = some (.bool sell) ∧ w'.cell? ⟨wr.heap.size, 3, none⟩ = some (.int .i64 price) ∧ w'.cell? ⟨wr.heap.size, 4, none⟩ = some (.int .i64 lots) ∧ w'.cell? ⟨wr.heap.size, 5, none⟩ = some (.int .i64 seq) ∧ w'.cell? ⟨b, off + 2, none⟩ = some (.bool fs))) (by kernel_rfl) ⟨g0, g1, g2, g3, g4, g5, c2⟩ (fun hHeld => ?_)
        refine wpAnyH_take (i := 0) (v := ?_) rfl (by kernel_rfl) (by kernel_rfl) (by kernel_rfl) (fun _ _ _ h => h) (Or.inl ⟨by rfl, ?_⟩) hHeld ?_
        rotate_left
        focus
          intro w hSw
          (try dsimp only at hSw)
          go_simp
          try with_reducible rfl
        try simp only [Act.put, List.getElem_toArray, List.getElem_cons_zero, List.getElem_cons_succ, List.setIfInBounds_toArray, List.set_cons_zero, List.set_cons_succ]
        refine wpAnyH_ready (rs := [1]) (by kernel_rfl) (by simp) ?_
        refine AllReadyH.cons rfl (fun K hK => ?_) AllReadyH.nil
        go_simp
        refine (HGC.out _).mono ?_
        rintro e W2 ⟨rfl, hb2⟩
        have hb2 := below_undrew hb2
        have g0 := (hb2.cell (p := ⟨wr.heap.size, 0, none⟩) hszW).trans g0
        have g1 := (hb2.cell (p := ⟨wr.heap.size, 1, none⟩) hszW).trans g1
        have g2 := (hb2.cell (p := ⟨wr.heap.size, 2, none⟩) hszW).trans g2
        have g3 := (hb2.cell (p := ⟨wr.heap.size, 3, none⟩) hszW).trans g3
        have g4 := (hb2.cell (p := ⟨wr.heap.size, 4, none⟩) hszW).trans g4
        have g5 := (hb2.cell (p := ⟨wr.heap.size, 5, none⟩) hszW).trans g5
        have c2 := (hb2.cell (p := ⟨b, off + 2, none⟩) hbW).trans c2
        refine hK.out _ _ ⟨g0, g1, g2, g3, g4, g5, c2⟩ (fun hHeld => ?_)
        clear hK K
        try simp only [Act.put, List.getElem_toArray, List.getElem_cons_zero, List.getElem_cons_succ, List.setIfInBounds_toArray, List.set_cons_zero, List.set_cons_succ]
        refine wpAnyH_take (i := 2) (v := ?_) rfl (by kernel_rfl) (by kernel_rfl) (by kernel_rfl) (fun _ _ _ h => h) (Or.inl ⟨by rfl, ?_⟩) hHeld ?_
        rotate_left
        focus
          intro w hSw
          clear hSw
          go_simp
          try with_reducible rfl
        try simp only [Act.put, List.getElem_toArray, List.getElem_cons_zero, List.getElem_cons_succ, List.setIfInBounds_toArray, List.set_cons_zero, List.set_cons_succ]
        refine wpAnyH_take (i := 3) (v := ?_) rfl (by kernel_rfl) (by kernel_rfl) (by kernel_rfl) (fun _ _ _ h => h) (Or.inl ⟨by rfl, ?_⟩) hHeld ?_
        rotate_left
        focus
          intro w hSw
          clear hSw
          go_simp
          try with_reducible rfl
        try simp only [Act.put, List.getElem_toArray, List.getElem_cons_zero, List.getElem_cons_succ, List.setIfInBounds_toArray, List.set_cons_zero, List.set_cons_succ]
        refine wpAnyH_take (i := 4) (v := undef) rfl (by kernel_rfl) (by kernel_rfl) (by kernel_rfl) (fun _ _ _ h => h) (Or.inr ⟨by rfl, rfl⟩) hHeld ?_
        try simp only [Act.put, List.getElem_toArray, List.getElem_cons_zero, List.getElem_cons_succ, List.setIfInBounds_toArray, List.set_cons_zero, List.set_cons_succ]
        refine wpAnyH_take (i := 5) (v := undef) rfl (by kernel_rfl) (by kernel_rfl) (by kernel_rfl) (fun _ _ _ h => h) (Or.inr ⟨by rfl, rfl⟩) hHeld ?_
        try simp only [Act.put, List.getElem_toArray, List.getElem_cons_zero, List.getElem_cons_succ, List.setIfInBounds_toArray, List.set_cons_zero, List.set_cons_succ]
        refine wpAnyH_take (i := 6) (v := undef) rfl (by kernel_rfl) (by kernel_rfl) (by kernel_rfl) (fun _ _ _ h => h) (Or.inr ⟨by rfl, rfl⟩) hHeld ?_
        try simp only [Act.put, List.getElem_toArray, List.getElem_cons_zero, List.getElem_cons_succ, List.setIfInBounds_toArray, List.set_cons_zero, List.set_cons_succ]
        refine wpAnyH_take (i := 7) (v := undef) rfl (by kernel_rfl) (by kernel_rfl) (by kernel_rfl) (fun _ _ _ h => h) (Or.inr ⟨by rfl, rfl⟩) hHeld ?_
        try simp only [Act.put, List.getElem_toArray, List.getElem_cons_zero, List.getElem_cons_succ, List.setIfInBounds_toArray, List.set_cons_zero, List.set_cons_succ]
        refine wpAnyH_take (i := 8) (v := undef) rfl (by kernel_rfl) (by kernel_rfl) (by kernel_rfl) (fun _ _ _ h => h) (Or.inr ⟨by rfl, rfl⟩) hHeld ?_
        try simp only [Act.put, List.getElem_toArray, List.getElem_cons_zero, List.getElem_cons_succ, List.setIfInBounds_toArray, List.set_cons_zero, List.set_cons_succ]
        refine wpAnyH_take (i := 9) (v := undef) rfl (by kernel_rfl) (by kernel_rfl) (by kernel_rfl) (fun _ _ _ h => h) (Or.inr ⟨by rfl, rfl⟩) hHeld ?_
        try simp only [Act.put, List.getElem_toArray, List.getElem_cons_zero, List.getElem_cons_succ, List.setIfInBounds_toArray, List.set_cons_zero, List.set_cons_succ]
        refine wpAnyH_take (i := 10) (v := undef) rfl (by kernel_rfl) (by kernel_rfl) (by kernel_rfl) (fun _ _ _ h => h) (Or.inr ⟨by rfl, rfl⟩) hHeld ?_
        try simp only [Act.put, List.getElem_toArray, List.getElem_cons_zero, List.getElem_cons_succ, List.setIfInBounds_toArray, List.set_cons_zero, List.set_cons_succ]
        refine wpAnyH_take (i := 11) (v := ?_) rfl (by kernel_rfl) (by kernel_rfl) (by kernel_rfl) (fun _ _ _ h => h) (Or.inl ⟨by rfl, ?_⟩) hHeld ?_
        rotate_left
        focus
          intro w hSw
          clear hSw
          go_simp
          try with_reducible rfl
        try simp only [Act.put, List.getElem_toArray, List.getElem_cons_zero, List.getElem_cons_succ, List.setIfInBounds_toArray, List.set_cons_zero, List.set_cons_succ]
        refine wpAnyH_done (by kernel_rfl) ?_ _
        refine NoPanic.normal ?_
        have hbl2 : Below w.heap.size w W2 := hblW.trans (hb2.mono hblW.size)
        go_wp2_with fail
        go_ret
        exact ⟨by rw [side_false HX.out (by rw [HOK.out]; simp)]; rfl, hbl2⟩
      | true =>
        rw [hgd] at HOK
        by_cases hs : sell = fs
        · subst hs
          go_wp2_with (refine wpList_load_mid rfl 67 _ rfl b (off + kk * 6) rfl [.int .i64 id, .int .i64 tenant, .bool sell, .int .i64 price, .int .i64 lots, .int .i64 seq] _ r1 Tryd.underlying67 rfl size_ord ?_)
          obtain ⟨W, hW⟩ : ∃ W, W = wr.alloc (.cells #[.int .i64 id, .int .i64 tenant, .bool sell, .int .i64 price, .int .i64 lots, .int .i64 seq] 67) := ⟨_, rfl⟩
          rw [← hW]
          have hblk : W.heap[wr.heap.size]? = some (.cells #[.int .i64 id, .int .i64 tenant, .bool sell, .int .i64 price, .int .i64 lots, .int .i64 seq] 67 (0, 0)) := by rw [hW]; exact alloc_new' rfl
          have g0 := cell_of_row W wr.heap.size 0 _ _ _ hblk
          have g1 := cell_of_row W wr.heap.size 1 _ _ _ hblk
          have g2 := cell_of_row W wr.heap.size 2 _ _ _ hblk
          have g3 := cell_of_row W wr.heap.size 3 _ _ _ hblk
          have g4 := cell_of_row W wr.heap.size 4 _ _ _ hblk
          have g5 := cell_of_row W wr.heap.size 5 _ _ _ hblk
          simp only [List.getElem?_toArray, List.getElem?_cons_zero, List.getElem?_cons_succ] at g0 g1 g2 g3 g4 g5
          have c2 : W.cell? ⟨b, off + 2, none⟩ = some (.bool sell) := by rw [hW]; exact Lib.cell?_alloc_some _ c2
          have cp : 0 < kk → W.cell? ⟨b, off + (kk - 1) * 6 + 3, none⟩ = some (.int .i64 pp) := fun h => by rw [hW]; exact Lib.cell?_alloc_some _ (cp h)
          have hblW : Below w.heap.size w W := by rw [hW]; exact hbl.alloc hbl.size _
          have hszW : wr.heap.size < W.heap.size := by rw [hW]; simp
          have hbW : b < W.heap.size := by have := hblW.size; omega
          clear hblk hW r1 hbl
          have hgc : ∀ W0, Calls Tryd.prog 53 #[.agg #[.int .i64 id, .int .i64 tenant, .bool sell, .int .i64 price, .int .i64 lots, .int .i64 seq]] W0 fun e w' => e = .returned (.bool true) ∧ Below W0.heap.size W0 w' := fun W0 => by rw [← hgd]; exact good_c ⟨id, tenant, sell, price, lots, seq⟩ W0
          have HGC := Lib.hid hgc
          have hn0 : (0 : Int) < n := by omega
          have hn0n : 0 < n := by omega
          have HCP := Lib.hid cp
          clear hgc cp hgd
          go_region_held3 (fun w' => w'.cell? ⟨wr.heap.size, 0, none⟩ = some (.int .i64 id) ∧ w'.cell? ⟨wr.heap.size, 1, none⟩ = some (.int .i64 tenant) ∧ w'.cell? ⟨wr.heap.size, 2, none⟩ = some (.bool sell) ∧ w'.cell? ⟨wr.heap.size, 3, none⟩ = some (.int .i64 price) ∧ w'.cell? ⟨wr.heap.size, 4, none⟩ = some (.int .i64 lots) ∧ w'.cell? ⟨wr.heap.size, 5, none⟩ = some (.int .i64 seq) ∧ w'.cell? ⟨b, off + 2, none⟩ = some (.bool sell)) (exact ⟨g0, g1, g2, g3, g4, g5, c2⟩) (first | (go_at_call 53; refine (HGC.out _).mono ?_; rintro e W2 ⟨rfl, hb2⟩; have hb2 := below_undrew hb2; have g0 := (hb2.cell (p := ⟨wr.heap.size, 0, none⟩) hszW).trans g0; have g1 := (hb2.cell (p := ⟨wr.heap.size, 1, none⟩) hszW).trans g1; have g2 := (hb2.cell (p := ⟨wr.heap.size, 2, none⟩) hszW).trans g2; have g3 := (hb2.cell (p := ⟨wr.heap.size, 3, none⟩) hszW).trans g3; have g4 := (hb2.cell (p := ⟨wr.heap.size, 4, none⟩) hszW).trans g4; have g5 := (hb2.cell (p := ⟨wr.heap.size, 5, none⟩) hszW).trans g5; have c2 := (hb2.cell (p := ⟨b, off + 2, none⟩) hbW).trans c2))
          have hbl2 : Below w.heap.size w W2 := hblW.trans (hb2.mono hblW.size)
          clear g0 g1 g4 g5 c2 hn0 hn0n
          rcases Nat.eq_zero_or_pos kk with hk0 | hk0
          · have hd0 : decide ((0 : Int) < (kk : Int)) = false := by simp; omega
            go_wp2_with fail
            go_quiet (fail)
            go_wp2_with fail
            go_roundw
            case rel => exact ⟨kk + 1, by omega, by go_num, below_drewN hbl2 _, fun j y hj hy => by
              by_cases e : j = kk
              · subst e; rw [HX.out] at hy; cases hy; rw [HOK.out]; simp [hk0]
              · exact hno.out j y (by omega) hy⟩
            case measure => simp [intOf]; omega
          · have cp := (hb2.cell (p := ⟨b, off + (kk - 1) * 6 + 3, none⟩) hbW).trans (HCP.out hk0)
            obtain ⟨m, rfl⟩ : ∃ m, kk = m + 1 := ⟨kk - 1, by omega⟩
            rw [Nat.add_sub_cancel] at cp
            have hd0 : decide ((0 : Int) < ((m + 1 : Nat) : Int)) = true := by first | (simp; done) | (simp; omega)
            by_cases he : price = pp
            · have hpe : (price != pp) = false := by simpa using he
              clear g2
              go_wp2_with fail
              go_quiet (fail)
              go_wp2_with fail
              go_roundw
              case rel => exact ⟨(m + 1) + 1, by omega, by go_num, below_drewN hbl2 _, fun j y hj hy => by
                by_cases e : j = (m + 1)
                · subst e; rw [HX.out] at hy; cases hy; rw [HOK.out]; simp [he]
                · exact hno.out j y (by omega) hy⟩
              case measure => simp [intOf]; omega
            · have hpe : (price != pp) = true := by simpa using he
              by_cases hg : pp < price
              · have hgd2 : decide (pp < price) = true := by simpa using hg
                have hng : ¬ price < pp := by omega
                cases sell
                · go_wp2_with fail
                  go_quiet (fail)
                  go_wp2_with fail
                  go_ret
                  exact ⟨by rw [side_false HX.out (by rw [HOK.out]; simp [hg])]; rfl, below_drewN hbl2 _⟩
                · go_wp2_with fail
                  go_quiet (fail)
                  go_wp2_with fail
                  go_roundw
                  case rel => exact ⟨(m + 1) + 1, by omega, by go_num, below_drewN hbl2 _, fun j y hj hy => by
                    by_cases e : j = (m + 1)
                    · subst e; rw [HX.out] at hy; cases hy; rw [HOK.out]; simp [hng]
                    · exact hno.out j y (by omega) hy⟩
                  case measure => simp [intOf]; omega
              · have hgd2 : decide (pp < price) = false := by simpa using hg
                have hng : price < pp := by omega
                cases sell
                · go_wp2_with fail
                  go_quiet (fail)
                  go_wp2_with fail
                  go_roundw
                  case rel => exact ⟨(m + 1) + 1, by omega, by go_num, below_drewN hbl2 _, fun j y hj hy => by
                    by_cases e : j = (m + 1)
                    · subst e; rw [HX.out] at hy; cases hy; rw [HOK.out]; simp [hg]
                    · exact hno.out j y (by omega) hy⟩
                  case measure => simp [intOf]; omega
                · go_wp2_with fail
                  go_quiet (fail)
                  go_wp2_with fail
                  go_ret
                  exact ⟨by rw [side_false HX.out (by rw [HOK.out]; simp [hng])]; rfl, below_drewN hbl2 _⟩
        · obtain rfl : fs = !sell := by revert hs; cases sell <;> cases fs <;> simp
          go_wp2_with (refine wpList_load_mid rfl 67 _ rfl b (off + kk * 6) rfl [.int .i64 id, .int .i64 tenant, .bool sell, .int .i64 price, .int .i64 lots, .int .i64 seq] _ r1 Tryd.underlying67 rfl size_ord ?_)
          obtain ⟨W, hW⟩ : ∃ W, W = wr.alloc (.cells #[.int .i64 id, .int .i64 tenant, .bool sell, .int .i64 price, .int .i64 lots, .int .i64 seq] 67) := ⟨_, rfl⟩
          rw [← hW]
          have hblk : W.heap[wr.heap.size]? = some (.cells #[.int .i64 id, .int .i64 tenant, .bool sell, .int .i64 price, .int .i64 lots, .int .i64 seq] 67 (0, 0)) := by rw [hW]; exact alloc_new' rfl
          have g0 := cell_of_row W wr.heap.size 0 _ _ _ hblk
          have g1 := cell_of_row W wr.heap.size 1 _ _ _ hblk
          have g2 := cell_of_row W wr.heap.size 2 _ _ _ hblk
          have g3 := cell_of_row W wr.heap.size 3 _ _ _ hblk
          have g4 := cell_of_row W wr.heap.size 4 _ _ _ hblk
          have g5 := cell_of_row W wr.heap.size 5 _ _ _ hblk
          simp only [List.getElem?_toArray, List.getElem?_cons_zero, List.getElem?_cons_succ] at g0 g1 g2 g3 g4 g5
          have c2 : W.cell? ⟨b, off + 2, none⟩ = some (.bool !sell) := by rw [hW]; exact Lib.cell?_alloc_some _ c2
          have cp : 0 < kk → W.cell? ⟨b, off + (kk - 1) * 6 + 3, none⟩ = some (.int .i64 pp) := fun h => by rw [hW]; exact Lib.cell?_alloc_some _ (cp h)
          have hblW : Below w.heap.size w W := by rw [hW]; exact hbl.alloc hbl.size _
          have hszW : wr.heap.size < W.heap.size := by rw [hW]; simp
          have hbW : b < W.heap.size := by have := hblW.size; omega
          clear hblk hW r1 hbl
          have hgc : ∀ W0, Calls Tryd.prog 53 #[.agg #[.int .i64 id, .int .i64 tenant, .bool sell, .int .i64 price, .int .i64 lots, .int .i64 seq]] W0 fun e w' => e = .returned (.bool true) ∧ Below W0.heap.size W0 w' := fun W0 => by rw [← hgd]; exact good_c ⟨id, tenant, sell, price, lots, seq⟩ W0
          have HGC := Lib.hid hgc
          have hn0 : (0 : Int) < n := by omega
          have hn0n : 0 < n := by omega
          have HCP := Lib.hid cp
          clear hgc cp hgd
          go_region_held3 (fun w' => w'.cell? ⟨wr.heap.size, 0, none⟩ = some (.int .i64 id) ∧ w'.cell? ⟨wr.heap.size, 1, none⟩ = some (.int .i64 tenant) ∧ w'.cell? ⟨wr.heap.size, 2, none⟩ = some (.bool sell) ∧ w'.cell? ⟨wr.heap.size, 3, none⟩ = some (.int .i64 price) ∧ w'.cell? ⟨wr.heap.size, 4, none⟩ = some (.int .i64 lots) ∧ w'.cell? ⟨wr.heap.size, 5, none⟩ = some (.int .i64 seq) ∧ w'.cell? ⟨b, off + 2, none⟩ = some (.bool !sell)) (exact ⟨g0, g1, g2, g3, g4, g5, c2⟩) (first | (go_at_call 53; refine (HGC.out _).mono ?_; rintro e W2 ⟨rfl, hb2⟩; have hb2 := below_undrew hb2; have g0 := (hb2.cell (p := ⟨wr.heap.size, 0, none⟩) hszW).trans g0; have g1 := (hb2.cell (p := ⟨wr.heap.size, 1, none⟩) hszW).trans g1; have g2 := (hb2.cell (p := ⟨wr.heap.size, 2, none⟩) hszW).trans g2; have g3 := (hb2.cell (p := ⟨wr.heap.size, 3, none⟩) hszW).trans g3; have g4 := (hb2.cell (p := ⟨wr.heap.size, 4, none⟩) hszW).trans g4; have g5 := (hb2.cell (p := ⟨wr.heap.size, 5, none⟩) hszW).trans g5; have c2 := (hb2.cell (p := ⟨b, off + 2, none⟩) hbW).trans c2))
          have hbl2 : Below w.heap.size w W2 := hblW.trans (hb2.mono hblW.size)
          go_wp2_with fail
          go_ret
          exact ⟨by rw [side_false HX.out (by rw [HOK.out]; simp)]; rfl, hbl2⟩
    · obtain rfl : kk = n := by omega
      have hall := Lib.hid (side_all (xs := xs) (fun j y hy => hno.out j y (by have := (List.getElem?_eq_some_iff.1 hy).1; omega) hy))
      go_wp2_with fail
      go_ret
      exact ⟨by rw [hall.out, hl]; simp; omega, hbl⟩

def OkO (o : Ord) : Prop := 1 ≤ o.price ∧ o.price ≤ 1000000 ∧ 1 ≤ o.lots ∧ o.lots ≤ 1000
theorem okO_of_side {xs : List Ord} (h : side xs = true) : xs.length ≤ 1000 ∧ ∀ o ∈ xs, OkO o := by
  unfold side at h
  rw [Bool.and_eq_true] at h
  refine ⟨by simpa using h.1, fun o ho => ?_⟩
  obtain ⟨i, hi, rfl⟩ := List.mem_iff_getElem.1 ho
  have := List.all_eq_true.1 h.2 i (by simpa using hi)
  rw [List.getElem?_eq_getElem hi] at this
  simp only [okAt, Bool.and_eq_true, Ord.good, decide_eq_true_eq] at this
  unfold OkO
  omega
/-- So many lots of one order. -/
def takeO (L d : Int) (o : Ord) : Int := if L - d < o.lots then L - d else o.lots
def topL (lots : Int) : Int := if lots < 0 then 0 else lots
def costStep (L : Int) (s : Int × Int) (o : Ord) : Int × Int := (s.1 + takeO L s.2 o * o.price, s.2 + takeO L s.2 o)
def costF' (xs : List Ord) (lots : Int) : Int × Int := if side xs = true then xs.foldl (costStep (topL lots)) (0, 0) else (0, 0)
theorem take_range {L d : Int} {o : Ord} (h : OkO o) (hd : d ≤ L) : 0 ≤ takeO L d o ∧ takeO L d o ≤ 1000 ∧ takeO L d o ≤ L - d ∧ 0 ≤ takeO L d o * o.price ∧ takeO L d o * o.price ≤ 1000000000 := by
  unfold OkO at h
  have h1 : 0 ≤ takeO L d o ∧ takeO L d o ≤ 1000 ∧ takeO L d o ≤ L - d := by unfold takeO; split <;> omega
  refine ⟨h1.1, h1.2.1, h1.2.2, Int.mul_nonneg h1.1 (by omega), ?_⟩
  have h2 := Int.mul_le_mul_of_nonneg_left h.2.1 h1.1
  omega
theorem cost_range (L : Int) (hL : 0 ≤ L) (xs : List Ord) (h : ∀ o ∈ xs, OkO o) (k : Nat) (hk : k ≤ xs.length) : 0 ≤ (foldTo (costStep L) (0, 0) xs k).1 ∧ (foldTo (costStep L) (0, 0) xs k).1 ≤ k * 1000000000 ∧ 0 ≤ (foldTo (costStep L) (0, 0) xs k).2 ∧ (foldTo (costStep L) (0, 0) xs k).2 ≤ k * 1000 ∧ (foldTo (costStep L) (0, 0) xs k).2 ≤ L := by
  induction k with
  | zero => simp [foldTo]; exact hL
  | succ k ih =>
    have hx := List.getElem?_eq_getElem (l := xs) (i := k) (by omega)
    rw [foldTo_succ (costStep L) _ xs k _ hx]
    obtain ⟨a, b, c, d, e⟩ := ih (by omega)
    have ho := h _ (List.getElem_mem (l := xs) (n := k) (by omega))
    generalize foldTo (costStep L) (0, 0) xs k = t at a b c d e ⊢
    obtain ⟨t1, t2⟩ := t
    simp only at a b c d e
    obtain ⟨p, q, r, s, u⟩ := take_range ho e
    simp only [costStep]
    omega
set_option maxRecDepth 100000 in
set_option maxHeartbeats 2000000 in
theorem cost_c (A : Option Addr) (n c : Nat) (xs : List Ord) (lots : Int) (w : World) (hl0 : -9223372036854775808 ≤ lots) (hl1 : lots ≤ 9223372036854775807) (hr : Hid (RdRows w w.heap.size Ord.cells 6 A n xs)) (hn : n ≤ maxLen) :
    Calls Tryd.prog 69 #[.slice A n c, .int .i64 lots] w fun e w' => e = .returned (.tuple #[.int .i64 (costF' xs lots).1, .int .i64 (costF' xs lots).2]) ∧ Below w.heap.size w w' := by
  have hl := hr.out.1
  have hside := Lib.hid (isSide_c A n c xs w hr hn)
  cases hs : side xs with
  | false =>
    have hsp : Hid (costF' xs lots = (0, 0)) := by show _ = _; unfold costF'; rw [hs]; rfl
    rw [hs] at hside
    generalize costF' xs lots = cc at hsp ⊢
    obtain rfl := hsp.out
    clear hs hsp
    go_enter Tryd.func69, Tryd.ntmps69
    go_wp2_with fail
    refine hside.out.mono ?_
    rintro e w1 ⟨rfl, hb1⟩
    go_wp2_with fail
    go_ret2
    exact ⟨rfl, hb1⟩
  | true =>
    obtain ⟨hlen, hok⟩ := okO_of_side hs
    rw [hs] at hside
    have hL : Hid ((if lots < 0 then 0 else lots) = topL lots) := rfl
    have hL0 : 0 ≤ topL lots ∧ topL lots ≤ 9223372036854775807 := by unfold topL; split <;> omega
    have hfin : Hid (foldTo (costStep (topL lots)) (0, 0) xs n = costF' xs lots) := by show _ = _; unfold costF'; rw [hs, ← hl]; exact foldTo_all _ _ _
    generalize costF' xs lots = cc at hfin ⊢
    generalize topL lots = L at hL hL0 hfin
    have HOK := Lib.hid hok
    clear hs hok
    go_enter Tryd.func69, Tryd.ntmps69
    go_wp2_with fail
    refine hside.out.mono ?_
    rintro e w1 ⟨rfl, hb1⟩
    have hrd : Hid (RdRows w1 w.heap.size Ord.cells 6 A n xs) := hr.out.below hb1 (Nat.le_refl _)
    have HB1 := Lib.hid hb1
    have hsz1 := hb1.size
    clear hb1 hside
    go_wp2_with fail
    go_loopw [6, 7, 9, 10, 16] (fun s6 s7 _ _ s16 wr => ∃ kk : Nat, kk ≤ n ∧ s16 = .int .i64 kk ∧ s6 = .int .i64 (foldTo (costStep L) (0, 0) xs kk).1 ∧ s7 = .int .i64 (foldTo (costStep L) (0, 0) xs kk).2 ∧ Below w1.heap.size w1 wr) (fun _ _ _ _ s16 _ => n - (intOf s16).toNat)
    case atStart => exact ⟨0, Nat.zero_le _, rfl, by rw [foldTo_zero], by rw [foldTo_zero], Below.refl _ _⟩
    case round =>
      obtain ⟨kk, hkk, rfl, rfl, rfl, hbl⟩ := hrel
      obtain ⟨q1, q2, q3, q4, q5⟩ := cost_range L hL0.1 xs HOK.out kk (by omega)
      by_cases hlt : kk < n
      · obtain ⟨b, off, rfl, hb, hrows⟩ := hrd.out.2 (by omega)
        obtain ⟨x, hx⟩ : ∃ x, xs[kk]? = some x := ⟨_, List.getElem?_eq_getElem (by omega)⟩
        have r1 := rangeAt_below (hrows kk x hx) hbl (by omega)
        have hst := Lib.hid (foldTo_succ (costStep L) (0, 0) xs kk x hx)
        have ho := HOK.out x (List.mem_of_getElem? hx)
        clear hrows hx
        generalize foldTo (costStep L) (0, 0) xs kk = t at hst q1 q2 q3 q4 q5 ⊢
        obtain ⟨t1, t2⟩ := t
        simp only at q1 q2 q3 q4 q5 ⊢
        obtain ⟨p1, p2, p3, p4, p5⟩ := take_range ho q5
        have hm : Hid ((if L - t2 < x.lots then L - t2 else x.lots) = takeO L t2 x) := rfl
        have hst' : Hid (foldTo (costStep L) (0, 0) xs (kk + 1) = (t1 + takeO L t2 x * x.price, t2 + takeO L t2 x)) := hst.out
        obtain ⟨id, tenant, sell, price, lotsx, seq⟩ := x
        simp only at hm hst' p1 p2 p3 p4 p5
        generalize takeO L t2 ⟨id, tenant, sell, price, lotsx, seq⟩ = m at hm hst' p1 p2 p3 p4 p5
        have e1 : wrap64 (L - t2) = L - t2 := by unfold wrap64; omega
        have e2 : wrap64 (m * price) = m * price := by unfold wrap64; omega
        have e3 : wrap64 (t1 + m * price) = t1 + m * price := by unfold wrap64; omega
        have e4 : wrap64 (t2 + m) = t2 + m := by unfold wrap64; omega
        have hm1 := hm.out
        have hL1 := hL.out
        have hmx : max lots 0 = L := by rw [← hL1]; split <;> omega
        have hmn : min lotsx (L - t2) = m := by rw [← hm1]; split <;> omega
        clear hst ho q1 q2 q3 q4 q5 p1 p2 p3 p4 p5
        go_wp2_with (refine wpList_load_mid rfl 67 _ rfl b (off + kk * 6) rfl [.int .i64 id, .int .i64 tenant, .bool sell, .int .i64 price, .int .i64 lotsx, .int .i64 seq] _ r1 Tryd.underlying67 rfl size_ord ?_)
        go_roundw
        case rel => exact ⟨kk + 1, by omega, by go_num, by rw [hst'.out]; first | rw [e3] | rw [hmx, e1, hmn, e2, e3], by rw [hst'.out]; first | rw [e4] | rw [hmx, e1, hmn, e4], hbl.alloc hbl.size _⟩
        case measure => simp [intOf]; omega
      · obtain rfl : kk = n := by omega
        rw [hfin.out]
        clear q1 q2 q3 q4 q5
        go_wp2_with fail
        go_ret2
        exact ⟨rfl, HB1.out.trans (hbl.mono hsz1)⟩
end Go.Proofs.YtdebldpmloignaaDoor
