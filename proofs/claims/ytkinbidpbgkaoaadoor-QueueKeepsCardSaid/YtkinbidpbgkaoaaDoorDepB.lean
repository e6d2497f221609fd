/-
  depth: Range; the reference's Fills and Sum.
-/
import Derived.Test.YtkinbidpbgkaoaaDoorDepA
namespace Go.Proofs.YtkinbidpbgkaoaaDoor
open Go.RowKit
set_option linter.unusedVariables false

def foldTo {α β : Type} (f : β → α → β) (s : β) (xs : List α) (k : Nat) : β := (xs.take k).foldl f s
theorem foldTo_zero {α β : Type} (f : β → α → β) (s : β) (xs : List α) : foldTo f s xs 0 = s := by simp [foldTo]
theorem foldTo_succ {α β : Type} (f : β → α → β) (s : β) (xs : List α) (k : Nat) (x : α) (h : xs[k]? = some x) : foldTo f s xs (k + 1) = f (foldTo f s xs k) x := by
  unfold foldTo
  rw [List.take_add_one, h]
  simp
theorem foldTo_all {α β : Type} (f : β → α → β) (s : β) (xs : List α) : foldTo f s xs xs.length = xs.foldl f s := by simp [foldTo]
theorem results_tmp4 {fn : Func} {t u v x : Tmp} (h : fn.results = #[.tmp t, .tmp u, .tmp v, .tmp x]) (tmps : Array Value) (P : Program) (w : World) :
    (results fn tmps).run P w = .ok (.tuple #[tmps.getD t undef, tmps.getD u undef, tmps.getD v undef, tmps.getD x undef]) w := by
  simp [results, h]
def loStep (a : Int) (f : Fill) : Int := if f.price < a then f.price else a
def hiStep (a : Int) (f : Fill) : Int := if a < f.price then f.price else a
def rangeF (l : List Fill) : Int × Int := match l with | [] => (0, 0) | f :: r => ((f :: r).foldl loStep f.price, (f :: r).foldl hiStep f.price)
set_option maxRecDepth 100000 in
set_option maxHeartbeats 1000000 in
theorem range_c (A : Option Addr) (n c : Nat) (xs : List Fill) (w : World) (hA : A = Option.none → n = 0) (hr : Hid (RdRows w w.heap.size Fill.cells 6 A n xs)) (hn : n ≤ maxLen) :
    Calls Tryd.prog 12 #[.slice A n c] w fun e w' => e = .returned (.tuple #[.int .i64 (rangeF (keptF xs)).1, .int .i64 (rangeF (keptF xs)).2]) ∧ Below w.heap.size w w' := by
  obtain ⟨hk1, hk2⟩ := okF_kept (xs := xs)
  have HG : Hid (goodF xs = false → keptF xs = []) := fun h => by simp [keptF, h]
  have hsc := sold_c A n c xs w hA hr hn
  have HS := Lib.hid hsc
  clear hsc
  generalize goodF xs = gg at HS HG
  generalize keptF xs = l at HS HG hk1 hk2 ⊢
  cases l with
  | nil =>
    cases gg <;> (
      go_enter Tryd.func12, Tryd.ntmps12
      go_wp2_with fail
      refine HS.out.mono ?_
      rintro e w1 ⟨v, rfl, ⟨A1, cap1, rfl, hcp, hA1, hrd⟩, hb1⟩
      go_wp2_with fail
      go_ret2
      exact ⟨rfl, hb1⟩)
  | cons f r =>
    obtain rfl : gg = true := by
      cases gg with
      | true => rfl
      | false => exact absurd (HG.out rfl) (by simp)
    have hne : (((f :: r).length : Int) == 0) = false := beq_eq_false_iff_ne.2 (by simp; omega)
    have hlen : 0 < (f :: r).length := by simp
    have hspec : Hid (rangeF (f :: r) = ((f :: r).foldl loStep f.price, (f :: r).foldl hiStep f.price)) := rfl
    have hf1 : Hid (foldTo loStep f.price (f :: r) (f :: r).length = (f :: r).foldl loStep f.price) := foldTo_all _ _ _
    have hf2 : Hid (foldTo hiStep f.price (f :: r) (f :: r).length = (f :: r).foldl hiStep f.price) := foldTo_all _ _ _
    have hx0 : Hid ((f :: r)[0]? = some f) := rfl
    rw [hspec.out, ← hf1.out, ← hf2.out]
    obtain ⟨p0, hp0⟩ : ∃ p0, p0 = f.price := ⟨_, rfl⟩
    rw [← hp0]
    clear hspec hf1 hf2 HG
    have HK1 := Lib.hid hk1
    have HP0 := Lib.hid hp0
    clear hp0 hk2 hk1
    generalize hL : f :: r = l at *
    clear hL
    go_enter Tryd.func12, Tryd.ntmps12
    go_wp2_with fail
    refine HS.out.mono ?_
    rintro e w1 ⟨v, rfl, ⟨A1, cap1, rfl, hcp, hA1, hrd⟩, hb1⟩
    obtain ⟨b, off, rfl, hb, hrows⟩ := hrd.2 (by omega)
    have hc4 : w1.cell? ⟨b, off + 4, none⟩ = some (.int .i64 p0) := by
      have := hrows 0 f hx0.out 4 (.int .i64 f.price) rfl
      rw [HP0.out]
      simpa using this
    have HR := Lib.hid hrows
    have HB1 := Lib.hid hb1
    have hk1 := HK1.out
    clear hrows hrd hb1 hA1 HS
    go_wp2_with fail
    go_quiet (fail)
    clear hc4
    go_wp2_with fail
    go_loopw [5, 6, 8, 31] (fun s5 s6 _ s31 wr => ∃ kk : Nat, kk ≤ l.length ∧ s31 = .int .i64 kk ∧ s5 = .int .i64 (foldTo loStep p0 l kk) ∧ s6 = .int .i64 (foldTo hiStep p0 l kk) ∧ Below w1.heap.size w1 wr) (fun _ _ _ s31 _ => l.length - (intOf s31).toNat)
    case atStart => exact ⟨0, Nat.zero_le _, rfl, by rw [foldTo_zero], by rw [foldTo_zero], ⟨rfl, rfl, rfl, Nat.le_refl _, fun _ _ => rfl⟩⟩
    case round =>
      obtain ⟨kk, hkk, rfl, rfl, rfl, hbl⟩ := hrel
      by_cases hlt : kk < l.length
      · obtain ⟨x, hx⟩ : ∃ x, l[kk]? = some x := ⟨_, List.getElem?_eq_getElem (by omega)⟩
        have r1 := rangeAt_below (HR.out kk x hx) hbl hb
        have hs1 := Lib.hid (foldTo_succ loStep p0 l kk x hx)
        have hs2 := Lib.hid (foldTo_succ hiStep p0 l kk x hx)
        clear hx
        obtain ⟨ask, bid, seller, buyer, price, lots⟩ := x
        generalize foldTo loStep p0 l kk = lo at hs1 ⊢
        generalize foldTo hiStep p0 l kk = hi at hs2 ⊢
        go_wp2_with (refine wpList_load_mid rfl 26 _ rfl b (off + kk * 6) rfl [.int .i64 ask, .int .i64 bid, .int .i64 seller, .int .i64 buyer, .int .i64 price, .int .i64 lots] _ r1 Tryd.underlying26 rfl size_fill ?_)
        go_region
        go_wp2_with fail
        go_roundw
        case rel => exact ⟨kk + 1, by omega, by go_num, by rw [hs1.out]; rfl, by rw [hs2.out]; rfl, below_drew (hbl.alloc hbl.size _)⟩
        case measure => simp [intOf]; omega
      · have hkl : kk = l.length := by omega
        subst hkl
        go_wp2_with fail
        go_ret2
        exact ⟨rfl, HB1.out.trans (hbl.mono HB1.out.size)⟩

/-! ### The reference -/
theorem rsize_fill : (Tryd.prog.info? 27).map (·.size) = some 6 := by kernel_rfl
def allF (xs : List Fill) : Bool := !xs.any Fill.bad
set_option maxRecDepth 100000 in
set_option maxHeartbeats 1000000 in
theorem rfills_c (A : Option Addr) (n c : Nat) (xs : List Fill) (w : World) (hr : Hid (RdRows w w.heap.size Fill.cells 6 A n xs)) (hn : n ≤ 1000) :
    Calls Tryd.prog 13 #[.slice A n c] w fun e w' => e = .returned (.bool (allF xs)) ∧ Below w.heap.size w w' := by
  have hl := hr.out.1
  go_enter Tryd.func13, Tryd.ntmps13
  go_wp2_with fail
  go_loopw [3] (fun s3 wr => ∃ kk : Nat, kk ≤ n ∧ s3 = .int .i64 kk ∧ Below w.heap.size w wr ∧ Hid (∀ (j : Nat) (y : Fill), j < kk → xs[j]? = some y → Fill.bad y = false)) (fun s3 _ => n - (intOf s3).toNat)
  case atStart => exact ⟨0, Nat.zero_le _, rfl, Below.refl _ w, fun j y hj => absurd hj (Nat.not_lt_zero _)⟩
  case round =>
    obtain ⟨kk, hkk, rfl, hbl, hno⟩ := hrel
    by_cases hlt : kk < n
    · obtain ⟨b, off, rfl, hb, hrows⟩ := hr.out.2 (by omega)
      obtain ⟨x, hx⟩ : ∃ x, xs[kk]? = some x := ⟨_, List.getElem?_eq_getElem (by omega)⟩
      have r1 := rangeAt_below (hrows kk x hx) hbl hb
      have HX := Lib.hid hx
      clear hrows hx
      have hc4 : wr.cell? ⟨b, off + kk * 6 + 4, none⟩ = some (.int .i64 x.price) := r1 4 _ rfl
      have hc5 : wr.cell? ⟨b, off + kk * 6 + 5, none⟩ = some (.int .i64 x.lots) := r1 5 _ rfl
      have hbad : Hid (Fill.bad x = true → allF xs = false) := fun h => by
        have : xs.any Fill.bad = true := List.any_eq_true.2 ⟨x, List.mem_of_getElem? HX.out, h⟩
        simp [allF, this]
      have hgood : Hid (Fill.bad x = false → ∀ (j : Nat) (y : Fill), j < kk + 1 → xs[j]? = some y → Fill.bad y = false) := fun h j y hj hy => by
        by_cases e : j = kk
        · subst e; rw [HX.out] at hy; cases hy; exact h
        · exact hno.out j y (by omega) hy
      clear r1 hno HX
      have hB : Hid (Fill.bad x = (decide (x.price < 0) || decide (1000000 < x.price) || decide (x.lots < 0) || decide (1000 < x.lots))) := rfl
      generalize Fill.bad x = bx at hbad hgood hB
      generalize x.price = price at hc4 hB
      generalize x.lots = lots at hc5 hB
      by_cases c1 : price < 0
      · have hf := Lib.hid (hbad.out (by rw [hB.out]; simp; omega))
        have d0 : decide (price < 0) = true := by simpa using c1
        clear c1
        go_wp2_with fail
        go_ret
        exact ⟨by rw [hf.out]; rfl, hbl⟩
      by_cases c2 : 1000000 < price
      · have hf := Lib.hid (hbad.out (by rw [hB.out]; simp; omega))
        have d0 : decide (price < 0) = false := by simpa using c1
        have d1 : decide (1000000 < price) = true := by simpa using c2
        clear c1 c2
        go_wp2_with fail
        go_ret
        exact ⟨by rw [hf.out]; rfl, hbl⟩
      by_cases c3 : lots < 0
      · have hf := Lib.hid (hbad.out (by rw [hB.out]; simp; omega))
        have d0 : decide (price < 0) = false := by simpa using c1
        have d1 : decide (1000000 < price) = false := by simpa using c2
        have d2 : decide (lots < 0) = true := by simpa using c3
        clear c1 c2 c3
        go_wp2_with fail
        go_ret
        exact ⟨by rw [hf.out]; rfl, hbl⟩
      by_cases c4 : 1000 < lots
      · have hf := Lib.hid (hbad.out (by rw [hB.out]; simp; omega))
        have d0 : decide (price < 0) = false := by simpa using c1
        have d1 : decide (1000000 < price) = false := by simpa using c2
        have d2 : decide (lots < 0) = false := by simpa using c3
        have d3 : decide (1000 < lots) = true := by simpa using c4
        clear c1 c2 c3 c4
        go_wp2_with fail
        go_ret
        exact ⟨by rw [hf.out]; rfl, hbl⟩
      have hg := Lib.hid (hgood.out (by rw [hB.out]; simp; omega))
      have d0 : decide (price < 0) = false := by simpa using c1
      have d1 : decide (1000000 < price) = false := by simpa using c2
      have d2 : decide (lots < 0) = false := by simpa using c3
      have d3 : decide (1000 < lots) = false := by simpa using c4
      clear c1 c2 c3 c4 hbad hgood hB
      go_wp2_with fail
      go_roundw
      case rel => exact ⟨kk + 1, by omega, by go_num, hbl, hg⟩
      case measure => simp [intOf]; omega
    · obtain rfl : kk = n := by omega
      have hall : allF xs = true := by
        have : xs.any Fill.bad = false := List.any_eq_false.2 (fun x hx => by
          obtain ⟨i, hi, rfl⟩ := List.mem_iff_getElem.1 hx
          simp [hno.out i _ (by omega) (List.getElem?_eq_getElem hi)])
        simp [allF, this]
      have HA := Lib.hid hall
      have hd : decide ((kk : Int) ≤ 1000) = true := by simp; omega
      clear hno hall
      go_wp2_with fail
      go_ret
      exact ⟨by rw [HA.out]; rfl, hbl⟩
def sumStep (s : Int × Int × Int × Int) (f : Fill) : Int × Int × Int × Int :=
  if f.lots = 0 then s else (s.1 + f.price * f.lots, s.2.1 + f.lots, if s.2.1 = 0 ∨ f.price < s.2.2.1 then f.price else s.2.2.1, if s.2.1 = 0 ∨ s.2.2.2 < f.price then f.price else s.2.2.2)
def sumF (xs : List Fill) : Int × Int × Int × Int := xs.foldl sumStep (0, 0, 0, 0)
theorem sum_range (xs : List Fill) (h : ∀ f ∈ xs, OkF f) (k : Nat) (hk : k ≤ xs.length) : 0 ≤ (foldTo sumStep (0, 0, 0, 0) xs k).1 ∧ (foldTo sumStep (0, 0, 0, 0) xs k).1 ≤ k * 1000000000 ∧ 0 ≤ (foldTo sumStep (0, 0, 0, 0) xs k).2.1 ∧ (foldTo sumStep (0, 0, 0, 0) xs k).2.1 ≤ k * 1000 := by
  induction k with
  | zero => simp [foldTo]
  | succ k ih =>
    have hx := List.getElem?_eq_getElem (l := xs) (i := k) (by omega)
    rw [foldTo_succ sumStep _ xs k _ hx]
    obtain ⟨a, b, c, d⟩ := ih (by omega)
    have ho := h _ (List.getElem_mem (l := xs) (n := k) (by omega))
    have hc := costF_range ho
    unfold costF at hc
    unfold OkF at ho
    generalize foldTo sumStep (0, 0, 0, 0) xs k = t at a b c d ⊢
    obtain ⟨t1, t2, t3, t4⟩ := t
    generalize xs[k] = f at ho hc ⊢
    by_cases h0 : f.lots = 0
    · simp only [sumStep, h0, if_true] at *
      omega
    · simp only [sumStep, h0, if_false] at *
      omega
set_option maxRecDepth 100000 in
set_option maxHeartbeats 1000000 in
theorem rsum_c (A : Option Addr) (n c : Nat) (xs : List Fill) (w : World) (hr : Hid (RdRows w w.heap.size Fill.cells 6 A n xs)) (hn : n ≤ 1000) (hok : Hid (∀ f ∈ xs, OkF f)) :
    Calls Tryd.prog 14 #[.slice A n c] w fun e w' => e = .returned (.tuple #[.int .i64 (sumF xs).1, .int .i64 (sumF xs).2.1, .int .i64 (sumF xs).2.2.1, .int .i64 (sumF xs).2.2.2]) ∧ Below w.heap.size w w' := by
  have hl := hr.out.1
  have hfin : Hid (foldTo sumStep (0, 0, 0, 0) xs n = sumF xs) := by show _ = _; rw [← hl]; exact foldTo_all _ _ _
  generalize sumF xs = sf at hfin ⊢
  go_enter Tryd.func14, Tryd.ntmps14
  go_wp2_with fail
  go_loopw [6, 7, 8, 9, 10] (fun s6 s7 s8 s9 s10 wr => ∃ kk : Nat, kk ≤ n ∧ s10 = .int .i64 kk ∧ s6 = .int .i64 (foldTo sumStep (0, 0, 0, 0) xs kk).1 ∧ s7 = .int .i64 (foldTo sumStep (0, 0, 0, 0) xs kk).2.1 ∧ s8 = .int .i64 (foldTo sumStep (0, 0, 0, 0) xs kk).2.2.1 ∧ s9 = .int .i64 (foldTo sumStep (0, 0, 0, 0) xs kk).2.2.2 ∧ Below w.heap.size w wr) (fun _ _ _ _ s10 _ => n - (intOf s10).toNat)
  case atStart => exact ⟨0, Nat.zero_le _, rfl, by rw [foldTo_zero], by rw [foldTo_zero], by rw [foldTo_zero], by rw [foldTo_zero], Below.refl _ w⟩
  case round =>
    obtain ⟨kk, hkk, rfl, rfl, rfl, rfl, rfl, hbl⟩ := hrel
    obtain ⟨q1, q2, q3, q4⟩ := sum_range xs hok.out kk (by omega)
    by_cases hlt : kk < n
    · obtain ⟨b, off, rfl, hb, hrows⟩ := hr.out.2 (by omega)
      obtain ⟨x, hx⟩ : ∃ x, xs[kk]? = some x := ⟨_, List.getElem?_eq_getElem (by omega)⟩
      have r1 := rangeAt_below (hrows kk x hx) hbl hb
      have hs := Lib.hid (foldTo_succ sumStep (0, 0, 0, 0) xs kk x hx)
      have ho := hok.out x (List.mem_of_getElem? hx)
      obtain ⟨p1, p2⟩ := costF_range ho
      clear hrows hx
      obtain ⟨ask, bid, seller, buyer, price, lots⟩ := x
      have hc4 : wr.cell? ⟨b, off + kk * 6 + 4, none⟩ = some (.int .i64 price) := r1 4 _ rfl
      have hc5 : wr.cell? ⟨b, off + kk * 6 + 5, none⟩ = some (.int .i64 lots) := r1 5 _ rfl
      unfold costF at p1 p2
      unfold OkF at ho
      simp only at p1 p2 ho
      clear r1
      generalize foldTo sumStep (0, 0, 0, 0) xs kk = t at hs q1 q2 q3 q4 ⊢
      obtain ⟨t1, t2, t3, t4⟩ := t
      simp only at q1 q2 q3 q4 ⊢
      have hm : wrap64 (price * lots) = price * lots := by unfold wrap64; omega
      have ha : wrap64 (t1 + price * lots) = t1 + price * lots := by unfold wrap64; omega
      have hb2 : wrap64 (t2 + lots) = t2 + lots := by unfold wrap64; omega
      clear q1 q2 q4 p1 p2
      by_cases h0 : lots = 0
      · subst h0
        have hs' : Hid (foldTo sumStep (0, 0, 0, 0) xs (kk + 1) = (t1, t2, t3, t4)) := by show _ = _; rw [hs.out]; simp [sumStep]
        clear hm ha hb2 ho q3
        go_wp2_with fail
        go_roundw
        case rel => exact ⟨kk + 1, by omega, by go_num, by rw [hs'.out], by rw [hs'.out], by rw [hs'.out], by rw [hs'.out], hbl⟩
        case measure => simp [intOf]; omega
      · have hs' : Hid (foldTo sumStep (0, 0, 0, 0) xs (kk + 1) = (t1 + price * lots, t2 + lots, if t2 = 0 ∨ price < t3 then price else t3, if t2 = 0 ∨ t4 < price then price else t4)) := by show _ = _; rw [hs.out]; simp [sumStep, h0]
        have hd0 : (lots == 0) = false := by simpa using h0
        clear h0 ho q3
        by_cases z : t2 = 0
        · subst z
          rw [Int.zero_add] at hb2 hs'
          have e3 : (if (0 : Int) = 0 ∨ price < t3 then price else t3) = price := by simp
          have e4 : (if (0 : Int) = 0 ∨ t4 < price then price else t4) = price := by simp
          rw [e3, e4] at hs'
          clear e3 e4
          go_wp2_with fail
          go_quiet (fail)
          go_wp2_with fail
          go_roundw
          case rel => exact ⟨kk + 1, by omega, by go_num, by rw [hs'.out, ha], by rw [hs'.out, hb2], by rw [hs'.out], by rw [hs'.out], below_drewN hbl _⟩
          case measure => simp [intOf]; omega
        · by_cases l1 : price < t3
          · by_cases h1 : t4 < price
            · have zd : (t2 == 0) = false := by simpa using z
              have ld : decide (price < t3) = true := by simpa using l1
              have e3 : (if t2 = 0 ∨ price < t3 then price else t3) = price := by simp [l1]
              have hd : decide (t4 < price) = true := by simpa using h1
              have e4 : (if t2 = 0 ∨ t4 < price then price else t4) = price := by simp [h1]
              rw [e3, e4] at hs'
              clear e3 e4 z l1 h1
              go_wp2_with fail
              go_quiet (fail)
              go_wp2_with fail
              go_roundw
              case rel => exact ⟨kk + 1, by omega, by go_num, by rw [hs'.out, ha], by rw [hs'.out, hb2], by rw [hs'.out], by rw [hs'.out], below_drewN hbl _⟩
              case measure => simp [intOf]; omega
            · have zd : (t2 == 0) = false := by simpa using z
              have ld : decide (price < t3) = true := by simpa using l1
              have e3 : (if t2 = 0 ∨ price < t3 then price else t3) = price := by simp [l1]
              have hd : decide (t4 < price) = false := by simpa using h1
              have e4 : (if t2 = 0 ∨ t4 < price then price else t4) = t4 := by simp [z, h1]
              rw [e3, e4] at hs'
              clear e3 e4 z l1 h1
              go_wp2_with fail
              go_quiet (fail)
              go_wp2_with fail
              go_roundw
              case rel => exact ⟨kk + 1, by omega, by go_num, by rw [hs'.out, ha], by rw [hs'.out, hb2], by rw [hs'.out], by rw [hs'.out], below_drewN hbl _⟩
              case measure => simp [intOf]; omega
          · by_cases h1 : t4 < price
            · have zd : (t2 == 0) = false := by simpa using z
              have ld : decide (price < t3) = false := by simpa using l1
              have e3 : (if t2 = 0 ∨ price < t3 then price else t3) = t3 := by simp [z, l1]
              have hd : decide (t4 < price) = true := by simpa using h1
              have e4 : (if t2 = 0 ∨ t4 < price then price else t4) = price := by simp [h1]
              rw [e3, e4] at hs'
              clear e3 e4 z l1 h1
              go_wp2_with fail
              go_quiet (fail)
              go_wp2_with fail
              go_roundw
              case rel => exact ⟨kk + 1, by omega, by go_num, by rw [hs'.out, ha], by rw [hs'.out, hb2], by rw [hs'.out], by rw [hs'.out], below_drewN hbl _⟩
              case measure => simp [intOf]; omega
            · have zd : (t2 == 0) = false := by simpa using z
              have ld : decide (price < t3) = false := by simpa using l1
              have e3 : (if t2 = 0 ∨ price < t3 then price else t3) = t3 := by simp [z, l1]
              have hd : decide (t4 < price) = false := by simpa using h1
              have e4 : (if t2 = 0 ∨ t4 < price then price else t4) = t4 := by simp [z, h1]
              rw [e3, e4] at hs'
              clear e3 e4 z l1 h1
              go_wp2_with fail
              go_quiet (fail)
              go_wp2_with fail
              go_roundw
              case rel => exact ⟨kk + 1, by omega, by go_num, by rw [hs'.out, ha], by rw [hs'.out, hb2], by rw [hs'.out], by rw [hs'.out], below_drewN hbl _⟩
              case measure => simp [intOf]; omega
    · obtain rfl : kk = n := by omega
      rw [hfin.out]
      clear q1 q2 q3 q4
      go_wp2_with fail
      (try simp only [Exit.inBlock, Exit.then])
      refine bodyPost_ret (results_tmp4 rfl _ _ _) rfl ?_
      exact ⟨rfl, hbl⟩
end Go.Proofs.YtkinbidpbgkaoaaDoor
