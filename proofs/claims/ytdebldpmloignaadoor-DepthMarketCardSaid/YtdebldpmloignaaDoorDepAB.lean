/-
  depth: the functions on fills, by contract.
-/
import Derived.Test.YtdebldpmloignaaDoorSlFilB
import Derived.Test.YtdebldpmloignaaDoorBokA
namespace Go.Proofs.YtdebldpmloignaaDoor
open Go.RowKit
set_option linter.unusedVariables false
set_option linter.unusedSimpArgs false

structure Fill where
  (ask bid seller buyer price lots : Int)
def Fill.cells (f : Fill) : List Value := [.int .i64 f.ask, .int .i64 f.bid, .int .i64 f.seller, .int .i64 f.buyer, .int .i64 f.price, .int .i64 f.lots]
theorem Fill.k6 (f : Fill) : f.cells.length = 6 := rfl
theorem Fill.one (f : Fill) : ∀ u ∈ f.cells, u.oneCell' = true := by intro u hu; simp [Fill.cells] at hu; rcases hu with rfl | rfl | rfl | rfl | rfl | rfl <;> rfl
def Fill.bad (f : Fill) : Bool := decide (f.price < 0) || decide (1000000 < f.price) || decide (f.lots < 0) || decide (1000 < f.lots)
def Fill.none (f : Fill) : Bool := f.lots == 0
def goodF (xs : List Fill) : Bool := decide (xs.length ≤ 1000) && !xs.any Fill.bad
def keptF (xs : List Fill) : List Fill := if goodF xs = true then xs.filter (fun f => !Fill.none f) else []
set_option maxRecDepth 100000 in
theorem bad_c (f : Fill) (w : World) : Calls Tryd.prog 105 #[.agg f.cells.toArray] w fun e w' => e = .returned (.bool (Fill.bad f)) ∧ Below w.heap.size w w' := by
  obtain ⟨ask, bid, seller, buyer, price, lots⟩ := f
  simp only [Fill.cells]
  by_cases c1 : price < 0
  · have e : Fill.bad ⟨ask, bid, seller, buyer, price, lots⟩ = true := by simp [Fill.bad]; omega
    rw [e]
    have d0 : decide (price < 0) = true := by simpa using c1
    clear c1
    go_enter Tryd.func105, Tryd.ntmps105
    go_wp2_with fail
    go_ret
    exact ⟨rfl, (Below.refl _ w).alloc (Nat.le_refl _) _⟩
  by_cases c2 : 1000000 < price
  · have e : Fill.bad ⟨ask, bid, seller, buyer, price, lots⟩ = true := by simp [Fill.bad]; omega
    rw [e]
    have d0 : decide (price < 0) = false := by simpa using c1
    have d1 : decide (1000000 < price) = true := by simpa using c2
    clear c1 c2
    go_enter Tryd.func105, Tryd.ntmps105
    go_wp2_with fail
    go_ret
    exact ⟨rfl, (Below.refl _ w).alloc (Nat.le_refl _) _⟩
  by_cases c3 : lots < 0
  · have e : Fill.bad ⟨ask, bid, seller, buyer, price, lots⟩ = true := by simp [Fill.bad]; omega
    rw [e]
    have d0 : decide (price < 0) = false := by simpa using c1
    have d1 : decide (1000000 < price) = false := by simpa using c2
    have d2 : decide (lots < 0) = true := by simpa using c3
    clear c1 c2 c3
    go_enter Tryd.func105, Tryd.ntmps105
    go_wp2_with fail
    go_ret
    exact ⟨rfl, (Below.refl _ w).alloc (Nat.le_refl _) _⟩
  by_cases c4 : 1000 < lots
  · have e : Fill.bad ⟨ask, bid, seller, buyer, price, lots⟩ = true := by simp [Fill.bad]; omega
    rw [e]
    have d0 : decide (price < 0) = false := by simpa using c1
    have d1 : decide (1000000 < price) = false := by simpa using c2
    have d2 : decide (lots < 0) = false := by simpa using c3
    have d3 : decide (1000 < lots) = true := by simpa using c4
    clear c1 c2 c3 c4
    go_enter Tryd.func105, Tryd.ntmps105
    go_wp2_with fail
    go_ret
    exact ⟨rfl, (Below.refl _ w).alloc (Nat.le_refl _) _⟩
  have e : Fill.bad ⟨ask, bid, seller, buyer, price, lots⟩ = false := by simp [Fill.bad]; omega
  rw [e]
  have d0 : decide (price < 0) = false := by simpa using c1
  have d1 : decide (1000000 < price) = false := by simpa using c2
  have d2 : decide (lots < 0) = false := by simpa using c3
  have d3 : decide (1000 < lots) = false := by simpa using c4
  clear c1 c2 c3 c4
  go_enter Tryd.func105, Tryd.ntmps105
  go_wp2_with fail
  go_ret
  exact ⟨rfl, (Below.refl _ w).alloc (Nat.le_refl _) _⟩
set_option maxRecDepth 100000 in
theorem none_c (f : Fill) (w : World) : Calls Tryd.prog 109 #[.agg f.cells.toArray] w fun e w' => e = .returned (.bool (Fill.none f)) ∧ Below w.heap.size w w' := by
  obtain ⟨ask, bid, seller, buyer, price, lots⟩ := f
  simp only [Fill.cells]
  go_enter Tryd.func109, Tryd.ntmps109
  go_wp2_with fail
  go_ret
  exact ⟨rfl, (Below.refl _ w).alloc (Nat.le_refl _) _⟩
theorem eg1 : ∀ args w, (callFunc 105 args).run Tryd.prog w = .ok (.enter 105 args) w := enters_of Tryd.func105 (by kernel_rfl) rfl
theorem eg2 : ∀ args w, (callFunc 109 args).run Tryd.prog w = .ok (.enter 109 args) w := enters_of Tryd.func109 (by kernel_rfl) rfl

/-- A slice's elements, whatever its address. -/
def SlF (w : World) (v : Value) (l : List Fill) : Prop := ∃ A cap, v = .slice A l.length cap ∧ l.length ≤ cap ∧ (A = Option.none → l.length = 0) ∧ RdRows w w.heap.size Fill.cells 6 A l.length l
set_option maxRecDepth 100000 in
set_option maxHeartbeats 1000000 in
theorem sold_c (A : Option Addr) (n c : Nat) (xs : List Fill) (w : World) (hA : A = Option.none → n = 0) (hr : Hid (RdRows w w.heap.size Fill.cells 6 A n xs)) (hn : n ≤ maxLen) :
    Calls Tryd.prog 92 #[.slice A n c] w fun e w' => ∃ v, e = .returned (.tuple #[v, .bool (goodF xs)]) ∧ SlF w' v (keptF xs) ∧ Below w.heap.size w w' := by
  have hl := hr.out.1
  have hnil : ∀ w, SlF w (.slice Option.none 0 0) [] := fun w => ⟨Option.none, 0, rfl, Nat.le_refl _, fun _ => rfl, rfl, fun h => absurd h (by simp)⟩
  have HNil := Lib.hid hnil
  clear hnil
  have hn2 : n ≤ 9223372036854775807 := by unfold maxLen at hn; exact hn
  by_cases hbig : 1000 < n
  · have hg : goodF xs = false := by simp [goodF]; omega
    have hk : keptF xs = [] := by simp [keptF, hg]
    rw [hg, hk]
    have hd : decide ((1000 : Int) < n) = true := by simp; omega
    go_enter Tryd.func92, Tryd.ntmps92
    go_wp2_with fail
    go_ret2
    exact ⟨_, rfl, HNil.out w, Below.refl _ _⟩
  · have hd : decide ((1000 : Int) < n) = false := by simp; omega
    have hc := containsFunc_fill Fill.cells Fill.k6 Fill.bad 105 #[] eg1 (fun _ => True) A n c xs w hr hn2 (show Hid _ from fun _ _ _ _ => trivial) trivial (show Hid _ from fun W x _ => bad_c x W)
    cases hb : xs.any Fill.bad with
    | true =>
      have hg : goodF xs = false := by simp [goodF, hb]
      have hk : keptF xs = [] := by simp [keptF, hg]
      rw [hg, hk]
      rw [hb] at hc
      have HC := Lib.hid hc
      clear hc hb hg hk hbig
      go_enter Tryd.func92, Tryd.ntmps92
      go_wp2_with fail
      refine HC.out.mono ?_
      rintro e w1 ⟨rfl, hb1, _⟩
      go_wp2_with fail
      go_ret2
      exact ⟨_, rfl, HNil.out w1, hb1⟩
    | false =>
      have hg : goodF xs = true := by simp [goodF, hb]; omega
      have hk : keptF xs = xs.filter (fun f => !Fill.none f) := by simp [keptF, hg]
      rw [hg, hk]
      rw [hb] at hc
      have HC := Lib.hid hc
      clear hc hb hg hk
      go_enter Tryd.func92, Tryd.ntmps92
      go_wp2_with fail
      refine HC.out.mono ?_
      rintro e w1 ⟨rfl, hb1, _⟩
      have hr1 : Hid (RdRows w1 w1.heap.size Fill.cells 6 A n xs) := (hr.out.below hb1 (Nat.le_refl _)).mono hb1.size
      go_wp2_with fail
      refine (clone_fill Fill.cells Fill.k6 Fill.one A n c xs w1 hA hr1 hn (by omega)).mono ?_
      rintro e w2 ⟨v2, rfl, hown, hb2⟩
      have hw2 := hb1.trans (hb2.mono hb1.size)
      have hbs := hb1.size
      clear hb1 hb2 hr1 HC
      go_wp2_with fail
      refine (deleteFunc_fill Fill.cells Fill.k6 Fill.one Fill.none 109 #[] eg2 (fun _ => True) w1.heap.size v2 n xs w2 hl hown hn (show Hid _ from fun _ _ _ _ => trivial) trivial (show Hid _ from fun W x _ => none_c x W)).mono ?_
      rintro e w3 ⟨v3, rfl, hown3, hg3, _, _⟩
      have hw3 : Below w.heap.size w w3 := hw2.grown hg3 hw2.size (fun k hk => Nat.le_trans hbs (hown.lt k hk).1)
      go_wp2_with fail
      go_ret2
      refine ⟨_, rfl, ?_, hw3⟩
      obtain ⟨A', cap', rfl, hcp, hrr⟩ := own_rows Fill.k6 hown3 rfl
      refine ⟨A', cap', rfl, hcp, fun h => ?_, hrr⟩
      subst h
      rcases hown3.2 with ⟨_, h0⟩ | ⟨g, cap, cur, hv, _⟩
      · exact h0
      · simp at hv
def lotsF (l : List Fill) : Int := (l.map Fill.lots).sum
def costF (f : Fill) : Int := f.price * f.lots
def worthF (l : List Fill) : Int := (l.map costF).sum
def OkF (f : Fill) : Prop := 0 ≤ f.price ∧ f.price ≤ 1000000 ∧ 0 ≤ f.lots ∧ f.lots ≤ 1000
theorem okF_of_good {xs : List Fill} (h : goodF xs = true) : xs.length ≤ 1000 ∧ ∀ f ∈ xs, OkF f := by
  simp only [goodF, Bool.and_eq_true, decide_eq_true_eq, Bool.not_eq_true'] at h
  refine ⟨h.1, fun f hf => ?_⟩
  have := List.any_eq_false.1 h.2 f hf
  simp [Fill.bad] at this
  unfold OkF
  omega
theorem okF_kept {xs : List Fill} : (keptF xs).length ≤ 1000 ∧ ∀ f ∈ keptF xs, OkF f ∧ f.lots ≠ 0 := by
  unfold keptF
  split
  · rename_i h
    obtain ⟨h1, h2⟩ := okF_of_good h
    refine ⟨Nat.le_trans (List.length_filter_le _ _) h1, fun f hf => ?_⟩
    rw [List.mem_filter] at hf
    exact ⟨h2 f hf.1, by simpa [Fill.none] using hf.2⟩
  · exact ⟨by simp, by simp⟩
theorem costF_range {f : Fill} (h : OkF f) : 0 ≤ costF f ∧ costF f ≤ 1000000000 := by
  obtain ⟨a, b, c, d⟩ := h
  unfold costF
  refine ⟨Int.mul_nonneg a c, ?_⟩
  have h1 := Int.mul_le_mul_of_nonneg_right b c
  omega
set_option maxRecDepth 100000 in
set_option maxHeartbeats 1000000 in
theorem worth_c (A : Option Addr) (n c : Nat) (xs : List Fill) (w : World) (hr : Hid (RdRows w w.heap.size Fill.cells 6 A n xs)) (hn : n ≤ 1000) (hok : Hid (∀ f ∈ xs, OkF f)) :
    Calls Tryd.prog 54 #[.slice A n c] w fun e w' => e = .returned (.int .i64 (worthF xs)) ∧ Below w.heap.size w w' := by
  have hl := hr.out.1
  have hfin : Hid (sumTo costF xs n = worthF xs) := by show _ = _; rw [← hl, sumTo_all]; rfl
  go_enter Tryd.func54, Tryd.ntmps54
  go_wp2_with fail
  go_loopw [3, 5, 8] (fun s3 _ s8 wr => ∃ kk : Nat, kk ≤ n ∧ s8 = .int .i64 kk ∧ s3 = .int .i64 (sumTo costF xs kk) ∧ Below w.heap.size w wr) (fun _ _ s8 _ => n - (intOf s8).toNat)
  case atStart => exact ⟨0, Nat.zero_le _, rfl, by rw [sumTo_zero], Below.refl _ w⟩
  case round =>
    obtain ⟨kk, hkk, rfl, rfl, hbl⟩ := hrel
    obtain ⟨q1, q2⟩ := sumTo_range costF 1000000000 xs (fun f hf => costF_range (hok.out f hf)) kk (by omega)
    by_cases hlt : kk < n
    · obtain ⟨b, off, rfl, hb, hrows⟩ := hr.out.2 (by omega)
      obtain ⟨x, hx⟩ : ∃ x, xs[kk]? = some x := ⟨_, List.getElem?_eq_getElem (by omega)⟩
      have r1 := rangeAt_below (hrows kk x hx) hbl hb
      have hs := Lib.hid (sumTo_succ costF xs kk x hx)
      obtain ⟨p1, p2⟩ := costF_range (hok.out x (List.mem_of_getElem? hx))
      clear hrows hx
      obtain ⟨ask, bid, seller, buyer, price, lots⟩ := x
      have hm : wrap64 (price * lots) = costF ⟨ask, bid, seller, buyer, price, lots⟩ := by unfold wrap64; unfold costF at *; simp only at *; omega
      generalize costF ⟨ask, bid, seller, buyer, price, lots⟩ = cf at hm hs p1 p2
      generalize sumTo costF xs kk = sk at hs q1 q2 ⊢
      have ha : wrap64 (sk + cf) = sk + cf := by unfold wrap64; omega
      clear q1 q2 p1 p2
      go_wp2_with (refine wpList_load_mid rfl 82 _ rfl b (off + kk * 6) rfl [.int .i64 ask, .int .i64 bid, .int .i64 seller, .int .i64 buyer, .int .i64 price, .int .i64 lots] _ r1 Tryd.underlying82 rfl size_fill ?_)
      go_roundw
      case rel => exact ⟨kk + 1, by omega, by go_num, by rw [hs.out, ha], hbl.alloc hbl.size _⟩
      case measure => simp [intOf]; omega
    · obtain rfl : kk = n := by omega
      rw [hfin.out]
      go_wp2_with fail
      go_ret
      exact ⟨rfl, hbl⟩
theorem below_grow (w : World) (o : Obj) : Below w.heap.size w (w.alloc o) := (Below.refl _ w).alloc (Nat.le_refl _) _
theorem below_drew {B : Nat} {a w : World} (h : Below B a w) : Below B a w.drew := ⟨h.os, h.tape, h.output, h.size, h.block⟩
theorem below_setRow {B g : Nat} {a w : World} (h : Below B a w) (hg : B ≤ g) (cs : Array Value) : Below B a (w.setRow g cs) :=
  ⟨h.os, h.tape, h.output, by have := h.size; simpa [World.setRow] using this, fun k hk => by rw [setRow_other _ _ _ _ (by omega)]; exact h.block k hk⟩
theorem meanSize : (Tryd.prog.info? 120).map (·.size) = some 3 := by kernel_rfl
def meanF (xs : List Fill) : List Value := if keptF xs = [] then [.int .i64 0, .int .i64 0, .int .i64 0] else [.int .i64 ((worthF (keptF xs)).tdiv (lotsF (keptF xs))), .int .i64 ((worthF (keptF xs)).tmod (lotsF (keptF xs))), .int .i64 (lotsF (keptF xs))]
def isF (xs : List Fill) : Bool := decide (keptF xs ≠ [])
theorem sum_pos {l : List Fill} (h : ∀ f ∈ l, OkF f ∧ f.lots ≠ 0) (hne : l ≠ []) : 0 < lotsF l := by
  induction l with
  | nil => exact absurd rfl hne
  | cons f r ih =>
    have h1 := h f (by simp)
    unfold OkF at h1
    unfold lotsF at *
    simp only [List.map_cons, List.sum_cons]
    by_cases hr : r = []
    · subst hr; simp; omega
    · have := ih (fun g hg => h g (by simp [hg])) hr
      omega
set_option maxRecDepth 100000 in
set_option maxHeartbeats 1000000 in
theorem average_c (A : Option Addr) (n c : Nat) (xs : List Fill) (w : World) (hA : A = Option.none → n = 0) (hr : Hid (RdRows w w.heap.size Fill.cells 6 A n xs)) (hn : n ≤ maxLen) :
    Calls Tryd.prog 70 #[.slice A n c] w fun e w' => e = .returned (.tuple #[.agg (meanF xs).toArray, .bool (isF xs)]) ∧ Below w.heap.size w w' := by
  obtain ⟨hk1, hk2⟩ := okF_kept (xs := xs)
  have HG : Hid (goodF xs = false → keptF xs = []) := fun h => by simp [keptF, h]
  have hw0 : Hid (RdRows (w.alloc (.cells #[.int .i64 0, .int .i64 0, .int .i64 0] 120)) w.heap.size Fill.cells 6 A n xs) := hr.out.below (below_grow w _) (Nat.le_refl _)
  have hsc := sold_c A n c xs (w.alloc (.cells #[.int .i64 0, .int .i64 0, .int .i64 0] 120)) hA (hw0.out.mono (by simp)) hn
  have HS := Lib.hid hsc
  clear hsc
  have hspec : Hid (meanF xs = if keptF xs = [] then [.int .i64 0, .int .i64 0, .int .i64 0] else [.int .i64 ((worthF (keptF xs)).tdiv (lotsF (keptF xs))), .int .i64 ((worthF (keptF xs)).tmod (lotsF (keptF xs))), .int .i64 (lotsF (keptF xs))]) := rfl
  have hspec2 : Hid (isF xs = decide (keptF xs ≠ [])) := rfl
  generalize meanF xs = mf at hspec ⊢
  generalize isF xs = ff at hspec2 ⊢
  generalize goodF xs = gg at HS HG
  generalize keptF xs = l at HS HG hk1 hk2 hspec hspec2
  by_cases hl0 : l = []
  · subst hl0
    obtain rfl : mf = [.int .i64 0, .int .i64 0, .int .i64 0] := by rw [hspec.out]; rfl
    obtain rfl : ff = false := by rw [hspec2.out]; rfl
    cases gg <;> (
      go_enter Tryd.func70, Tryd.ntmps70
      go_wp2_with fail
      refine HS.out.mono ?_
      rintro e w1 ⟨v, rfl, ⟨A1, cap1, rfl, hcp, hA1, hrd⟩, hb1⟩
      have hb : Below w.heap.size w w1 := (below_grow w _).trans (hb1.mono (by simp))
      have hres : w1.heap[w.heap.size]? = some (.cells #[.int .i64 0, .int .i64 0, .int .i64 0] 120 (0, 0)) := (hb1.block w.heap.size (by simp)).trans (alloc_new' rfl)
      have HR := Lib.hid hrd
      have HRes := Lib.hid hres
      have HB := Lib.hid hb
      clear hrd hres hb HS
      clear hb1
      go_wp2_with (refine wpList_store_row rfl 120 _ _ rfl w.heap.size #[.int .i64 0, .int .i64 0, .int .i64 0] rfl rfl 120 #[.int .i64 0, .int .i64 0, .int .i64 0] HRes.out meanSize rfl (by simp [Value.oneCell']) ?_)

      refine bodyPost_pair Tryd.results70 rfl w.heap.size rfl #[.int .i64 0, .int .i64 0, .int .i64 0] _ (0, 0) (setRow_heap _ _ _ _ _ _ HRes.out) _ Tryd.underlying120 rfl 3 meanSize rfl (.bool false) rfl ?_
      exact ⟨rfl, below_setRow HB.out (Nat.le_refl _) _⟩)
  · obtain rfl : gg = true := by
      cases gg with
      | true => rfl
      | false => exact absurd (HG.out rfl) hl0
    have hpos := sum_pos hk2 hl0
    have hlen : 0 < l.length := by cases l with | nil => exact absurd rfl hl0 | cons a r => simp
    obtain rfl : mf = [.int .i64 ((worthF l).tdiv (lotsF l)), .int .i64 ((worthF l).tmod (lotsF l)), .int .i64 (lotsF l)] := by rw [hspec.out, if_neg hl0]
    obtain rfl : ff = true := by rw [hspec2.out]; simp [hl0]
    have hfin : Hid (sumTo Fill.lots l l.length = lotsF l) := by show _ = _; rw [sumTo_all]; rfl
    have HK2 := Lib.hid hk2
    clear hspec hspec2 HG
    obtain ⟨wf, hwf⟩ : ∃ z, z = worthF l := ⟨_, rfl⟩
    obtain ⟨lf, hlf⟩ : ∃ z, z = lotsF l := ⟨_, rfl⟩
    rw [← hwf, ← hlf]
    rw [← hlf] at hfin hpos
    have hwr : 0 ≤ wf ∧ wf ≤ 1000 * 1000000000 := by
      obtain ⟨a, b⟩ := sumTo_range costF 1000000000 l (fun f hf => costF_range (hk2 f hf).1) l.length (Nat.le_refl _)
      rw [sumTo_all] at a b
      rw [hwf]
      unfold worthF
      omega
    have hdiv : Hid (IntKind.i64.wrap (wf.tdiv lf) = wf.tdiv lf) := by
      show _ = _
      rw [Int.tdiv_eq_ediv_of_nonneg hwr.1, IntKind.wrap_i64]
      have h1 := Int.ediv_nonneg hwr.1 (Int.le_of_lt hpos)
      have h2 := Int.ediv_le_self lf hwr.1
      omega
    have HWF := Lib.hid hwf
    clear hwr hk2
    clear hwf hlf
    have hne : ((l.length : Int) == 0) = false := beq_eq_false_iff_ne.2 (by omega)
    clear hl0
    go_enter Tryd.func70, Tryd.ntmps70
    go_wp2_with fail
    refine HS.out.mono ?_
    rintro e w1 ⟨v, rfl, ⟨A1, cap1, rfl, hcp, hA1, hrd⟩, hb1⟩
    have hb : Below w.heap.size w w1 := (below_grow w _).trans (hb1.mono (by simp))
    have hres : w1.heap[w.heap.size]? = some (.cells #[.int .i64 0, .int .i64 0, .int .i64 0] 120 (0, 0)) := (hb1.block w.heap.size (by simp)).trans (alloc_new' rfl)
    have HR := Lib.hid hrd
    have HRes := Lib.hid hres
    have HB := Lib.hid hb
    clear hrd hres hb HS
    clear hb1
    go_wp2_with fail
    go_loopw [5, 7, 24] (fun s5 _ s24 wr => ∃ kk : Nat, kk ≤ l.length ∧ s24 = .int .i64 kk ∧ s5 = .int .i64 (sumTo Fill.lots l kk) ∧ Below w1.heap.size w1 wr) (fun _ _ s24 _ => l.length - (intOf s24).toNat)
    case atStart => exact ⟨0, Nat.zero_le _, rfl, by rw [sumTo_zero], Below.refl _ _⟩
    case round =>
      obtain ⟨kk, hkk, rfl, rfl, hbl⟩ := hrel
      obtain ⟨q1, q2⟩ := sumTo_range Fill.lots 1000 l (fun f hf => ⟨(HK2.out f hf).1.2.2.1, (HK2.out f hf).1.2.2.2⟩) kk (by omega)
      by_cases hlt : kk < l.length
      · obtain ⟨b, off, rfl, hb, hrows⟩ := HR.out.2 (by omega)
        obtain ⟨x, hx⟩ : ∃ x, l[kk]? = some x := ⟨_, List.getElem?_eq_getElem (by omega)⟩
        have r1 := rangeAt_below (hrows kk x hx) hbl hb
        have hs := Lib.hid (sumTo_succ Fill.lots l kk x hx)
        have hx3 := (HK2.out x (List.mem_of_getElem? hx)).1.2.2
        clear hrows hx
        obtain ⟨ask, bid, seller, buyer, price, lots⟩ := x
        obtain ⟨p1, p2⟩ := hx3
        simp only at p1 p2
        generalize sumTo Fill.lots l kk = sk at hs q1 q2 ⊢
        have ha : wrap64 (sk + lots) = sk + lots := by unfold wrap64; omega
        clear q1 q2 p1 p2
        go_wp2_with (refine wpList_load_mid rfl 82 _ rfl b (off + kk * 6) rfl [.int .i64 ask, .int .i64 bid, .int .i64 seller, .int .i64 buyer, .int .i64 price, .int .i64 lots] _ r1 Tryd.underlying82 rfl size_fill ?_)
        go_roundw
        case rel => exact ⟨kk + 1, by omega, by go_num, by rw [hs.out, ha], hbl.alloc hbl.size _⟩
        case measure => simp [intOf]; omega
      · have hkl : kk = l.length := by omega
        subst hkl
        rw [hfin.out] at q1 q2 ⊢
        have hr2 : Hid (RdRows wr wr.heap.size Fill.cells 6 A1 l.length l) := (HR.out.below hbl (Nat.le_refl _)).mono hbl.size
        have hrow2 : Hid (wr.heap[w.heap.size]? = some (.cells #[.int .i64 0, .int .i64 0, .int .i64 0] 120 (0, 0))) := (hbl.block _ (lt_of_block HRes.out)).trans HRes.out
        have hbw : Hid (Below w.heap.size w wr) := HB.out.trans (hbl.mono HB.out.size)
        go_wp2_with fail
        refine (worth_c A1 l.length cap1 l wr hr2 (by omega) (show Hid _ from fun f hf => (HK2.out f hf).1)).mono ?_
        rintro e w2 ⟨rfl, hb2⟩
        have hrow3 : Hid (w2.heap[w.heap.size]? = some (.cells #[.int .i64 0, .int .i64 0, .int .i64 0] 120 (0, 0))) := (hb2.block _ (lt_of_block hrow2.out)).trans hrow2.out
        have hbw2 : Hid (Below w.heap.size w w2) := hbw.out.trans (hb2.mono hbw.out.size)
        clear hb2 hbl hr2 hrow2 hbw HR HRes HB HK2 hfin
        rw [← HWF.out]
        have hlf0 : ¬ lf = 0 := by omega
        have hdv := hdiv.out
        clear q1 q2 hpos
        go_wp2_with fail
        refine wp_region_any (by kernel_rfl) ?_
        try (change wpAny _ _ _ _ _ _ _ (World.drew _))
        refine wpAny_take (i := 0) (v := ?_) rfl (by kernel_rfl) (by kernel_rfl) (by kernel_rfl) (fun _ _ _ h => h) (Or.inl ⟨by rfl, ?_⟩) ?_
        rotate_left
        focus
          intro w
          go_simp
          try with_reducible rfl
        try simp only [Act.put, List.getElem_toArray, List.getElem_cons_zero, List.getElem_cons_succ, List.setIfInBounds_toArray, List.set_cons_zero, List.set_cons_succ]
        refine wpAny_take (i := 1) (v := ?_) rfl (by kernel_rfl) (by kernel_rfl) (by kernel_rfl) (fun _ _ _ h => h) (Or.inl ⟨by rfl, ?_⟩) ?_
        rotate_left
        focus
          intro w
          go_simp
          try with_reducible rfl
        try simp only [Act.put, List.getElem_toArray, List.getElem_cons_zero, List.getElem_cons_succ, List.setIfInBounds_toArray, List.set_cons_zero, List.set_cons_succ]
        refine wpAny_take (i := 2) (v := ?_) rfl (by kernel_rfl) (by kernel_rfl) (by kernel_rfl) (fun _ _ _ h => h) (Or.inl ⟨by rfl, ?_⟩) ?_
        rotate_left
        focus
          intro w
          go_simp
          try with_reducible rfl
        try simp only [Act.put, List.getElem_toArray, List.getElem_cons_zero, List.getElem_cons_succ, List.setIfInBounds_toArray, List.set_cons_zero, List.set_cons_succ]
        refine wpAny_take (i := 3) (v := ?_) rfl (by kernel_rfl) (by kernel_rfl) (by kernel_rfl) (fun _ _ _ h => h) (Or.inl ⟨by rfl, ?_⟩) ?_
        rotate_left
        focus
          intro w
          go_simp
          try with_reducible rfl
        try simp only [Act.put, List.getElem_toArray, List.getElem_cons_zero, List.getElem_cons_succ, List.setIfInBounds_toArray, List.set_cons_zero, List.set_cons_succ]
        refine wpAny_take (i := 4) (v := ?_) rfl (by kernel_rfl) (by kernel_rfl) (by kernel_rfl) (fun _ _ _ h => h) (Or.inl ⟨by rfl, ?_⟩) ?_
        rotate_left
        focus
          intro w
          go_simp
          try with_reducible rfl
        try simp only [Act.put, List.getElem_toArray, List.getElem_cons_zero, List.getElem_cons_succ, List.setIfInBounds_toArray, List.set_cons_zero, List.set_cons_succ]
        refine wpAny_take (i := 5) (v := ?_) rfl (by kernel_rfl) (by kernel_rfl) (by kernel_rfl) (fun _ _ _ h => h) (Or.inl ⟨by rfl, ?_⟩) ?_
        rotate_left
        focus
          intro w
          go_simp
          try with_reducible rfl
        try simp only [Act.put, List.getElem_toArray, List.getElem_cons_zero, List.getElem_cons_succ, List.setIfInBounds_toArray, List.set_cons_zero, List.set_cons_succ]
        refine wpAny_take (i := 6) (v := ?_) rfl (by kernel_rfl) (by kernel_rfl) (by kernel_rfl) (fun _ _ _ h => h) (Or.inl ⟨by rfl, ?_⟩) ?_
        rotate_left
        focus
          intro w
          go_simp
          try with_reducible rfl
        try simp only [Act.put, List.getElem_toArray, List.getElem_cons_zero, List.getElem_cons_succ, List.setIfInBounds_toArray, List.set_cons_zero, List.set_cons_succ]
        refine wpAny_take (i := 7) (v := ?_) rfl (by kernel_rfl) (by kernel_rfl) (by kernel_rfl) (fun _ _ _ h => h) (Or.inl ⟨by rfl, ?_⟩) ?_
        rotate_left
        focus
          intro w
          go_simp
          try with_reducible rfl
        try simp only [Act.put, List.getElem_toArray, List.getElem_cons_zero, List.getElem_cons_succ, List.setIfInBounds_toArray, List.set_cons_zero, List.set_cons_succ]
        refine wpAny_ready (rs := [8]) (by kernel_rfl) (by simp) ?_
        refine AllReady.cons rfl (fun K hK => ?_) AllReady.nil
        rw [if_pos (by rfl)]
        refine wp_store_row 120 _ _ rfl w.heap.size #[.int .i64 (wf.tdiv lf), .int .i64 (wf.tmod lf), .int .i64 lf] rfl rfl 120 #[.int .i64 0, .int .i64 0, .int .i64 0] hrow3.out meanSize rfl (by simp [Value.oneCell']) ?_
        refine hK _ _ ?_
        clear hK K
        try simp only [Act.put, List.getElem_toArray, List.getElem_cons_zero, List.getElem_cons_succ, List.setIfInBounds_toArray, List.set_cons_zero, List.set_cons_succ]
        refine wpAny_take (i := 9) (v := ?_) rfl (by kernel_rfl) (by kernel_rfl) (by kernel_rfl) (fun _ _ _ h => h) (Or.inl ⟨by rfl, ?_⟩) ?_
        rotate_left
        focus
          intro w
          go_simp
          try with_reducible rfl
        try simp only [Act.put, List.getElem_toArray, List.getElem_cons_zero, List.getElem_cons_succ, List.setIfInBounds_toArray, List.set_cons_zero, List.set_cons_succ]
        refine wpAny_done (by kernel_rfl) ?_ _
        go_wp2_with fail
        refine bodyPost_pair Tryd.results70 rfl w.heap.size rfl #[.int .i64 (wf.tdiv lf), .int .i64 (wf.tmod lf), .int .i64 lf] _ (0, 0) (setRow_heap _ _ _ _ _ _ hrow3.out) _ Tryd.underlying120 rfl 3 meanSize rfl (.bool true) rfl ?_
        exact ⟨rfl, below_setRow (below_drew hbw2.out) (Nat.le_refl _) _⟩
end Go.Proofs.YtdebldpmloignaaDoor
