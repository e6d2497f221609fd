/-
  BookCuts: the walk.
-/
import Derived.Test.YtdebldpmloignaaDoorBokW
import Derived.Deep.CutRange
import Derived.Deep.CutBlock
import Derived.Laws.AppendOwnNone
namespace Go.Proofs.YtdebldpmloignaaDoor
open Go.RowKit
set_option linter.unusedVariables false
set_option linter.unusedSimpArgs false

/-- append of one owned row onto another one; either may be nil. -/
theorem wpList_append_any {P : Program} {w : World} {ops : Array Oper} {rest : List Oper} {o : Oper} {a : Act} {Q : Exit → Act → World → Prop} (hgd : o.guard = none) (s x : Operand) (t : TypeId)
    (ho : o.op = .call { callee := .builtin .append, args := #[s, x], argTypes := #[t, t] })
    (base : Nat) (e : TypeId) (i : TypeInfo) (z : Value) (size bytes : Nat) (ht : P.underlying t = some (.slice e)) (hi : P.info? e = some i) (hz : i.zero = some z)
    (hsize : i.size = size) (hby : i.bytes = bytes) (hzs : z.cells.size = size) (hsz : 0 < size)
    (v : Value) (n : Nat) (xs : List Value) (hs : a.eval s = v) (hown : w.ownsRow base e size v n xs)
    (v2 : Value) (m base2 : Nat) (news : List Value) (hx : a.eval x = v2) (hown2 : w.ownsRow base2 e size v2 m news) (h1 : ∀ u ∈ news, u.oneCell' = true)
    (h63 : n + m ≤ maxLen) (hbytes : (n + m) * bytes ≤ 140737488355328) (hbase : base ≤ w.heap.size)
    (h : ∀ v' w', w'.ownsRow base e size v' (n + m) (xs ++ news) → w.grownBy w' v.ownBlock → wpList P ops Q rest (a.put o.dst v') w') : wpList P ops Q (o :: rest) a w := by
  rcases hown2.2 with ⟨rfl, rfl⟩ | ⟨g, cap, cur, rfl, hbg, hblk, hnc, hcm, hcs, htk⟩
  · have h0 : news = [] := List.eq_nil_of_length_eq_zero (by rw [hown2.1]; simp)
    subst h0
    refine wpList_append_own_none hgd s x t ho base e i size ht hi v n xs hs hown hx ?_
    refine h v w (by simpa using hown) ⟨rfl, rfl, rfl, Nat.le_refl _, fun _ _ _ => rfl⟩
  · refine wpList_append_own (w := w) hgd s x t ho base e i z size bytes ht hi hz hsize hby hzs hsz v n xs hs hown ⟨g, 0, none⟩ m cap news hx hown2.1 ?_ h1 h63 hbytes hbase ?_
    · intro j u hj
      rw [Addr.add_mid, Nat.zero_add, cell_of_row w g j cur e (0, 0) hblk]
      rw [← htk, List.getElem?_take] at hj
      split at hj
      · simpa using hj
      · cases hj
    · intro v' w' ho' hg _
      exact h v' w' ho' hg
/-- A block that the book's steps leave alone. -/
def Away (q : Nat) (v : Bool → Value) (X : Nat) : Prop := ∀ k, BF q v k → k ≠ X
theorem BS.away {w w' : World} {B q X : Nat} {v v' : Bool → Value} {l' : Bool → List Ord} {c' : Nat} (h : BS w w' B q v l' v' c') (hX : X < w.heap.size) (ha : Away q v X) : Away q v' X := fun k hk e => by
  rcases hk with rfl | ⟨s, hs⟩
  · exact ha k (.inl rfl) e
  · rcases h.own s k hs with ⟨t, ht⟩ | h2
    · exact ha k (.inr ⟨t, ht⟩) e
    · omega
theorem BS.keep {w w' : World} {B q X : Nat} {v v' : Bool → Value} {l' : Bool → List Ord} {c' : Nat} {cs : Array Value} {T : TypeId} (h : BS w w' B q v l' v' c') (hb : Blk w X cs T) (ha : Away q v X) : Blk w' X cs T :=
  h.turns.blk hb (fun hf => ha X hf rfl)
theorem BV.away {w : World} {B q X : Nat} {l : Bool → List Ord} {v : Bool → Value} {c : Nat} (h : BV w B q l v c) (hX : w.heap.size ≤ X) : Away q v X := fun k hk e => by
  have := (h.low_not k hk).2
  omega
/-- The book with one order cut to z lots; 0: gone. -/
def CutL (l : Bool → List Ord) (s : Bool) (i : Nat) (o : Ord) (z : Nat) : Bool → List Ord := if z = 0 then updL l s ((l s).eraseIdx i) else updL l s ((l s).set i { o with lots := (z : Int) })
theorem updL_updL (l : Bool → List Ord) (s : Bool) (x y : List Ord) : updL (updL l s x) s y = updL l s y := by
  funext t
  unfold updL
  by_cases e : t = s <;> simp [e]
theorem CutL_all {l : Bool → List Ord} {s : Bool} {i : Nat} {o : Ord} {z : Nat} (hx : (l s)[i]? = some o) (hz : o.lots = (z : Int)) (h0 : z ≠ 0) : CutL l s i o z = l := by
  unfold CutL
  rw [if_neg h0, ← hz]
  funext t
  unfold updL
  split
  · rename_i e
    subst e
    obtain ⟨hi, he⟩ := List.getElem?_eq_some_iff.1 hx
    rw [← he]
    exact List.set_getElem_self hi
  · rfl
theorem CutL_at {l : Bool → List Ord} {s : Bool} {i : Nat} {o : Ord} {z : Nat} (hx : (l s)[i]? = some o) (h0 : z ≠ 0) : (CutL l s i o z s)[i]? = some { o with lots := (z : Int) } := by
  unfold CutL
  rw [if_neg h0, updL_same, List.getElem?_set_self (List.getElem?_eq_some_iff.1 hx).1]
theorem CutL_part {l : Bool → List Ord} {s : Bool} {i : Nat} {o : Ord} {z k : Nat} (h0 : z ≠ 0) (hk : k < z) : updL (CutL l s i o z) s ((CutL l s i o z s).set i { { o with lots := (z : Int) } with lots := (z : Int) - (k : Int) }) = CutL l s i o (z - k) := by
  unfold CutL
  rw [if_neg h0, if_neg (by omega), updL_updL, updL_same, List.set_set]
  congr 2
  simp only [Ord.mk.injEq, and_true, true_and]
  omega
theorem CutL_gone {l : Bool → List Ord} {s : Bool} {i : Nat} {o : Ord} {z : Nat} (h0 : z ≠ 0) : updL (CutL l s i o z) s ((CutL l s i o z s).eraseIdx i) = CutL l s i o 0 := by
  unfold CutL
  rw [if_neg h0, if_pos rfl, updL_updL, updL_same]
  congr 1
  rw [List.eraseIdx_eq_take_drop_succ, List.eraseIdx_eq_take_drop_succ, List.take_set_of_le (Nat.le_refl i), List.drop_set_of_lt (Nat.lt_succ_self i)]
theorem CutL_inv {l : Bool → List Ord} {came : Nat} {s : Bool} {i : Nat} {o : Ord} {z : Nat} (h : Inv l came) (hx : (l s)[i]? = some o) (hz : z ≤ 1000) : Inv (CutL l s i o z) came := by
  unfold CutL
  split
  · exact h.erase
  · exact h.set hx ⟨by omega, by omega⟩
theorem CutL_get {l : Bool → List Ord} {came : Nat} {s : Bool} {i : Nat} {o : Ord} {z : Nat} (h : Inv l came) (hx : (l s)[i]? = some o) (hz : z ≤ 1000) : getO (CutL l s i o z) o.id = if z = 0 then none else some { o with lots := (z : Int) } := by
  by_cases h0 : z = 0
  · subst h0
    rw [if_pos rfl]
    unfold getO CutL
    rw [if_pos rfl, h.gone hx]
  · rw [if_neg h0]
    have h1 := CutL_at (z := z) hx h0
    have h2 := (CutL_inv h hx hz).fnd_of h1
    exact getO_of h2 h1
theorem CutL_other {l : Bool → List Ord} {came : Nat} {s : Bool} {i : Nat} {o x : Ord} {z : Nat} (h : Inv l came) (hx : (l s)[i]? = some o) (hz : z ≤ 1000) (hm : x ∈ l true ++ l false) (hne : x.id ≠ o.id) : getO (CutL l s i o z) x.id = some x := by
  obtain ⟨t, ht⟩ : ∃ t, x ∈ l t := by
    rcases List.mem_append.1 hm with h1 | h1
    · exact ⟨_, h1⟩
    · exact ⟨_, h1⟩
  have hin : x ∈ CutL l s i o z t := by
    unfold CutL
    obtain ⟨j, hj⟩ := List.getElem?_of_mem ht
    split
    · by_cases e : t = s
      · subst e
        rw [updL_same]
        have hji : j ≠ i := fun e => by subst e; rw [hx] at hj; cases hj; exact hne rfl
        exact List.mem_eraseIdx_iff_getElem?.2 ⟨j, hji, hj⟩
      · rw [updL_other _ _ _ _ e]; exact ht
    · by_cases e : t = s
      · subst e
        rw [updL_same]
        have hji : j ≠ i := fun e => by subst e; rw [hx] at hj; cases hj; exact hne rfl
        refine List.mem_of_getElem? (i := j) ?_
        rw [List.getElem?_set_ne (fun e => hji e.symm)]
        exact hj
      · rw [updL_other _ _ _ _ e]; exact ht
  obtain ⟨j, hj⟩ := List.getElem?_of_mem hin
  exact getO_of ((CutL_inv h hx hz).fnd_of hj) hj
theorem CutL_len {l : Bool → List Ord} {s : Bool} {i : Nat} {o : Ord} {z : Nat} (hx : (l s)[i]? = some o) : (CutL l s i o z true).length + (CutL l s i o z false).length = (l true).length + (l false).length - (if z = 0 then 1 else 0) := by
  have hi := (List.getElem?_eq_some_iff.1 hx).1
  unfold CutL
  split
  · have h1 := List.length_eraseIdx_of_lt hi
    generalize (l s).eraseIdx i = xs at h1
    cases s <;> simp [updL] <;> omega
  · have h1 : ((l s).set i { o with lots := (z : Int) }).length = (l s).length := List.length_set ..
    generalize (l s).set i { o with lots := (z : Int) } = xs at h1
    cases s <;> simp [updL] <;> omega
theorem alloc1 (w : World) (o : Obj) : Below w.heap.size w (w.alloc o) := (Below.refl _ w).alloc (Nat.le_refl _) _
theorem LL_at {l : Bool → List Ord} {k : Nat} {o : Ord} (h : (l true ++ l false)[k]? = some o) : ∃ (s : Bool) (i : Nat), (l s)[i]? = some o := by
  rw [List.getElem?_append] at h
  split at h
  · exact ⟨true, k, h⟩
  · exact ⟨false, _, h⟩
set_option maxRecDepth 100000 in
set_option maxHeartbeats 8000000 in
theorem bookCuts_walk (B0 : Nat) (E : Nat → Addr) (A : Option Addr) (len cap : Nat) (ds : List Ord) (which : Int) (A2 : Option Addr) (len2 cap2 : Nat) (zs : List Int) (w : World) (hE : Hid (Errs B0 w allKinds E)) (hB0 : B0 ≤ w.heap.size)
    (hz : Hid (RdRows w w.heap.size Ord.cells 6 A len ds)) (hcap : len ≤ cap) (hcm : cap ≤ maxLen) (hw1 : -9223372036854775808 ≤ which) (hw2 : which ≤ 9223372036854775807) (hzr : Hid (RdInts w w.heap.size A2 len2 zs)) (hcap2 : len2 ≤ cap2) (hcm2 : cap2 ≤ maxLen) :
    Calls Tryd.prog 7 #[.slice A len cap, .int .i64 which, .slice A2 len2 cap2] w fun e w' => e = .returned (.bool true) ∧ Below w.heap.size w w' := by
  have hlM : (len : Int) ≤ 9223372036854775807 := by unfold maxLen at hcm; omega
  have hlM2 : (len2 : Int) ≤ 9223372036854775807 := by unfold maxLen at hcm2; omega
  have HENV : Hid (∀ w', Below w.heap.size w w' → EnvK w' E) := fun w' hb => EnvK.of (hE.out.below (hb.mono hB0))
  have HKIND : Hid (∀ w', Below w.heap.size w w' → Calls Tryd.prog 43 #[.iface 202 (.pointer (some (E 1)))] w' fun e w'' => e = .returned (.int .i64 1) ∧ Below w'.heap.size w' w'') := fun w' hb => by
    have h := kind13_c w' (Nat.le_trans hB0 hb.size) (hE.out.below (hb.mono hB0)) 1 (by decide)
    rw [erV_some E 1 (by decide)] at h
    exact h
  go_enter Tryd.func7, Tryd.ntmps7
  go_wp2_with fail
  refine (awake13_c B0 E w hE hB0).mono ?_
  rintro e u1 ⟨rfl, hb1⟩
  have HB1 := Lib.hid hb1
  clear hb1 hE hB0
  go_wp2_with fail
  obtain ⟨q, hq⟩ : ∃ q, q = u1.heap.size := ⟨_, rfl⟩
  have HQ : Hid (w.heap.size ≤ q) := by show _ ≤ _; rw [hq]; exact HB1.out.size
  have HNEW := Lib.hid (bnew_c u1)
  rw [← hq] at HNEW
  clear hq
  refine HNEW.out.mono ?_
  rintro e W1 ⟨rfl, hv1, hb2⟩
  obtain ⟨v1, hv1e⟩ : ∃ v1 : Bool → Value, v1 = fun _ => .slice none 0 0 := ⟨_, rfl⟩
  have HV1 : Hid (BV W1 q q (fun _ => []) v1 0) := by show BV _ _ _ _ _ _; rw [hv1e]; exact hv1
  have HB2 : Hid (Below w.heap.size w W1) := HB1.out.trans (hb2.mono HQ.out)
  clear hv1 hb2 hv1e HNEW HB1
  go_upto_block 0 with fail
  go_cut [8] from 23 to 38 (fun s8 wx => ∃ (came : Nat) (l : Bool → List Ord) (v : Bool → Value) (W0 : World), W0 = wx ∧ came ≤ 30 ∧ Hid (Inv l came) ∧ Hid (BV W0 q q l v came) ∧ Hid (Below w.heap.size w W0))
  case first =>
    go_wp2_with fail
    go_loopw [8] (fun s8 wx => ∃ (k came : Nat) (l : Bool → List Ord) (v : Bool → Value) (W0 : World), W0 = wx ∧ k ≤ 30 ∧ k ≤ len ∧ s8 = .int .i64 k ∧ came ≤ k ∧ Hid (Inv l came) ∧ Hid (BV W0 q q l v came) ∧ Hid (Below w.heap.size w W0)) (fun s8 _ => 30 - (intOf s8).toNat)
    case atStart => exact ⟨0, 0, (fun _ => []), v1, _, rfl, by omega, by omega, rfl, Nat.le_refl _, Lib.hid Inv.empty, HV1, HB2⟩
    case round =>
      obtain ⟨k, came, l, v, W0, rfl, hk, hkl, rfl, hck, HI, HV, HB⟩ := hrel
      clear HV1 HB2
      by_cases h1 : k < len
      · have hk1 : (k : Int) < (len : Int) := by omega
        by_cases h2 : k < 30
        · have hk2 : (k : Int) < 30 := by omega
          obtain ⟨bb, off, rfl, hbb, hrows⟩ := hz.out.2 (by omega)
          obtain ⟨x, hx⟩ : ∃ x, ds[k]? = some x := ⟨_, List.getElem?_eq_getElem (by have := hz.out.1; omega)⟩
          have r1 := rangeAt_below (hrows k x hx) HB.out hbb
          clear hrows hx
          by_cases hak : addK l x = 0
          · have HC := Lib.hid (add_c q q l v came x W0 HV (fun s => Nat.le_trans (HI.out.len s) (by decide)) HI.out (by omega) (Nat.le_of_lt HV.out.lt) hak)
            have HI2 := Lib.hid (HI.out.add hak)
            clear hak
            go_wp2_with (refine wpList_load_mid rfl 67 _ rfl bb (off + k * 6) rfl x.cells _ r1 Tryd.underlying67 rfl (ord_szL x) ?_)
            refine HC.out.mono ?_
            rintro e W2 ⟨rfl, v2, hs⟩
            have HB3 := Lib.hid (HB.out.trans (hs.below HV.out HQ.out))
            have HV3 := Lib.hid hs.out
            clear hs r1
            go_wp2_with fail
            go_roundw
            case rel => exact ⟨k + 1, came + 1, _, _, _, rfl, by omega, by omega, by go_num, by omega, HI2, HV3, HB3⟩
            case measure => simp [intOf]; omega
          · have HC := Lib.hid (add_err E q q l v came x W0 HV (Lib.hid (HENV.out _ HB.out)) (fun s => Nat.le_trans (HI.out.len s) (by decide)) hak)
            obtain ⟨kk, hkk⟩ : ∃ kk, kk = addK l x := ⟨_, rfl⟩
            rw [← hkk] at HC hak
            rw [erV_some E kk hak] at HC
            clear hak hkk
            go_wp2_with (refine wpList_load_mid rfl 67 _ rfl bb (off + k * 6) rfl x.cells _ r1 Tryd.underlying67 rfl (ord_szL x) ?_)
            refine HC.out.mono ?_
            rintro e W2 ⟨rfl, hb⟩
            have HB3 := Lib.hid (HB.out.trans (hb.mono HB.out.size))
            have HV3 := Lib.hid (HV.out.below hb)
            clear hb r1
            go_wp2_with fail
            go_roundw
            case rel => exact ⟨k + 1, came, _, _, _, rfl, by omega, by omega, by go_num, by omega, HI, HV3, HB3⟩
            case measure => simp [intOf]; omega
        · have hk2 : ¬ (k : Int) < 30 := by omega
          go_wp2_with fail
          go_meet
          exact ⟨came, l, v, _, rfl, by omega, HI, HV, HB⟩
      · have hk1 : ¬ (k : Int) < (len : Int) := by omega
        go_wp2_with fail
        go_meet
        exact ⟨came, l, v, _, rfl, by omega, HI, HV, HB⟩
  case rest =>
    obtain ⟨came, l, v, W2, rfl, hcame, HI, HV, HB⟩ := hcut
    clear HV1 HB2
    obtain ⟨i0, hi0, hz0, hz1, hz2⟩ := info_parts info_ord
    have HN : Hid (∀ s, (l s).length ≤ 1000000) := fun s => Nat.le_trans (HI.out.len s) (by decide)
    go_wp2_with fail
    refine (blist_c q q l v came true W2 HV HN.out).mono ?_
    rintro e W3 ⟨v3, rfl, ho3, hb3⟩
    have HO3 := Lib.hid ho3
    have HV3 := Lib.hid (HV.out.below hb3)
    have HB3 := Lib.hid hb3
    obtain ⟨a3, c3, e3⟩ := own_len ho3
    have hob3 : ∀ g, v3.ownBlock = some g → W2.heap.size ≤ g := fun g hg => (ho3.lt g hg).1
    have HOB3 := Lib.hid hob3
    have HE3 := Lib.hid e3
    clear ho3 hb3 hob3 e3
    rw [HE3.out]
    go_wp2_with fail
    refine (blist_c q q l v came false W3 HV3 HN.out).mono ?_
    rintro e W4 ⟨v4, rfl, ho4, hb4⟩
    have ho3' := (Turns.of_below (F := fun _ => False) hb4).owns HO3.out (fun _ _ h => h)
    have HO4 := Lib.hid ho4
    have HO3' := Lib.hid ho3'
    have HB4 : Hid (Below W2.heap.size W2 W4) := HB3.out.trans (hb4.mono HB3.out.size)
    obtain ⟨a4, c4, e4⟩ := own_len ho4
    have HE4 := Lib.hid e4
    have hm1 : (l true).length + (l false).length ≤ maxLen := Nat.le_trans HI.out.few (by decide)
    have hm2 : ((l true).length + (l false).length) * 48 ≤ 140737488355328 := by have := HI.out.few; omega
    have hbase : W2.heap.size ≤ W4.heap.size := HB4.out.size
    clear ho4 hb4 ho3' e4 HO3
    rw [HE4.out]
    go_wp2_with (at_builtin; refine wpList_append_any (w := W4) rfl _ _ 62 rfl W2.heap.size 67 i0 (.agg #[.int .i64 0, .int .i64 0, .bool false, .int .i64 0, .int .i64 0, .int .i64 0]) 6 48 Tryd.underlying62 hi0 hz0 hz1 hz2 rfl (by decide) _ (l true).length _ HE3.out.symm HO3'.out _ (l false).length W3.heap.size _ HE4.out.symm HO4.out (flatOf_mem Ord.one _) hm1 hm2 hbase ?_)
    intro v5 W5 ho5 hg5
    rw [← flatOf_append] at ho5
    have HB5 : Hid (Below W2.heap.size W2 W5) := HB4.out.grown hg5 hbase (fun k hk => HOB3.out k hk)
    have HV5 := Lib.hid (HV.out.below HB5.out)
    have HBW : Hid (Below w.heap.size w W5) := HB.out.trans (HB5.out.mono HB.out.size)
    obtain ⟨LL, hLL⟩ : ∃ LL, LL = l true ++ l false := ⟨_, rfl⟩
    obtain ⟨N, hN⟩ : ∃ N, N = (l true).length + (l false).length := ⟨_, rfl⟩
    have HLN : Hid (LL.length = N) := by show _ = _; rw [hLL, hN, List.length_append]
    have hN32 : N ≤ 32 := by rw [hN]; exact HI.out.few
    rw [← hLL, ← hN] at ho5
    have HLL := Lib.hid hLL
    have HNN := Lib.hid hN
    have HO5 := Lib.hid ho5
    obtain ⟨a5, c5, e5⟩ := own_len ho5
    clear hLL hN ho5 hg5 HO4 HO3' hm1 hm2 hbase HE3 HE4 HOB3 HB3 HB4 HV3
    by_cases hN0 : N = 0
    · subst hN0
      rw [e5]
      clear e5
      go_wp2_with fail
      go_ret
      exact ⟨rfl, HBW.out⟩
    · obtain ⟨g5, cap5, cur5, hv5, hnc5, hcm5, hbg5, hblk5, hcs5, hrows5⟩ := own_rows' Ord.k6 HO5.out HLN.out (by omega)
      have HA5 : Hid (Away q v g5) := HV.out.away hbg5
      have HK5 : Hid (Blk W5 g5 cur5 67) := hblk5
      have HR5 : Hid (∀ W, Blk W g5 cur5 67 → ∀ i x, LL[i]? = some x → W.rangeAt g5 (i * 6) x.cells) := fun W hb i x hx j u hj => by
        have h1 := hrows5 i x hx j u hj
        rw [cell_of_row _ g5 _ _ _ _ hblk5, Nat.zero_add] at h1
        rw [cell_of_row _ g5 _ _ _ _ hb]
        exact h1
      rw [hv5]
      obtain ⟨ix, hix⟩ : ∃ ix : Nat, (ix : Int) = wrap64 ((IntKind.u64.wrap which).tmod (N : Int)) := ⟨(wrap64 ((IntKind.u64.wrap which).tmod (N : Int))).toNat, by
        have := umod_range which (N : Int) (by omega) (by omega)
        omega⟩
      have hixN : ix < N := by
        have := umod_range which (N : Int) (by omega) (by omega)
        omega
      have HIX := Lib.hid hix
      clear hix hrows5 hblk5 hcs5 hv5 e5
      obtain ⟨o, ho⟩ : ∃ o, LL[ix]? = some o := ⟨_, List.getElem?_eq_getElem (by rw [HLN.out]; exact hixN)⟩
      have hix := HIX.out.symm
      have hr1 := HR5.out W5 HK5.out ix o ho
      have hixN' : (ix : Int) < (N : Int) := by omega
      obtain ⟨s, i, hsi⟩ : ∃ s i, (l s)[i]? = some o := LL_at (by rw [← HLL.out]; exact ho)
      have HSI := Lib.hid hsi
      have hgd := HI.out.good s o (List.mem_of_getElem? hsi)
      obtain ⟨z0, hz0', hz1', hz2'⟩ : ∃ z0 : Nat, o.lots = (z0 : Int) ∧ z0 ≠ 0 ∧ z0 ≤ 1000 := by
        unfold Ord.good at hgd
        simp at hgd
        exact ⟨o.lots.toNat, by omega, by omega, by omega⟩
      have HSELF := Lib.hid (CutL_all hsi hz0' hz1')
      clear hsi ho hgd
      obtain ⟨oid, oten, osell, opr, olots, oseq⟩ := o
      simp only at hz0'
      subst hz0'
      have r1 : W5.rangeAt g5 (ix * 6) [.int .i64 oid, .int .i64 oten, .bool osell, .int .i64 opr, .int .i64 (z0 : Int), .int .i64 oseq] := hr1
      obtain ⟨oo, hoo⟩ : ∃ oo : Ord, oo = ⟨oid, oten, osell, opr, (z0 : Int), oseq⟩ := ⟨_, rfl⟩
      have HOO := Lib.hid hoo
      rw [← hoo] at HSI HSELF
      clear hoo hr1
      go_upto_region 12 with (refine wpList_load_mid rfl 67 _ rfl g5 (ix * 6) rfl [.int .i64 oid, .int .i64 oten, .bool osell, .int .i64 opr, .int .i64 (z0 : Int), .int .i64 oseq] _ r1 Tryd.underlying67 rfl size_ord ?_)
      obtain ⟨W6, hW6⟩ : ∃ W6, W6 = W5.alloc (.cells #[.int .i64 oid, .int .i64 oten, .bool osell, .int .i64 opr, .int .i64 (z0 : Int), .int .i64 oseq] 67) := ⟨_, rfl⟩
      obtain ⟨X, hX⟩ : ∃ X, X = W5.heap.size := ⟨_, rfl⟩
      have hb6 : Below W5.heap.size W5 W6 := by rw [hW6]; exact (Below.refl _ W5).alloc (Nat.le_refl _) _
      have HX6 : Hid (Blk W6 X #[.int .i64 oid, .int .i64 oten, .bool osell, .int .i64 opr, .int .i64 (z0 : Int), .int .i64 oseq] 67) := by show Blk _ _ _ _; rw [hW6, hX]; exact Blk.new W5 _ _
      have HK6 : Hid (Blk W6 g5 cur5 67) := HK5.out.below hb6
      have HAX : Hid (Away q v X) := HV5.out.away (by rw [hX]; exact Nat.le_refl _)
      have HV6 : Hid (BV W6 q q (CutL l s i oo z0) v came) := by show BV _ _ _ _ _ _; rw [HSELF.out]; exact HV5.out.below hb6
      have HB6 : Hid (Below w.heap.size w W6) := HBW.out.trans (hb6.mono HBW.out.size)
      rw [← hW6, ← hX]
      clear hW6 hX hb6 r1 hix HK5 HV5 HBW HB5
      have x4 := HX6.out.cell 4 _ rfl
      go_upto_block 2 with fail
      clear x4
      go_cut [11] from 12 to 121 (fun s11 wx => ∃ (z : Nat) (v' : Bool → Value) (W0 : World), W0 = wx ∧ s11 = .int .i64 z ∧ z ≤ 1000 ∧ Hid (BV W0 q q (CutL l s i oo z) v' came) ∧ Hid (Away q v' X) ∧ Hid (Away q v' g5) ∧ Hid (Blk W0 X #[.int .i64 oid, .int .i64 oten, .bool osell, .int .i64 opr, .int .i64 (z0 : Int), .int .i64 oseq] 67) ∧ Hid (Blk W0 g5 cur5 67) ∧ Hid (Below w.heap.size w W0))
      case first =>
        go_wp2_with fail
        go_loopw [11, 12, 13, 14, 15] (fun s11 s12 _ _ _ wx => ∃ (j z : Nat) (v' : Bool → Value) (W0 : World), W0 = wx ∧ j ≤ 40 ∧ j ≤ len2 ∧ s12 = .int .i64 j ∧ s11 = .int .i64 z ∧ z ≤ 1000 ∧ Hid (BV W0 q q (CutL l s i oo z) v' came) ∧ Hid (Away q v' X) ∧ Hid (Away q v' g5) ∧ Hid (Blk W0 X #[.int .i64 oid, .int .i64 oten, .bool osell, .int .i64 opr, .int .i64 (z0 : Int), .int .i64 oseq] 67) ∧ Hid (Blk W0 g5 cur5 67) ∧ Hid (Below w.heap.size w W0)) (fun _ s12 _ _ _ _ => 40 - (intOf s12).toNat)
        case atStart => exact ⟨0, z0, v, _, rfl, by omega, by omega, rfl, rfl, hz2', HV6, HAX, HA5, HX6, HK6, HB6⟩
        case round =>
          obtain ⟨j, z, v6, W0, rfl, hj, hjl, rfl, rfl, hzz, HVc, HAXc, HA5c, HXc, HKc, HBc⟩ := hrel
          clear HV6 HAX HA5 HX6 HK6 HB6
          by_cases h1 : j < len2
          · have hj1 : (j : Int) < (len2 : Int) := by omega
            by_cases h2 : j < 40
            · have hj2 : (j : Int) < 40 := by omega
              by_cases h3 : z = 0
              · subst h3
                go_wp2_with fail
                go_meet
                exact ⟨0, v6, _, rfl, rfl, by omega, HVc, HAXc, HA5c, HXc, HKc, HBc⟩
              · have hz3 : (0 : Int) < (z : Int) := by omega
                obtain ⟨ab, ao, rfl, hablt, hzc⟩ := hzr.out.2 (by omega)
                have cz := (HBc.out.cell (p := ⟨ab, ao + j, none⟩) hablt).trans (hzc j h1)
                obtain ⟨cv, hcv⟩ : ∃ cv, cv = zs.getD j 0 := ⟨_, rfl⟩
                rw [← hcv] at cz
                obtain ⟨m, hm, hmz⟩ : ∃ m : Nat, wrap64 ((IntKind.u64.wrap cv).tmod (z : Int)) = (m : Int) ∧ m < z := by
                  have := umod_range cv (z : Int) (by omega) (by omega)
                  exact ⟨(wrap64 ((IntKind.u64.wrap cv).tmod (z : Int))).toNat, by omega, by omega⟩
                clear hzc hcv
                have hmz' : (m : Int) < 1000 := by omega
                have hzz' : (z : Int) ≤ 1000 := by omega
                have hI' := CutL_inv HI.out HSI.out hzz
                have hat := CutL_at HSI.out h3
                have hid : oo.id = oid := by rw [HOO.out]
                have hfn : fnd (CutL l s i oo z) oid = some (s, i) := by
                  have h0 := hI'.fnd_of hat
                  rw [← hid]
                  exact h0
                have hN' : ∀ t, (CutL l s i oo z t).length ≤ 1000000 := fun t => Nat.le_trans (hI'.len t) (by decide)
                have HARG := Lib.hid (cut_arg E q q (CutL l s i oo z) v6 came oid ((z : Int) + 1) s i _ W0 HVc (Lib.hid (HENV.out _ HBc.out)) hN' hfn hat (.inr (by show (z : Int) < (z : Int) + 1; omega)))
                rw [erV_some E 1 (by decide)] at HARG
                obtain ⟨y, hy⟩ : ∃ y, y = z - (m + 1) := ⟨_, rfl⟩
                have HCUT : Hid (∀ W, Below W0.heap.size W0 W → Calls Tryd.prog 44 #[.pointer (some ⟨q, 0, none⟩), .int .i64 oid, .int .i64 (1 + (m : Int))] W (CutQ W q q v6 (CutL l s i oo y) came)) := fun W hb => by
                  have e1 : (1 : Int) + (m : Int) = ((m + 1 : Nat) : Int) := by omega
                  rw [e1]
                  by_cases hmz2 : m + 1 = z
                  · have h := cut_gone q q (CutL l s i oo z) v6 came oid ((m + 1 : Nat) : Int) s i _ W (Lib.hid (HVc.out.below hb)) hN' hfn hat (by omega) (by show ((m + 1 : Nat) : Int) = (z : Int); omega) (by show (z : Int) ≤ 1000000; omega)
                    rw [CutL_gone h3] at h
                    rw [show y = 0 by omega]
                    exact h
                  · have h := cut_part q q (CutL l s i oo z) v6 came oid ((m + 1 : Nat) : Int) s i _ W (Lib.hid (HVc.out.below hb)) hN' hfn hat (by omega) (by show ((m + 1 : Nat) : Int) < (z : Int); omega) (by show (z : Int) ≤ 1000000; omega)
                    rw [CutL_part h3 (by omega)] at h
                    rw [hy]
                    exact h
                have HE5 : Hid ((z : Int) - (1 + (m : Int)) = (y : Int)) := by show _ = _; omega
                have hyz : y ≤ 1000 := by omega
                have HGET := Lib.hid (CutL_get HI.out HSI.out hyz)
                rw [hid] at HGET
                have hNy : ∀ t, (CutL l s i oo y t).length ≤ 1000000 := fun t => Nat.le_trans ((CutL_inv HI.out HSI.out hyz).len t) (by decide)
                have HNY := Lib.hid hNy
                have HXL0 := HXc.out.lt
                have HKL0 := HKc.out.lt
                have HMZ := Lib.hid hmz
                have x0 := HXc.out.cell 0 _ rfl
                clear hI' hat hid hfn hN' hy hNy hmz h3
                go_wp2_with fail
                refine HARG.out.mono ?_
                rintro e W8 ⟨rfl, hb8⟩
                have HB8 := Lib.hid hb8
                have HBW8 := Lib.hid (HBc.out.trans (hb8.mono HBc.out.size))
                have x0 := (hb8.cell (p := ⟨X, 0, none⟩) HXL0).trans x0
                clear hb8
                go_wp2_with fail
                refine (HKIND.out W8 HBW8.out).mono ?_
                rintro e W9 ⟨rfl, hb9⟩
                have HB9 := Lib.hid (HB8.out.trans (hb9.mono HB8.out.size))
                have HBW9 := Lib.hid (HBW8.out.trans (hb9.mono HBW8.out.size))
                have x0 := (HXc.out.below HB9.out).cell 0 _ rfl
                clear hb9
                go_wp2_with fail
                refine (HCUT.out W9 HB9.out).mono ?_
                rintro e W10 ⟨rfl, v9, hs⟩
                have HV10 : Hid (BV W10 q q (CutL l s i oo y) v9 came) := hs.out
                have HBW10 := Lib.hid (HBW9.out.trans (hs.below (HVc.out.below HB9.out) HQ.out))
                have HX10 := Lib.hid (hs.keep (HXc.out.below HB9.out) HAXc.out)
                have HK10 := Lib.hid (hs.keep (HKc.out.below HB9.out) HA5c.out)
                have HAX10 := Lib.hid (hs.away (Nat.lt_of_lt_of_le HXL0 HB9.out.size) HAXc.out)
                have HA510 := Lib.hid (hs.away (Nat.lt_of_lt_of_le HKL0 HB9.out.size) HA5c.out)
                have x0 := HX10.out.cell 0 _ rfl
                clear hs HVc HAXc HA5c HXc HKc HBc HB8 HB9 HBW8 HBW9 HXL0 HKL0 HARG HCUT
                go_wp2_with fail
                rw [HE5.out]
                refine (of_book q q (CutL l s i oo y) v9 came oid W10 HV10 HNY.out).mono ?_
                rw [HGET.out]
                clear HGET
                by_cases hy0 : y = 0
                · rw [if_pos hy0]
                  subst hy0
                  rintro e W11 ⟨rfl, hb11⟩
                  have HV11 := Lib.hid (HV10.out.below hb11)
                  have HX11 := Lib.hid (HX10.out.below hb11)
                  have HK11 := Lib.hid (HK10.out.below hb11)
                  have HBW11 := Lib.hid (HBW10.out.trans (hb11.mono HBW10.out.size))
                  clear hb11 HV10 HX10 HK10 HBW10 x0
                  simp only [ordV, Option.isSome]
                  go_wp2_with fail
                  go_roundw
                  case rel => exact ⟨j + 1, 0, v9, _, rfl, by omega, by omega, by go_num, rfl, by omega, Lib.hid (HV11.out.below (alloc1 _ _)), HAX10, HA510, Lib.hid (HX11.out.below (alloc1 _ _)), Lib.hid (HK11.out.below (alloc1 _ _)), Lib.hid (HBW11.out.trans ((alloc1 _ _).mono HBW11.out.size))⟩
                  case measure => simp [intOf]; omega
                · rw [if_neg hy0, HOO.out]
                  have hy1 : (0 : Int) < (y : Int) := by omega
                  clear hy0
                  rintro e W11 ⟨rfl, hb11⟩
                  have HV11 := Lib.hid (HV10.out.below hb11)
                  have HX11 := Lib.hid (HX10.out.below hb11)
                  have HK11 := Lib.hid (HK10.out.below hb11)
                  have HBW11 := Lib.hid (HBW10.out.trans (hb11.mono HBW10.out.size))
                  clear hb11 HV10 HX10 HK10 HBW10 x0
                  simp only [ordV, Ord.cells, Option.isSome]
                  go_wp2_with fail
                  go_roundw
                  case rel => exact ⟨j + 1, y, v9, _, rfl, by omega, by omega, by go_num, rfl, by omega, Lib.hid (HV11.out.below (alloc1 _ _)), HAX10, HA510, Lib.hid (HX11.out.below (alloc1 _ _)), Lib.hid (HK11.out.below (alloc1 _ _)), Lib.hid (HBW11.out.trans ((alloc1 _ _).mono HBW11.out.size))⟩
                  case measure => simp [intOf]; omega
            · have hj2 : ¬ (j : Int) < 40 := by omega
              go_wp2_with fail
              go_meet
              exact ⟨z, v6, _, rfl, rfl, hzz, HVc, HAXc, HA5c, HXc, HKc, HBc⟩
          · have hj1 : ¬ (j : Int) < (len2 : Int) := by omega
            go_wp2_with fail
            go_meet
            exact ⟨z, v6, _, rfl, rfl, hzz, HVc, HAXc, HA5c, HXc, HKc, HBc⟩
      case rest =>
        obtain ⟨z, v6, W7, rfl, rfl, hzz, HVc, HAXc, HA5c, HXc, HKc, HBc⟩ := hcut
        clear HV6 HAX HA5 HX6 HK6 HB6 HAXc HA5c
        have hid : oo.id = oid := by rw [HOO.out]
        have HGET := Lib.hid (CutL_get HI.out HSI.out hzz)
        rw [hid] at HGET
        have HNZ : Hid (∀ t, (CutL l s i oo z t).length ≤ 1000000) := fun t => Nat.le_trans ((CutL_inv HI.out HSI.out hzz).len t) (by decide)
        have hcl := CutL_len (z := z) HSI.out
        rw [← HNN.out] at hcl
        clear hid
        by_cases hz0 : z = 0
        · subst hz0
          rw [if_pos rfl] at hcl
          have HLEN : Hid (∀ W, Below W7.heap.size W7 W → Calls Tryd.prog 46 #[.pointer (some ⟨q, 0, none⟩)] W fun e w' => e = .returned (.int .i64 ((N : Int) - 1)) ∧ Below W.heap.size W w') := fun W hb => by
            have h := blen_c q q (CutL l s i oo 0) v6 came W (Lib.hid (HVc.out.below hb)) HNZ.out
            rw [hcl, show ((N - 1 : Nat) : Int) = (N : Int) - 1 by omega] at h
            exact h
          have HGET : Hid (getO (CutL l s i oo 0) oid = none) := HGET.out
          clear hcl
          have hNN1 : (1 : Int) ≤ (N : Int) := by omega
          have hNN2 : (N : Int) ≤ 32 := by omega
          go_wp2_with fail
          go_loopw [17, 18, 19] (fun s17 _ _ wx => ∃ (k : Nat) (W0 : World), W0 = wx ∧ k ≤ N ∧ s17 = .int .i64 k ∧ Hid (Below W7.heap.size W7 W0)) (fun s17 _ _ _ => N - (intOf s17).toNat)
          case atStart => exact ⟨0, W7, rfl, by omega, rfl, Lib.hid (Below.refl _ _)⟩
          case round =>
            obtain ⟨k, W0, rfl, hk, rfl, HBk⟩ := hrel
            by_cases h1 : k < N
            · have hk1 : (k : Int) < (N : Int) := by omega
              obtain ⟨x, hx⟩ : ∃ x, LL[k]? = some x := ⟨_, List.getElem?_eq_getElem (by rw [HLN.out]; exact h1)⟩
              have hxm : x ∈ l true ++ l false := by rw [← HLL.out]; exact List.mem_of_getElem? hx
              have rg0 := HR5.out W0 (HKc.out.below HBk.out) k x hx
              have HOT := Lib.hid (fun (hne : x.id ≠ oo.id) => CutL_other HI.out HSI.out hzz hxm hne)
              have HOF := Lib.hid (of_book q q (CutL l s i oo 0) v6 came x.id W0 (Lib.hid (HVc.out.below HBk.out)) HNZ.out)
              obtain ⟨xid, xten, xsell, xpr, xlots, xseq⟩ := x
              simp only at HOF HOT
              have rg0 : W0.rangeAt g5 (k * 6) [.int .i64 xid, .int .i64 xten, .bool xsell, .int .i64 xpr, .int .i64 xlots, .int .i64 xseq] := rg0
              have HRG := Lib.hid rg0
              have c0 : W0.cell? ⟨g5, k * 6, none⟩ = some (.int .i64 xid) := rg0 0 _ rfl
              have hxo := (HXc.out.below HBk.out).cell 0 _ rfl
              have HXO := Lib.hid hxo
              have HX0 := (HXc.out.below HBk.out).lt
              have HG0 := (HKc.out.below HBk.out).lt
              clear hx hxm rg0 hxo
              by_cases he : xid = oid
              · subst he
                have hb8' : (xid != xid) = false := by simp
                rw [HGET.out] at HOF
                go_wp2_with fail
                refine HOF.out.mono ?_
                rintro e W9 ⟨rfl, hb9⟩
                have hwb : Below W7.heap.size W7 W9 := HBk.out.trans (hb9.mono HBk.out.size)
                have c0 : (W9.alloc (.cells #[.int .i64 0, .int .i64 0, .bool false, .int .i64 0, .int .i64 0, .int .i64 0] 67)).cell? ⟨g5, k * 6, none⟩ = some (.int .i64 xid) := Lib.cell?_alloc_some _ ((hb9.cell (p := ⟨g5, k * 6, none⟩) HG0).trans c0)
                have xo : (W9.alloc (.cells #[.int .i64 0, .int .i64 0, .bool false, .int .i64 0, .int .i64 0, .int .i64 0] 67)).cell? ⟨X, 0, none⟩ = some (.int .i64 xid) := Lib.cell?_alloc_some _ ((hb9.cell (p := ⟨X, 0, none⟩) HX0).trans HXO.out)
                have HFB := (hwb.trans ((alloc1 W9 (.cells #[.int .i64 0, .int .i64 0, .bool false, .int .i64 0, .int .i64 0, .int .i64 0] 67)).mono hwb.size)).drew
                clear hb9 hwb HOT HRG
                simp only [ordV, Option.isSome]
                go_wp2_with fail
                refine wp_region_noPanic ?_
                refine wp_region_held_drew (S := (fun w' => w'.cell? ⟨g5, k * 6, none⟩ = some (.int .i64 xid) ∧ w'.cell? ⟨X, 0, none⟩ = some (.int .i64 xid))) (by kernel_rfl) ⟨c0, xo⟩ (fun hHeld => ?_)
                refine wpAnyH_take (i := 0) (v := ?_) rfl (by kernel_rfl) (by kernel_rfl) (by kernel_rfl) (fun _ _ _ h => h) (Or.inl ⟨by rfl, ?_⟩) hHeld ?_
                rotate_left
                focus
                  intro w hSw
                  clear hSw
                  go_simp
                  try with_reducible rfl
                try simp only [Act.put, List.getElem_toArray, List.getElem_cons_zero, List.getElem_cons_succ, List.setIfInBounds_toArray, List.set_cons_zero, List.set_cons_succ]
                refine wpAnyH_take (i := 1) (v := ?_) rfl (by kernel_rfl) (by kernel_rfl) (by kernel_rfl) (fun _ _ _ h => h) (Or.inl ⟨by rfl, ?_⟩) hHeld ?_
                rotate_left
                focus
                  intro w hSw
                  clear hSw
                  go_simp
                  try with_reducible rfl
                try simp only [Act.put, List.getElem_toArray, List.getElem_cons_zero, List.getElem_cons_succ, List.setIfInBounds_toArray, List.set_cons_zero, List.set_cons_succ]
                refine wpAnyH_take (i := 2) (v := ?_) rfl (by kernel_rfl) (by kernel_rfl) (by kernel_rfl) (fun _ _ _ h => h) (Or.inl ⟨by rfl, ?_⟩) hHeld ?_
                rotate_left
                focus
                  intro w hSw
                  clear hSw
                  go_simp
                  try with_reducible rfl
                try simp only [Act.put, List.getElem_toArray, List.getElem_cons_zero, List.getElem_cons_succ, List.setIfInBounds_toArray, List.set_cons_zero, List.set_cons_succ]
                refine wpAnyH_take (i := 3) (v := ?_) rfl (by kernel_rfl) (by kernel_rfl) (by kernel_rfl) (fun _ _ _ h => h) (Or.inl ⟨by rfl, ?_⟩) hHeld ?_
                rotate_left
                focus
                  intro w hSw
                  clear hSw
                  go_simp
                  try with_reducible rfl
                try simp only [Act.put, List.getElem_toArray, List.getElem_cons_zero, List.getElem_cons_succ, List.setIfInBounds_toArray, List.set_cons_zero, List.set_cons_succ]
                refine wpAnyH_take (i := 4) (v := ?_) rfl (by kernel_rfl) (by kernel_rfl) (by kernel_rfl) (fun _ _ _ h => h) (Or.inl ⟨by rfl, ?_⟩) hHeld ?_
                rotate_left
                focus
                  intro w hSw
                  (try dsimp only at hSw)
                  go_simp
                  try with_reducible rfl
                try simp only [Act.put, List.getElem_toArray, List.getElem_cons_zero, List.getElem_cons_succ, List.setIfInBounds_toArray, List.set_cons_zero, List.set_cons_succ]
                refine wpAnyH_take (i := 5) (v := ?_) rfl (by kernel_rfl) (by kernel_rfl) (by kernel_rfl) (fun _ _ _ h => h) (Or.inl ⟨by rfl, ?_⟩) hHeld ?_
                rotate_left
                focus
                  intro w hSw
                  clear hSw
                  go_simp
                  try with_reducible rfl
                try simp only [Act.put, List.getElem_toArray, List.getElem_cons_zero, List.getElem_cons_succ, List.setIfInBounds_toArray, List.set_cons_zero, List.set_cons_succ]
                refine wpAnyH_take (i := 6) (v := ?_) rfl (by kernel_rfl) (by kernel_rfl) (by kernel_rfl) (fun _ _ _ h => h) (Or.inl ⟨by rfl, ?_⟩) hHeld ?_
                rotate_left
                focus
                  intro w hSw
                  (try dsimp only at hSw)
                  go_simp
                  try with_reducible rfl
                try simp only [Act.put, List.getElem_toArray, List.getElem_cons_zero, List.getElem_cons_succ, List.setIfInBounds_toArray, List.set_cons_zero, List.set_cons_succ]
                refine wpAnyH_take (i := 7) (v := ?_) rfl (by kernel_rfl) (by kernel_rfl) (by kernel_rfl) (fun _ _ _ h => h) (Or.inl ⟨by rfl, ?_⟩) hHeld ?_
                rotate_left
                focus
                  intro w hSw
                  clear hSw
                  go_simp
                  try with_reducible rfl
                try simp only [Act.put, List.getElem_toArray, List.getElem_cons_zero, List.getElem_cons_succ, List.setIfInBounds_toArray, List.set_cons_zero, List.set_cons_succ]
                refine wpAnyH_take (i := 8) (v := ?_) rfl (by kernel_rfl) (by kernel_rfl) (by kernel_rfl) (fun _ _ _ h => h) (Or.inl ⟨by rfl, ?_⟩) hHeld ?_
                rotate_left
                focus
                  intro w hSw
                  clear hSw
                  go_simp
                  try with_reducible rfl
                try simp only [Act.put, List.getElem_toArray, List.getElem_cons_zero, List.getElem_cons_succ, List.setIfInBounds_toArray, List.set_cons_zero, List.set_cons_succ]
                refine wpAnyH_take (i := 9) (v := undef) rfl (by kernel_rfl) (by kernel_rfl) (by kernel_rfl) (fun _ _ _ h => h) (Or.inr ⟨by rfl, rfl⟩) hHeld ?_
                try simp only [Act.put, List.getElem_toArray, List.getElem_cons_zero, List.getElem_cons_succ, List.setIfInBounds_toArray, List.set_cons_zero, List.set_cons_succ]
                refine wpAnyH_take (i := 10) (v := undef) rfl (by kernel_rfl) (by kernel_rfl) (by kernel_rfl) (fun _ _ _ h => h) (Or.inr ⟨by rfl, rfl⟩) hHeld ?_
                try simp only [Act.put, List.getElem_toArray, List.getElem_cons_zero, List.getElem_cons_succ, List.setIfInBounds_toArray, List.set_cons_zero, List.set_cons_succ]
                refine wpAnyH_take (i := 11) (v := undef) rfl (by kernel_rfl) (by kernel_rfl) (by kernel_rfl) (fun _ _ _ h => h) (Or.inr ⟨by rfl, rfl⟩) hHeld ?_
                try simp only [Act.put, List.getElem_toArray, List.getElem_cons_zero, List.getElem_cons_succ, List.setIfInBounds_toArray, List.set_cons_zero, List.set_cons_succ]
                refine wpAnyH_take (i := 12) (v := undef) rfl (by kernel_rfl) (by kernel_rfl) (by kernel_rfl) (fun _ _ _ h => h) (Or.inr ⟨by rfl, rfl⟩) hHeld ?_
                try simp only [Act.put, List.getElem_toArray, List.getElem_cons_zero, List.getElem_cons_succ, List.setIfInBounds_toArray, List.set_cons_zero, List.set_cons_succ]
                refine wpAnyH_take (i := 13) (v := undef) rfl (by kernel_rfl) (by kernel_rfl) (by kernel_rfl) (fun _ _ _ h => h) (Or.inr ⟨by rfl, rfl⟩) hHeld ?_
                try simp only [Act.put, List.getElem_toArray, List.getElem_cons_zero, List.getElem_cons_succ, List.setIfInBounds_toArray, List.set_cons_zero, List.set_cons_succ]
                refine wpAnyH_take (i := 14) (v := undef) rfl (by kernel_rfl) (by kernel_rfl) (by kernel_rfl) (fun _ _ _ h => h) (Or.inr ⟨by rfl, rfl⟩) hHeld ?_
                try simp only [Act.put, List.getElem_toArray, List.getElem_cons_zero, List.getElem_cons_succ, List.setIfInBounds_toArray, List.set_cons_zero, List.set_cons_succ]
                refine wpAnyH_take (i := 15) (v := undef) rfl (by kernel_rfl) (by kernel_rfl) (by kernel_rfl) (fun _ _ _ h => h) (Or.inr ⟨by rfl, rfl⟩) hHeld ?_
                try simp only [Act.put, List.getElem_toArray, List.getElem_cons_zero, List.getElem_cons_succ, List.setIfInBounds_toArray, List.set_cons_zero, List.set_cons_succ]
                refine wpAnyH_take (i := 16) (v := undef) rfl (by kernel_rfl) (by kernel_rfl) (by kernel_rfl) (fun _ _ _ h => h) (Or.inr ⟨by rfl, rfl⟩) hHeld ?_
                try simp only [Act.put, List.getElem_toArray, List.getElem_cons_zero, List.getElem_cons_succ, List.setIfInBounds_toArray, List.set_cons_zero, List.set_cons_succ]
                refine wpAnyH_take (i := 17) (v := undef) rfl (by kernel_rfl) (by kernel_rfl) (by kernel_rfl) (fun _ _ _ h => h) (Or.inr ⟨by rfl, rfl⟩) hHeld ?_
                try simp only [Act.put, List.getElem_toArray, List.getElem_cons_zero, List.getElem_cons_succ, List.setIfInBounds_toArray, List.set_cons_zero, List.set_cons_succ]
                refine wpAnyH_take (i := 18) (v := undef) rfl (by kernel_rfl) (by kernel_rfl) (by kernel_rfl) (fun _ _ _ h => h) (Or.inr ⟨by rfl, rfl⟩) hHeld ?_
                try simp only [Act.put, List.getElem_toArray, List.getElem_cons_zero, List.getElem_cons_succ, List.setIfInBounds_toArray, List.set_cons_zero, List.set_cons_succ]
                refine wpAnyH_take (i := 19) (v := ?_) rfl (by kernel_rfl) (by kernel_rfl) (by kernel_rfl) (fun _ _ _ h => h) (Or.inl ⟨by rfl, ?_⟩) hHeld ?_
                rotate_left
                focus
                  intro w hSw
                  clear hSw
                  go_simp
                  try with_reducible rfl
                try simp only [Act.put, List.getElem_toArray, List.getElem_cons_zero, List.getElem_cons_succ, List.setIfInBounds_toArray, List.set_cons_zero, List.set_cons_succ]
                refine wpAnyH_done (by kernel_rfl) ?_ _
                refine NoPanic.normal ?_
                go_wp2_with fail
                go_roundw
                case rel => exact ⟨k + 1, _, rfl, by omega, by go_num, Lib.hid HFB⟩
                case measure => simp [intOf]; omega
              · have hne : (xid == oid) = false := beq_eq_false_iff_ne.2 he
                have hne2 : (xid != oid) = true := by rw [bne_iff_ne]; exact he
                rw [HOT.out (by rw [HOO.out]; exact he)] at HOF
                clear he
                go_wp2_with fail
                refine HOF.out.mono ?_
                rintro e W9 ⟨rfl, hb9⟩
                have hwb : Below W7.heap.size W7 W9 := HBk.out.trans (hb9.mono HBk.out.size)
                have c0 : (W9.alloc (.cells #[.int .i64 xid, .int .i64 xten, .bool xsell, .int .i64 xpr, .int .i64 xlots, .int .i64 xseq] 67)).cell? ⟨g5, k * 6, none⟩ = some (.int .i64 xid) := Lib.cell?_alloc_some _ ((hb9.cell (p := ⟨g5, k * 6, none⟩) HG0).trans c0)
                have xo : (W9.alloc (.cells #[.int .i64 xid, .int .i64 xten, .bool xsell, .int .i64 xpr, .int .i64 xlots, .int .i64 xseq] 67)).cell? ⟨X, 0, none⟩ = some (.int .i64 oid) := Lib.cell?_alloc_some _ ((hb9.cell (p := ⟨X, 0, none⟩) HX0).trans HXO.out)
                have rg : (W9.alloc (.cells #[.int .i64 xid, .int .i64 xten, .bool xsell, .int .i64 xpr, .int .i64 xlots, .int .i64 xseq] 67)).rangeAt g5 (k * 6) [.int .i64 xid, .int .i64 xten, .bool xsell, .int .i64 xpr, .int .i64 xlots, .int .i64 xseq] := World.rangeAt_alloc (rangeAt_below HRG.out hb9 HG0) _
                obtain ⟨XB, hXB⟩ : ∃ XB, XB = W9.heap.size := ⟨_, rfl⟩
                have rb : (W9.alloc (.cells #[.int .i64 xid, .int .i64 xten, .bool xsell, .int .i64 xpr, .int .i64 xlots, .int .i64 xseq] 67)).rangeAt XB 0 [.int .i64 xid, .int .i64 xten, .bool xsell, .int .i64 xpr, .int .i64 xlots, .int .i64 xseq] := fun jj u hj => by
                  rw [Nat.zero_add, hXB]
                  exact (Blk.new W9 #[.int .i64 xid, .int .i64 xten, .bool xsell, .int .i64 xpr, .int .i64 xlots, .int .i64 xseq] 67).cell jj u (by simpa using hj)
                have HFB := (hwb.trans ((alloc1 W9 (.cells #[.int .i64 xid, .int .i64 xten, .bool xsell, .int .i64 xpr, .int .i64 xlots, .int .i64 xseq] 67)).mono hwb.size)).drew
                have on := ord_neq_same xid xten xsell xpr xlots xseq
                have oe := ord_eqIn_same xid xten xsell xpr xlots xseq
                have og := ord_eqGuardType
                clear hb9 hwb HRG
                simp only [ordV, Ord.cells, Option.isSome]
                go_wp2_with fail
                rw [← hXB]
                clear hXB
                refine wp_region_noPanic ?_
                refine wp_region_held_drew (S := (fun w' => w'.cell? ⟨g5, k * 6, none⟩ = some (.int .i64 xid) ∧ w'.cell? ⟨X, 0, none⟩ = some (.int .i64 oid) ∧ w'.rangeAt XB 0 [.int .i64 xid, .int .i64 xten, .bool xsell, .int .i64 xpr, .int .i64 xlots, .int .i64 xseq] ∧ w'.rangeAt g5 (k * 6) [.int .i64 xid, .int .i64 xten, .bool xsell, .int .i64 xpr, .int .i64 xlots, .int .i64 xseq])) (by kernel_rfl) ⟨c0, xo, rb, rg⟩ (fun hHeld => ?_)
                refine wpAnyH_take (i := 0) (v := ?_) rfl (by kernel_rfl) (by kernel_rfl) (by kernel_rfl) (fun _ _ _ h => h) (Or.inl ⟨by rfl, ?_⟩) hHeld ?_
                rotate_left
                focus
                  intro w hSw
                  clear hSw
                  go_simp
                  try with_reducible rfl
                try simp only [Act.put, List.getElem_toArray, List.getElem_cons_zero, List.getElem_cons_succ, List.setIfInBounds_toArray, List.set_cons_zero, List.set_cons_succ]
                refine wpAnyH_take (i := 1) (v := ?_) rfl (by kernel_rfl) (by kernel_rfl) (by kernel_rfl) (fun _ _ _ h => h) (Or.inl ⟨by rfl, ?_⟩) hHeld ?_
                rotate_left
                focus
                  intro w hSw
                  clear hSw
                  go_simp
                  try with_reducible rfl
                try simp only [Act.put, List.getElem_toArray, List.getElem_cons_zero, List.getElem_cons_succ, List.setIfInBounds_toArray, List.set_cons_zero, List.set_cons_succ]
                refine wpAnyH_take (i := 2) (v := ?_) rfl (by kernel_rfl) (by kernel_rfl) (by kernel_rfl) (fun _ _ _ h => h) (Or.inl ⟨by rfl, ?_⟩) hHeld ?_
                rotate_left
                focus
                  intro w hSw
                  clear hSw
                  go_simp
                  try with_reducible rfl
                try simp only [Act.put, List.getElem_toArray, List.getElem_cons_zero, List.getElem_cons_succ, List.setIfInBounds_toArray, List.set_cons_zero, List.set_cons_succ]
                refine wpAnyH_take (i := 3) (v := ?_) rfl (by kernel_rfl) (by kernel_rfl) (by kernel_rfl) (fun _ _ _ h => h) (Or.inl ⟨by rfl, ?_⟩) hHeld ?_
                rotate_left
                focus
                  intro w hSw
                  clear hSw
                  go_simp
                  try with_reducible rfl
                try simp only [Act.put, List.getElem_toArray, List.getElem_cons_zero, List.getElem_cons_succ, List.setIfInBounds_toArray, List.set_cons_zero, List.set_cons_succ]
                refine wpAnyH_take (i := 4) (v := ?_) rfl (by kernel_rfl) (by kernel_rfl) (by kernel_rfl) (fun _ _ _ h => h) (Or.inl ⟨by rfl, ?_⟩) hHeld ?_
                rotate_left
                focus
                  intro w hSw
                  (try dsimp only at hSw)
                  go_simp
                  try with_reducible rfl
                try simp only [Act.put, List.getElem_toArray, List.getElem_cons_zero, List.getElem_cons_succ, List.setIfInBounds_toArray, List.set_cons_zero, List.set_cons_succ]
                refine wpAnyH_take (i := 5) (v := ?_) rfl (by kernel_rfl) (by kernel_rfl) (by kernel_rfl) (fun _ _ _ h => h) (Or.inl ⟨by rfl, ?_⟩) hHeld ?_
                rotate_left
                focus
                  intro w hSw
                  clear hSw
                  go_simp
                  try with_reducible rfl
                try simp only [Act.put, List.getElem_toArray, List.getElem_cons_zero, List.getElem_cons_succ, List.setIfInBounds_toArray, List.set_cons_zero, List.set_cons_succ]
                refine wpAnyH_take (i := 6) (v := ?_) rfl (by kernel_rfl) (by kernel_rfl) (by kernel_rfl) (fun _ _ _ h => h) (Or.inl ⟨by rfl, ?_⟩) hHeld ?_
                rotate_left
                focus
                  intro w hSw
                  (try dsimp only at hSw)
                  go_simp
                  try with_reducible rfl
                try simp only [Act.put, List.getElem_toArray, List.getElem_cons_zero, List.getElem_cons_succ, List.setIfInBounds_toArray, List.set_cons_zero, List.set_cons_succ]
                refine wpAnyH_take (i := 7) (v := ?_) rfl (by kernel_rfl) (by kernel_rfl) (by kernel_rfl) (fun _ _ _ h => h) (Or.inl ⟨by rfl, ?_⟩) hHeld ?_
                rotate_left
                focus
                  intro w hSw
                  clear hSw
                  go_simp
                  try with_reducible rfl
                try simp only [Act.put, List.getElem_toArray, List.getElem_cons_zero, List.getElem_cons_succ, List.setIfInBounds_toArray, List.set_cons_zero, List.set_cons_succ]
                refine wpAnyH_take (i := 8) (v := ?_) rfl (by kernel_rfl) (by kernel_rfl) (by kernel_rfl) (fun _ _ _ h => h) (Or.inl ⟨by rfl, ?_⟩) hHeld ?_
                rotate_left
                focus
                  intro w hSw
                  clear hSw
                  go_simp
                  try with_reducible rfl
                try simp only [Act.put, List.getElem_toArray, List.getElem_cons_zero, List.getElem_cons_succ, List.setIfInBounds_toArray, List.set_cons_zero, List.set_cons_succ]
                refine wpAnyH_take (i := 9) (v := ?_) rfl (by kernel_rfl) (by kernel_rfl) (by kernel_rfl) (fun _ _ _ h => h) (Or.inl ⟨by rfl, ?_⟩) hHeld ?_
                rotate_left
                focus
                  intro w hSw
                  clear hSw
                  go_simp
                  try with_reducible rfl
                try simp only [Act.put, List.getElem_toArray, List.getElem_cons_zero, List.getElem_cons_succ, List.setIfInBounds_toArray, List.set_cons_zero, List.set_cons_succ]
                refine wpAnyH_take (i := 10) (v := ?_) rfl (by kernel_rfl) (by kernel_rfl) (by kernel_rfl) (fun _ _ _ h => h) (Or.inl ⟨by rfl, ?_⟩) hHeld ?_
                rotate_left
                focus
                  intro w hSw
                  clear hSw
                  go_simp
                  try with_reducible rfl
                try simp only [Act.put, List.getElem_toArray, List.getElem_cons_zero, List.getElem_cons_succ, List.setIfInBounds_toArray, List.set_cons_zero, List.set_cons_succ]
                refine wpAnyH_take (i := 11) (v := ?_) rfl (by kernel_rfl) (by kernel_rfl) (by kernel_rfl) (fun _ _ _ h => h) (Or.inl ⟨by rfl, ?_⟩) hHeld ?_
                rotate_left
                focus
                  intro w hSw
                  clear hSw
                  go_simp
                  try with_reducible rfl
                try simp only [Act.put, List.getElem_toArray, List.getElem_cons_zero, List.getElem_cons_succ, List.setIfInBounds_toArray, List.set_cons_zero, List.set_cons_succ]
                refine wpAnyH_take (i := 12) rfl (by kernel_rfl) (by kernel_rfl) (by kernel_rfl) (fun _ _ _ h => h) (yieldsIf_load_mid (by rfl) 67 _ rfl XB (0) rfl [.int .i64 xid, .int .i64 xten, .bool xsell, .int .i64 xpr, .int .i64 xlots, .int .i64 xseq] _ (fun w h => h.2.2.1) Tryd.underlying67 rfl size_ord) hHeld ?_
                try simp only [Act.put, List.getElem_toArray, List.getElem_cons_zero, List.getElem_cons_succ, List.setIfInBounds_toArray, List.set_cons_zero, List.set_cons_succ]
                refine wpAnyH_take (i := 13) (v := ?_) rfl (by kernel_rfl) (by kernel_rfl) (by kernel_rfl) (fun _ _ _ h => h) (Or.inl ⟨by rfl, ?_⟩) hHeld ?_
                rotate_left
                focus
                  intro w hSw
                  clear hSw
                  go_simp
                  try with_reducible rfl
                try simp only [Act.put, List.getElem_toArray, List.getElem_cons_zero, List.getElem_cons_succ, List.setIfInBounds_toArray, List.set_cons_zero, List.set_cons_succ]
                refine wpAnyH_take (i := 14) (v := ?_) rfl (by kernel_rfl) (by kernel_rfl) (by kernel_rfl) (fun _ _ _ h => h) (Or.inl ⟨by rfl, ?_⟩) hHeld ?_
                rotate_left
                focus
                  intro w hSw
                  clear hSw
                  go_simp
                  try with_reducible rfl
                try simp only [Act.put, List.getElem_toArray, List.getElem_cons_zero, List.getElem_cons_succ, List.setIfInBounds_toArray, List.set_cons_zero, List.set_cons_succ]
                refine wpAnyH_take (i := 15) (v := ?_) rfl (by kernel_rfl) (by kernel_rfl) (by kernel_rfl) (fun _ _ _ h => h) (Or.inl ⟨by rfl, ?_⟩) hHeld ?_
                rotate_left
                focus
                  intro w hSw
                  clear hSw
                  go_simp
                  try with_reducible rfl
                try simp only [Act.put, List.getElem_toArray, List.getElem_cons_zero, List.getElem_cons_succ, List.setIfInBounds_toArray, List.set_cons_zero, List.set_cons_succ]
                refine wpAnyH_take (i := 16) rfl (by kernel_rfl) (by kernel_rfl) (by kernel_rfl) (fun _ _ _ h => h) (yieldsIf_load_mid (by rfl) 67 _ rfl g5 (k * 6) rfl [.int .i64 xid, .int .i64 xten, .bool xsell, .int .i64 xpr, .int .i64 xlots, .int .i64 xseq] _ (fun w h => h.2.2.2) Tryd.underlying67 rfl size_ord) hHeld ?_
                try simp only [Act.put, List.getElem_toArray, List.getElem_cons_zero, List.getElem_cons_succ, List.setIfInBounds_toArray, List.set_cons_zero, List.set_cons_succ]
                refine wpAnyH_take (i := 17) (v := ?_) rfl (by kernel_rfl) (by kernel_rfl) (by kernel_rfl) (fun _ _ _ h => h) (Or.inl ⟨by rfl, ?_⟩) hHeld ?_
                rotate_left
                focus
                  intro w hSw
                  clear hSw
                  go_simp
                  try with_reducible rfl
                try simp only [Act.put, List.getElem_toArray, List.getElem_cons_zero, List.getElem_cons_succ, List.setIfInBounds_toArray, List.set_cons_zero, List.set_cons_succ]
                refine wpAnyH_take (i := 18) (v := ?_) rfl (by kernel_rfl) (by kernel_rfl) (by kernel_rfl) (fun _ _ _ h => h) (Or.inl ⟨by rfl, ?_⟩) hHeld ?_
                rotate_left
                focus
                  intro w hSw
                  clear hSw
                  go_simp
                  try with_reducible rfl
                try simp only [Act.put, List.getElem_toArray, List.getElem_cons_zero, List.getElem_cons_succ, List.setIfInBounds_toArray, List.set_cons_zero, List.set_cons_succ]
                refine wpAnyH_take (i := 19) (v := ?_) rfl (by kernel_rfl) (by kernel_rfl) (by kernel_rfl) (fun _ _ _ h => h) (Or.inl ⟨by rfl, ?_⟩) hHeld ?_
                rotate_left
                focus
                  intro w hSw
                  clear hSw
                  go_simp
                  try with_reducible rfl
                try simp only [Act.put, List.getElem_toArray, List.getElem_cons_zero, List.getElem_cons_succ, List.setIfInBounds_toArray, List.set_cons_zero, List.set_cons_succ]
                refine wpAnyH_done (by kernel_rfl) ?_ _
                refine NoPanic.normal ?_
                go_wp2_with fail
                go_roundw
                case rel => exact ⟨k + 1, _, rfl, by omega, by go_num, Lib.hid HFB⟩
                case measure => simp [intOf]; omega
            · have hk1 : ¬ (k : Int) < (N : Int) := by omega
              go_wp2_with fail
              refine (HLEN.out W0 HBk.out).mono ?_
              rintro e W9 ⟨rfl, hb9⟩
              have HFB := Lib.hid ((HBc.out.trans (HBk.out.mono HBc.out.size)).trans (hb9.mono (HBc.out.trans (HBk.out.mono HBc.out.size)).size))
              clear hb9
              go_wp2_with fail
              go_ret
              exact ⟨rfl, HFB.out⟩
        · rw [if_neg hz0] at hcl
          have HLEN : Hid (∀ W, Below W7.heap.size W7 W → Calls Tryd.prog 46 #[.pointer (some ⟨q, 0, none⟩)] W fun e w' => e = .returned (.int .i64 (N : Int)) ∧ Below W.heap.size W w') := fun W hb => by
            have h := blen_c q q (CutL l s i oo z) v6 came W (Lib.hid (HVc.out.below hb)) HNZ.out
            rw [hcl] at h
            exact h
          have HGET : Hid (getO (CutL l s i oo z) oid = some ⟨oid, oten, osell, opr, (z : Int), oseq⟩) := by
            have := HGET.out
            rw [if_neg hz0, HOO.out] at this
            show _ = _
            rw [HOO.out]
            exact this
          have hzb : ((z : Int) == 0) = false := beq_eq_false_iff_ne.2 (by omega)
          clear hcl hz0
          go_wp2_with fail
          go_loopw [17, 18, 19] (fun s17 _ _ wx => ∃ (k : Nat) (W0 : World), W0 = wx ∧ k ≤ N ∧ s17 = .int .i64 k ∧ Hid (Below W7.heap.size W7 W0)) (fun s17 _ _ _ => N - (intOf s17).toNat)
          case atStart => exact ⟨0, W7, rfl, by omega, rfl, Lib.hid (Below.refl _ _)⟩
          case round =>
            obtain ⟨k, W0, rfl, hk, rfl, HBk⟩ := hrel
            by_cases h1 : k < N
            · have hk1 : (k : Int) < (N : Int) := by omega
              obtain ⟨x, hx⟩ : ∃ x, LL[k]? = some x := ⟨_, List.getElem?_eq_getElem (by rw [HLN.out]; exact h1)⟩
              have hxm : x ∈ l true ++ l false := by rw [← HLL.out]; exact List.mem_of_getElem? hx
              have rg0 := HR5.out W0 (HKc.out.below HBk.out) k x hx
              have HOT := Lib.hid (fun (hne : x.id ≠ oo.id) => CutL_other HI.out HSI.out hzz hxm hne)
              have HOF := Lib.hid (of_book q q (CutL l s i oo z) v6 came x.id W0 (Lib.hid (HVc.out.below HBk.out)) HNZ.out)
              obtain ⟨xid, xten, xsell, xpr, xlots, xseq⟩ := x
              simp only at HOF HOT
              have rg0 : W0.rangeAt g5 (k * 6) [.int .i64 xid, .int .i64 xten, .bool xsell, .int .i64 xpr, .int .i64 xlots, .int .i64 xseq] := rg0
              have HRG := Lib.hid rg0
              have c0 : W0.cell? ⟨g5, k * 6, none⟩ = some (.int .i64 xid) := rg0 0 _ rfl
              have hxo := (HXc.out.below HBk.out).cell 0 _ rfl
              have HXO := Lib.hid hxo
              have HX0 := (HXc.out.below HBk.out).lt
              have HG0 := (HKc.out.below HBk.out).lt
              clear hx hxm rg0 hxo
              by_cases he : xid = oid
              · subst he
                have hb8' : (xid != xid) = false := by simp
                rw [HGET.out] at HOF
                go_wp2_with fail
                refine HOF.out.mono ?_
                rintro e W9 ⟨rfl, hb9⟩
                have hwb : Below W7.heap.size W7 W9 := HBk.out.trans (hb9.mono HBk.out.size)
                have c0 : (W9.alloc (.cells #[.int .i64 xid, .int .i64 oten, .bool osell, .int .i64 opr, .int .i64 (z : Int), .int .i64 oseq] 67)).cell? ⟨g5, k * 6, none⟩ = some (.int .i64 xid) := Lib.cell?_alloc_some _ ((hb9.cell (p := ⟨g5, k * 6, none⟩) HG0).trans c0)
                have xo : (W9.alloc (.cells #[.int .i64 xid, .int .i64 oten, .bool osell, .int .i64 opr, .int .i64 (z : Int), .int .i64 oseq] 67)).cell? ⟨X, 0, none⟩ = some (.int .i64 xid) := Lib.cell?_alloc_some _ ((hb9.cell (p := ⟨X, 0, none⟩) HX0).trans HXO.out)
                have HFB := (hwb.trans ((alloc1 W9 (.cells #[.int .i64 xid, .int .i64 oten, .bool osell, .int .i64 opr, .int .i64 (z : Int), .int .i64 oseq] 67)).mono hwb.size)).drew
                clear hb9 hwb HOT HRG
                simp only [ordV, Ord.cells, Option.isSome]
                go_wp2_with fail
                refine wp_region_noPanic ?_
                refine wp_region_held_drew (S := (fun w' => w'.cell? ⟨g5, k * 6, none⟩ = some (.int .i64 xid) ∧ w'.cell? ⟨X, 0, none⟩ = some (.int .i64 xid))) (by kernel_rfl) ⟨c0, xo⟩ (fun hHeld => ?_)
                refine wpAnyH_take (i := 0) (v := ?_) rfl (by kernel_rfl) (by kernel_rfl) (by kernel_rfl) (fun _ _ _ h => h) (Or.inl ⟨by rfl, ?_⟩) hHeld ?_
                rotate_left
                focus
                  intro w hSw
                  clear hSw
                  go_simp
                  try with_reducible rfl
                try simp only [Act.put, List.getElem_toArray, List.getElem_cons_zero, List.getElem_cons_succ, List.setIfInBounds_toArray, List.set_cons_zero, List.set_cons_succ]
                refine wpAnyH_take (i := 1) (v := ?_) rfl (by kernel_rfl) (by kernel_rfl) (by kernel_rfl) (fun _ _ _ h => h) (Or.inl ⟨by rfl, ?_⟩) hHeld ?_
                rotate_left
                focus
                  intro w hSw
                  clear hSw
                  go_simp
                  try with_reducible rfl
                try simp only [Act.put, List.getElem_toArray, List.getElem_cons_zero, List.getElem_cons_succ, List.setIfInBounds_toArray, List.set_cons_zero, List.set_cons_succ]
                refine wpAnyH_take (i := 2) (v := ?_) rfl (by kernel_rfl) (by kernel_rfl) (by kernel_rfl) (fun _ _ _ h => h) (Or.inl ⟨by rfl, ?_⟩) hHeld ?_
                rotate_left
                focus
                  intro w hSw
                  clear hSw
                  go_simp
                  try with_reducible rfl
                try simp only [Act.put, List.getElem_toArray, List.getElem_cons_zero, List.getElem_cons_succ, List.setIfInBounds_toArray, List.set_cons_zero, List.set_cons_succ]
                refine wpAnyH_take (i := 3) (v := ?_) rfl (by kernel_rfl) (by kernel_rfl) (by kernel_rfl) (fun _ _ _ h => h) (Or.inl ⟨by rfl, ?_⟩) hHeld ?_
                rotate_left
                focus
                  intro w hSw
                  clear hSw
                  go_simp
                  try with_reducible rfl
                try simp only [Act.put, List.getElem_toArray, List.getElem_cons_zero, List.getElem_cons_succ, List.setIfInBounds_toArray, List.set_cons_zero, List.set_cons_succ]
                refine wpAnyH_take (i := 4) (v := ?_) rfl (by kernel_rfl) (by kernel_rfl) (by kernel_rfl) (fun _ _ _ h => h) (Or.inl ⟨by rfl, ?_⟩) hHeld ?_
                rotate_left
                focus
                  intro w hSw
                  (try dsimp only at hSw)
                  go_simp
                  try with_reducible rfl
                try simp only [Act.put, List.getElem_toArray, List.getElem_cons_zero, List.getElem_cons_succ, List.setIfInBounds_toArray, List.set_cons_zero, List.set_cons_succ]
                refine wpAnyH_take (i := 5) (v := ?_) rfl (by kernel_rfl) (by kernel_rfl) (by kernel_rfl) (fun _ _ _ h => h) (Or.inl ⟨by rfl, ?_⟩) hHeld ?_
                rotate_left
                focus
                  intro w hSw
                  clear hSw
                  go_simp
                  try with_reducible rfl
                try simp only [Act.put, List.getElem_toArray, List.getElem_cons_zero, List.getElem_cons_succ, List.setIfInBounds_toArray, List.set_cons_zero, List.set_cons_succ]
                refine wpAnyH_take (i := 6) (v := ?_) rfl (by kernel_rfl) (by kernel_rfl) (by kernel_rfl) (fun _ _ _ h => h) (Or.inl ⟨by rfl, ?_⟩) hHeld ?_
                rotate_left
                focus
                  intro w hSw
                  (try dsimp only at hSw)
                  go_simp
                  try with_reducible rfl
                try simp only [Act.put, List.getElem_toArray, List.getElem_cons_zero, List.getElem_cons_succ, List.setIfInBounds_toArray, List.set_cons_zero, List.set_cons_succ]
                refine wpAnyH_take (i := 7) (v := ?_) rfl (by kernel_rfl) (by kernel_rfl) (by kernel_rfl) (fun _ _ _ h => h) (Or.inl ⟨by rfl, ?_⟩) hHeld ?_
                rotate_left
                focus
                  intro w hSw
                  clear hSw
                  go_simp
                  try with_reducible rfl
                try simp only [Act.put, List.getElem_toArray, List.getElem_cons_zero, List.getElem_cons_succ, List.setIfInBounds_toArray, List.set_cons_zero, List.set_cons_succ]
                refine wpAnyH_take (i := 8) (v := ?_) rfl (by kernel_rfl) (by kernel_rfl) (by kernel_rfl) (fun _ _ _ h => h) (Or.inl ⟨by rfl, ?_⟩) hHeld ?_
                rotate_left
                focus
                  intro w hSw
                  clear hSw
                  go_simp
                  try with_reducible rfl
                try simp only [Act.put, List.getElem_toArray, List.getElem_cons_zero, List.getElem_cons_succ, List.setIfInBounds_toArray, List.set_cons_zero, List.set_cons_succ]
                refine wpAnyH_take (i := 9) (v := undef) rfl (by kernel_rfl) (by kernel_rfl) (by kernel_rfl) (fun _ _ _ h => h) (Or.inr ⟨by rfl, rfl⟩) hHeld ?_
                try simp only [Act.put, List.getElem_toArray, List.getElem_cons_zero, List.getElem_cons_succ, List.setIfInBounds_toArray, List.set_cons_zero, List.set_cons_succ]
                refine wpAnyH_take (i := 10) (v := undef) rfl (by kernel_rfl) (by kernel_rfl) (by kernel_rfl) (fun _ _ _ h => h) (Or.inr ⟨by rfl, rfl⟩) hHeld ?_
                try simp only [Act.put, List.getElem_toArray, List.getElem_cons_zero, List.getElem_cons_succ, List.setIfInBounds_toArray, List.set_cons_zero, List.set_cons_succ]
                refine wpAnyH_take (i := 11) (v := undef) rfl (by kernel_rfl) (by kernel_rfl) (by kernel_rfl) (fun _ _ _ h => h) (Or.inr ⟨by rfl, rfl⟩) hHeld ?_
                try simp only [Act.put, List.getElem_toArray, List.getElem_cons_zero, List.getElem_cons_succ, List.setIfInBounds_toArray, List.set_cons_zero, List.set_cons_succ]
                refine wpAnyH_take (i := 12) (v := undef) rfl (by kernel_rfl) (by kernel_rfl) (by kernel_rfl) (fun _ _ _ h => h) (Or.inr ⟨by rfl, rfl⟩) hHeld ?_
                try simp only [Act.put, List.getElem_toArray, List.getElem_cons_zero, List.getElem_cons_succ, List.setIfInBounds_toArray, List.set_cons_zero, List.set_cons_succ]
                refine wpAnyH_take (i := 13) (v := undef) rfl (by kernel_rfl) (by kernel_rfl) (by kernel_rfl) (fun _ _ _ h => h) (Or.inr ⟨by rfl, rfl⟩) hHeld ?_
                try simp only [Act.put, List.getElem_toArray, List.getElem_cons_zero, List.getElem_cons_succ, List.setIfInBounds_toArray, List.set_cons_zero, List.set_cons_succ]
                refine wpAnyH_take (i := 14) (v := undef) rfl (by kernel_rfl) (by kernel_rfl) (by kernel_rfl) (fun _ _ _ h => h) (Or.inr ⟨by rfl, rfl⟩) hHeld ?_
                try simp only [Act.put, List.getElem_toArray, List.getElem_cons_zero, List.getElem_cons_succ, List.setIfInBounds_toArray, List.set_cons_zero, List.set_cons_succ]
                refine wpAnyH_take (i := 15) (v := undef) rfl (by kernel_rfl) (by kernel_rfl) (by kernel_rfl) (fun _ _ _ h => h) (Or.inr ⟨by rfl, rfl⟩) hHeld ?_
                try simp only [Act.put, List.getElem_toArray, List.getElem_cons_zero, List.getElem_cons_succ, List.setIfInBounds_toArray, List.set_cons_zero, List.set_cons_succ]
                refine wpAnyH_take (i := 16) (v := undef) rfl (by kernel_rfl) (by kernel_rfl) (by kernel_rfl) (fun _ _ _ h => h) (Or.inr ⟨by rfl, rfl⟩) hHeld ?_
                try simp only [Act.put, List.getElem_toArray, List.getElem_cons_zero, List.getElem_cons_succ, List.setIfInBounds_toArray, List.set_cons_zero, List.set_cons_succ]
                refine wpAnyH_take (i := 17) (v := undef) rfl (by kernel_rfl) (by kernel_rfl) (by kernel_rfl) (fun _ _ _ h => h) (Or.inr ⟨by rfl, rfl⟩) hHeld ?_
                try simp only [Act.put, List.getElem_toArray, List.getElem_cons_zero, List.getElem_cons_succ, List.setIfInBounds_toArray, List.set_cons_zero, List.set_cons_succ]
                refine wpAnyH_take (i := 18) (v := undef) rfl (by kernel_rfl) (by kernel_rfl) (by kernel_rfl) (fun _ _ _ h => h) (Or.inr ⟨by rfl, rfl⟩) hHeld ?_
                try simp only [Act.put, List.getElem_toArray, List.getElem_cons_zero, List.getElem_cons_succ, List.setIfInBounds_toArray, List.set_cons_zero, List.set_cons_succ]
                refine wpAnyH_take (i := 19) (v := ?_) rfl (by kernel_rfl) (by kernel_rfl) (by kernel_rfl) (fun _ _ _ h => h) (Or.inl ⟨by rfl, ?_⟩) hHeld ?_
                rotate_left
                focus
                  intro w hSw
                  clear hSw
                  go_simp
                  try with_reducible rfl
                try simp only [Act.put, List.getElem_toArray, List.getElem_cons_zero, List.getElem_cons_succ, List.setIfInBounds_toArray, List.set_cons_zero, List.set_cons_succ]
                refine wpAnyH_done (by kernel_rfl) ?_ _
                refine NoPanic.normal ?_
                go_wp2_with fail
                go_roundw
                case rel => exact ⟨k + 1, _, rfl, by omega, by go_num, Lib.hid HFB⟩
                case measure => simp [intOf]; omega
              · have hne : (xid == oid) = false := beq_eq_false_iff_ne.2 he
                have hne2 : (xid != oid) = true := by rw [bne_iff_ne]; exact he
                rw [HOT.out (by rw [HOO.out]; exact he)] at HOF
                clear he
                go_wp2_with fail
                refine HOF.out.mono ?_
                rintro e W9 ⟨rfl, hb9⟩
                have hwb : Below W7.heap.size W7 W9 := HBk.out.trans (hb9.mono HBk.out.size)
                have c0 : (W9.alloc (.cells #[.int .i64 xid, .int .i64 xten, .bool xsell, .int .i64 xpr, .int .i64 xlots, .int .i64 xseq] 67)).cell? ⟨g5, k * 6, none⟩ = some (.int .i64 xid) := Lib.cell?_alloc_some _ ((hb9.cell (p := ⟨g5, k * 6, none⟩) HG0).trans c0)
                have xo : (W9.alloc (.cells #[.int .i64 xid, .int .i64 xten, .bool xsell, .int .i64 xpr, .int .i64 xlots, .int .i64 xseq] 67)).cell? ⟨X, 0, none⟩ = some (.int .i64 oid) := Lib.cell?_alloc_some _ ((hb9.cell (p := ⟨X, 0, none⟩) HX0).trans HXO.out)
                have rg : (W9.alloc (.cells #[.int .i64 xid, .int .i64 xten, .bool xsell, .int .i64 xpr, .int .i64 xlots, .int .i64 xseq] 67)).rangeAt g5 (k * 6) [.int .i64 xid, .int .i64 xten, .bool xsell, .int .i64 xpr, .int .i64 xlots, .int .i64 xseq] := World.rangeAt_alloc (rangeAt_below HRG.out hb9 HG0) _
                obtain ⟨XB, hXB⟩ : ∃ XB, XB = W9.heap.size := ⟨_, rfl⟩
                have rb : (W9.alloc (.cells #[.int .i64 xid, .int .i64 xten, .bool xsell, .int .i64 xpr, .int .i64 xlots, .int .i64 xseq] 67)).rangeAt XB 0 [.int .i64 xid, .int .i64 xten, .bool xsell, .int .i64 xpr, .int .i64 xlots, .int .i64 xseq] := fun jj u hj => by
                  rw [Nat.zero_add, hXB]
                  exact (Blk.new W9 #[.int .i64 xid, .int .i64 xten, .bool xsell, .int .i64 xpr, .int .i64 xlots, .int .i64 xseq] 67).cell jj u (by simpa using hj)
                have HFB := (hwb.trans ((alloc1 W9 (.cells #[.int .i64 xid, .int .i64 xten, .bool xsell, .int .i64 xpr, .int .i64 xlots, .int .i64 xseq] 67)).mono hwb.size)).drew
                have on := ord_neq_same xid xten xsell xpr xlots xseq
                have oe := ord_eqIn_same xid xten xsell xpr xlots xseq
                have og := ord_eqGuardType
                clear hb9 hwb HRG
                simp only [ordV, Ord.cells, Option.isSome]
                go_wp2_with fail
                rw [← hXB]
                clear hXB
                refine wp_region_noPanic ?_
                refine wp_region_held_drew (S := (fun w' => w'.cell? ⟨g5, k * 6, none⟩ = some (.int .i64 xid) ∧ w'.cell? ⟨X, 0, none⟩ = some (.int .i64 oid) ∧ w'.rangeAt XB 0 [.int .i64 xid, .int .i64 xten, .bool xsell, .int .i64 xpr, .int .i64 xlots, .int .i64 xseq] ∧ w'.rangeAt g5 (k * 6) [.int .i64 xid, .int .i64 xten, .bool xsell, .int .i64 xpr, .int .i64 xlots, .int .i64 xseq])) (by kernel_rfl) ⟨c0, xo, rb, rg⟩ (fun hHeld => ?_)
                refine wpAnyH_take (i := 0) (v := ?_) rfl (by kernel_rfl) (by kernel_rfl) (by kernel_rfl) (fun _ _ _ h => h) (Or.inl ⟨by rfl, ?_⟩) hHeld ?_
                rotate_left
                focus
                  intro w hSw
                  clear hSw
                  go_simp
                  try with_reducible rfl
                try simp only [Act.put, List.getElem_toArray, List.getElem_cons_zero, List.getElem_cons_succ, List.setIfInBounds_toArray, List.set_cons_zero, List.set_cons_succ]
                refine wpAnyH_take (i := 1) (v := ?_) rfl (by kernel_rfl) (by kernel_rfl) (by kernel_rfl) (fun _ _ _ h => h) (Or.inl ⟨by rfl, ?_⟩) hHeld ?_
                rotate_left
                focus
                  intro w hSw
                  clear hSw
                  go_simp
                  try with_reducible rfl
                try simp only [Act.put, List.getElem_toArray, List.getElem_cons_zero, List.getElem_cons_succ, List.setIfInBounds_toArray, List.set_cons_zero, List.set_cons_succ]
                refine wpAnyH_take (i := 2) (v := ?_) rfl (by kernel_rfl) (by kernel_rfl) (by kernel_rfl) (fun _ _ _ h => h) (Or.inl ⟨by rfl, ?_⟩) hHeld ?_
                rotate_left
                focus
                  intro w hSw
                  clear hSw
                  go_simp
                  try with_reducible rfl
                try simp only [Act.put, List.getElem_toArray, List.getElem_cons_zero, List.getElem_cons_succ, List.setIfInBounds_toArray, List.set_cons_zero, List.set_cons_succ]
                refine wpAnyH_take (i := 3) (v := ?_) rfl (by kernel_rfl) (by kernel_rfl) (by kernel_rfl) (fun _ _ _ h => h) (Or.inl ⟨by rfl, ?_⟩) hHeld ?_
                rotate_left
                focus
                  intro w hSw
                  clear hSw
                  go_simp
                  try with_reducible rfl
                try simp only [Act.put, List.getElem_toArray, List.getElem_cons_zero, List.getElem_cons_succ, List.setIfInBounds_toArray, List.set_cons_zero, List.set_cons_succ]
                refine wpAnyH_take (i := 4) (v := ?_) rfl (by kernel_rfl) (by kernel_rfl) (by kernel_rfl) (fun _ _ _ h => h) (Or.inl ⟨by rfl, ?_⟩) hHeld ?_
                rotate_left
                focus
                  intro w hSw
                  (try dsimp only at hSw)
                  go_simp
                  try with_reducible rfl
                try simp only [Act.put, List.getElem_toArray, List.getElem_cons_zero, List.getElem_cons_succ, List.setIfInBounds_toArray, List.set_cons_zero, List.set_cons_succ]
                refine wpAnyH_take (i := 5) (v := ?_) rfl (by kernel_rfl) (by kernel_rfl) (by kernel_rfl) (fun _ _ _ h => h) (Or.inl ⟨by rfl, ?_⟩) hHeld ?_
                rotate_left
                focus
                  intro w hSw
                  clear hSw
                  go_simp
                  try with_reducible rfl
                try simp only [Act.put, List.getElem_toArray, List.getElem_cons_zero, List.getElem_cons_succ, List.setIfInBounds_toArray, List.set_cons_zero, List.set_cons_succ]
                refine wpAnyH_take (i := 6) (v := ?_) rfl (by kernel_rfl) (by kernel_rfl) (by kernel_rfl) (fun _ _ _ h => h) (Or.inl ⟨by rfl, ?_⟩) hHeld ?_
                rotate_left
                focus
                  intro w hSw
                  (try dsimp only at hSw)
                  go_simp
                  try with_reducible rfl
                try simp only [Act.put, List.getElem_toArray, List.getElem_cons_zero, List.getElem_cons_succ, List.setIfInBounds_toArray, List.set_cons_zero, List.set_cons_succ]
                refine wpAnyH_take (i := 7) (v := ?_) rfl (by kernel_rfl) (by kernel_rfl) (by kernel_rfl) (fun _ _ _ h => h) (Or.inl ⟨by rfl, ?_⟩) hHeld ?_
                rotate_left
                focus
                  intro w hSw
                  clear hSw
                  go_simp
                  try with_reducible rfl
                try simp only [Act.put, List.getElem_toArray, List.getElem_cons_zero, List.getElem_cons_succ, List.setIfInBounds_toArray, List.set_cons_zero, List.set_cons_succ]
                refine wpAnyH_take (i := 8) (v := ?_) rfl (by kernel_rfl) (by kernel_rfl) (by kernel_rfl) (fun _ _ _ h => h) (Or.inl ⟨by rfl, ?_⟩) hHeld ?_
                rotate_left
                focus
                  intro w hSw
                  clear hSw
                  go_simp
                  try with_reducible rfl
                try simp only [Act.put, List.getElem_toArray, List.getElem_cons_zero, List.getElem_cons_succ, List.setIfInBounds_toArray, List.set_cons_zero, List.set_cons_succ]
                refine wpAnyH_take (i := 9) (v := ?_) rfl (by kernel_rfl) (by kernel_rfl) (by kernel_rfl) (fun _ _ _ h => h) (Or.inl ⟨by rfl, ?_⟩) hHeld ?_
                rotate_left
                focus
                  intro w hSw
                  clear hSw
                  go_simp
                  try with_reducible rfl
                try simp only [Act.put, List.getElem_toArray, List.getElem_cons_zero, List.getElem_cons_succ, List.setIfInBounds_toArray, List.set_cons_zero, List.set_cons_succ]
                refine wpAnyH_take (i := 10) (v := ?_) rfl (by kernel_rfl) (by kernel_rfl) (by kernel_rfl) (fun _ _ _ h => h) (Or.inl ⟨by rfl, ?_⟩) hHeld ?_
                rotate_left
                focus
                  intro w hSw
                  clear hSw
                  go_simp
                  try with_reducible rfl
                try simp only [Act.put, List.getElem_toArray, List.getElem_cons_zero, List.getElem_cons_succ, List.setIfInBounds_toArray, List.set_cons_zero, List.set_cons_succ]
                refine wpAnyH_take (i := 11) (v := ?_) rfl (by kernel_rfl) (by kernel_rfl) (by kernel_rfl) (fun _ _ _ h => h) (Or.inl ⟨by rfl, ?_⟩) hHeld ?_
                rotate_left
                focus
                  intro w hSw
                  clear hSw
                  go_simp
                  try with_reducible rfl
                try simp only [Act.put, List.getElem_toArray, List.getElem_cons_zero, List.getElem_cons_succ, List.setIfInBounds_toArray, List.set_cons_zero, List.set_cons_succ]
                refine wpAnyH_take (i := 12) rfl (by kernel_rfl) (by kernel_rfl) (by kernel_rfl) (fun _ _ _ h => h) (yieldsIf_load_mid (by rfl) 67 _ rfl XB (0) rfl [.int .i64 xid, .int .i64 xten, .bool xsell, .int .i64 xpr, .int .i64 xlots, .int .i64 xseq] _ (fun w h => h.2.2.1) Tryd.underlying67 rfl size_ord) hHeld ?_
                try simp only [Act.put, List.getElem_toArray, List.getElem_cons_zero, List.getElem_cons_succ, List.setIfInBounds_toArray, List.set_cons_zero, List.set_cons_succ]
                refine wpAnyH_take (i := 13) (v := ?_) rfl (by kernel_rfl) (by kernel_rfl) (by kernel_rfl) (fun _ _ _ h => h) (Or.inl ⟨by rfl, ?_⟩) hHeld ?_
                rotate_left
                focus
                  intro w hSw
                  clear hSw
                  go_simp
                  try with_reducible rfl
                try simp only [Act.put, List.getElem_toArray, List.getElem_cons_zero, List.getElem_cons_succ, List.setIfInBounds_toArray, List.set_cons_zero, List.set_cons_succ]
                refine wpAnyH_take (i := 14) (v := ?_) rfl (by kernel_rfl) (by kernel_rfl) (by kernel_rfl) (fun _ _ _ h => h) (Or.inl ⟨by rfl, ?_⟩) hHeld ?_
                rotate_left
                focus
                  intro w hSw
                  clear hSw
                  go_simp
                  try with_reducible rfl
                try simp only [Act.put, List.getElem_toArray, List.getElem_cons_zero, List.getElem_cons_succ, List.setIfInBounds_toArray, List.set_cons_zero, List.set_cons_succ]
                refine wpAnyH_take (i := 15) (v := ?_) rfl (by kernel_rfl) (by kernel_rfl) (by kernel_rfl) (fun _ _ _ h => h) (Or.inl ⟨by rfl, ?_⟩) hHeld ?_
                rotate_left
                focus
                  intro w hSw
                  clear hSw
                  go_simp
                  try with_reducible rfl
                try simp only [Act.put, List.getElem_toArray, List.getElem_cons_zero, List.getElem_cons_succ, List.setIfInBounds_toArray, List.set_cons_zero, List.set_cons_succ]
                refine wpAnyH_take (i := 16) rfl (by kernel_rfl) (by kernel_rfl) (by kernel_rfl) (fun _ _ _ h => h) (yieldsIf_load_mid (by rfl) 67 _ rfl g5 (k * 6) rfl [.int .i64 xid, .int .i64 xten, .bool xsell, .int .i64 xpr, .int .i64 xlots, .int .i64 xseq] _ (fun w h => h.2.2.2) Tryd.underlying67 rfl size_ord) hHeld ?_
                try simp only [Act.put, List.getElem_toArray, List.getElem_cons_zero, List.getElem_cons_succ, List.setIfInBounds_toArray, List.set_cons_zero, List.set_cons_succ]
                refine wpAnyH_take (i := 17) (v := ?_) rfl (by kernel_rfl) (by kernel_rfl) (by kernel_rfl) (fun _ _ _ h => h) (Or.inl ⟨by rfl, ?_⟩) hHeld ?_
                rotate_left
                focus
                  intro w hSw
                  clear hSw
                  go_simp
                  try with_reducible rfl
                try simp only [Act.put, List.getElem_toArray, List.getElem_cons_zero, List.getElem_cons_succ, List.setIfInBounds_toArray, List.set_cons_zero, List.set_cons_succ]
                refine wpAnyH_take (i := 18) (v := ?_) rfl (by kernel_rfl) (by kernel_rfl) (by kernel_rfl) (fun _ _ _ h => h) (Or.inl ⟨by rfl, ?_⟩) hHeld ?_
                rotate_left
                focus
                  intro w hSw
                  clear hSw
                  go_simp
                  try with_reducible rfl
                try simp only [Act.put, List.getElem_toArray, List.getElem_cons_zero, List.getElem_cons_succ, List.setIfInBounds_toArray, List.set_cons_zero, List.set_cons_succ]
                refine wpAnyH_take (i := 19) (v := ?_) rfl (by kernel_rfl) (by kernel_rfl) (by kernel_rfl) (fun _ _ _ h => h) (Or.inl ⟨by rfl, ?_⟩) hHeld ?_
                rotate_left
                focus
                  intro w hSw
                  clear hSw
                  go_simp
                  try with_reducible rfl
                try simp only [Act.put, List.getElem_toArray, List.getElem_cons_zero, List.getElem_cons_succ, List.setIfInBounds_toArray, List.set_cons_zero, List.set_cons_succ]
                refine wpAnyH_done (by kernel_rfl) ?_ _
                refine NoPanic.normal ?_
                go_wp2_with fail
                go_roundw
                case rel => exact ⟨k + 1, _, rfl, by omega, by go_num, Lib.hid HFB⟩
                case measure => simp [intOf]; omega
            · have hk1 : ¬ (k : Int) < (N : Int) := by omega
              go_wp2_with fail
              refine (HLEN.out W0 HBk.out).mono ?_
              rintro e W9 ⟨rfl, hb9⟩
              have HFB := Lib.hid ((HBc.out.trans (HBk.out.mono HBc.out.size)).trans (hb9.mono (HBc.out.trans (HBk.out.mono HBc.out.size)).size))
              clear hb9
              go_wp2_with fail
              go_ret
              exact ⟨rfl, HFB.out⟩
end Go.Proofs.YtdebldpmloignaaDoor
