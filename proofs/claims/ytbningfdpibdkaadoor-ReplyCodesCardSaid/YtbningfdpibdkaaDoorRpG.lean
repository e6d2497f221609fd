/-
  reply: Read of bytes that are an answer.
-/
import Derived.Test.YtbningfdpibdkaaDoorRpF
namespace Go.Proofs.YtbningfdpibdkaaDoor
open Go.RowKit
set_option linter.unusedVariables false
set_option linter.unusedSimpArgs false

/-- An answer, in plain words. -/
structure Rep where
  code : Int
  pos : Int
  seats : List (Int × Int × Int)
  out : List (Int × Int)
  forced : List (Int × Int)
  fills : List Six
  n : List Int
/-- Read, in plain words: the answer, whether a count could not be, the state then. -/
def rdRep (s : ByteArray) : (Rep × Bool) × St :=
  let A := rdI s (0, none)
  let C := rdI s A.2
  let S := rdL s (rdSt s) false C.2
  let O := rdL s (rdTk s) S.1.2 S.2
  let Q := rdL s (rdTk s) O.1.2 O.2
  let L := rdL s (rdFl s) Q.1.2 Q.2
  let N := rdL s (rdI s) L.1.2 L.2
  ((⟨A.1, C.1, S.1.1, O.1.1, Q.1.1, L.1.1, N.1.1⟩, N.1.2), N.2)
/-- An answer in memory. -/
def RepV (w : World) (base : Nat) (x : Rep) (v : Value) : Prop := ∃ v2 v3 v4 v5 v6, v = .agg #[.int .i64 x.code, .int .i64 x.pos, v2, v3, v4, v5, v6] ∧ w.ownsRow base 144 3 v2 x.seats.length (flatOf seatE x.seats) ∧ w.ownsRow base 142 2 v3 x.out.length (flatOf tskE x.out) ∧ w.ownsRow base 142 2 v4 x.forced.length (flatOf tskE x.forced) ∧ w.ownsRow base 151 6 v5 x.fills.length (flatOf fillE x.fills) ∧ w.ownsRow base 3 1 v6 x.n.length (flatOf intE x.n)
theorem bodyPost_pair {P : Program} {fn : Func} {R : Ending → World → Prop} {a : Act} {W : World} {p q : Tmp} {ty : TypeId} (h : fn.results = #[.cell p ty, .tmp q]) (hd0 : a.defers = []) (g : Nat) (hp : a.tmps.getD p undef = .pointer (some ⟨g, 0, none⟩))
    (cs : Array Value) (t : TypeId) (fr : Nat × Nat) (hg : W.heap[g]? = some (.cells cs t fr)) (d : TypeDesc) (hu : P.underlying ty = some d) (hd : (match d with | .struct _ | .array _ _ => true | _ => false) = true) (n : Nat) (hi : (P.info? ty).map (·.size) = some n) (hn : cs.size = n)
    (u : Value) (hq : a.tmps.getD q undef = u)
    (hR : R (.returned (.tuple #[.agg cs, u])) W) : bodyPost P fn R .ret a W := by
  refine bodyPost_ret (v := .tuple #[.agg cs, u]) ?_ hd0 hR
  have hl := run_loadVar_row (P := P) W g t ty cs fr d hg hu (by cases d <;> first | rfl | exact hd) (by rw [hi, hn])
  simp only [results, h]
  simp only [Array.getD_eq_getD_getElem?] at hp hq
  simp [hp, hq, asAddr, hl]

theorem size_rep : (Tryd.prog.info? 73).map (·.size) = some 7 := by kernel_rfl
theorem RdV.keep2 {w w' : World} {E : Nat → Addr} {r q g : Nat} {s : ByteArray} {p : St} {b : Bool} {cs : Array Value} {T : TypeId} (h : RdV w E r q s p b) (hb : Blk w g cs T) (h1 : 191 ≠ T) (h2 : 158 ≠ T) (ht : Turns (fun k => k = q ∨ k = r) w w') : Blk w' g cs T := by
  obtain ⟨er, hi⟩ := h.inw
  exact ht.blk hb (fun e => by
    rcases e with e | e
    · exact blk_ne hi.blk hb h1 e
    · exact blk_ne h.blk hb h2 e)
theorem RdV.keepOwn {w w' : World} {E : Nat → Addr} {r q base size n : Nat} {s : ByteArray} {p : St} {b : Bool} {e : TypeId} {v : Value} {xs : List Value} (h : RdV w E r q s p b) (ho : w.ownsRow base e size v n xs) (h1 : 191 ≠ e) (h2 : 158 ≠ e) (ht : Turns (fun k => k = q ∨ k = r) w w') : w'.ownsRow base e size v n xs := by
  obtain ⟨er, hi⟩ := h.inw
  refine ht.owns ho (fun g hg e2 => ?_)
  obtain ⟨cur, hc⟩ := own_ty ho hg
  rcases e2 with e2 | e2
  · exact blk_ne hi.blk hc h1 e2
  · exact blk_ne h.blk hc h2 e2
theorem own_far {w w' : World} {F base size n : Nat} {cs : Array Value} {T e : TypeId} {v : Value} {xs : List Value} (ho : w.ownsRow base e size v n xs) (hF : Blk w F cs T) (hT : T ≠ e) (ht : Turns (fun k => k = F) w w') : w'.ownsRow base e size v n xs := by
  refine ht.owns ho (fun g hg e2 => ?_)
  obtain ⟨cur, hc⟩ := own_ty ho hg
  exact blk_ne hF hc hT e2
set_option maxRecDepth 100000 in
set_option maxHeartbeats 2000000 in
theorem read_ok (E : Nat → Addr) (s : ByteArray) (w : World) (hs : s.size ≤ 1000000) (hE : ErrForm w E) (hok : (rdRep s).1.2 = false ∧ (rdRep s).2 = (s.size, none)) :
    Calls Tryd.prog 46 #[.string s] w fun e w' => ∃ v, e = .returned (.tuple #[v, .nilIface]) ∧ RepV w' w.heap.size (rdRep s).1.1 v ∧ Below w.heap.size w w' := by
  unfold rdRep at hok ⊢
  obtain ⟨⟨z0, p1⟩, hR⟩ : ∃ R, R = rdI s ((0 : Nat), (none : Option Nat)) := ⟨_, rfl⟩
  have HC0 : Hid (∀ (W : World) (r q : Nat), RdV W E r q s ((0 : Nat), (none : Option Nat)) false → Calls Tryd.prog 71 #[.pointer (some ⟨q, 0, none⟩)] W fun e w' => e = .returned (.int .i64 z0) ∧ RdV w' E r q s p1 false ∧ Turns (fun k => k = q) W w') := fun W r q h => by
    have := rdInt_c E r q s ((0 : Nat), (none : Option Nat)) false W (Lib.hid h) hs
    rw [← hR] at this
    exact this
  simp only [← hR] at hok ⊢
  clear hR
  obtain ⟨⟨z1, p2⟩, hR⟩ : ∃ R, R = rdI s p1 := ⟨_, rfl⟩
  have HC1 : Hid (∀ (W : World) (r q : Nat), RdV W E r q s p1 false → Calls Tryd.prog 71 #[.pointer (some ⟨q, 0, none⟩)] W fun e w' => e = .returned (.int .i64 z1) ∧ RdV w' E r q s p2 false ∧ Turns (fun k => k = q) W w') := fun W r q h => by
    have := rdInt_c E r q s p1 false W (Lib.hid h) hs
    rw [← hR] at this
    exact this
  simp only [← hR] at hok ⊢
  clear hR
  obtain ⟨x2, b3, p3, hR⟩ : ∃ x b p, ((x, b), p) = rdL s (rdSt s) false p2 := ⟨_, _, _, rfl⟩
  have HC2 : Hid (∀ (W : World) (r q : Nat), RdV W E r q s p2 false → Calls Tryd.prog 90 #[.pointer (some ⟨r, 0, none⟩)] W fun e w' => ∃ v, e = .returned v ∧ w'.ownsRow W.heap.size 144 3 v x2.length (flatOf seatE x2) ∧ RdV w' E r q s p3 b3 ∧ Turns (fun k => k = q ∨ k = r) W w') := fun W r q h => by
    have := seats_c E r q s p2 false W (Lib.hid h) hs
    rw [← hR] at this
    exact this
  simp only [← hR] at hok ⊢
  clear hR
  obtain ⟨x3, b4, p4, hR⟩ : ∃ x b p, ((x, b), p) = rdL s (rdTk s) b3 p3 := ⟨_, _, _, rfl⟩
  have HC3 : Hid (∀ (W : World) (r q : Nat), RdV W E r q s p3 b3 → Calls Tryd.prog 91 #[.pointer (some ⟨r, 0, none⟩)] W fun e w' => ∃ v, e = .returned v ∧ w'.ownsRow W.heap.size 142 2 v x3.length (flatOf tskE x3) ∧ RdV w' E r q s p4 b4 ∧ Turns (fun k => k = q ∨ k = r) W w') := fun W r q h => by
    have := tasks_c E r q s p3 b3 W (Lib.hid h) hs
    rw [← hR] at this
    exact this
  simp only [← hR] at hok ⊢
  clear hR
  obtain ⟨x4, b5, p5, hR⟩ : ∃ x b p, ((x, b), p) = rdL s (rdTk s) b4 p4 := ⟨_, _, _, rfl⟩
  have HC4 : Hid (∀ (W : World) (r q : Nat), RdV W E r q s p4 b4 → Calls Tryd.prog 91 #[.pointer (some ⟨r, 0, none⟩)] W fun e w' => ∃ v, e = .returned v ∧ w'.ownsRow W.heap.size 142 2 v x4.length (flatOf tskE x4) ∧ RdV w' E r q s p5 b5 ∧ Turns (fun k => k = q ∨ k = r) W w') := fun W r q h => by
    have := tasks_c E r q s p4 b4 W (Lib.hid h) hs
    rw [← hR] at this
    exact this
  simp only [← hR] at hok ⊢
  clear hR
  obtain ⟨x5, b6, p6, hR⟩ : ∃ x b p, ((x, b), p) = rdL s (rdFl s) b5 p5 := ⟨_, _, _, rfl⟩
  have HC5 : Hid (∀ (W : World) (r q : Nat), RdV W E r q s p5 b5 → Calls Tryd.prog 92 #[.pointer (some ⟨r, 0, none⟩)] W fun e w' => ∃ v, e = .returned v ∧ w'.ownsRow W.heap.size 151 6 v x5.length (flatOf fillE x5) ∧ RdV w' E r q s p6 b6 ∧ Turns (fun k => k = q ∨ k = r) W w') := fun W r q h => by
    have := fills_c E r q s p5 b5 W (Lib.hid h) hs
    rw [← hR] at this
    exact this
  simp only [← hR] at hok ⊢
  clear hR
  obtain ⟨x6, b7, p7, hR⟩ : ∃ x b p, ((x, b), p) = rdL s (rdI s) b6 p6 := ⟨_, _, _, rfl⟩
  have HC6 : Hid (∀ (W : World) (r q : Nat), RdV W E r q s p6 b6 → Calls Tryd.prog 93 #[.pointer (some ⟨r, 0, none⟩)] W fun e w' => ∃ v, e = .returned v ∧ w'.ownsRow W.heap.size 3 1 v x6.length (flatOf intE x6) ∧ RdV w' E r q s p7 b7 ∧ Turns (fun k => k = q ∨ k = r) W w') := fun W r q h => by
    have := ints_c E r q s p6 b6 W (Lib.hid h) hs
    rw [← hR] at this
    exact this
  simp only [← hR] at hok ⊢
  clear hR
  try simp only at hok ⊢
  obtain ⟨hk1, hk2⟩ := hok
  subst hk1
  subst hk2
  have hw1 : Below w.heap.size w (w.alloc (.cells #[.int .i64 0, .int .i64 0, .slice none 0 0, .slice none 0 0, .slice none 0 0, .slice none 0 0, .slice none 0 0] 73)) := (Below.refl _ w).alloc (Nat.le_refl _) _
  have HOF := Lib.hid (of_c E s (w.alloc (.cells #[.int .i64 0, .int .i64 0, .slice none 0 0, .slice none 0 0, .slice none 0 0, .slice none 0 0, .slice none 0 0] 73)))
  obtain ⟨RB, hRB⟩ : ∃ z, z = w.heap.size := ⟨_, rfl⟩
  obtain ⟨q, hq⟩ : ∃ z, z = (w.alloc (.cells #[.int .i64 0, .int .i64 0, .slice none 0 0, .slice none 0 0, .slice none 0 0, .slice none 0 0, .slice none 0 0] 73)).heap.size := ⟨_, rfl⟩
  have hq1 : q = w.heap.size + 1 := by rw [hq]; simp
  obtain ⟨W1, hW1⟩ : ∃ z, z = w.alloc (.cells #[.int .i64 0, .int .i64 0, .slice none 0 0, .slice none 0 0, .slice none 0 0, .slice none 0 0, .slice none 0 0] 73) := ⟨_, rfl⟩
  have HB0 : Hid (Blk W1 RB #[.int .i64 0, .int .i64 0, .slice none 0 0, .slice none 0 0, .slice none 0 0, .slice none 0 0, .slice none 0 0] 73) := by show Blk _ _ _ _; rw [hW1, hRB]; exact Blk.new w _ _
  rw [← hq, ← hW1] at HOF
  rw [← hW1] at hw1
  have HW1 := Lib.hid hW1
  have HRB := Lib.hid hRB
  have HQ := Lib.hid hq1
  have HWB := Lib.hid hw1
  have HEF := Lib.hid hE
  have HGW : Hid (1 < w.heap.size) := World.block_lt_of_cell? w ⟨1, 0, none⟩ hE
  have HQ1 : Hid (q = W1.heap.size) := by show _ = _; rw [hW1]; exact hq
  clear hq hW1 hRB hw1 hE hq1
  go_enter Tryd.func46, Tryd.ntmps46
  go_wp2_with fail
  rw [← HW1.out]
  refine HOF.out.mono ?_
  rintro e W2 ⟨rfl, hin, hb2⟩
  have hb2 : Below W1.heap.size W1 W2 := by rw [← HQ1.out]; exact hb2
  obtain ⟨r, hr⟩ : ∃ z, z = W2.heap.size := ⟨_, rfl⟩
  obtain ⟨W3, hW3⟩ : ∃ z, z = W2.alloc (.cells #[.pointer (some ⟨q, 0, none⟩), .bool false] 158) := ⟨_, rfl⟩
  obtain ⟨X, hX⟩ : ∃ z, z = W2.heap.size + 1 := ⟨_, rfl⟩
  have hX3 : W3.heap.size = X := by rw [hW3, hX]; simp
  obtain ⟨U0, hU0⟩ : ∃ z, z = W3.alloc (.cells #[.int .i64 0, .int .i64 0, .slice none 0 0, .slice none 0 0, .slice none 0 0, .slice none 0 0, .slice none 0 0] 73) := ⟨_, rfl⟩
  have hb3 : Below W2.heap.size W2 W3 := by rw [hW3]; exact (Below.refl _ _).alloc (Nat.le_refl _) _
  have hb4 : Below W3.heap.size W3 U0 := by rw [hU0]; exact (Below.refl _ _).alloc (Nat.le_refl _) _
  have hb24 : Below W2.heap.size W2 U0 := hb3.trans (hb4.mono hb3.size)
  have hbw : Below w.heap.size w U0 := HWB.out.trans ((hb2.trans (hb24.mono hb2.size)).mono HWB.out.size)
  have HX0 : Hid (Blk U0 X #[.int .i64 0, .int .i64 0, .slice none 0 0, .slice none 0 0, .slice none 0 0, .slice none 0 0, .slice none 0 0] 73) := by show Blk _ _ _ _; rw [hU0, ← hX3]; exact Blk.new W3 _ _
  have HB0 : Hid (Blk U0 RB #[.int .i64 0, .int .i64 0, .slice none 0 0, .slice none 0 0, .slice none 0 0, .slice none 0 0, .slice none 0 0] 73) := (HB0.out.below hb2).below hb24
  have HV0 : Hid (RdV U0 E r q s ((0 : Nat), (none : Option Nat)) false) := by
    have h1 : Blk W3 r #[.pointer (some ⟨q, 0, none⟩), .bool false] 158 := by rw [hW3, hr]; exact Blk.new W2 _ _
    exact ⟨h1.below hb4, ⟨.nilIface, hin.below hb24⟩, HEF.out.below hbw⟩
  have HQL : Hid (w.heap.size ≤ q ∧ w.heap.size ≤ r ∧ w.heap.size ≤ X) := by
    have h1 := HQ.out
    have h2 := HQ1.out
    have h3 := hb2.size
    show _ ∧ _ ∧ _
    omega
  have HBX : Hid (RB ≠ X) := by
    have h1 := HRB.out
    have h2 := HWB.out.size
    have h3 := hb2.size
    show _ ≠ _
    omega
  have HGX : Hid (1 < X) := Nat.lt_of_lt_of_le HGW.out HQL.out.2.2
  have HT0 := Lib.hid hbw
  have HS0 : Hid (w.heap.size ≤ U0.heap.size) := hbw.size
  have HUE := Lib.hid hU0
  have HW3 := Lib.hid hW3
  have HRE := Lib.hid hr
  have HXE := Lib.hid hX
  clear hin hb2 hr hW3 hX hX3 hU0 hb3 hb4 hb24 hbw
  go_upto_region 3 with fail
  rw [← HXE.out, ← HRE.out, ← HW3.out, ← HUE.out]
  have k0 : U0.cell? ⟨r, 0, none⟩ = some (.pointer (some ⟨q, 0, none⟩)) := HV0.out.blk.cell 0 _ rfl
  go_wp2_with fail
  refine (HC0.out U0 r q HV0.out).mono ?_
  rintro e Y0 ⟨rfl, hv, ht1⟩
  have ht : Turns (fun k => k = q ∨ k = r) U0 Y0 := ht1.mono (fun _ _ h => .inl h)
  have HY0 := Lib.hid hv
  have HXY0 := Lib.hid (HV0.out.keep2 HX0.out (by decide) (by decide) ht)
  have HBY0 := Lib.hid (HV0.out.keep2 HB0.out (by decide) (by decide) ht)
  have xf0 : Y0.frozen? ⟨X, 0, none⟩ = false := HXY0.out.free 0
  have xc0 : Y0.cell? ⟨X, 0, none⟩ = some (.int .i64 0) := HXY0.out.cell 0 _ rfl
  obtain ⟨U1, hU⟩ : ∃ Z, Z = Y0.setCell ⟨X, 0, none⟩ (.int .i64 z0) := ⟨_, rfl⟩
  have hset : Turns (fun k => k = X) Y0 U1 := by rw [hU]; exact Turns.set (F := fun k => k = X) rfl
  have HX1 : Hid (Blk U1 X #[.int .i64 z0, .int .i64 0, .slice none 0 0, .slice none 0 0, .slice none 0 0, .slice none 0 0, .slice none 0 0] 73) := by show Blk _ _ _ _; rw [hU]; exact HXY0.out.set 0 (.int .i64 z0)
  have HB1 : Hid (Blk U1 RB #[.int .i64 0, .int .i64 0, .slice none 0 0, .slice none 0 0, .slice none 0 0, .slice none 0 0, .slice none 0 0] 73) := hset.blk HBY0.out (fun e => HBX.out e)
  have HV1 := Lib.hid (HY0.out.setOf hset HXY0.out (by decide) (by decide) (by decide) HGX.out)
  have HT1 : Hid (Below w.heap.size w U1) := (HT0.out.trans (ht.below HT0.out.size (fun k hk => by have h1 := HQL.out; rcases hk with e | e <;> omega))).trans (hset.below (Nat.le_trans HT0.out.size ht.size) (fun k hk => by have h1 : k = X := hk; have h2 := HQL.out; omega))
  have HS1 : Hid (w.heap.size ≤ U1.heap.size) := HT1.out.size
  have HU1 := Lib.hid hU
  clear hv ht hU hset k0 ht1
  go_upto_region 4 with fail
  rw [← HU1.out]
  clear xf0 xc0
  have k1 : U1.cell? ⟨r, 0, none⟩ = some (.pointer (some ⟨q, 0, none⟩)) := HV1.out.blk.cell 0 _ rfl
  go_wp2_with fail
  refine (HC1.out U1 r q HV1.out).mono ?_
  rintro e Y1 ⟨rfl, hv, ht1⟩
  have ht : Turns (fun k => k = q ∨ k = r) U1 Y1 := ht1.mono (fun _ _ h => .inl h)
  have HY1 := Lib.hid hv
  have HXY1 := Lib.hid (HV1.out.keep2 HX1.out (by decide) (by decide) ht)
  have HBY1 := Lib.hid (HV1.out.keep2 HB1.out (by decide) (by decide) ht)
  have xf1 : Y1.frozen? ⟨X, 1, none⟩ = false := HXY1.out.free 1
  have xc1 : Y1.cell? ⟨X, 1, none⟩ = some (.int .i64 0) := HXY1.out.cell 1 _ rfl
  obtain ⟨U2, hU⟩ : ∃ Z, Z = Y1.setCell ⟨X, 1, none⟩ (.int .i64 z1) := ⟨_, rfl⟩
  have hset : Turns (fun k => k = X) Y1 U2 := by rw [hU]; exact Turns.set (F := fun k => k = X) rfl
  have HX2 : Hid (Blk U2 X #[.int .i64 z0, .int .i64 z1, .slice none 0 0, .slice none 0 0, .slice none 0 0, .slice none 0 0, .slice none 0 0] 73) := by show Blk _ _ _ _; rw [hU]; exact HXY1.out.set 1 (.int .i64 z1)
  have HB2 : Hid (Blk U2 RB #[.int .i64 0, .int .i64 0, .slice none 0 0, .slice none 0 0, .slice none 0 0, .slice none 0 0, .slice none 0 0] 73) := hset.blk HBY1.out (fun e => HBX.out e)
  have HV2 := Lib.hid (HY1.out.setOf hset HXY1.out (by decide) (by decide) (by decide) HGX.out)
  have HT2 : Hid (Below w.heap.size w U2) := (HT1.out.trans (ht.below HT1.out.size (fun k hk => by have h1 := HQL.out; rcases hk with e | e <;> omega))).trans (hset.below (Nat.le_trans HT1.out.size ht.size) (fun k hk => by have h1 : k = X := hk; have h2 := HQL.out; omega))
  have HS2 : Hid (w.heap.size ≤ U2.heap.size) := HT2.out.size
  have HU2 := Lib.hid hU
  clear hv ht hU hset k1 ht1
  go_upto_region 5 with fail
  rw [← HU2.out]
  clear xf1 xc1
  have k2 : U2.cell? ⟨r, 0, none⟩ = some (.pointer (some ⟨q, 0, none⟩)) := HV2.out.blk.cell 0 _ rfl
  go_wp2_with fail
  refine (HC2.out U2 r q HV2.out).mono ?_
  rintro e Y2 ⟨v, rfl, hown, hv, ht⟩
  obtain ⟨a2, c2, rfl⟩ := own_len hown
  have HOY2 : Hid (Y2.ownsRow w.heap.size 144 3 (.slice a2 x2.length c2) x2.length (flatOf seatE x2)) := hown.mono HS2.out
  have HY2 := Lib.hid hv
  have HXY2 := Lib.hid (HV2.out.keep2 HX2.out (by decide) (by decide) ht)
  have HBY2 := Lib.hid (HV2.out.keep2 HB2.out (by decide) (by decide) ht)
  have xf2 : Y2.frozen? ⟨X, 2, none⟩ = false := HXY2.out.free 2
  have xc2 : Y2.cell? ⟨X, 2, none⟩ = some (.slice none 0 0) := HXY2.out.cell 2 _ rfl
  obtain ⟨U3, hU⟩ : ∃ Z, Z = Y2.setCell ⟨X, 2, none⟩ (.slice a2 x2.length c2) := ⟨_, rfl⟩
  have hset : Turns (fun k => k = X) Y2 U3 := by rw [hU]; exact Turns.set (F := fun k => k = X) rfl
  have HX3 : Hid (Blk U3 X #[.int .i64 z0, .int .i64 z1, .slice a2 x2.length c2, .slice none 0 0, .slice none 0 0, .slice none 0 0, .slice none 0 0] 73) := by show Blk _ _ _ _; rw [hU]; exact HXY2.out.set 2 (.slice a2 x2.length c2)
  have HB3 : Hid (Blk U3 RB #[.int .i64 0, .int .i64 0, .slice none 0 0, .slice none 0 0, .slice none 0 0, .slice none 0 0, .slice none 0 0] 73) := hset.blk HBY2.out (fun e => HBX.out e)
  have HV3 := Lib.hid (HY2.out.setOf hset HXY2.out (by decide) (by decide) (by decide) HGX.out)
  have HO3_2 : Hid (U3.ownsRow w.heap.size 144 3 (.slice a2 x2.length c2) x2.length (flatOf seatE x2)) := own_far HOY2.out HXY2.out (by decide) hset
  have HT3 : Hid (Below w.heap.size w U3) := (HT2.out.trans (ht.below HT2.out.size (fun k hk => by have h1 := HQL.out; rcases hk with e | e <;> omega))).trans (hset.below (Nat.le_trans HT2.out.size ht.size) (fun k hk => by have h1 : k = X := hk; have h2 := HQL.out; omega))
  have HS3 : Hid (w.heap.size ≤ U3.heap.size) := HT3.out.size
  have HU3 := Lib.hid hU
  clear hv ht hU hset k2 hown
  go_upto_region 6 with fail
  rw [← HU3.out]
  clear xf2 xc2
  have k3 : U3.cell? ⟨r, 0, none⟩ = some (.pointer (some ⟨q, 0, none⟩)) := HV3.out.blk.cell 0 _ rfl
  go_wp2_with fail
  refine (HC3.out U3 r q HV3.out).mono ?_
  rintro e Y3 ⟨v, rfl, hown, hv, ht⟩
  obtain ⟨a3, c3, rfl⟩ := own_len hown
  have HOY3 : Hid (Y3.ownsRow w.heap.size 142 2 (.slice a3 x3.length c3) x3.length (flatOf tskE x3)) := hown.mono HS3.out
  have HY3 := Lib.hid hv
  have HXY3 := Lib.hid (HV3.out.keep2 HX3.out (by decide) (by decide) ht)
  have HBY3 := Lib.hid (HV3.out.keep2 HB3.out (by decide) (by decide) ht)
  have HOY3_2 := Lib.hid (HV3.out.keepOwn HO3_2.out (by decide) (by decide) ht)
  have xf3 : Y3.frozen? ⟨X, 3, none⟩ = false := HXY3.out.free 3
  have xc3 : Y3.cell? ⟨X, 3, none⟩ = some (.slice none 0 0) := HXY3.out.cell 3 _ rfl
  obtain ⟨U4, hU⟩ : ∃ Z, Z = Y3.setCell ⟨X, 3, none⟩ (.slice a3 x3.length c3) := ⟨_, rfl⟩
  have hset : Turns (fun k => k = X) Y3 U4 := by rw [hU]; exact Turns.set (F := fun k => k = X) rfl
  have HX4 : Hid (Blk U4 X #[.int .i64 z0, .int .i64 z1, .slice a2 x2.length c2, .slice a3 x3.length c3, .slice none 0 0, .slice none 0 0, .slice none 0 0] 73) := by show Blk _ _ _ _; rw [hU]; exact HXY3.out.set 3 (.slice a3 x3.length c3)
  have HB4 : Hid (Blk U4 RB #[.int .i64 0, .int .i64 0, .slice none 0 0, .slice none 0 0, .slice none 0 0, .slice none 0 0, .slice none 0 0] 73) := hset.blk HBY3.out (fun e => HBX.out e)
  have HV4 := Lib.hid (HY3.out.setOf hset HXY3.out (by decide) (by decide) (by decide) HGX.out)
  have HO4_2 : Hid (U4.ownsRow w.heap.size 144 3 (.slice a2 x2.length c2) x2.length (flatOf seatE x2)) := own_far HOY3_2.out HXY3.out (by decide) hset
  have HO4_3 : Hid (U4.ownsRow w.heap.size 142 2 (.slice a3 x3.length c3) x3.length (flatOf tskE x3)) := own_far HOY3.out HXY3.out (by decide) hset
  have HT4 : Hid (Below w.heap.size w U4) := (HT3.out.trans (ht.below HT3.out.size (fun k hk => by have h1 := HQL.out; rcases hk with e | e <;> omega))).trans (hset.below (Nat.le_trans HT3.out.size ht.size) (fun k hk => by have h1 : k = X := hk; have h2 := HQL.out; omega))
  have HS4 : Hid (w.heap.size ≤ U4.heap.size) := HT4.out.size
  have HU4 := Lib.hid hU
  clear hv ht hU hset k3 hown
  go_upto_region 7 with fail
  rw [← HU4.out]
  clear xf3 xc3
  have k4 : U4.cell? ⟨r, 0, none⟩ = some (.pointer (some ⟨q, 0, none⟩)) := HV4.out.blk.cell 0 _ rfl
  go_wp2_with fail
  refine (HC4.out U4 r q HV4.out).mono ?_
  rintro e Y4 ⟨v, rfl, hown, hv, ht⟩
  obtain ⟨a4, c4, rfl⟩ := own_len hown
  have HOY4 : Hid (Y4.ownsRow w.heap.size 142 2 (.slice a4 x4.length c4) x4.length (flatOf tskE x4)) := hown.mono HS4.out
  have HY4 := Lib.hid hv
  have HXY4 := Lib.hid (HV4.out.keep2 HX4.out (by decide) (by decide) ht)
  have HBY4 := Lib.hid (HV4.out.keep2 HB4.out (by decide) (by decide) ht)
  have HOY4_2 := Lib.hid (HV4.out.keepOwn HO4_2.out (by decide) (by decide) ht)
  have HOY4_3 := Lib.hid (HV4.out.keepOwn HO4_3.out (by decide) (by decide) ht)
  have xf4 : Y4.frozen? ⟨X, 4, none⟩ = false := HXY4.out.free 4
  have xc4 : Y4.cell? ⟨X, 4, none⟩ = some (.slice none 0 0) := HXY4.out.cell 4 _ rfl
  obtain ⟨U5, hU⟩ : ∃ Z, Z = Y4.setCell ⟨X, 4, none⟩ (.slice a4 x4.length c4) := ⟨_, rfl⟩
  have hset : Turns (fun k => k = X) Y4 U5 := by rw [hU]; exact Turns.set (F := fun k => k = X) rfl
  have HX5 : Hid (Blk U5 X #[.int .i64 z0, .int .i64 z1, .slice a2 x2.length c2, .slice a3 x3.length c3, .slice a4 x4.length c4, .slice none 0 0, .slice none 0 0] 73) := by show Blk _ _ _ _; rw [hU]; exact HXY4.out.set 4 (.slice a4 x4.length c4)
  have HB5 : Hid (Blk U5 RB #[.int .i64 0, .int .i64 0, .slice none 0 0, .slice none 0 0, .slice none 0 0, .slice none 0 0, .slice none 0 0] 73) := hset.blk HBY4.out (fun e => HBX.out e)
  have HV5 := Lib.hid (HY4.out.setOf hset HXY4.out (by decide) (by decide) (by decide) HGX.out)
  have HO5_2 : Hid (U5.ownsRow w.heap.size 144 3 (.slice a2 x2.length c2) x2.length (flatOf seatE x2)) := own_far HOY4_2.out HXY4.out (by decide) hset
  have HO5_3 : Hid (U5.ownsRow w.heap.size 142 2 (.slice a3 x3.length c3) x3.length (flatOf tskE x3)) := own_far HOY4_3.out HXY4.out (by decide) hset
  have HO5_4 : Hid (U5.ownsRow w.heap.size 142 2 (.slice a4 x4.length c4) x4.length (flatOf tskE x4)) := own_far HOY4.out HXY4.out (by decide) hset
  have HT5 : Hid (Below w.heap.size w U5) := (HT4.out.trans (ht.below HT4.out.size (fun k hk => by have h1 := HQL.out; rcases hk with e | e <;> omega))).trans (hset.below (Nat.le_trans HT4.out.size ht.size) (fun k hk => by have h1 : k = X := hk; have h2 := HQL.out; omega))
  have HS5 : Hid (w.heap.size ≤ U5.heap.size) := HT5.out.size
  have HU5 := Lib.hid hU
  clear hv ht hU hset k4 hown
  go_upto_region 8 with fail
  rw [← HU5.out]
  clear xf4 xc4
  have k5 : U5.cell? ⟨r, 0, none⟩ = some (.pointer (some ⟨q, 0, none⟩)) := HV5.out.blk.cell 0 _ rfl
  go_wp2_with fail
  refine (HC5.out U5 r q HV5.out).mono ?_
  rintro e Y5 ⟨v, rfl, hown, hv, ht⟩
  obtain ⟨a5, c5, rfl⟩ := own_len hown
  have HOY5 : Hid (Y5.ownsRow w.heap.size 151 6 (.slice a5 x5.length c5) x5.length (flatOf fillE x5)) := hown.mono HS5.out
  have HY5 := Lib.hid hv
  have HXY5 := Lib.hid (HV5.out.keep2 HX5.out (by decide) (by decide) ht)
  have HBY5 := Lib.hid (HV5.out.keep2 HB5.out (by decide) (by decide) ht)
  have HOY5_2 := Lib.hid (HV5.out.keepOwn HO5_2.out (by decide) (by decide) ht)
  have HOY5_3 := Lib.hid (HV5.out.keepOwn HO5_3.out (by decide) (by decide) ht)
  have HOY5_4 := Lib.hid (HV5.out.keepOwn HO5_4.out (by decide) (by decide) ht)
  have xf5 : Y5.frozen? ⟨X, 5, none⟩ = false := HXY5.out.free 5
  have xc5 : Y5.cell? ⟨X, 5, none⟩ = some (.slice none 0 0) := HXY5.out.cell 5 _ rfl
  obtain ⟨U6, hU⟩ : ∃ Z, Z = Y5.setCell ⟨X, 5, none⟩ (.slice a5 x5.length c5) := ⟨_, rfl⟩
  have hset : Turns (fun k => k = X) Y5 U6 := by rw [hU]; exact Turns.set (F := fun k => k = X) rfl
  have HX6 : Hid (Blk U6 X #[.int .i64 z0, .int .i64 z1, .slice a2 x2.length c2, .slice a3 x3.length c3, .slice a4 x4.length c4, .slice a5 x5.length c5, .slice none 0 0] 73) := by show Blk _ _ _ _; rw [hU]; exact HXY5.out.set 5 (.slice a5 x5.length c5)
  have HB6 : Hid (Blk U6 RB #[.int .i64 0, .int .i64 0, .slice none 0 0, .slice none 0 0, .slice none 0 0, .slice none 0 0, .slice none 0 0] 73) := hset.blk HBY5.out (fun e => HBX.out e)
  have HV6 := Lib.hid (HY5.out.setOf hset HXY5.out (by decide) (by decide) (by decide) HGX.out)
  have HO6_2 : Hid (U6.ownsRow w.heap.size 144 3 (.slice a2 x2.length c2) x2.length (flatOf seatE x2)) := own_far HOY5_2.out HXY5.out (by decide) hset
  have HO6_3 : Hid (U6.ownsRow w.heap.size 142 2 (.slice a3 x3.length c3) x3.length (flatOf tskE x3)) := own_far HOY5_3.out HXY5.out (by decide) hset
  have HO6_4 : Hid (U6.ownsRow w.heap.size 142 2 (.slice a4 x4.length c4) x4.length (flatOf tskE x4)) := own_far HOY5_4.out HXY5.out (by decide) hset
  have HO6_5 : Hid (U6.ownsRow w.heap.size 151 6 (.slice a5 x5.length c5) x5.length (flatOf fillE x5)) := own_far HOY5.out HXY5.out (by decide) hset
  have HT6 : Hid (Below w.heap.size w U6) := (HT5.out.trans (ht.below HT5.out.size (fun k hk => by have h1 := HQL.out; rcases hk with e | e <;> omega))).trans (hset.below (Nat.le_trans HT5.out.size ht.size) (fun k hk => by have h1 : k = X := hk; have h2 := HQL.out; omega))
  have HS6 : Hid (w.heap.size ≤ U6.heap.size) := HT6.out.size
  have HU6 := Lib.hid hU
  clear hv ht hU hset k5 hown
  go_upto_region 9 with fail
  rw [← HU6.out]
  clear xf5 xc5
  have k6 : U6.cell? ⟨r, 0, none⟩ = some (.pointer (some ⟨q, 0, none⟩)) := HV6.out.blk.cell 0 _ rfl
  go_wp2_with fail
  refine (HC6.out U6 r q HV6.out).mono ?_
  rintro e Y6 ⟨v, rfl, hown, hv, ht⟩
  obtain ⟨a6, c6, rfl⟩ := own_len hown
  have HOY6 : Hid (Y6.ownsRow w.heap.size 3 1 (.slice a6 x6.length c6) x6.length (flatOf intE x6)) := hown.mono HS6.out
  have HY6 := Lib.hid hv
  have HXY6 := Lib.hid (HV6.out.keep2 HX6.out (by decide) (by decide) ht)
  have HBY6 := Lib.hid (HV6.out.keep2 HB6.out (by decide) (by decide) ht)
  have HOY6_2 := Lib.hid (HV6.out.keepOwn HO6_2.out (by decide) (by decide) ht)
  have HOY6_3 := Lib.hid (HV6.out.keepOwn HO6_3.out (by decide) (by decide) ht)
  have HOY6_4 := Lib.hid (HV6.out.keepOwn HO6_4.out (by decide) (by decide) ht)
  have HOY6_5 := Lib.hid (HV6.out.keepOwn HO6_5.out (by decide) (by decide) ht)
  have xf6 : Y6.frozen? ⟨X, 6, none⟩ = false := HXY6.out.free 6
  have xc6 : Y6.cell? ⟨X, 6, none⟩ = some (.slice none 0 0) := HXY6.out.cell 6 _ rfl
  obtain ⟨U7, hU⟩ : ∃ Z, Z = Y6.setCell ⟨X, 6, none⟩ (.slice a6 x6.length c6) := ⟨_, rfl⟩
  have hset : Turns (fun k => k = X) Y6 U7 := by rw [hU]; exact Turns.set (F := fun k => k = X) rfl
  have HX7 : Hid (Blk U7 X #[.int .i64 z0, .int .i64 z1, .slice a2 x2.length c2, .slice a3 x3.length c3, .slice a4 x4.length c4, .slice a5 x5.length c5, .slice a6 x6.length c6] 73) := by show Blk _ _ _ _; rw [hU]; exact HXY6.out.set 6 (.slice a6 x6.length c6)
  have HB7 : Hid (Blk U7 RB #[.int .i64 0, .int .i64 0, .slice none 0 0, .slice none 0 0, .slice none 0 0, .slice none 0 0, .slice none 0 0] 73) := hset.blk HBY6.out (fun e => HBX.out e)
  have HV7 := Lib.hid (HY6.out.setOf hset HXY6.out (by decide) (by decide) (by decide) HGX.out)
  have HO7_2 : Hid (U7.ownsRow w.heap.size 144 3 (.slice a2 x2.length c2) x2.length (flatOf seatE x2)) := own_far HOY6_2.out HXY6.out (by decide) hset
  have HO7_3 : Hid (U7.ownsRow w.heap.size 142 2 (.slice a3 x3.length c3) x3.length (flatOf tskE x3)) := own_far HOY6_3.out HXY6.out (by decide) hset
  have HO7_4 : Hid (U7.ownsRow w.heap.size 142 2 (.slice a4 x4.length c4) x4.length (flatOf tskE x4)) := own_far HOY6_4.out HXY6.out (by decide) hset
  have HO7_5 : Hid (U7.ownsRow w.heap.size 151 6 (.slice a5 x5.length c5) x5.length (flatOf fillE x5)) := own_far HOY6_5.out HXY6.out (by decide) hset
  have HO7_6 : Hid (U7.ownsRow w.heap.size 3 1 (.slice a6 x6.length c6) x6.length (flatOf intE x6)) := own_far HOY6.out HXY6.out (by decide) hset
  have HT7 : Hid (Below w.heap.size w U7) := (HT6.out.trans (ht.below HT6.out.size (fun k hk => by have h1 := HQL.out; rcases hk with e | e <;> omega))).trans (hset.below (Nat.le_trans HT6.out.size ht.size) (fun k hk => by have h1 : k = X := hk; have h2 := HQL.out; omega))
  have HS7 : Hid (w.heap.size ≤ U7.heap.size) := HT7.out.size
  have HU7 := Lib.hid hU
  clear hv ht hU hset k6 hown
  go_upto_region 10 with fail
  rw [← HU7.out]
  clear xf6 xc6
  obtain ⟨er, hi⟩ := HV7.out.inw
  have HEN := Lib.hid (iend_c E q s s.size er none U7 (Lib.hid hi) hs (Lib.hid HV7.out.form))
  have k7 : U7.cell? ⟨r, 0, none⟩ = some (.pointer (some ⟨q, 0, none⟩)) := HV7.out.blk.cell 0 _ rfl
  clear hi
  go_wp2_with fail
  refine HEN.out.mono ?_
  rintro e Z1 ⟨v, rfl, hend, hb⟩
  have hv : v = .nilIface := by simpa [EndIs] using hend
  subst hv
  have HV8 := Lib.hid (HV7.out.below hb)
  have c1 : Z1.cell? ⟨r, 1, none⟩ = some (.bool false) := HV8.out.blk.cell 1 _ rfl
  have rX : Z1.rangeAt X 0 [.int .i64 z0, .int .i64 z1, .slice a2 x2.length c2, .slice a3 x3.length c3, .slice a4 x4.length c4, .slice a5 x5.length c5, .slice a6 x6.length c6] := rangeAt_b (HX7.out.below hb)
  have hRB : Z1.heap[RB]? = some (.cells #[.int .i64 0, .int .i64 0, .slice none 0 0, .slice none 0 0, .slice none 0 0, .slice none 0 0, .slice none 0 0] 73 (0, 0)) := HB7.out.below hb
  have hset : Turns (fun k => k = RB) Z1 (Z1.setRow RB #[.int .i64 z0, .int .i64 z1, .slice a2 x2.length c2, .slice a3 x3.length c3, .slice a4 x4.length c4, .slice a5 x5.length c5, .slice a6 x6.length c6]) := ⟨rfl, rfl, rfl, by simp [World.setRow], fun k hk hn => setRow_other Z1 RB k _ hn⟩
  have HFIN : Hid (RepV (Z1.setRow RB #[.int .i64 z0, .int .i64 z1, .slice a2 x2.length c2, .slice a3 x3.length c3, .slice a4 x4.length c4, .slice a5 x5.length c5, .slice a6 x6.length c6]) w.heap.size ⟨z0, z1, x2, x3, x4, x5, x6⟩ (.agg #[.int .i64 z0, .int .i64 z1, .slice a2 x2.length c2, .slice a3 x3.length c3, .slice a4 x4.length c4, .slice a5 x5.length c5, .slice a6 x6.length c6]) ∧ Below w.heap.size w (Z1.setRow RB #[.int .i64 z0, .int .i64 z1, .slice a2 x2.length c2, .slice a3 x3.length c3, .slice a4 x4.length c4, .slice a5 x5.length c5, .slice a6 x6.length c6])) := by
    have hd : ∀ {base size n : Nat} {e : TypeId} {v : Value} {xs : List Value}, U7.ownsRow base e size v n xs → 73 ≠ e → (Z1.setRow RB #[.int .i64 z0, .int .i64 z1, .slice a2 x2.length c2, .slice a3 x3.length c3, .slice a4 x4.length c4, .slice a5 x5.length c5, .slice a6 x6.length c6]).ownsRow base e size v n xs := fun ho hT => own_far ((Turns.of_below (F := fun _ => False) hb).owns ho (fun _ _ h => h)) hRB hT hset
    refine ⟨⟨_, _, _, _, _, rfl, hd HO7_2.out (by decide), hd HO7_3.out (by decide), hd HO7_4.out (by decide), hd HO7_5.out (by decide), hd HO7_6.out (by decide)⟩, (HT7.out.trans (hb.mono HT7.out.size)).trans (hset.below (Nat.le_trans HT7.out.size hb.size) (fun k hk => by have h1 : k = RB := hk; have h2 := HRB.out; omega))⟩
  clear hend hb k7 hset
  have hrb := HRB.out
  subst hrb
  go_wp2_with (first
    | (refine wpList_load_mid rfl 73 _ rfl X 0 rfl [.int .i64 z0, .int .i64 z1, .slice a2 x2.length c2, .slice a3 x3.length c3, .slice a4 x4.length c4, .slice a5 x5.length c5, .slice a6 x6.length c6] _ rX Tryd.underlying73 rfl size_rep ?_)
    | (refine wpList_store_row rfl 73 _ _ rfl w.heap.size #[.int .i64 z0, .int .i64 z1, .slice a2 x2.length c2, .slice a3 x3.length c3, .slice a4 x4.length c4, .slice a5 x5.length c5, .slice a6 x6.length c6] rfl rfl 73 #[.int .i64 0, .int .i64 0, .slice none 0 0, .slice none 0 0, .slice none 0 0, .slice none 0 0, .slice none 0 0] hRB size_rep rfl (by simp [Value.oneCell']) ?_))
  exact bodyPost_pair Tryd.results46 rfl w.heap.size rfl #[.int .i64 z0, .int .i64 z1, .slice a2 x2.length c2, .slice a3 x3.length c3, .slice a4 x4.length c4, .slice a5 x5.length c5, .slice a6 x6.length c6] _ (0, 0) (setRow_heap _ _ _ _ _ _ hRB) _ Tryd.underlying73 rfl 7 size_rep rfl .nilIface rfl ⟨_, rfl, HFIN.out.1, HFIN.out.2⟩
end Go.Proofs.YtbningfdpibdkaaDoor
