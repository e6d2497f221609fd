/-
  reply: the reader: count, more.
-/
import Derived.Test.YtbningfdpibdkaaDoorRpB
namespace Go.Proofs.YtbningfdpibdkaaDoor
open Go.RowKit
set_option linter.unusedVariables false
set_option linter.unusedSimpArgs false

/-- A count, in plain words: how many; whether it can't be. -/
def rdC (s : ByteArray) (p : St) : (Nat × Bool) × St := if (rdI s p).1 < 0 ∨ ((s.size - (rdI s p).2.1 : Nat) : Int) < (rdI s p).1 then ((0, true), (rdI s p).2) else (((rdI s p).1.toNat, false), (rdI s p).2)
theorem RdV.setBad {w : World} {E : Nat → Addr} {r q : Nat} {s : ByteArray} {p : St} {b : Bool} (h : RdV w E r q s p b) : RdV (w.setCell ⟨r, 1, none⟩ (.bool true)) E r q s p true := by
  obtain ⟨er, hi⟩ := h.inw
  have hset : Turns (fun k => k = r) w (w.setCell ⟨r, 1, none⟩ (.bool true)) := Turns.set (F := fun k => k = r) rfl
  refine ⟨h.blk.set 1 (.bool true), ⟨er, hi.turns hset (fun e => h.ne e.symm) (fun g cs hb e => ?_)⟩, ?_⟩
  · have e' : g = r := e
    rw [e'] at hb
    exact absurd (hb.symm.trans h.blk) (by simp)
  · have hlt := World.block_lt_of_cell? w ⟨1, 0, none⟩ h.form
    refine (World.cell?_of_block (w := w) (hset.block _ hlt (fun e => ?_))).trans h.form
    have hc := h.form
    unfold ErrForm at hc
    have hx : w.cell? ⟨r, 0, none⟩ = some (.pointer (some ⟨q, 0, none⟩)) := h.blk.cell 0 _ rfl
    have e' : 1 = r := e
    rw [← e'] at hx
    have h2 := hx.symm.trans hc
    rw [erV_some E 3 (by decide)] at h2
    cases h2
set_option maxRecDepth 100000 in
theorem count_c (E : Nat → Addr) (r q : Nat) (s : ByteArray) (p : St) (b : Bool) (w : World) (h : Hid (RdV w E r q s p b)) (hs : s.size ≤ 1000000) :
    Calls Tryd.prog 111 #[.pointer (some ⟨r, 0, none⟩)] w fun e w' => e = .returned (.int .i64 ((rdC s p).1.1 : Nat)) ∧ RdV w' E r q s (rdC s p).2 (b || (rdC s p).1.2) ∧ Turns (fun k => k = q ∨ k = r) w w' := by
  have c0 : w.cell? ⟨r, 0, none⟩ = some (.pointer (some ⟨q, 0, none⟩)) := h.out.blk.cell 0 _ rfl
  have HI1 := Lib.hid (rdInt_c E r q s p b w h hs)
  have HL := Lib.hid (fun (W : World) (hv : RdV W E r q s (rdI s p).2 b) (er : Value) (hi : InV W E q s (rdI s p).2.1 er (rdI s p).2.2) => left_c E q s (rdI s p).2.1 er (rdI s p).2.2 W (Lib.hid hi) hs)
  unfold rdC
  obtain ⟨R1, hR1⟩ : ∃ R, R = rdI s p := ⟨_, rfl⟩
  rw [← hR1] at HI1 HL ⊢
  obtain ⟨z1, p1⟩ := R1
  simp only at HI1 HL ⊢
  clear hR1 h
  by_cases h1 : z1 < 0
  · rw [if_pos (.inl h1)]
    have d1 : decide (z1 < 0) = true := by simpa using h1
    clear h1
    go_enter Tryd.func111, Tryd.ntmps111
    go_wp2_with fail
    refine HI1.out.mono ?_
    rintro e w1 ⟨rfl, hv1, ht1⟩
    have H1 := Lib.hid hv1
    have HT1 := Lib.hid ht1
    have c1 : w1.cell? ⟨r, 1, none⟩ = some (.bool b) := hv1.blk.cell 1 _ rfl
    have f1 : w1.frozen? ⟨r, 1, none⟩ = false := hv1.blk.free 1
    clear hv1 ht1 c0
    go_wp2_with fail
    go_ret
    refine ⟨rfl, ?_, (HT1.out.mono (fun _ _ hk => .inl hk)).trans (Turns.set (F := fun k => k = r) rfl) (fun _ _ hk => .inr hk)⟩
    rw [Bool.or_true]
    exact H1.out.setBad
  · have d1 : decide (z1 < 0) = false := by simpa using h1
    by_cases h2 : ((s.size - p1.1 : Nat) : Int) < z1
    · rw [if_pos (.inr h2)]
      have d2 : decide (((s.size - p1.1 : Nat) : Int) < z1) = true := by simpa using h2
      generalize ((s.size - p1.1 : Nat) : Int) = lf at *
      clear h1 h2
      go_enter Tryd.func111, Tryd.ntmps111
      go_wp2_with fail
      refine HI1.out.mono ?_
      rintro e w1 ⟨rfl, hv1, ht1⟩
      have H1 := Lib.hid hv1
      have HT1 := Lib.hid ht1
      have c1 : w1.cell? ⟨r, 0, none⟩ = some (.pointer (some ⟨q, 0, none⟩)) := hv1.blk.cell 0 _ rfl
      obtain ⟨er, hi⟩ := hv1.inw
      have HL2 := Lib.hid (HL.out w1 H1.out er hi)
      clear hv1 ht1 c0 hi HL
      go_wp2_with fail
      refine HL2.out.mono ?_
      rintro e w2 ⟨rfl, hb2⟩
      have H2 := Lib.hid (H1.out.below hb2)
      have HT2 := Lib.hid ((HT1.out.mono (G := fun k => k = q ∨ k = r) (fun _ _ hk => .inl hk)).trans (Turns.of_below (F := fun _ => False) hb2) (fun _ _ hk => hk.elim))
      have c2 : w2.cell? ⟨r, 1, none⟩ = some (.bool b) := H2.out.blk.cell 1 _ rfl
      have f2 : w2.frozen? ⟨r, 1, none⟩ = false := H2.out.blk.free 1
      clear hb2 c1
      go_wp2_with fail
      go_ret
      refine ⟨rfl, ?_, HT2.out.trans (Turns.set (F := fun k => k = r) rfl) (fun _ _ hk => .inr hk)⟩
      rw [Bool.or_true]
      exact H2.out.setBad
    · rw [if_neg (by omega)]
      have d2 : decide (((s.size - p1.1 : Nat) : Int) < z1) = false := by simpa using h2
      obtain ⟨n, hn⟩ : ∃ n : Nat, z1 = (n : Int) := ⟨z1.toNat, by omega⟩
      have hz : z1.toNat = n := by omega
      rw [hz]
      subst hn
      generalize ((s.size - p1.1 : Nat) : Int) = lf at *
      clear h1 h2 hz
      go_enter Tryd.func111, Tryd.ntmps111
      go_wp2_with fail
      refine HI1.out.mono ?_
      rintro e w1 ⟨rfl, hv1, ht1⟩
      have H1 := Lib.hid hv1
      have HT1 := Lib.hid ht1
      have c1 : w1.cell? ⟨r, 0, none⟩ = some (.pointer (some ⟨q, 0, none⟩)) := hv1.blk.cell 0 _ rfl
      obtain ⟨er, hi⟩ := hv1.inw
      have HL2 := Lib.hid (HL.out w1 H1.out er hi)
      clear hv1 ht1 c0 hi HL
      go_wp2_with fail
      refine HL2.out.mono ?_
      rintro e w2 ⟨rfl, hb2⟩
      have H2 := Lib.hid (H1.out.below hb2)
      have HT2 := Lib.hid ((HT1.out.mono (G := fun k => k = q ∨ k = r) (fun _ _ hk => .inl hk)).trans (Turns.of_below (F := fun _ => False) hb2) (fun _ _ hk => hk.elim))
      clear hb2 c1
      go_wp2_with fail
      go_ret
      refine ⟨rfl, ?_, HT2.out⟩
      rw [Bool.or_false]
      exact H2.out
set_option maxRecDepth 100000 in
theorem more_c (E : Nat → Addr) (r q : Nat) (s : ByteArray) (p : St) (b : Bool) (i n : Int) (w : World) (h : Hid (RdV w E r q s p b)) :
    Calls Tryd.prog 112 #[.pointer (some ⟨r, 0, none⟩), .int .i64 i, .int .i64 n] w fun e w' => e = .returned (.bool (decide (i < n) && (!b && p.2.isNone))) ∧ w = w' := by
  have c0 : w.cell? ⟨r, 0, none⟩ = some (.pointer (some ⟨q, 0, none⟩)) := h.out.blk.cell 0 _ rfl
  have c1 : w.cell? ⟨r, 1, none⟩ = some (.bool b) := h.out.blk.cell 1 _ rfl
  obtain ⟨er, hi⟩ := h.out.inw
  have HE := Lib.hid (err_c E q s p.1 er p.2 w (Lib.hid hi))
  by_cases h1 : i < n
  · have d1 : decide (i < n) = true := by simpa using h1
    rw [d1, Bool.true_and]
    cases b with
    | true =>
      clear h hi HE h1
      go_enter Tryd.func112, Tryd.ntmps112
      go_wp2_with fail
      go_ret
      exact ⟨rfl, rfl⟩
    | false =>
      cases hp : p.2 with
      | none =>
        try rw [hp] at hi
        try rw [hp] at HE
        have he : er = .nilIface := hi.er_nil
        subst he
        clear h hi h1 hp
        go_enter Tryd.func112, Tryd.ntmps112
        go_wp2_with fail
        refine HE.out.mono ?_
        rintro e w1 ⟨rfl, rfl⟩
        go_wp2_with fail
        go_ret
        exact ⟨rfl, rfl⟩
      | some z =>
        try rw [hp] at hi
        try rw [hp] at HE
        obtain ⟨g, hg, _⟩ := hi.er_some
        subst hg
        have hnil := fun W : World => run_eql_held_nil (P := Tryd.prog) W 30 32 (.pointer (some ⟨g, 0, none⟩)) errIface
        unfold faultV at HE
        clear h hi h1 hp
        go_enter Tryd.func112, Tryd.ntmps112
        go_wp2_with fail
        refine HE.out.mono ?_
        rintro e w1 ⟨rfl, rfl⟩
        go_wp2_with fail
        go_ret
        exact ⟨rfl, rfl⟩
  · have d1 : decide (i < n) = false := by simpa using h1
    rw [d1, Bool.false_and]
    clear h hi HE h1
    go_enter Tryd.func112, Tryd.ntmps112
    go_wp2_with fail
    go_ret
    exact ⟨rfl, rfl⟩
end Go.Proofs.YtbningfdpibdkaaDoor
