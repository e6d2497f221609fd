/-
  wire: at: of which deed and place an error tells.
-/
import Derived.Test.YtdebldpmloignaaDoorWirF
import Derived.Test.YtdebldpmloignaaDoorWirB
namespace Go.Proofs.YtdebldpmloignaaDoor
open Go.RowKit
set_option linter.unusedVariables false

/-- What the rows list: the sentinels ErrNil and ErrForm, the handle of the type error. -/
structure Env (w : World) (E : Nat → Addr) (B : Nat) : Prop where
  errs : Errs B w [2, 3] E
  low : B ≤ w.heap.size
  et : w.cell? ⟨14, 0, none⟩ = some etV
  etB : 14 < B
theorem Env.below {w w' : World} {E : Nat → Addr} {B : Nat} (h : Env w E B) (hb : Below B w w') : Env w' E B :=
  ⟨h.errs.below hb, Nat.le_trans h.low hb.size, (hb.cell (p := ⟨14, 0, none⟩) h.etB).trans h.et, h.etB⟩
theorem Env.form {w : World} {E : Nat → Addr} {B : Nat} (h : Env w E B) : ErrForm w E := (h.errs.var 3 (by simp)).2
theorem Env.nil {w : World} {E : Nat → Addr} {B : Nat} (h : Env w E B) : w.cell? ⟨0, 0, none⟩ = some (erV E 2) := (h.errs.var 2 (by simp)).2
set_option maxRecDepth 100000 in
theorem at_nil (op : ByteArray) (w : World) : Calls Tryd.prog 30 #[.nilIface, .string op] w fun e w' => e = .returned (.int .i64 (-1)) ∧ Below w.heap.size w w' := by
  go_enter Tryd.func30, Tryd.ntmps30
  go_wp2_with fail
  go_ret
  exact ⟨rfl, (Below.refl _ w).alloc (Nat.le_refl _) _⟩
set_option maxRecDepth 100000 in
set_option maxHeartbeats 2000000 in
theorem at_hit (E : Nat → Addr) (B g : Nat) (op : ByteArray) (z : Nat) (w : World) (hE : Hid (Env w E B)) (hg : Hid (Blk w g #[.string op, .int .i64 z, erV E 3] 133)) :
    Calls Tryd.prog 30 #[faultV g, .string op] w fun e w' => e = .returned (.int .i64 z) ∧ Below w.heap.size w w' := by
  have HAS := Lib.hid (fun (w1 : World) (h1 : w1 = w.alloc (.cells #[.pointer none] 131)) => as_fault g w.heap.size (.pointer none) w1 (by subst h1; exact (((Below.refl _ w).alloc (Nat.le_refl _) _).cell (p := ⟨14, 0, none⟩) (Nat.lt_of_lt_of_le hE.out.etB hE.out.low)).trans hE.out.et) (by subst h1; exact (Blk.new w #[.pointer none] 131).cell 0 _ rfl) (by subst h1; exact (Blk.new w #[.pointer none] 131).free 0))
  have HB : Hid (∀ w2, Turns (fun k => k = w.heap.size) (w.alloc (.cells #[.pointer none] 131)) w2 → Below w.heap.size w w2) := fun w2 ht => (((Turns.alloc (F := fun k => k = w.heap.size) _).trans ht (fun _ _ h => h)).below (Nat.le_refl _) (fun k hk => Nat.le_of_eq hk.symm))
  have HC := Lib.hid (fun (w2 : World) (hb : Below w.heap.size w w2) => is_chain w2 ((hE.out.below (hb.mono hE.out.low)).errs) [(op, (z : Int))] 3 3 (faultV g) ⟨g, erV E 3, rfl, hg.out.below hb, rfl⟩ (.inr (by simp)) (by simp))
  unfold faultV at HAS HC ⊢
  go_enter Tryd.func30, Tryd.ntmps30
  go_wp2_with fail
  refine (HAS.out _ rfl).mono ?_
  rintro e w2 ⟨rfl, c5, ht2⟩
  have HB2 := Lib.hid (HB.out w2 ht2)
  clear ht2
  have hEF : w2.cell? ⟨1, 0, none⟩ = some (erV E 3) := (hE.out.below (HB2.out.mono hE.out.low)).form
  have d0 := (hg.out.below HB2.out).cell 0 _ rfl
  have d1 := (hg.out.below HB2.out).cell 1 _ rfl
  go_wp2_with fail
  refine (HC.out w2 HB2.out).mono ?_
  rintro e w3 ⟨rfl, rfl⟩
  go_wp2_with fail
  go_ret
  exact ⟨rfl, HB2.out⟩
theorem OutV.fresh (w : World) : OutV (w.alloc (.cells #[.pointer none, .slice none 0 0] 31)) w.heap.size w.heap.size (.pointer none) (.slice none 0 0) [] :=
  ⟨Nat.le_refl _, Blk.new w _ _, World.ownsRowF_nil _ _ _ _, by simp [Value.ownBlock], fun _ => rfl, .inl rfl⟩
end Go.Proofs.YtdebldpmloignaaDoor
