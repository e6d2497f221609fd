/-
  wire: the writer's state; strings.Builder's methods on it.
-/
import Derived.Test.YtbningfdpibdkaaDoorBld
namespace Go.Proofs.YtbningfdpibdkaaDoor
open Go.RowKit
set_option linter.unusedVariables false
set_option linter.unusedSimpArgs false

theorem info_u8 : (Tryd.prog.info? 5).map (fun i => (i.zero, i.size, i.bytes)) = some (some (.int .u8 0), 1, 1) := by kernel_rfl
theorem sizeBuilder : (Tryd.prog.info? 112).map (·.size) = some 2 := by kernel_rfl
theorem liesBuilder : liesAt Tryd.prog Tryd.prog.depth 139 (2 / Tryd.prog.cellsOf 139) 0 112 1 = true := by kernel_rfl
/-- A writer in block b that holds the bytes l. -/
structure OutV (w : World) (B b : Nat) (p v : Value) (l : List UInt8) : Prop where
  low : B ≤ b
  blk : Blk w b #[p, v] 139
  row : w.ownsRowF B 5 1 v l.length (Lib.byteCells l)
  notb : v.ownBlock ≠ some b
  full : l = [] → v = .slice none 0 0
  self : p = .pointer none ∨ p = .pointer (some ⟨b, 0, none⟩)
def OutF (b : Nat) (v : Value) (k : Nat) : Prop := k = b ∨ v.ownBlock = some k
theorem OutV.turns {F : Nat → Prop} {w w' : World} {B b : Nat} {p v : Value} {l : List UInt8} (h : OutV w B b p v l) (ht : Turns F w w') (hn : ∀ k, OutF b v k → ¬ F k) : OutV w' B b p v l :=
  ⟨h.low, ht.blk h.blk (hn b (.inl rfl)), ht.ownsF h.row (fun g hg => hn g (.inr hg)), h.notb, h.full, h.self⟩
theorem OutV.below {w w' : World} {B b : Nat} {p v : Value} {l : List UInt8} (h : OutV w B b p v l) (hb : Below w.heap.size w w') : OutV w' B b p v l :=
  h.turns (Turns.of_below (F := fun _ => False) hb) (fun _ _ h => h)
theorem OutV.drew {w : World} {B b : Nat} {p v : Value} {l : List UInt8} (h : OutV w B b p v l) : OutV w.drew B b p v l := ⟨h.low, h.blk, h.row, h.notb, h.full, h.self⟩
/-- What a step of the writer leaves. -/
structure OutS (w w' : World) (B b : Nat) (v p' v' : Value) (l' : List UInt8) : Prop where
  out : OutV w' B b p' v' l'
  turns : Turns (OutF b v) w w'
  own : ∀ g, v'.ownBlock = some g → v.ownBlock = some g ∨ w.heap.size ≤ g
theorem OutS.trans {w w1 w2 : World} {B b : Nat} {v p1 v1 p2 v2 : Value} {l1 l2 : List UInt8} (h : OutS w w1 B b v p1 v1 l1) (k : OutS w1 w2 B b v1 p2 v2 l2) : OutS w w2 B b v p2 v2 l2 :=
  ⟨k.out, h.turns.trans k.turns (fun g hg hf => hf.elim .inl (fun e => (h.own g e).elim .inr (fun e2 => by omega))), fun g hg => (k.own g hg).elim (h.own g) (fun e => .inr (Nat.le_trans h.turns.size e))⟩
theorem OutS.refl {w : World} {B b : Nat} {p v : Value} {l : List UInt8} (h : OutV w B b p v l) : OutS w w B b v p v l := ⟨h, Turns.refl _ _, fun _ h => .inl h⟩
theorem OutS.below {w w' : World} {B C b : Nat} {p v p' v' : Value} {l l' : List UInt8} (h : OutS w w' B b v p' v' l') (h0 : OutV w B b p v l) (hC : C ≤ B) : Below C w w' :=
  h.turns.below (by have := h0.blk.lt; have := h0.low; omega) (fun k hk => hk.elim (fun e => by have := h0.low; omega) (fun e => by have := (h0.row.lt k e).1; omega))
theorem OutV.lt {w : World} {B b : Nat} {p v : Value} {l : List UInt8} (h : OutV w B b p v l) : b < w.heap.size := h.blk.lt
set_option maxRecDepth 100000 in
set_option maxHeartbeats 1000000 in
theorem copyCheck_c (B b : Nat) (p v : Value) (l : List UInt8) (w : World) (h : Hid (OutV w B b p v l)) :
    Calls Tryd.prog 103 #[.pointer (some ⟨b, 0, none⟩)] w fun e w' => e = .returned (.tuple #[]) ∧ OutS w w' B b v (.pointer (some ⟨b, 0, none⟩)) v l := by
  have c0 := h.out.blk.cell 0 _ rfl
  have f0 := h.out.blk.free 0
  have hsh : w.shape? b = some (139, 2) := by
    have := h.out.blk
    unfold Blk at this
    simp [World.shape?, this]
  obtain ⟨j, hj, hjs⟩ := Option.map_eq_some_iff.1 sizeBuilder
  have hto := Lib.run_to_unsafe (P := Tryd.prog) w ⟨b, 0, none⟩ Tryd.underlying109 Tryd.underlying164 hj (by rw [hjs]; decide) hsh (Nat.zero_lt_succ 1)
  have hfrom := Lib.run_from_unsafe (P := Tryd.prog) w ⟨b, 0, none⟩ Tryd.underlying164 Tryd.underlying109 hj hsh liesBuilder
  have hext := @run_callFunc_extern Tryd.prog 116 _ Extern.AbiNoEscape.same Tryd.func116 (by kernel_rfl) (by kernel_rfl) (by kernel_rfl) (by kernel_rfl)
  have hesc := fun (x : Value) => Lib.run_noEscape (P := Tryd.prog) w x
  have hneq := Lib.run_neq_ptr_same (P := Tryd.prog) w ⟨b, 0, none⟩ Tryd.underlying109 hj
  have HT : Hid (Turns (OutF b v) w (w.setCell ⟨b, 0, none⟩ (.pointer (some ⟨b, 0, none⟩)))) := Turns.set (.inl rfl)
  have HO : Hid (OutV (w.setCell ⟨b, 0, none⟩ (.pointer (some ⟨b, 0, none⟩))) B b (.pointer (some ⟨b, 0, none⟩)) v l) :=
    ⟨h.out.low, h.out.blk.set 0 _, (Turns.set (F := fun k => k = b) rfl).ownsF h.out.row (fun g hg e => h.out.notb (by rw [hg, e])), h.out.notb, h.out.full, .inr rfl⟩
  clear hsh hj hjs
  rcases h.out.self with rfl | rfl
  · go_enter Tryd.func103, Tryd.ntmps103
    go_wp2
    go_end0
    exact ⟨rfl, HO.out, HT.out, fun g hg => .inl hg⟩
  · go_enter Tryd.func103, Tryd.ntmps103
    go_wp2
    go_end0
    exact ⟨rfl, h.out, Turns.refl _ _, fun g hg => .inl hg⟩
set_option maxRecDepth 100000 in
set_option maxHeartbeats 1000000 in
theorem writeByte_c (B b : Nat) (p v : Value) (l : List UInt8) (c : UInt8) (z : Int) (hz : z = (c.toNat : Int)) (w : World) (h : Hid (OutV w B b p v l)) (hl : l.length ≤ 1000000) :
    Calls Tryd.prog 110 #[.pointer (some ⟨b, 0, none⟩), .int .u8 z] w fun e w' => e = .returned .nilIface ∧ ∃ p' v', OutS w w' B b v p' v' (l ++ [c]) := by
  obtain ⟨i0, hi, hz0, hz1, hz2⟩ := info_parts info_u8
  subst hz
  go_enter Tryd.func110, Tryd.ntmps110
  go_wp2_with fail
  refine (copyCheck_c B b p v l w h).mono ?_
  rintro e w1 ⟨rfl, hs1⟩
  have HS1 := Lib.hid hs1
  have c1 := hs1.out.blk.cell 1 _ rfl
  have hB1 : B ≤ w1.heap.size := by have := hs1.out.lt; have := hs1.out.low; omega
  clear hs1
  go_wp2_with (at_builtin; refine wpList_app_F rfl _ _ 110 rfl B 5 i0 (.int .u8 0) 1 1 Tryd.underlying110 hi hz0 hz1 hz2 rfl (by decide) _ _ _ rfl HS1.out.out.row _ _ rfl ?ca0 ?ca1 ?ca2 ?ca3 ?ca4 ?ca5 ?_)
  case ca0 => rfl
  case ca1 => rfl
  case ca2 => intro u hu; simp at hu; subst hu; rfl
  case ca3 => unfold maxLen; omega
  case ca4 => omega
  case ca5 => exact hB1
  intro v2 w2 hown2 hg2 hlie2
  obtain ⟨a2, n2, rfl, _⟩ := ownsF_len hown2
  have hb2 : Blk w2 b #[.pointer (some ⟨b, 0, none⟩), v] 139 := (Turns.of_grown hg2).blk HS1.out.out.blk (fun e => HS1.out.out.notb e)
  have d1 := hb2.cell 1 _ rfl
  have e1 := hb2.free 1
  have HFIN : Hid (OutS w (w2.setCell ⟨b, 1, none⟩ (.slice a2 (l.length + 1) n2)) B b v (.pointer (some ⟨b, 0, none⟩)) (.slice a2 (l.length + 1) n2) (l ++ [c])) := by
    have hne : (Value.slice a2 (l.length + 1) n2).ownBlock ≠ some b := fun e => by
      rcases hlie2 b e with h1 | h1
      · exact HS1.out.out.notb h1
      · have := HS1.out.out.lt; omega
    refine HS1.out.trans ⟨⟨HS1.out.out.low, hb2.set 1 _, ?_, hne, fun h => by simp at h, .inr rfl⟩, (Turns.of_grown hg2).mono (fun k _ hk => .inr hk) |>.trans (Turns.set (F := OutF b v) (.inl rfl)) (fun _ _ h => h), hlie2⟩
    rw [List.length_append, List.length_singleton, Lib.byteCells_append]
    exact (Turns.set (F := fun k => k = b) rfl).ownsF hown2 (fun g hg e => hne (by rw [hg, e]))
  clear hown2 hg2 hlie2 hb2 HS1 c1 h
  go_wp2_with fail
  go_ret
  exact ⟨rfl, _, _, HFIN.out⟩
set_option maxRecDepth 100000 in
set_option maxHeartbeats 1000000 in
theorem writeString_c (B b : Nat) (p v : Value) (l : List UInt8) (s : ByteArray) (w : World) (h : Hid (OutV w B b p v l)) (hl : l.length ≤ 1000000) (hs : s.size ≤ 1000000) :
    Calls Tryd.prog 57 #[.pointer (some ⟨b, 0, none⟩), .string s] w fun e w' => e = .returned (.tuple #[.int .i64 s.size, .nilIface]) ∧ ∃ p' v', OutS w w' B b v p' v' (l ++ s.data.toList) := by
  obtain ⟨i0, hi, hz0, hz1, hz2⟩ := info_parts info_u8
  go_enter Tryd.func57, Tryd.ntmps57
  go_wp2_with fail
  refine (copyCheck_c B b p v l w h).mono ?_
  rintro e w1 ⟨rfl, hs1⟩
  have HS1 := Lib.hid hs1
  have c1 := hs1.out.blk.cell 1 _ rfl
  have hB1 : B ≤ w1.heap.size := by have := hs1.out.lt; have := hs1.out.low; omega
  clear hs1
  go_wp2_with (at_builtin; refine wpList_app_strF rfl _ _ 110 9 rfl B 5 i0 Tryd.underlying110 Tryd.underlying9 hi hz0 hz1 hz2 _ _ _ rfl HS1.out.out.row (fun h => HS1.out.out.full (List.eq_nil_of_length_eq_zero h)) s rfl ?ca3 ?ca4 ?ca5 ?_)
  case ca3 => unfold maxLen; omega
  case ca4 => omega
  case ca5 => exact hB1
  intro v2 w2 hown2 hg2 hlie2 hful2
  obtain ⟨a2, n2, rfl, _⟩ := ownsF_len hown2
  have hb2 : Blk w2 b #[.pointer (some ⟨b, 0, none⟩), v] 139 := (Turns.of_grown hg2).blk HS1.out.out.blk (fun e => HS1.out.out.notb e)
  have d1 := hb2.cell 1 _ rfl
  have e1 := hb2.free 1
  have HFIN : Hid (OutS w (w2.setCell ⟨b, 1, none⟩ (.slice a2 (l.length + s.size) n2)) B b v (.pointer (some ⟨b, 0, none⟩)) (.slice a2 (l.length + s.size) n2) (l ++ s.data.toList)) := by
    have hne : (Value.slice a2 (l.length + s.size) n2).ownBlock ≠ some b := fun e => by
      rcases hlie2 b e with h1 | h1
      · exact HS1.out.out.notb h1
      · have := HS1.out.out.lt; omega
    refine HS1.out.trans ⟨⟨HS1.out.out.low, hb2.set 1 _, ?_, hne, fun h => hful2 (by have := congrArg List.length h; rw [List.length_append] at this; exact this), .inr rfl⟩, (Turns.of_grown hg2).mono (fun k _ hk => .inr hk) |>.trans (Turns.set (F := OutF b v) (.inl rfl)) (fun _ _ h => h), hlie2⟩
    rw [List.length_append, Lib.byteCells_append]
    exact (Turns.set (F := fun k => k = b) rfl).ownsF hown2 (fun g hg e => hne (by rw [hg, e]))
  clear hown2 hg2 hful2 hlie2 hb2 HS1 c1 h
  go_wp2_with fail
  go_ret2
  exact ⟨rfl, _, _, HFIN.out⟩
theorem turns_freeze {F : Nat → Prop} {w : World} {g n : Nat} (hF : F g) : Turns F w (w.freeze ⟨g, 0, none⟩ n) := by
  unfold World.freeze
  split
  · exact Turns.refl _ _
  · refine ⟨rfl, rfl, rfl, by simp, fun k hk hn => ?_⟩
    simp only [Array.getElem?_modify]
    rw [if_neg (fun e => hn (by rw [← e]; exact hF))]
theorem OutV.froze {w : World} {B b g cap : Nat} {p : Value} {l : List UInt8} (h : OutV w B b p (.slice (some ⟨g, 0, none⟩) l.length cap) l) : OutV (w.freeze ⟨g, 0, none⟩ l.length) B b p (.slice (some ⟨g, 0, none⟩) l.length cap) l := by
  have hat : Lib.BuilderAtF 139 5 B b p (Lib.byteCells l) w := ⟨h.low, _, h.blk, by rw [Lib.byteCells_length]; exact h.row, h.notb⟩
  have hf := hat.froze (g := g) (cap := cap) (by rw [Lib.byteCells_length]; exact h.blk.cell 1 _ rfl)
  rw [Lib.byteCells_length] at hf
  obtain ⟨h1, v0, h2, h3, h4⟩ := hf
  rw [Lib.byteCells_length] at h3
  have hb : Blk (w.freeze ⟨g, 0, none⟩ l.length) b #[p, .slice (some ⟨g, 0, none⟩) l.length cap] 139 := (turns_freeze (F := fun k => k = g) rfl).blk h.blk (fun e => h.notb (by rw [e]; rfl))
  have e : v0 = .slice (some ⟨g, 0, none⟩) l.length cap := by
    have := h2.symm.trans hb
    simpa using this
  subst e
  exact ⟨h.low, hb, h3, h.notb, h.full, h.self⟩
set_option maxRecDepth 100000 in
set_option maxHeartbeats 2000000 in
theorem bstring_c (B b : Nat) (p v : Value) (l : List UInt8) (w : World) (h : Hid (OutV w B b p v l)) (hl : l.length ≤ 1000000) :
    Calls Tryd.prog 59 #[.pointer (some ⟨b, 0, none⟩)] w fun e w' => e = .returned (.string ⟨l.toArray⟩) ∧ OutS w w' B b v p v l := by
  by_cases h0 : l = []
  · have hv := h.out.full h0
    subst hv
    have HD := Lib.hid (h.out.drew)
    have HN := Lib.hid h0
    have c1 := HD.out.blk.cell 1 _ rfl
    have hUS := Lib.run_unsafeString_none (P := Tryd.prog) w.drew 184 3 9 none
    have hSD : (Builtin.unsafeSliceData_ #[110] 184 #[.slice none 0 0]).run Tryd.prog w.drew = .ok (.pointer none) w.drew := rfl
    clear h h0
    go_enter Tryd.func59, Tryd.ntmps59
    go_wp2
    go_region
    all_goals (
      go_wp2
      go_ret
      refine ⟨by rw [HN.out]; rfl, HD.out, (Turns.refl _ _).drew, fun g hg => .inl hg⟩)
  · have hl0 : l.length ≠ 0 := by simpa using h0
    obtain ⟨g, cap, cur, fz, hv, hbg, hg, hfz, hnc, hcm, hcs, htake⟩ : ∃ g cap cur fz, v = .slice (some ⟨g, 0, none⟩) l.length cap ∧ B ≤ g ∧ w.heap[g]? = some (.cells cur 5 fz) ∧ fz.2 ≤ l.length * 1 ∧ l.length ≤ cap ∧ cap ≤ maxLen ∧ cur.size = cap * 1 ∧ cur.toList.take (l.length * 1) = Lib.byteCells l := by
      rcases h.out.row.2 with ⟨_, hz⟩ | ⟨g, cap, cur, fz, hv, r⟩
      · exact absurd hz hl0
      · exact ⟨g, cap, cur, fz, hv, r⟩
    subst hv
    have HD := Lib.hid (h.out.drew)
    have c1 := HD.out.blk.cell 1 _ rfl
    have hSD : (Builtin.unsafeSliceData_ #[110] 184 #[.slice (some ⟨g, 0, none⟩) l.length cap]).run Tryd.prog w.drew = .ok (.pointer (some ⟨g, 0, none⟩)) w.drew :=
      Lib.run_unsafeSliceData_row _ _ _ _ _ _ (by omega)
    have hUS : (Builtin.unsafeString_ #[184, 3] 9 #[.pointer (some ⟨g, 0, none⟩), .int .i64 l.length]).run Tryd.prog w.drew = .ok (.string ⟨l.toArray⟩) (w.drew.freeze ⟨g, 0, none⟩ l.length) := by
      refine Lib.run_unsafeString_row w.drew 184 3 9 5 Tryd.underlying184 (by kernel_rfl) g cur.size (by have hg' : w.drew.heap[g]? = some (.cells cur 5 fz) := hg; simp [World.shape?, hg']) l h0 (by omega) (by unfold maxLen at hcm; omega) ?_
      intro j x hx
      exact h.out.row.cells (g := g) rfl j (.int .u8 x.toNat) (by simp [Lib.byteCells, hx])
    have HF := Lib.hid HD.out.froze
    have HT : Hid (Turns (OutF b (.slice (some ⟨g, 0, none⟩) l.length cap)) w (w.drew.freeze ⟨g, 0, none⟩ l.length)) := (Turns.trans (b := w.drew) ((Turns.refl _ _).drew) (turns_freeze (F := OutF b (.slice (some ⟨g, 0, none⟩) l.length cap)) (.inr rfl)) (fun _ _ h => h))
    clear h h0 hg hfz hcs htake hbg hcm
    go_enter Tryd.func59, Tryd.ntmps59
    go_wp2
    go_region
    all_goals (
      go_wp2
      go_ret
      exact ⟨rfl, HF.out, HT.out, fun g hg => .inl hg⟩)
end Go.Proofs.YtbningfdpibdkaaDoor
