/-
  wire: the document's reader: Of, fail, Int.
-/
import Derived.Test.YtdebldpmloignaaDoorWirN
import Derived.Test.YtdebldpmloignaaDoorWirL
namespace Go.Proofs.YtdebldpmloignaaDoor
open Go.RowKit
set_option linter.unusedVariables false

/-- A number's bytes up to the first that no other follows. -/
def decR : List UInt8 → Nat → Nat → Option (Nat × Nat)
  | [], _, _ => none
  | b :: r, k, u => if k = 9 ∧ 1 < b.toNat then none else if b.toNat < 128 then some (u + b.toNat * 128 ^ k, k + 1) else decR r (k + 1) (u + (b.toNat % 128) * 128 ^ k)
theorem decR_of_decA : ∀ (l : List UInt8) (k u x n : Nat), decA l k u = (x, n) → n ≠ 0 → decR l k u = some (x, n)
  | [], k, u, x, n, h, hn => by
    simp only [decA] at h
    cases h
    exact absurd rfl hn
  | b :: r, k, u, x, n, h, hn => by
    unfold decA at h
    unfold decR
    split at h
    · cases h
      exact absurd rfl hn
    · rename_i h1
      rw [if_neg (fun e => h1 (Or.inl e))]
      split at h
      · rename_i h2
        rw [if_pos h2, h]
      · rename_i h2
        rw [if_neg h2]
        exact decR_of_decA r _ _ x n h hn
theorem pow_mono9 {k : Nat} (h : k ≤ 9) : (128 : Nat) ^ k ≤ 9223372036854775808 := by
  rw [← pow9]
  exact Nat.pow_le_pow_right (by omega) h
theorem decR_lt : ∀ (l : List UInt8) (k u x n : Nat), k ≤ 9 → u < 128 ^ k → decR l k u = some (x, n) → x < 18446744073709551616
  | [], k, u, x, n, _, _, h => by cases h
  | b :: r, k, u, x, n, hk, hu, h => by
    unfold decR at h
    have hp := pow_mono9 hk
    split at h
    · cases h
    · rename_i h1
      split at h
      · rename_i h2
        cases h
        by_cases h9 : k = 9
        · have hb : b.toNat ≤ 1 := by omega
          subst h9
          rw [pow9] at *
          have := Nat.mul_le_mul_right 9223372036854775808 hb
          omega
        · have hp8 : (128 : Nat) ^ (k + 1) ≤ 9223372036854775808 := pow_mono9 (by omega)
          rw [Nat.pow_succ] at hp8
          have := Nat.mul_le_mul_right (128 ^ k) (show b.toNat ≤ 127 by omega)
          omega
      · rename_i h2
        refine decR_lt r (k + 1) _ x n (by omega) ?_ h
        have := Nat.mul_le_mul_right (128 ^ k) (show b.toNat % 128 ≤ 127 by omega)
        rw [Nat.pow_succ]
        omega
theorem unzig_I64 {u : Nat} (h : u < 18446744073709551616) : I64 (unzig u) := by
  unfold I64 unzig
  split <;> omega
theorem readI_hit {T : List UInt8} {x n : Nat} (h : decR T 0 0 = some (x, n)) (he : encI (unzig x) = T.take n) : readI T = some (unzig x, n) := by
  have hx := unzig_I64 (decR_lt T 0 0 x n (by omega) (by simp) h)
  have ht : T = encI (unzig x) ++ T.drop n := by rw [he, List.take_append_drop]
  have h2 := readI_enc (unzig x) (T.drop n) hx.1 hx.2
  rw [← ht] at h2
  obtain ⟨h3, h4, h5, _⟩ := readI_some h2
  have h6 := congrArg List.length he
  rw [List.length_take] at h6
  rw [h2]
  have hle : n ≤ T.length ∨ T.length < n := by omega
  rcases hle with hle | hle
  · rw [Nat.min_eq_left hle] at h6
    rw [h6]
  · exfalso
    have hlen : ∀ (l : List UInt8) (k u x n : Nat), decR l k u = some (x, n) → n ≤ k + l.length := by
      intro l
      induction l with
      | nil => intro k u x n h; cases h
      | cons b r ih =>
        intro k u x n h
        unfold decR at h
        split at h
        · cases h
        · split at h
          · cases h; simp
          · have := ih _ _ _ _ h
            simp; omega
    have := hlen T 0 0 x n h
    omega
theorem readI_miss {T : List UInt8} {x n : Nat} (h : decR T 0 0 = some (x, n)) (he : encI (unzig x) ≠ T.take n) : readI T = none := by
  cases hr : readI T with
  | none => rfl
  | some p =>
    obtain ⟨z, m⟩ := p
    exfalso
    obtain ⟨h1, h2, h3, h4, h5⟩ := readI_some hr
    unfold readI at hr
    simp only at hr
    split at hr
    · cases hr
    · rename_i hn
      cases hr
      have := decR_of_decA T 0 0 (decA T 0 0).1 (decA T 0 0).2 rfl hn
      rw [h] at this
      cases this
      exact he h2.symm
theorem readI_none {T : List UInt8} (h : decR T 0 0 = none) : readI T = none := by
  cases hr : readI T with
  | none => rfl
  | some p =>
    exfalso
    unfold readI at hr
    simp only at hr
    split at hr
    · cases hr
    · rename_i hn
      have := decR_of_decA T 0 0 (decA T 0 0).1 (decA T 0 0).2 rfl hn
      rw [h] at this
      cases this
def badI : Option Nat → Int
  | none => -1
  | some z => (z : Int)
/-- The document's reader in block q. -/
structure RefV (w : World) (q : Nat) (s : ByteArray) (p : St) : Prop where
  blk : Blk w q #[.string s, .int .i64 p.1, .int .i64 (badI p.2)] 49
  le : p.1 ≤ s.size
theorem RefV.turns {F : Nat → Prop} {w w' : World} {q : Nat} {s : ByteArray} {p : St} (h : RefV w q s p) (ht : Turns F w w') (hq : ¬ F q) : RefV w' q s p := ⟨ht.blk h.blk hq, h.le⟩
theorem RefV.below {w w' : World} {q : Nat} {s : ByteArray} {p : St} (h : RefV w q s p) (hb : Below w.heap.size w w') : RefV w' q s p := ⟨h.blk.below hb, h.le⟩
theorem RefV.drew {w : World} {q : Nat} {s : ByteArray} {p : St} (h : RefV w q s p) : RefV w.drew q s p := ⟨h.blk, h.le⟩
set_option maxRecDepth 100000 in
theorem rof_c (s : ByteArray) (w : World) :
    Calls Tryd.prog 22 #[.string s] w fun e w' => e = .returned (.pointer (some ⟨w.heap.size, 0, none⟩)) ∧ RefV w' w.heap.size s (0, none) ∧ Below w.heap.size w w' := by
  go_enter Tryd.func22, Tryd.ntmps22
  go_wp2_with fail
  go_ret
  exact ⟨rfl, ⟨Blk.new w _ _, Nat.zero_le _⟩, (Below.refl _ w).alloc (Nat.le_refl _) _⟩
def RefFQ (w : World) (q : Nat) (s : ByteArray) (p : St) (e : Ending) (w' : World) : Prop := e = .returned (.tuple #[]) ∧ RefV w' q s p ∧ Turns (fun k => k = q) w w'
set_option maxRecDepth 100000 in
theorem rfail_c (q : Nat) (s : ByteArray) (p : St) (z : Nat) (w : World) (h : Hid (RefV w q s p)) :
    Calls Tryd.prog 76 #[.pointer (some ⟨q, 0, none⟩), .int .i64 z] w (RefFQ w q s (s.size, some z)) := by
  have c0 := h.out.blk.cell 0 _ rfl
  have c1 := h.out.blk.cell 1 _ rfl
  have c2 := h.out.blk.cell 2 _ rfl
  have f1 := h.out.blk.free 1
  have f2 := h.out.blk.free 2
  have HF : Hid (∀ w', w' = (w.setCell ⟨q, 2, none⟩ (.int .i64 z)).setCell ⟨q, 1, none⟩ (.int .i64 s.size) → RefFQ w q s (s.size, some z) (.returned (.tuple #[])) w') := fun w' hw => by
    subst hw
    have hb : Blk ((w.setCell ⟨q, 2, none⟩ (.int .i64 z)).setCell ⟨q, 1, none⟩ (.int .i64 s.size)) q #[.string s, .int .i64 s.size, .int .i64 z] 49 := (h.out.blk.set 2 _).set 1 _
    exact ⟨rfl, ⟨hb, Nat.le_refl _⟩, (Turns.set (F := fun k => k = q) rfl).trans (Turns.set (F := fun k => k = q) rfl) (fun _ _ h => h)⟩
  clear h
  go_enter Tryd.func76, Tryd.ntmps76
  go_wp2_with fail
  go_end0
  exact HF.out _ rfl
def RefIQ (w : World) (q : Nat) (s : ByteArray) (r : Int × St) (e : Ending) (w' : World) : Prop := e = .returned (.int .i64 r.1) ∧ RefV w' q s r.2 ∧ Turns (fun k => k = q) w w'
theorem add_sh {u c k : Nat} (hu : u < 128 ^ k) (hc : c < 256) (hk : k ≤ 9) (h9 : k = 9 → c ≤ 1) : IntKind.u64.wrap ((u : Int) + IntKind.u64.wrap ((((c % 128 : Nat) : Int)) * 2 ^ (7 * k))) = ((u + (c % 128) * 128 ^ k : Nat) : Int) := by
  have hp := pow_mono9 hk
  have h2 : ((2 : Int) ^ (7 * k)) = ((128 ^ k : Nat) : Int) := by
    rw [show (128 : Nat) ^ k = 2 ^ (7 * k) by rw [Nat.pow_mul]]
    exact (Int.natCast_pow 2 (7 * k)).symm
  have hb : u + (c % 128) * 128 ^ k < 18446744073709551616 := by
    by_cases e : k = 9
    · subst e
      rw [pow9] at *
      have := Nat.mul_le_mul_right 9223372036854775808 (show c % 128 ≤ 1 by have := h9 rfl; omega)
      omega
    · have hp8 : (128 : Nat) ^ (k + 1) ≤ 9223372036854775808 := pow_mono9 (by omega)
      rw [Nat.pow_succ] at hp8
      have := Nat.mul_le_mul_right (128 ^ k) (show c % 128 ≤ 127 by omega)
      omega
  rw [h2, ← Int.natCast_mul]
  generalize (c % 128) * 128 ^ k = z at hb ⊢
  simp [IntKind.wrap, IntKind.signed, IntKind.bits]
  omega
theorem add_sh' {u c k : Nat} (hu : u < 128 ^ k) (hc : c < 128) (hk : k ≤ 9) (h9 : k = 9 → c ≤ 1) : IntKind.u64.wrap ((u : Int) + IntKind.u64.wrap ((c : Int) % 128 * 2 ^ (7 * k))) = ((u + c * 128 ^ k : Nat) : Int) := by
  have h := add_sh hu (show c < 256 by omega) hk h9
  rw [Nat.mod_eq_of_lt hc] at h
  rw [show (c : Int) % 128 = ((c : Nat) : Int) by omega]
  exact h
theorem add_sh9 {u c : Nat} (hu : u < 128 ^ 9) (hc : c ≤ 1) : IntKind.u64.wrap ((u : Int) + (c : Int) % 128 * 9223372036854775808) = ((u + c * 128 ^ 9 : Nat) : Int) := by
  rw [pow9] at *
  simp [IntKind.wrap, IntKind.signed, IntKind.bits]
  omega
theorem even_facts {x : Nat} (hx : x < 18446744073709551616) (h : x % 2 = 0) : ∃ z : Int, Hid (z = unzig x) ∧ (x : Int).tdiv 2 = z ∧ (x : Int) / 2 = z ∧ IntKind.u64.wrap z = z ∧ wrap64 z = z ∧ (x : Int).tmod 2 = 0 ∧ (x : Int) % 2 = 0 := by
  refine ⟨(x : Int) / 2, ?_, ?_, rfl, ?_, ?_, ?_, ?_⟩
  · show _ = _
    unfold unzig
    rw [if_pos h]
    omega
  · rw [Int.tdiv_eq_ediv_of_nonneg (by omega)]
  · simp [IntKind.wrap, IntKind.signed, IntKind.bits]; omega
  · unfold wrap64; omega
  · rw [Int.tmod_eq_emod_of_nonneg (by omega)]; omega
  · omega
theorem odd_facts {x : Nat} (hx : x < 18446744073709551616) (h : x % 2 = 1) : ∃ y m z : Int, Hid (z = unzig x) ∧ (x : Int).tdiv 2 = y ∧ (x : Int) / 2 = y ∧ IntKind.u64.wrap y = y ∧ wrap64 y = y ∧ wrap64 (-y) = m ∧ wrap64 (m - 1) = z ∧ (x : Int).tmod 2 = 1 ∧ (x : Int) % 2 = 1 := by
  refine ⟨(x : Int) / 2, -((x : Int) / 2), -((x : Int) / 2) - 1, ?_, ?_, rfl, ?_, ?_, ?_, ?_, ?_, ?_⟩
  · show _ = _
    unfold unzig
    rw [if_neg (by omega)]
    omega
  · rw [Int.tdiv_eq_ediv_of_nonneg (by omega)]
  · simp [IntKind.wrap, IntKind.signed, IntKind.bits]; omega
  · unfold wrap64; omega
  · unfold wrap64; omega
  · unfold wrap64; omega
  · rw [Int.tmod_eq_emod_of_nonneg (by omega)]; omega
  · omega
theorem ext_take (s : ByteArray) (pos k : Nat) : (s.extract pos (pos + k + 1)).data.toList = (s.data.toList.drop pos).take (k + 1) := by
  rw [ByteArray.data_extract, Array.toList_extract, List.extract_eq_take_drop]
  congr 1
  omega
set_option maxRecDepth 100000 in
set_option maxHeartbeats 8000000 in
theorem rrint_c (q : Nat) (s : ByteArray) (pos : Nat) (bad : Option Nat) (w : World) (h : Hid (RefV w q s (pos, bad))) (hs : s.size ≤ 1000000) :
    Calls Tryd.prog 23 #[.pointer (some ⟨q, 0, none⟩)] w (RefIQ w q s (rdI s (pos, bad))) := by
  have c0 : w.cell? ⟨q, 0, none⟩ = some (.string s) := h.out.blk.cell 0 _ rfl
  have c1 : w.cell? ⟨q, 1, none⟩ = some (.int .i64 pos) := h.out.blk.cell 1 _ rfl
  have hle : pos ≤ s.size := h.out.le
  have hqlt := h.out.blk.lt
  cases bad with
  | some z =>
    have c2 : w.cell? ⟨q, 2, none⟩ = some (.int .i64 (z : Int)) := h.out.blk.cell 2 _ rfl
    have HR : Hid (RefIQ w q s (rdI s (pos, some z)) (.returned (.int .i64 0)) w) := ⟨rfl, h.out, Turns.refl _ _⟩
    clear h
    go_enter Tryd.func23, Tryd.ntmps23
    go_wp2_with fail
    go_ret
    exact HR.out
  | none =>
    have c2 : w.cell? ⟨q, 2, none⟩ = some (.int .i64 (-1)) := h.out.blk.cell 2 _ rfl
    obtain ⟨T, hT⟩ : ∃ T, T = s.data.toList.drop pos := ⟨_, rfl⟩
    have HT := Lib.hid hT
    have hTl : T.length = s.size - pos := by rw [hT, List.length_drop]; simp
    have HTL := Lib.hid hTl
    have HRV : Hid (∀ W', Below w.heap.size w W' → RefV W' q s (pos, none)) := fun W' hb => h.out.below hb
    clear hT hTl
    go_enter Tryd.func23, Tryd.ntmps23
    go_wp2_with fail
    go_loopw [3, 4] (fun s3 s4 wx => ∃ (k u : Nat) (W0 : World), W0 = wx ∧ k ≤ 9 ∧ pos + k ≤ s.size ∧ s4 = .int .i64 k ∧ s3 = .int .u64 u ∧ u < 128 ^ k ∧ Hid (decR T 0 0 = decR (T.drop k) k u) ∧ Hid (Below w.heap.size w W0)) (fun _ s4 _ => s.size + 1 - (intOf s4).toNat)
    case atStart => exact ⟨0, 0, _, rfl, by omega, by omega, rfl, rfl, by simp, rfl, Lib.hid (Below.refl _ _)⟩
    case round =>
      obtain ⟨k, u, W0, rfl, hk9, hks, rfl, rfl, hu, HD, HB⟩ := hrel
      have c0 := (HB.out.cell (p := ⟨q, 0, none⟩) hqlt).trans c0
      have c1 := (HB.out.cell (p := ⟨q, 1, none⟩) hqlt).trans c1
      have e1 : IntKind.i64.wrap ((pos : Int) + (k : Int)) = (pos : Int) + (k : Int) := by rw [IntKind.wrap_i64]; omega
      have d10 : decide ((k : Int) < 10) = true := by simp; omega
      by_cases hlt : pos + k < s.size
      · have hlt' : (pos : Int) + (k : Int) < (s.size : Int) := by omega
        have htn : ((pos : Int) + (k : Int)).toNat = pos + k := by omega
        have hnn : (0 : Int) ≤ (pos : Int) + (k : Int) := by omega
        obtain ⟨b, hbb⟩ : ∃ b : UInt8, b = s[pos + k]'hlt := ⟨_, rfl⟩
        have HBT : Hid (T[k]? = some b) := by
          show _ = _
          rw [HT.out, List.getElem?_drop, hbb, List.getElem?_eq_getElem (by simpa using hlt)]
          rfl
        go_wp2_with fail
        refine wp_region_noPanic ?_
        refine wp_region_held_drew (S := (fun w' => w'.cell? ⟨q, 0, none⟩ = some (.string s) ∧ w'.cell? ⟨q, 1, none⟩ = some (.int .i64 pos))) (by kernel_rfl) ⟨c0, c1⟩ (fun hHeld => ?_)
        refine wpAnyH_take (i := 0) (v := ?_) rfl (by kernel_rfl) (by kernel_rfl) (by kernel_rfl) (fun _ _ _ h => h) (Or.inl ⟨by rfl, ?_⟩) hHeld ?_
        rotate_left
        focus
          intro w hSw
          clear hSw
          go_simp
          try with_reducible rfl
        try simp only [Act.put, List.getElem_toArray, List.getElem_cons_zero, List.getElem_cons_succ, List.setIfInBounds_toArray, List.set_cons_zero, List.set_cons_succ]
        refine wpAnyH_take (i := 1) (v := ?_) rfl (by kernel_rfl) (by kernel_rfl) (by kernel_rfl) (fun _ _ _ h => h) (Or.inl ⟨by rfl, ?_⟩) hHeld ?_
        rotate_left
        focus
          intro w hSw
          clear hSw
          go_simp
          try with_reducible rfl
        try simp only [Act.put, List.getElem_toArray, List.getElem_cons_zero, List.getElem_cons_succ, List.setIfInBounds_toArray, List.set_cons_zero, List.set_cons_succ]
        refine wpAnyH_take (i := 2) (v := ?_) rfl (by kernel_rfl) (by kernel_rfl) (by kernel_rfl) (fun _ _ _ h => h) (Or.inl ⟨by rfl, ?_⟩) hHeld ?_
        rotate_left
        focus
          intro w hSw
          clear hSw
          go_simp
          try with_reducible rfl
        try simp only [Act.put, List.getElem_toArray, List.getElem_cons_zero, List.getElem_cons_succ, List.setIfInBounds_toArray, List.set_cons_zero, List.set_cons_succ]
        refine wpAnyH_take (i := 3) (v := ?_) rfl (by kernel_rfl) (by kernel_rfl) (by kernel_rfl) (fun _ _ _ h => h) (Or.inl ⟨by rfl, ?_⟩) hHeld ?_
        rotate_left
        focus
          intro w hSw
          clear hSw
          go_simp
          try with_reducible rfl
        try simp only [Act.put, List.getElem_toArray, List.getElem_cons_zero, List.getElem_cons_succ, List.setIfInBounds_toArray, List.set_cons_zero, List.set_cons_succ]
        refine wpAnyH_take (i := 4) (v := ?_) rfl (by kernel_rfl) (by kernel_rfl) (by kernel_rfl) (fun _ _ _ h => h) (Or.inl ⟨by rfl, ?_⟩) hHeld ?_
        rotate_left
        focus
          intro w hSw
          clear hSw
          go_simp
          try with_reducible rfl
        try simp only [Act.put, List.getElem_toArray, List.getElem_cons_zero, List.getElem_cons_succ, List.setIfInBounds_toArray, List.set_cons_zero, List.set_cons_succ]
        refine wpAnyH_take (i := 5) (v := ?_) rfl (by kernel_rfl) (by kernel_rfl) (by kernel_rfl) (fun _ _ _ h => h) (Or.inl ⟨by rfl, ?_⟩) hHeld ?_
        rotate_left
        focus
          intro w hSw
          clear hSw
          go_simp
          try with_reducible rfl
        try simp only [Act.put, List.getElem_toArray, List.getElem_cons_zero, List.getElem_cons_succ, List.setIfInBounds_toArray, List.set_cons_zero, List.set_cons_succ]
        refine wpAnyH_take (i := 6) (v := ?_) rfl (by kernel_rfl) (by kernel_rfl) (by kernel_rfl) (fun _ _ _ h => h) (Or.inl ⟨by rfl, ?_⟩) hHeld ?_
        rotate_left
        focus
          intro w hSw
          (try dsimp only at hSw)
          go_simp
          try with_reducible rfl
        try simp only [Act.put, List.getElem_toArray, List.getElem_cons_zero, List.getElem_cons_succ, List.setIfInBounds_toArray, List.set_cons_zero, List.set_cons_succ]
        refine wpAnyH_take (i := 7) (v := ?_) rfl (by kernel_rfl) (by kernel_rfl) (by kernel_rfl) (fun _ _ _ h => h) (Or.inl ⟨by rfl, ?_⟩) hHeld ?_
        rotate_left
        focus
          intro w hSw
          clear hSw
          go_simp
          try with_reducible rfl
        try simp only [Act.put, List.getElem_toArray, List.getElem_cons_zero, List.getElem_cons_succ, List.setIfInBounds_toArray, List.set_cons_zero, List.set_cons_succ]
        refine wpAnyH_take (i := 8) (v := ?_) rfl (by kernel_rfl) (by kernel_rfl) (by kernel_rfl) (fun _ _ _ h => h) (Or.inl ⟨by rfl, ?_⟩) hHeld ?_
        rotate_left
        focus
          intro w hSw
          clear hSw
          go_simp
          try with_reducible rfl
        try simp only [Act.put, List.getElem_toArray, List.getElem_cons_zero, List.getElem_cons_succ, List.setIfInBounds_toArray, List.set_cons_zero, List.set_cons_succ]
        refine wpAnyH_take (i := 9) (v := ?_) rfl (by kernel_rfl) (by kernel_rfl) (by kernel_rfl) (fun _ _ _ h => h) (Or.inl ⟨by rfl, ?_⟩) hHeld ?_
        rotate_left
        focus
          intro w hSw
          clear hSw
          go_simp
          try with_reducible rfl
        try simp only [Act.put, List.getElem_toArray, List.getElem_cons_zero, List.getElem_cons_succ, List.setIfInBounds_toArray, List.set_cons_zero, List.set_cons_succ]
        refine wpAnyH_take (i := 10) (v := ?_) rfl (by kernel_rfl) (by kernel_rfl) (by kernel_rfl) (fun _ _ _ h => h) (Or.inl ⟨by rfl, ?_⟩) hHeld ?_
        rotate_left
        focus
          intro w hSw
          clear hSw
          go_simp
          try with_reducible rfl
        try simp only [Act.put, List.getElem_toArray, List.getElem_cons_zero, List.getElem_cons_succ, List.setIfInBounds_toArray, List.set_cons_zero, List.set_cons_succ]
        refine wpAnyH_take (i := 11) (v := ?_) rfl (by kernel_rfl) (by kernel_rfl) (by kernel_rfl) (fun _ _ _ h => h) (Or.inl ⟨by rfl, ?_⟩) hHeld ?_
        rotate_left
        focus
          intro w hSw
          clear hSw
          go_simp
          try with_reducible rfl
        try simp only [Act.put, List.getElem_toArray, List.getElem_cons_zero, List.getElem_cons_succ, List.setIfInBounds_toArray, List.set_cons_zero, List.set_cons_succ]
        refine wpAnyH_take (i := 12) (v := ?_) rfl (by kernel_rfl) (by kernel_rfl) (by kernel_rfl) (fun _ _ _ h => h) (Or.inl ⟨by rfl, ?_⟩) hHeld ?_
        rotate_left
        focus
          intro w hSw
          (try dsimp only at hSw)
          go_simp
          try with_reducible rfl
        try simp only [Act.put, List.getElem_toArray, List.getElem_cons_zero, List.getElem_cons_succ, List.setIfInBounds_toArray, List.set_cons_zero, List.set_cons_succ]
        refine wpAnyH_take (i := 13) (v := ?_) rfl (by kernel_rfl) (by kernel_rfl) (by kernel_rfl) (fun _ _ _ h => h) (Or.inl ⟨by rfl, ?_⟩) hHeld ?_
        rotate_left
        focus
          intro w hSw
          clear hSw
          go_simp
          try with_reducible rfl
        try simp only [Act.put, List.getElem_toArray, List.getElem_cons_zero, List.getElem_cons_succ, List.setIfInBounds_toArray, List.set_cons_zero, List.set_cons_succ]
        refine wpAnyH_take (i := 14) (v := ?_) rfl (by kernel_rfl) (by kernel_rfl) (by kernel_rfl) (fun _ _ _ h => h) (Or.inl ⟨by rfl, ?_⟩) hHeld ?_
        rotate_left
        focus
          intro w hSw
          clear hSw
          go_simp
          try with_reducible rfl
        try simp only [Act.put, List.getElem_toArray, List.getElem_cons_zero, List.getElem_cons_succ, List.setIfInBounds_toArray, List.set_cons_zero, List.set_cons_succ]
        refine wpAnyH_take (i := 15) (v := ?_) rfl (by kernel_rfl) (by kernel_rfl) (by kernel_rfl) (fun _ _ _ h => h) (Or.inl ⟨by rfl, ?_⟩) hHeld ?_
        rotate_left
        focus
          intro w hSw
          clear hSw
          go_simp
          try with_reducible rfl
        try simp only [Act.put, List.getElem_toArray, List.getElem_cons_zero, List.getElem_cons_succ, List.setIfInBounds_toArray, List.set_cons_zero, List.set_cons_succ]
        refine wpAnyH_done (by kernel_rfl) ?_ _
        refine NoPanic.normal ?_
        go_wp2_with fail
        refine wp_region_noPanic ?_
        refine wp_region_held_drew (S := (fun w' => w'.cell? ⟨q, 0, none⟩ = some (.string s) ∧ w'.cell? ⟨q, 1, none⟩ = some (.int .i64 pos))) (by kernel_rfl) ⟨c0, c1⟩ (fun hHeld => ?_)
        refine wpAnyH_take (i := 0) (v := ?_) rfl (by kernel_rfl) (by kernel_rfl) (by kernel_rfl) (fun _ _ _ h => h) (Or.inl ⟨by rfl, ?_⟩) hHeld ?_
        rotate_left
        focus
          intro w hSw
          clear hSw
          go_simp
          try with_reducible rfl
        try simp only [Act.put, List.getElem_toArray, List.getElem_cons_zero, List.getElem_cons_succ, List.setIfInBounds_toArray, List.set_cons_zero, List.set_cons_succ]
        refine wpAnyH_take (i := 1) (v := ?_) rfl (by kernel_rfl) (by kernel_rfl) (by kernel_rfl) (fun _ _ _ h => h) (Or.inl ⟨by rfl, ?_⟩) hHeld ?_
        rotate_left
        focus
          intro w hSw
          clear hSw
          go_simp
          try with_reducible rfl
        try simp only [Act.put, List.getElem_toArray, List.getElem_cons_zero, List.getElem_cons_succ, List.setIfInBounds_toArray, List.set_cons_zero, List.set_cons_succ]
        refine wpAnyH_take (i := 2) (v := ?_) rfl (by kernel_rfl) (by kernel_rfl) (by kernel_rfl) (fun _ _ _ h => h) (Or.inl ⟨by rfl, ?_⟩) hHeld ?_
        rotate_left
        focus
          intro w hSw
          clear hSw
          go_simp
          try with_reducible rfl
        try simp only [Act.put, List.getElem_toArray, List.getElem_cons_zero, List.getElem_cons_succ, List.setIfInBounds_toArray, List.set_cons_zero, List.set_cons_succ]
        refine wpAnyH_take (i := 3) (v := ?_) rfl (by kernel_rfl) (by kernel_rfl) (by kernel_rfl) (fun _ _ _ h => h) (Or.inl ⟨by rfl, ?_⟩) hHeld ?_
        rotate_left
        focus
          intro w hSw
          (try dsimp only at hSw)
          go_simp
          try with_reducible rfl
        try simp only [Act.put, List.getElem_toArray, List.getElem_cons_zero, List.getElem_cons_succ, List.setIfInBounds_toArray, List.set_cons_zero, List.set_cons_succ]
        refine wpAnyH_take (i := 4) (v := ?_) rfl (by kernel_rfl) (by kernel_rfl) (by kernel_rfl) (fun _ _ _ h => h) (Or.inl ⟨by rfl, ?_⟩) hHeld ?_
        rotate_left
        focus
          intro w hSw
          clear hSw
          go_simp
          try with_reducible rfl
        try simp only [Act.put, List.getElem_toArray, List.getElem_cons_zero, List.getElem_cons_succ, List.setIfInBounds_toArray, List.set_cons_zero, List.set_cons_succ]
        refine wpAnyH_take (i := 5) (v := ?_) rfl (by kernel_rfl) (by kernel_rfl) (by kernel_rfl) (fun _ _ _ h => h) (Or.inl ⟨by rfl, ?_⟩) hHeld ?_
        rotate_left
        focus
          intro w hSw
          clear hSw
          go_simp
          try with_reducible rfl
        try simp only [Act.put, List.getElem_toArray, List.getElem_cons_zero, List.getElem_cons_succ, List.setIfInBounds_toArray, List.set_cons_zero, List.set_cons_succ]
        refine wpAnyH_take (i := 6) (v := ?_) rfl (by kernel_rfl) (by kernel_rfl) (by kernel_rfl) (fun _ _ _ h => h) (Or.inl ⟨by rfl, ?_⟩) hHeld ?_
        rotate_left
        focus
          intro w hSw
          clear hSw
          go_simp
          try with_reducible rfl
        try simp only [Act.put, List.getElem_toArray, List.getElem_cons_zero, List.getElem_cons_succ, List.setIfInBounds_toArray, List.set_cons_zero, List.set_cons_succ]
        refine wpAnyH_take (i := 7) (v := ?_) rfl (by kernel_rfl) (by kernel_rfl) (by kernel_rfl) (fun _ _ _ h => h) (Or.inl ⟨by rfl, ?_⟩) hHeld ?_
        rotate_left
        focus
          intro w hSw
          (try dsimp only at hSw)
          go_simp
          try with_reducible rfl
        try simp only [Act.put, List.getElem_toArray, List.getElem_cons_zero, List.getElem_cons_succ, List.setIfInBounds_toArray, List.set_cons_zero, List.set_cons_succ]
        refine wpAnyH_take (i := 8) (v := ?_) rfl (by kernel_rfl) (by kernel_rfl) (by kernel_rfl) (fun _ _ _ h => h) (Or.inl ⟨by rfl, ?_⟩) hHeld ?_
        rotate_left
        focus
          intro w hSw
          clear hSw
          go_simp
          try with_reducible rfl
        try simp only [Act.put, List.getElem_toArray, List.getElem_cons_zero, List.getElem_cons_succ, List.setIfInBounds_toArray, List.set_cons_zero, List.set_cons_succ]
        refine wpAnyH_take (i := 9) (v := ?_) rfl (by kernel_rfl) (by kernel_rfl) (by kernel_rfl) (fun _ _ _ h => h) (Or.inl ⟨by rfl, ?_⟩) hHeld ?_
        rotate_left
        focus
          intro w hSw
          clear hSw
          go_simp
          try with_reducible rfl
        try simp only [Act.put, List.getElem_toArray, List.getElem_cons_zero, List.getElem_cons_succ, List.setIfInBounds_toArray, List.set_cons_zero, List.set_cons_succ]
        refine wpAnyH_ready (rs := [10]) (by kernel_rfl) (by simp) ?_
        refine AllReadyH.cons rfl (fun K hK => ?_) AllReadyH.nil
        go_simp
        refine hK.out _ _ ⟨c0, c1⟩ (fun hHeld => ?_)
        clear hK K
        try simp only [Act.put, List.getElem_toArray, List.getElem_cons_zero, List.getElem_cons_succ, List.setIfInBounds_toArray, List.set_cons_zero, List.set_cons_succ]
        refine wpAnyH_take (i := 11) (v := ?_) rfl (by kernel_rfl) (by kernel_rfl) (by kernel_rfl) (fun _ _ _ h => h) (Or.inl ⟨by rfl, ?_⟩) hHeld ?_
        rotate_left
        focus
          intro w hSw
          clear hSw
          go_simp
          try with_reducible rfl
        try simp only [Act.put, List.getElem_toArray, List.getElem_cons_zero, List.getElem_cons_succ, List.setIfInBounds_toArray, List.set_cons_zero, List.set_cons_succ]
        refine wpAnyH_done (by kernel_rfl) ?_ _
        refine NoPanic.normal ?_
        rw [← hbb]
        have hcl := b.toNat_lt
        have HU := Lib.hid hu
        clear hbb hu
        by_cases hA : k = 9 ∧ 1 < b.toNat
        · have hr : Hid (decR T 0 0 = none) := by
            show _ = _
            rw [HD.out, drop_cons' HBT.out]
            unfold decR
            rw [if_pos hA]
          generalize b.toNat = c at *
          obtain ⟨rfl, hc1⟩ := hA
          have HRD : Hid (rdI s (pos, none) = (0, (s.size, some pos))) := rd_none (by rw [← HT.out]; exact readI_none hr.out)
          have d1 : decide ((1 : Int) < (c : Int)) = true := by simp; omega
          go_wp2_with fail
          refine (rfail_c q s (pos, none) pos W0.drew.drew (Lib.hid (HRV.out W0.drew.drew HB.out.drew.drew))).mono ?_
          rintro e W9 ⟨rfl, hr9, ht9⟩
          have HF : Hid (RefIQ w q s (rdI s (pos, none)) (.returned (.int .i64 0)) W9) := by
            rw [HRD.out]
            exact ⟨rfl, hr9, (Turns.of_below HB.out.drew.drew).trans ht9 (fun _ _ h => h)⟩
          clear hr9 ht9
          go_wp2_with fail
          go_ret
          exact HF.out
        · by_cases hB : b.toNat < 128
          · have hr : Hid (decR T 0 0 = some (u + b.toNat * 128 ^ k, k + 1)) := by
              show _ = _
              rw [HD.out, drop_cons' HBT.out]
              unfold decR
              rw [if_neg hA, if_pos hB]
            have h9 : k = 9 → b.toNat ≤ 1 := fun e => by have := mt (And.intro e) hA; omega
            have hxe := add_sh' HU.out hB hk9 h9
            have hdk : ((k : Int) == 9) = true ∧ decide ((1 : Int) < (b.toNat : Int)) = false ∨ ((k : Int) == 9) = false := by
              by_cases h9k : k = 9
              · refine .inl ⟨beq_iff_eq.2 (by omega), ?_⟩
                have := h9 h9k
                simp; omega
              · exact .inr (beq_eq_false_iff_ne.2 (by omega))
            have hxl := decR_lt T 0 0 _ _ (by omega) (by simp) hr.out
            generalize u + b.toNat * 128 ^ k = x at hr hxe hxl
            generalize b.toNat = c at *
            have d128 : decide ((128 : Int) ≤ (c : Int)) = false := by simp; omega
            have e2 : IntKind.i64.wrap ((pos : Int) + (k : Int) + 1) = (pos : Int) + (k : Int) + 1 := by rw [IntKind.wrap_i64]; omega
            have e3 : ((pos : Int) + (k : Int) + 1).toNat = pos + k + 1 := by omega
            have e4 : (pos : Int) ≤ (pos : Int) + (k : Int) + 1 := by omega
            have e5 : (pos : Int) + (k : Int) + 1 ≤ (s.size : Int) := by omega
            have hqs : q < W0.drew.drew.heap.size := by have := HB.out.size; show q < W0.heap.size; omega
            clear hA h9
            have HXL := Lib.hid hxl
            clear hxl
            obtain hpar | hpar : x % 2 = 0 ∨ x % 2 = 1 := by omega
            · obtain ⟨z, HZ, p1, p2, p3, p4, p5, p6⟩ := even_facts HXL.out hpar
              have HZI : Hid (I64 z) := by rw [HZ.out]; exact unzig_I64 HXL.out
              obtain ⟨SA, hSA⟩ : ∃ SA : ByteArray, SA = ⟨(encI z).toArray⟩ := ⟨_, rfl⟩
              have HSA := Lib.hid hSA
              clear hpar hSA
              by_cases hit : SA = s.extract pos (pos + k + 1)
              · have hb : (SA.toList == (s.extract pos (pos + k + 1)).toList) = true := by rw [str_beq]; exact decide_eq_true hit
                have HRD : Hid (rdI s (pos, none) = (z, (pos + (k + 1), none))) := rd_some (by
                  rw [← HT.out, HZ.out]
                  refine readI_hit hr.out ?_
                  rw [← HZ.out, HT.out]
                  have h1 := congrArg (fun b : ByteArray => b.data.toList) (HSA.out.symm.trans hit)
                  rw [show (s.extract pos (pos + k + 1)).data.toList = (s.data.toList.drop pos).take (k + 1) from ext_take s pos k] at h1
                  simpa using h1)
                clear hit
                rcases hdk with ⟨dk, d1⟩ | dk
                all_goals
                  go_wp2_with fail
                  refine wp_region_noPanic ?_
                  refine wp_region_held_drew (S := (fun w' => w'.cell? ⟨q, 0, none⟩ = some (.string s) ∧ w'.cell? ⟨q, 1, none⟩ = some (.int .i64 pos))) (by kernel_rfl) ⟨c0, c1⟩ (fun hHeld => ?_)
                  refine wpAnyH_take (i := 0) (v := ?_) rfl (by kernel_rfl) (by kernel_rfl) (by kernel_rfl) (fun _ _ _ h => h) (Or.inl ⟨by rfl, ?_⟩) hHeld ?_
                  rotate_left
                  focus
                    intro w hSw
                    clear hSw
                    go_simp
                    try with_reducible rfl
                  try simp only [Act.put, List.getElem_toArray, List.getElem_cons_zero, List.getElem_cons_succ, List.setIfInBounds_toArray, List.set_cons_zero, List.set_cons_succ]
                  refine wpAnyH_take (i := 2) (v := ?_) rfl (by kernel_rfl) (by kernel_rfl) (by kernel_rfl) (fun _ _ _ h => h) (Or.inl ⟨by rfl, ?_⟩) hHeld ?_
                  rotate_left
                  focus
                    intro w hSw
                    clear hSw
                    go_simp
                    try with_reducible rfl
                  try simp only [Act.put, List.getElem_toArray, List.getElem_cons_zero, List.getElem_cons_succ, List.setIfInBounds_toArray, List.set_cons_zero, List.set_cons_succ]
                  refine wpAnyH_take (i := 3) (v := ?_) rfl (by kernel_rfl) (by kernel_rfl) (by kernel_rfl) (fun _ _ _ h => h) (Or.inl ⟨by rfl, ?_⟩) hHeld ?_
                  rotate_left
                  focus
                    intro w hSw
                    clear hSw
                    go_simp
                    try with_reducible rfl
                  try simp only [Act.put, List.getElem_toArray, List.getElem_cons_zero, List.getElem_cons_succ, List.setIfInBounds_toArray, List.set_cons_zero, List.set_cons_succ]
                  refine wpAnyH_take (i := 4) (v := ?_) rfl (by kernel_rfl) (by kernel_rfl) (by kernel_rfl) (fun _ _ _ h => h) (Or.inl ⟨by rfl, ?_⟩) hHeld ?_
                  rotate_left
                  focus
                    intro w hSw
                    clear hSw
                    go_simp
                    try with_reducible rfl
                  try simp only [Act.put, List.getElem_toArray, List.getElem_cons_zero, List.getElem_cons_succ, List.setIfInBounds_toArray, List.set_cons_zero, List.set_cons_succ]
                  refine wpAnyH_take (i := 5) (v := ?_) rfl (by kernel_rfl) (by kernel_rfl) (by kernel_rfl) (fun _ _ _ h => h) (Or.inl ⟨by rfl, ?_⟩) hHeld ?_
                  rotate_left
                  focus
                    intro w hSw
                    (try dsimp only at hSw)
                    go_simp
                    try with_reducible rfl
                  try simp only [Act.put, List.getElem_toArray, List.getElem_cons_zero, List.getElem_cons_succ, List.setIfInBounds_toArray, List.set_cons_zero, List.set_cons_succ]
                  refine wpAnyH_take (i := 6) (v := ?_) rfl (by kernel_rfl) (by kernel_rfl) (by kernel_rfl) (fun _ _ _ h => h) (Or.inl ⟨by rfl, ?_⟩) hHeld ?_
                  rotate_left
                  focus
                    intro w hSw
                    clear hSw
                    go_simp
                    try with_reducible rfl
                  try simp only [Act.put, List.getElem_toArray, List.getElem_cons_zero, List.getElem_cons_succ, List.setIfInBounds_toArray, List.set_cons_zero, List.set_cons_succ]
                  refine wpAnyH_take (i := 7) (v := ?_) rfl (by kernel_rfl) (by kernel_rfl) (by kernel_rfl) (fun _ _ _ h => h) (Or.inl ⟨by rfl, ?_⟩) hHeld ?_
                  rotate_left
                  focus
                    intro w hSw
                    clear hSw
                    go_simp
                    try with_reducible rfl
                  try simp only [Act.put, List.getElem_toArray, List.getElem_cons_zero, List.getElem_cons_succ, List.setIfInBounds_toArray, List.set_cons_zero, List.set_cons_succ]
                  refine wpAnyH_take (i := 8) (v := ?_) rfl (by kernel_rfl) (by kernel_rfl) (by kernel_rfl) (fun _ _ _ h => h) (Or.inl ⟨by rfl, ?_⟩) hHeld ?_
                  rotate_left
                  focus
                    intro w hSw
                    clear hSw
                    go_simp
                    try with_reducible rfl
                  try simp only [Act.put, List.getElem_toArray, List.getElem_cons_zero, List.getElem_cons_succ, List.setIfInBounds_toArray, List.set_cons_zero, List.set_cons_succ]
                  refine wpAnyH_take (i := 9) (v := ?_) rfl (by kernel_rfl) (by kernel_rfl) (by kernel_rfl) (fun _ _ _ h => h) (Or.inl ⟨by rfl, ?_⟩) hHeld ?_
                  rotate_left
                  focus
                    intro w hSw
                    (try dsimp only at hSw)
                    go_simp
                    try with_reducible rfl
                  try simp only [Act.put, List.getElem_toArray, List.getElem_cons_zero, List.getElem_cons_succ, List.setIfInBounds_toArray, List.set_cons_zero, List.set_cons_succ]
                  refine wpAnyH_take (i := 10) (v := ?_) rfl (by kernel_rfl) (by kernel_rfl) (by kernel_rfl) (fun _ _ _ h => h) (Or.inl ⟨by rfl, ?_⟩) hHeld ?_
                  rotate_left
                  focus
                    intro w hSw
                    clear hSw
                    go_simp
                    try with_reducible rfl
                  try simp only [Act.put, List.getElem_toArray, List.getElem_cons_zero, List.getElem_cons_succ, List.setIfInBounds_toArray, List.set_cons_zero, List.set_cons_succ]
                  refine wpAnyH_take (i := 11) (v := ?_) rfl (by kernel_rfl) (by kernel_rfl) (by kernel_rfl) (fun _ _ _ h => h) (Or.inl ⟨by rfl, ?_⟩) hHeld ?_
                  rotate_left
                  focus
                    intro w hSw
                    clear hSw
                    go_simp
                    try with_reducible rfl
                  try simp only [Act.put, List.getElem_toArray, List.getElem_cons_zero, List.getElem_cons_succ, List.setIfInBounds_toArray, List.set_cons_zero, List.set_cons_succ]
                  refine wpAnyH_take (i := 12) (v := ?_) rfl (by kernel_rfl) (by kernel_rfl) (by kernel_rfl) (fun _ _ _ h => h) (Or.inl ⟨by rfl, ?_⟩) hHeld ?_
                  rotate_left
                  focus
                    intro w hSw
                    clear hSw
                    go_simp
                    try with_reducible rfl
                  try simp only [Act.put, List.getElem_toArray, List.getElem_cons_zero, List.getElem_cons_succ, List.setIfInBounds_toArray, List.set_cons_zero, List.set_cons_succ]
                  refine wpAnyH_take (i := 13) (v := ?_) rfl (by kernel_rfl) (by kernel_rfl) (by kernel_rfl) (fun _ _ _ h => h) (Or.inl ⟨by rfl, ?_⟩) hHeld ?_
                  rotate_left
                  focus
                    intro w hSw
                    (try dsimp only at hSw)
                    go_simp
                    try with_reducible rfl
                  try simp only [Act.put, List.getElem_toArray, List.getElem_cons_zero, List.getElem_cons_succ, List.setIfInBounds_toArray, List.set_cons_zero, List.set_cons_succ]
                  refine wpAnyH_take (i := 14) (v := ?_) rfl (by kernel_rfl) (by kernel_rfl) (by kernel_rfl) (fun _ _ _ h => h) (Or.inl ⟨by rfl, ?_⟩) hHeld ?_
                  rotate_left
                  focus
                    intro w hSw
                    clear hSw
                    go_simp
                    try with_reducible rfl
                  try simp only [Act.put, List.getElem_toArray, List.getElem_cons_zero, List.getElem_cons_succ, List.setIfInBounds_toArray, List.set_cons_zero, List.set_cons_succ]
                  refine wpAnyH_take (i := 15) (v := ?_) rfl (by kernel_rfl) (by kernel_rfl) (by kernel_rfl) (fun _ _ _ h => h) (Or.inl ⟨by rfl, ?_⟩) hHeld ?_
                  rotate_left
                  focus
                    intro w hSw
                    clear hSw
                    go_simp
                    try with_reducible rfl
                  try simp only [Act.put, List.getElem_toArray, List.getElem_cons_zero, List.getElem_cons_succ, List.setIfInBounds_toArray, List.set_cons_zero, List.set_cons_succ]
                  refine wpAnyH_take (i := 16) (v := ?_) rfl (by kernel_rfl) (by kernel_rfl) (by kernel_rfl) (fun _ _ _ h => h) (Or.inl ⟨by rfl, ?_⟩) hHeld ?_
                  rotate_left
                  focus
                    intro w hSw
                    clear hSw
                    go_simp
                    try with_reducible rfl
                  try simp only [Act.put, List.getElem_toArray, List.getElem_cons_zero, List.getElem_cons_succ, List.setIfInBounds_toArray, List.set_cons_zero, List.set_cons_succ]
                  refine wpAnyH_take (i := 17) (v := ?_) rfl (by kernel_rfl) (by kernel_rfl) (by kernel_rfl) (fun _ _ _ h => h) (Or.inl ⟨by rfl, ?_⟩) hHeld ?_
                  rotate_left
                  focus
                    intro w hSw
                    clear hSw
                    go_simp
                    try with_reducible rfl
                  try simp only [Act.put, List.getElem_toArray, List.getElem_cons_zero, List.getElem_cons_succ, List.setIfInBounds_toArray, List.set_cons_zero, List.set_cons_succ]
                  refine wpAnyH_ready (rs := [1]) (by kernel_rfl) (by simp) ?_
                  refine AllReadyH.cons rfl (fun K hK => ?_) AllReadyH.nil
                  go_simp
                  refine (rint_c z HZI.out.1 HZI.out.2 _).mono ?_
                  rintro e W1 ⟨rfl, hb1⟩
                  have c0 := (hb1.cell (p := ⟨q, 0, none⟩) hqs).trans c0
                  have c1 := (hb1.cell (p := ⟨q, 1, none⟩) hqs).trans c1
                  have HB4 := Lib.hid hb1
                  clear hb1
                  rw [← HSA.out]
                  refine hK.out _ _ ⟨c0, c1⟩ (fun hHeld => ?_)
                  clear hK K
                  try simp only [Act.put, List.getElem_toArray, List.getElem_cons_zero, List.getElem_cons_succ, List.setIfInBounds_toArray, List.set_cons_zero, List.set_cons_succ]
                  refine wpAnyH_take (i := 18) (v := ?_) rfl (by kernel_rfl) (by kernel_rfl) (by kernel_rfl) (fun _ _ _ h => h) (Or.inl ⟨by rfl, ?_⟩) hHeld ?_
                  rotate_left
                  focus
                    intro w hSw
                    clear hSw
                    go_simp
                    try with_reducible rfl
                  try simp only [Act.put, List.getElem_toArray, List.getElem_cons_zero, List.getElem_cons_succ, List.setIfInBounds_toArray, List.set_cons_zero, List.set_cons_succ]
                  refine wpAnyH_done (by kernel_rfl) ?_ _
                  refine NoPanic.normal ?_
                  have HB5 := Lib.hid (HB.out.drew.drew.drew.trans (HB4.out.mono HB.out.size))
                  have HR5 := Lib.hid (HRV.out W1 HB5.out)
                  have f1 := HR5.out.blk.free 1
                  have HFIN : Hid (RefIQ w q s (rdI s (pos, none)) (.returned (.int .i64 z)) (W1.setCell ⟨q, 1, none⟩ (.int .i64 ((pos : Int) + (k : Int) + 1)))) := by
                    rw [HRD.out]
                    refine ⟨rfl, ⟨?_, ?_⟩, (Turns.of_below HB5.out).trans (Turns.set (F := fun k => k = q) rfl) (fun _ _ h => h)⟩
                    · have := HR5.out.blk.set 1 (.int .i64 ((pos : Int) + (k : Int) + 1))
                      rw [show (pos : Int) + (k : Int) + 1 = ((pos + (k + 1) : Nat) : Int) by omega] at this ⊢
                      exact this
                    · show pos + (k + 1) ≤ s.size
                      omega
                  go_wp2_with fail
                  go_ret
                  exact HFIN.out
              · have hb : (SA.toList == (s.extract pos (pos + k + 1)).toList) = false := by rw [str_beq]; exact decide_eq_false hit
                have HRD : Hid (rdI s (pos, none) = (0, (s.size, some pos))) := rd_none (by
                  rw [← HT.out]
                  refine readI_miss hr.out (fun h1 => hit ?_)
                  rw [HSA.out, HZ.out, h1, HT.out, ← ext_take s pos k])
                clear hit
                rcases hdk with ⟨dk, d1⟩ | dk
                all_goals
                  go_wp2_with fail
                  refine wp_region_noPanic ?_
                  refine wp_region_held_drew (S := (fun w' => w'.cell? ⟨q, 0, none⟩ = some (.string s) ∧ w'.cell? ⟨q, 1, none⟩ = some (.int .i64 pos))) (by kernel_rfl) ⟨c0, c1⟩ (fun hHeld => ?_)
                  refine wpAnyH_take (i := 0) (v := ?_) rfl (by kernel_rfl) (by kernel_rfl) (by kernel_rfl) (fun _ _ _ h => h) (Or.inl ⟨by rfl, ?_⟩) hHeld ?_
                  rotate_left
                  focus
                    intro w hSw
                    clear hSw
                    go_simp
                    try with_reducible rfl
                  try simp only [Act.put, List.getElem_toArray, List.getElem_cons_zero, List.getElem_cons_succ, List.setIfInBounds_toArray, List.set_cons_zero, List.set_cons_succ]
                  refine wpAnyH_take (i := 2) (v := ?_) rfl (by kernel_rfl) (by kernel_rfl) (by kernel_rfl) (fun _ _ _ h => h) (Or.inl ⟨by rfl, ?_⟩) hHeld ?_
                  rotate_left
                  focus
                    intro w hSw
                    clear hSw
                    go_simp
                    try with_reducible rfl
                  try simp only [Act.put, List.getElem_toArray, List.getElem_cons_zero, List.getElem_cons_succ, List.setIfInBounds_toArray, List.set_cons_zero, List.set_cons_succ]
                  refine wpAnyH_take (i := 3) (v := ?_) rfl (by kernel_rfl) (by kernel_rfl) (by kernel_rfl) (fun _ _ _ h => h) (Or.inl ⟨by rfl, ?_⟩) hHeld ?_
                  rotate_left
                  focus
                    intro w hSw
                    clear hSw
                    go_simp
                    try with_reducible rfl
                  try simp only [Act.put, List.getElem_toArray, List.getElem_cons_zero, List.getElem_cons_succ, List.setIfInBounds_toArray, List.set_cons_zero, List.set_cons_succ]
                  refine wpAnyH_take (i := 4) (v := ?_) rfl (by kernel_rfl) (by kernel_rfl) (by kernel_rfl) (fun _ _ _ h => h) (Or.inl ⟨by rfl, ?_⟩) hHeld ?_
                  rotate_left
                  focus
                    intro w hSw
                    clear hSw
                    go_simp
                    try with_reducible rfl
                  try simp only [Act.put, List.getElem_toArray, List.getElem_cons_zero, List.getElem_cons_succ, List.setIfInBounds_toArray, List.set_cons_zero, List.set_cons_succ]
                  refine wpAnyH_take (i := 5) (v := ?_) rfl (by kernel_rfl) (by kernel_rfl) (by kernel_rfl) (fun _ _ _ h => h) (Or.inl ⟨by rfl, ?_⟩) hHeld ?_
                  rotate_left
                  focus
                    intro w hSw
                    (try dsimp only at hSw)
                    go_simp
                    try with_reducible rfl
                  try simp only [Act.put, List.getElem_toArray, List.getElem_cons_zero, List.getElem_cons_succ, List.setIfInBounds_toArray, List.set_cons_zero, List.set_cons_succ]
                  refine wpAnyH_take (i := 6) (v := ?_) rfl (by kernel_rfl) (by kernel_rfl) (by kernel_rfl) (fun _ _ _ h => h) (Or.inl ⟨by rfl, ?_⟩) hHeld ?_
                  rotate_left
                  focus
                    intro w hSw
                    clear hSw
                    go_simp
                    try with_reducible rfl
                  try simp only [Act.put, List.getElem_toArray, List.getElem_cons_zero, List.getElem_cons_succ, List.setIfInBounds_toArray, List.set_cons_zero, List.set_cons_succ]
                  refine wpAnyH_take (i := 7) (v := ?_) rfl (by kernel_rfl) (by kernel_rfl) (by kernel_rfl) (fun _ _ _ h => h) (Or.inl ⟨by rfl, ?_⟩) hHeld ?_
                  rotate_left
                  focus
                    intro w hSw
                    clear hSw
                    go_simp
                    try with_reducible rfl
                  try simp only [Act.put, List.getElem_toArray, List.getElem_cons_zero, List.getElem_cons_succ, List.setIfInBounds_toArray, List.set_cons_zero, List.set_cons_succ]
                  refine wpAnyH_take (i := 8) (v := ?_) rfl (by kernel_rfl) (by kernel_rfl) (by kernel_rfl) (fun _ _ _ h => h) (Or.inl ⟨by rfl, ?_⟩) hHeld ?_
                  rotate_left
                  focus
                    intro w hSw
                    clear hSw
                    go_simp
                    try with_reducible rfl
                  try simp only [Act.put, List.getElem_toArray, List.getElem_cons_zero, List.getElem_cons_succ, List.setIfInBounds_toArray, List.set_cons_zero, List.set_cons_succ]
                  refine wpAnyH_take (i := 9) (v := ?_) rfl (by kernel_rfl) (by kernel_rfl) (by kernel_rfl) (fun _ _ _ h => h) (Or.inl ⟨by rfl, ?_⟩) hHeld ?_
                  rotate_left
                  focus
                    intro w hSw
                    (try dsimp only at hSw)
                    go_simp
                    try with_reducible rfl
                  try simp only [Act.put, List.getElem_toArray, List.getElem_cons_zero, List.getElem_cons_succ, List.setIfInBounds_toArray, List.set_cons_zero, List.set_cons_succ]
                  refine wpAnyH_take (i := 10) (v := ?_) rfl (by kernel_rfl) (by kernel_rfl) (by kernel_rfl) (fun _ _ _ h => h) (Or.inl ⟨by rfl, ?_⟩) hHeld ?_
                  rotate_left
                  focus
                    intro w hSw
                    clear hSw
                    go_simp
                    try with_reducible rfl
                  try simp only [Act.put, List.getElem_toArray, List.getElem_cons_zero, List.getElem_cons_succ, List.setIfInBounds_toArray, List.set_cons_zero, List.set_cons_succ]
                  refine wpAnyH_take (i := 11) (v := ?_) rfl (by kernel_rfl) (by kernel_rfl) (by kernel_rfl) (fun _ _ _ h => h) (Or.inl ⟨by rfl, ?_⟩) hHeld ?_
                  rotate_left
                  focus
                    intro w hSw
                    clear hSw
                    go_simp
                    try with_reducible rfl
                  try simp only [Act.put, List.getElem_toArray, List.getElem_cons_zero, List.getElem_cons_succ, List.setIfInBounds_toArray, List.set_cons_zero, List.set_cons_succ]
                  refine wpAnyH_take (i := 12) (v := ?_) rfl (by kernel_rfl) (by kernel_rfl) (by kernel_rfl) (fun _ _ _ h => h) (Or.inl ⟨by rfl, ?_⟩) hHeld ?_
                  rotate_left
                  focus
                    intro w hSw
                    clear hSw
                    go_simp
                    try with_reducible rfl
                  try simp only [Act.put, List.getElem_toArray, List.getElem_cons_zero, List.getElem_cons_succ, List.setIfInBounds_toArray, List.set_cons_zero, List.set_cons_succ]
                  refine wpAnyH_take (i := 13) (v := ?_) rfl (by kernel_rfl) (by kernel_rfl) (by kernel_rfl) (fun _ _ _ h => h) (Or.inl ⟨by rfl, ?_⟩) hHeld ?_
                  rotate_left
                  focus
                    intro w hSw
                    (try dsimp only at hSw)
                    go_simp
                    try with_reducible rfl
                  try simp only [Act.put, List.getElem_toArray, List.getElem_cons_zero, List.getElem_cons_succ, List.setIfInBounds_toArray, List.set_cons_zero, List.set_cons_succ]
                  refine wpAnyH_take (i := 14) (v := ?_) rfl (by kernel_rfl) (by kernel_rfl) (by kernel_rfl) (fun _ _ _ h => h) (Or.inl ⟨by rfl, ?_⟩) hHeld ?_
                  rotate_left
                  focus
                    intro w hSw
                    clear hSw
                    go_simp
                    try with_reducible rfl
                  try simp only [Act.put, List.getElem_toArray, List.getElem_cons_zero, List.getElem_cons_succ, List.setIfInBounds_toArray, List.set_cons_zero, List.set_cons_succ]
                  refine wpAnyH_take (i := 15) (v := ?_) rfl (by kernel_rfl) (by kernel_rfl) (by kernel_rfl) (fun _ _ _ h => h) (Or.inl ⟨by rfl, ?_⟩) hHeld ?_
                  rotate_left
                  focus
                    intro w hSw
                    clear hSw
                    go_simp
                    try with_reducible rfl
                  try simp only [Act.put, List.getElem_toArray, List.getElem_cons_zero, List.getElem_cons_succ, List.setIfInBounds_toArray, List.set_cons_zero, List.set_cons_succ]
                  refine wpAnyH_take (i := 16) (v := ?_) rfl (by kernel_rfl) (by kernel_rfl) (by kernel_rfl) (fun _ _ _ h => h) (Or.inl ⟨by rfl, ?_⟩) hHeld ?_
                  rotate_left
                  focus
                    intro w hSw
                    clear hSw
                    go_simp
                    try with_reducible rfl
                  try simp only [Act.put, List.getElem_toArray, List.getElem_cons_zero, List.getElem_cons_succ, List.setIfInBounds_toArray, List.set_cons_zero, List.set_cons_succ]
                  refine wpAnyH_take (i := 17) (v := ?_) rfl (by kernel_rfl) (by kernel_rfl) (by kernel_rfl) (fun _ _ _ h => h) (Or.inl ⟨by rfl, ?_⟩) hHeld ?_
                  rotate_left
                  focus
                    intro w hSw
                    clear hSw
                    go_simp
                    try with_reducible rfl
                  try simp only [Act.put, List.getElem_toArray, List.getElem_cons_zero, List.getElem_cons_succ, List.setIfInBounds_toArray, List.set_cons_zero, List.set_cons_succ]
                  refine wpAnyH_ready (rs := [1]) (by kernel_rfl) (by simp) ?_
                  refine AllReadyH.cons rfl (fun K hK => ?_) AllReadyH.nil
                  go_simp
                  refine (rint_c z HZI.out.1 HZI.out.2 _).mono ?_
                  rintro e W1 ⟨rfl, hb1⟩
                  have c0 := (hb1.cell (p := ⟨q, 0, none⟩) hqs).trans c0
                  have c1 := (hb1.cell (p := ⟨q, 1, none⟩) hqs).trans c1
                  have HB4 := Lib.hid hb1
                  clear hb1
                  rw [← HSA.out]
                  refine hK.out _ _ ⟨c0, c1⟩ (fun hHeld => ?_)
                  clear hK K
                  try simp only [Act.put, List.getElem_toArray, List.getElem_cons_zero, List.getElem_cons_succ, List.setIfInBounds_toArray, List.set_cons_zero, List.set_cons_succ]
                  refine wpAnyH_take (i := 18) (v := ?_) rfl (by kernel_rfl) (by kernel_rfl) (by kernel_rfl) (fun _ _ _ h => h) (Or.inl ⟨by rfl, ?_⟩) hHeld ?_
                  rotate_left
                  focus
                    intro w hSw
                    clear hSw
                    go_simp
                    try with_reducible rfl
                  try simp only [Act.put, List.getElem_toArray, List.getElem_cons_zero, List.getElem_cons_succ, List.setIfInBounds_toArray, List.set_cons_zero, List.set_cons_succ]
                  refine wpAnyH_done (by kernel_rfl) ?_ _
                  refine NoPanic.normal ?_
                  have HB5 := Lib.hid (HB.out.drew.drew.drew.trans (HB4.out.mono HB.out.size))
                  go_wp2_with fail
                  refine (rfail_c q s (pos, none) pos W1 (Lib.hid (HRV.out W1 HB5.out))).mono ?_
                  rintro e W9 ⟨rfl, hr9, ht9⟩
                  have HF : Hid (RefIQ w q s (rdI s (pos, none)) (.returned (.int .i64 0)) W9) := by
                    rw [HRD.out]
                    exact ⟨rfl, hr9, (Turns.of_below HB5.out).trans ht9 (fun _ _ h => h)⟩
                  clear hr9 ht9
                  go_wp2_with fail
                  go_ret
                  exact HF.out
            · obtain ⟨y, m, z, HZ, p1, p2, p3, p4, p5, p6, p7, p8⟩ := odd_facts HXL.out hpar
              have HZI : Hid (I64 z) := by rw [HZ.out]; exact unzig_I64 HXL.out
              obtain ⟨SA, hSA⟩ : ∃ SA : ByteArray, SA = ⟨(encI z).toArray⟩ := ⟨_, rfl⟩
              have HSA := Lib.hid hSA
              clear hpar hSA
              by_cases hit : SA = s.extract pos (pos + k + 1)
              · have hb : (SA.toList == (s.extract pos (pos + k + 1)).toList) = true := by rw [str_beq]; exact decide_eq_true hit
                have HRD : Hid (rdI s (pos, none) = (z, (pos + (k + 1), none))) := rd_some (by
                  rw [← HT.out, HZ.out]
                  refine readI_hit hr.out ?_
                  rw [← HZ.out, HT.out]
                  have h1 := congrArg (fun b : ByteArray => b.data.toList) (HSA.out.symm.trans hit)
                  rw [show (s.extract pos (pos + k + 1)).data.toList = (s.data.toList.drop pos).take (k + 1) from ext_take s pos k] at h1
                  simpa using h1)
                clear hit
                rcases hdk with ⟨dk, d1⟩ | dk
                all_goals
                  go_wp2_with fail
                  refine wp_region_noPanic ?_
                  refine wp_region_held_drew (S := (fun w' => w'.cell? ⟨q, 0, none⟩ = some (.string s) ∧ w'.cell? ⟨q, 1, none⟩ = some (.int .i64 pos))) (by kernel_rfl) ⟨c0, c1⟩ (fun hHeld => ?_)
                  refine wpAnyH_take (i := 0) (v := ?_) rfl (by kernel_rfl) (by kernel_rfl) (by kernel_rfl) (fun _ _ _ h => h) (Or.inl ⟨by rfl, ?_⟩) hHeld ?_
                  rotate_left
                  focus
                    intro w hSw
                    clear hSw
                    go_simp
                    try with_reducible rfl
                  try simp only [Act.put, List.getElem_toArray, List.getElem_cons_zero, List.getElem_cons_succ, List.setIfInBounds_toArray, List.set_cons_zero, List.set_cons_succ]
                  refine wpAnyH_take (i := 2) (v := ?_) rfl (by kernel_rfl) (by kernel_rfl) (by kernel_rfl) (fun _ _ _ h => h) (Or.inl ⟨by rfl, ?_⟩) hHeld ?_
                  rotate_left
                  focus
                    intro w hSw
                    clear hSw
                    go_simp
                    try with_reducible rfl
                  try simp only [Act.put, List.getElem_toArray, List.getElem_cons_zero, List.getElem_cons_succ, List.setIfInBounds_toArray, List.set_cons_zero, List.set_cons_succ]
                  refine wpAnyH_take (i := 3) (v := ?_) rfl (by kernel_rfl) (by kernel_rfl) (by kernel_rfl) (fun _ _ _ h => h) (Or.inl ⟨by rfl, ?_⟩) hHeld ?_
                  rotate_left
                  focus
                    intro w hSw
                    clear hSw
                    go_simp
                    try with_reducible rfl
                  try simp only [Act.put, List.getElem_toArray, List.getElem_cons_zero, List.getElem_cons_succ, List.setIfInBounds_toArray, List.set_cons_zero, List.set_cons_succ]
                  refine wpAnyH_take (i := 4) (v := ?_) rfl (by kernel_rfl) (by kernel_rfl) (by kernel_rfl) (fun _ _ _ h => h) (Or.inl ⟨by rfl, ?_⟩) hHeld ?_
                  rotate_left
                  focus
                    intro w hSw
                    clear hSw
                    go_simp
                    try with_reducible rfl
                  try simp only [Act.put, List.getElem_toArray, List.getElem_cons_zero, List.getElem_cons_succ, List.setIfInBounds_toArray, List.set_cons_zero, List.set_cons_succ]
                  refine wpAnyH_take (i := 5) (v := ?_) rfl (by kernel_rfl) (by kernel_rfl) (by kernel_rfl) (fun _ _ _ h => h) (Or.inl ⟨by rfl, ?_⟩) hHeld ?_
                  rotate_left
                  focus
                    intro w hSw
                    (try dsimp only at hSw)
                    go_simp
                    try with_reducible rfl
                  try simp only [Act.put, List.getElem_toArray, List.getElem_cons_zero, List.getElem_cons_succ, List.setIfInBounds_toArray, List.set_cons_zero, List.set_cons_succ]
                  refine wpAnyH_take (i := 6) (v := ?_) rfl (by kernel_rfl) (by kernel_rfl) (by kernel_rfl) (fun _ _ _ h => h) (Or.inl ⟨by rfl, ?_⟩) hHeld ?_
                  rotate_left
                  focus
                    intro w hSw
                    clear hSw
                    go_simp
                    try with_reducible rfl
                  try simp only [Act.put, List.getElem_toArray, List.getElem_cons_zero, List.getElem_cons_succ, List.setIfInBounds_toArray, List.set_cons_zero, List.set_cons_succ]
                  refine wpAnyH_take (i := 7) (v := ?_) rfl (by kernel_rfl) (by kernel_rfl) (by kernel_rfl) (fun _ _ _ h => h) (Or.inl ⟨by rfl, ?_⟩) hHeld ?_
                  rotate_left
                  focus
                    intro w hSw
                    clear hSw
                    go_simp
                    try with_reducible rfl
                  try simp only [Act.put, List.getElem_toArray, List.getElem_cons_zero, List.getElem_cons_succ, List.setIfInBounds_toArray, List.set_cons_zero, List.set_cons_succ]
                  refine wpAnyH_take (i := 8) (v := ?_) rfl (by kernel_rfl) (by kernel_rfl) (by kernel_rfl) (fun _ _ _ h => h) (Or.inl ⟨by rfl, ?_⟩) hHeld ?_
                  rotate_left
                  focus
                    intro w hSw
                    clear hSw
                    go_simp
                    try with_reducible rfl
                  try simp only [Act.put, List.getElem_toArray, List.getElem_cons_zero, List.getElem_cons_succ, List.setIfInBounds_toArray, List.set_cons_zero, List.set_cons_succ]
                  refine wpAnyH_take (i := 9) (v := ?_) rfl (by kernel_rfl) (by kernel_rfl) (by kernel_rfl) (fun _ _ _ h => h) (Or.inl ⟨by rfl, ?_⟩) hHeld ?_
                  rotate_left
                  focus
                    intro w hSw
                    (try dsimp only at hSw)
                    go_simp
                    try with_reducible rfl
                  try simp only [Act.put, List.getElem_toArray, List.getElem_cons_zero, List.getElem_cons_succ, List.setIfInBounds_toArray, List.set_cons_zero, List.set_cons_succ]
                  refine wpAnyH_take (i := 10) (v := ?_) rfl (by kernel_rfl) (by kernel_rfl) (by kernel_rfl) (fun _ _ _ h => h) (Or.inl ⟨by rfl, ?_⟩) hHeld ?_
                  rotate_left
                  focus
                    intro w hSw
                    clear hSw
                    go_simp
                    try with_reducible rfl
                  try simp only [Act.put, List.getElem_toArray, List.getElem_cons_zero, List.getElem_cons_succ, List.setIfInBounds_toArray, List.set_cons_zero, List.set_cons_succ]
                  refine wpAnyH_take (i := 11) (v := ?_) rfl (by kernel_rfl) (by kernel_rfl) (by kernel_rfl) (fun _ _ _ h => h) (Or.inl ⟨by rfl, ?_⟩) hHeld ?_
                  rotate_left
                  focus
                    intro w hSw
                    clear hSw
                    go_simp
                    try with_reducible rfl
                  try simp only [Act.put, List.getElem_toArray, List.getElem_cons_zero, List.getElem_cons_succ, List.setIfInBounds_toArray, List.set_cons_zero, List.set_cons_succ]
                  refine wpAnyH_take (i := 12) (v := ?_) rfl (by kernel_rfl) (by kernel_rfl) (by kernel_rfl) (fun _ _ _ h => h) (Or.inl ⟨by rfl, ?_⟩) hHeld ?_
                  rotate_left
                  focus
                    intro w hSw
                    clear hSw
                    go_simp
                    try with_reducible rfl
                  try simp only [Act.put, List.getElem_toArray, List.getElem_cons_zero, List.getElem_cons_succ, List.setIfInBounds_toArray, List.set_cons_zero, List.set_cons_succ]
                  refine wpAnyH_take (i := 13) (v := ?_) rfl (by kernel_rfl) (by kernel_rfl) (by kernel_rfl) (fun _ _ _ h => h) (Or.inl ⟨by rfl, ?_⟩) hHeld ?_
                  rotate_left
                  focus
                    intro w hSw
                    (try dsimp only at hSw)
                    go_simp
                    try with_reducible rfl
                  try simp only [Act.put, List.getElem_toArray, List.getElem_cons_zero, List.getElem_cons_succ, List.setIfInBounds_toArray, List.set_cons_zero, List.set_cons_succ]
                  refine wpAnyH_take (i := 14) (v := ?_) rfl (by kernel_rfl) (by kernel_rfl) (by kernel_rfl) (fun _ _ _ h => h) (Or.inl ⟨by rfl, ?_⟩) hHeld ?_
                  rotate_left
                  focus
                    intro w hSw
                    clear hSw
                    go_simp
                    try with_reducible rfl
                  try simp only [Act.put, List.getElem_toArray, List.getElem_cons_zero, List.getElem_cons_succ, List.setIfInBounds_toArray, List.set_cons_zero, List.set_cons_succ]
                  refine wpAnyH_take (i := 15) (v := ?_) rfl (by kernel_rfl) (by kernel_rfl) (by kernel_rfl) (fun _ _ _ h => h) (Or.inl ⟨by rfl, ?_⟩) hHeld ?_
                  rotate_left
                  focus
                    intro w hSw
                    clear hSw
                    go_simp
                    try with_reducible rfl
                  try simp only [Act.put, List.getElem_toArray, List.getElem_cons_zero, List.getElem_cons_succ, List.setIfInBounds_toArray, List.set_cons_zero, List.set_cons_succ]
                  refine wpAnyH_take (i := 16) (v := ?_) rfl (by kernel_rfl) (by kernel_rfl) (by kernel_rfl) (fun _ _ _ h => h) (Or.inl ⟨by rfl, ?_⟩) hHeld ?_
                  rotate_left
                  focus
                    intro w hSw
                    clear hSw
                    go_simp
                    try with_reducible rfl
                  try simp only [Act.put, List.getElem_toArray, List.getElem_cons_zero, List.getElem_cons_succ, List.setIfInBounds_toArray, List.set_cons_zero, List.set_cons_succ]
                  refine wpAnyH_take (i := 17) (v := ?_) rfl (by kernel_rfl) (by kernel_rfl) (by kernel_rfl) (fun _ _ _ h => h) (Or.inl ⟨by rfl, ?_⟩) hHeld ?_
                  rotate_left
                  focus
                    intro w hSw
                    clear hSw
                    go_simp
                    try with_reducible rfl
                  try simp only [Act.put, List.getElem_toArray, List.getElem_cons_zero, List.getElem_cons_succ, List.setIfInBounds_toArray, List.set_cons_zero, List.set_cons_succ]
                  refine wpAnyH_ready (rs := [1]) (by kernel_rfl) (by simp) ?_
                  refine AllReadyH.cons rfl (fun K hK => ?_) AllReadyH.nil
                  go_simp
                  refine (rint_c z HZI.out.1 HZI.out.2 _).mono ?_
                  rintro e W1 ⟨rfl, hb1⟩
                  have c0 := (hb1.cell (p := ⟨q, 0, none⟩) hqs).trans c0
                  have c1 := (hb1.cell (p := ⟨q, 1, none⟩) hqs).trans c1
                  have HB4 := Lib.hid hb1
                  clear hb1
                  rw [← HSA.out]
                  refine hK.out _ _ ⟨c0, c1⟩ (fun hHeld => ?_)
                  clear hK K
                  try simp only [Act.put, List.getElem_toArray, List.getElem_cons_zero, List.getElem_cons_succ, List.setIfInBounds_toArray, List.set_cons_zero, List.set_cons_succ]
                  refine wpAnyH_take (i := 18) (v := ?_) rfl (by kernel_rfl) (by kernel_rfl) (by kernel_rfl) (fun _ _ _ h => h) (Or.inl ⟨by rfl, ?_⟩) hHeld ?_
                  rotate_left
                  focus
                    intro w hSw
                    clear hSw
                    go_simp
                    try with_reducible rfl
                  try simp only [Act.put, List.getElem_toArray, List.getElem_cons_zero, List.getElem_cons_succ, List.setIfInBounds_toArray, List.set_cons_zero, List.set_cons_succ]
                  refine wpAnyH_done (by kernel_rfl) ?_ _
                  refine NoPanic.normal ?_
                  have HB5 := Lib.hid (HB.out.drew.drew.drew.trans (HB4.out.mono HB.out.size))
                  have HR5 := Lib.hid (HRV.out W1 HB5.out)
                  have f1 := HR5.out.blk.free 1
                  have HFIN : Hid (RefIQ w q s (rdI s (pos, none)) (.returned (.int .i64 z)) (W1.setCell ⟨q, 1, none⟩ (.int .i64 ((pos : Int) + (k : Int) + 1)))) := by
                    rw [HRD.out]
                    refine ⟨rfl, ⟨?_, ?_⟩, (Turns.of_below HB5.out).trans (Turns.set (F := fun k => k = q) rfl) (fun _ _ h => h)⟩
                    · have := HR5.out.blk.set 1 (.int .i64 ((pos : Int) + (k : Int) + 1))
                      rw [show (pos : Int) + (k : Int) + 1 = ((pos + (k + 1) : Nat) : Int) by omega] at this ⊢
                      exact this
                    · show pos + (k + 1) ≤ s.size
                      omega
                  go_wp2_with fail
                  go_ret
                  exact HFIN.out
              · have hb : (SA.toList == (s.extract pos (pos + k + 1)).toList) = false := by rw [str_beq]; exact decide_eq_false hit
                have HRD : Hid (rdI s (pos, none) = (0, (s.size, some pos))) := rd_none (by
                  rw [← HT.out]
                  refine readI_miss hr.out (fun h1 => hit ?_)
                  rw [HSA.out, HZ.out, h1, HT.out, ← ext_take s pos k])
                clear hit
                rcases hdk with ⟨dk, d1⟩ | dk
                all_goals
                  go_wp2_with fail
                  refine wp_region_noPanic ?_
                  refine wp_region_held_drew (S := (fun w' => w'.cell? ⟨q, 0, none⟩ = some (.string s) ∧ w'.cell? ⟨q, 1, none⟩ = some (.int .i64 pos))) (by kernel_rfl) ⟨c0, c1⟩ (fun hHeld => ?_)
                  refine wpAnyH_take (i := 0) (v := ?_) rfl (by kernel_rfl) (by kernel_rfl) (by kernel_rfl) (fun _ _ _ h => h) (Or.inl ⟨by rfl, ?_⟩) hHeld ?_
                  rotate_left
                  focus
                    intro w hSw
                    clear hSw
                    go_simp
                    try with_reducible rfl
                  try simp only [Act.put, List.getElem_toArray, List.getElem_cons_zero, List.getElem_cons_succ, List.setIfInBounds_toArray, List.set_cons_zero, List.set_cons_succ]
                  refine wpAnyH_take (i := 2) (v := ?_) rfl (by kernel_rfl) (by kernel_rfl) (by kernel_rfl) (fun _ _ _ h => h) (Or.inl ⟨by rfl, ?_⟩) hHeld ?_
                  rotate_left
                  focus
                    intro w hSw
                    clear hSw
                    go_simp
                    try with_reducible rfl
                  try simp only [Act.put, List.getElem_toArray, List.getElem_cons_zero, List.getElem_cons_succ, List.setIfInBounds_toArray, List.set_cons_zero, List.set_cons_succ]
                  refine wpAnyH_take (i := 3) (v := ?_) rfl (by kernel_rfl) (by kernel_rfl) (by kernel_rfl) (fun _ _ _ h => h) (Or.inl ⟨by rfl, ?_⟩) hHeld ?_
                  rotate_left
                  focus
                    intro w hSw
                    clear hSw
                    go_simp
                    try with_reducible rfl
                  try simp only [Act.put, List.getElem_toArray, List.getElem_cons_zero, List.getElem_cons_succ, List.setIfInBounds_toArray, List.set_cons_zero, List.set_cons_succ]
                  refine wpAnyH_take (i := 4) (v := ?_) rfl (by kernel_rfl) (by kernel_rfl) (by kernel_rfl) (fun _ _ _ h => h) (Or.inl ⟨by rfl, ?_⟩) hHeld ?_
                  rotate_left
                  focus
                    intro w hSw
                    clear hSw
                    go_simp
                    try with_reducible rfl
                  try simp only [Act.put, List.getElem_toArray, List.getElem_cons_zero, List.getElem_cons_succ, List.setIfInBounds_toArray, List.set_cons_zero, List.set_cons_succ]
                  refine wpAnyH_take (i := 5) (v := ?_) rfl (by kernel_rfl) (by kernel_rfl) (by kernel_rfl) (fun _ _ _ h => h) (Or.inl ⟨by rfl, ?_⟩) hHeld ?_
                  rotate_left
                  focus
                    intro w hSw
                    (try dsimp only at hSw)
                    go_simp
                    try with_reducible rfl
                  try simp only [Act.put, List.getElem_toArray, List.getElem_cons_zero, List.getElem_cons_succ, List.setIfInBounds_toArray, List.set_cons_zero, List.set_cons_succ]
                  refine wpAnyH_take (i := 6) (v := ?_) rfl (by kernel_rfl) (by kernel_rfl) (by kernel_rfl) (fun _ _ _ h => h) (Or.inl ⟨by rfl, ?_⟩) hHeld ?_
                  rotate_left
                  focus
                    intro w hSw
                    clear hSw
                    go_simp
                    try with_reducible rfl
                  try simp only [Act.put, List.getElem_toArray, List.getElem_cons_zero, List.getElem_cons_succ, List.setIfInBounds_toArray, List.set_cons_zero, List.set_cons_succ]
                  refine wpAnyH_take (i := 7) (v := ?_) rfl (by kernel_rfl) (by kernel_rfl) (by kernel_rfl) (fun _ _ _ h => h) (Or.inl ⟨by rfl, ?_⟩) hHeld ?_
                  rotate_left
                  focus
                    intro w hSw
                    clear hSw
                    go_simp
                    try with_reducible rfl
                  try simp only [Act.put, List.getElem_toArray, List.getElem_cons_zero, List.getElem_cons_succ, List.setIfInBounds_toArray, List.set_cons_zero, List.set_cons_succ]
                  refine wpAnyH_take (i := 8) (v := ?_) rfl (by kernel_rfl) (by kernel_rfl) (by kernel_rfl) (fun _ _ _ h => h) (Or.inl ⟨by rfl, ?_⟩) hHeld ?_
                  rotate_left
                  focus
                    intro w hSw
                    clear hSw
                    go_simp
                    try with_reducible rfl
                  try simp only [Act.put, List.getElem_toArray, List.getElem_cons_zero, List.getElem_cons_succ, List.setIfInBounds_toArray, List.set_cons_zero, List.set_cons_succ]
                  refine wpAnyH_take (i := 9) (v := ?_) rfl (by kernel_rfl) (by kernel_rfl) (by kernel_rfl) (fun _ _ _ h => h) (Or.inl ⟨by rfl, ?_⟩) hHeld ?_
                  rotate_left
                  focus
                    intro w hSw
                    (try dsimp only at hSw)
                    go_simp
                    try with_reducible rfl
                  try simp only [Act.put, List.getElem_toArray, List.getElem_cons_zero, List.getElem_cons_succ, List.setIfInBounds_toArray, List.set_cons_zero, List.set_cons_succ]
                  refine wpAnyH_take (i := 10) (v := ?_) rfl (by kernel_rfl) (by kernel_rfl) (by kernel_rfl) (fun _ _ _ h => h) (Or.inl ⟨by rfl, ?_⟩) hHeld ?_
                  rotate_left
                  focus
                    intro w hSw
                    clear hSw
                    go_simp
                    try with_reducible rfl
                  try simp only [Act.put, List.getElem_toArray, List.getElem_cons_zero, List.getElem_cons_succ, List.setIfInBounds_toArray, List.set_cons_zero, List.set_cons_succ]
                  refine wpAnyH_take (i := 11) (v := ?_) rfl (by kernel_rfl) (by kernel_rfl) (by kernel_rfl) (fun _ _ _ h => h) (Or.inl ⟨by rfl, ?_⟩) hHeld ?_
                  rotate_left
                  focus
                    intro w hSw
                    clear hSw
                    go_simp
                    try with_reducible rfl
                  try simp only [Act.put, List.getElem_toArray, List.getElem_cons_zero, List.getElem_cons_succ, List.setIfInBounds_toArray, List.set_cons_zero, List.set_cons_succ]
                  refine wpAnyH_take (i := 12) (v := ?_) rfl (by kernel_rfl) (by kernel_rfl) (by kernel_rfl) (fun _ _ _ h => h) (Or.inl ⟨by rfl, ?_⟩) hHeld ?_
                  rotate_left
                  focus
                    intro w hSw
                    clear hSw
                    go_simp
                    try with_reducible rfl
                  try simp only [Act.put, List.getElem_toArray, List.getElem_cons_zero, List.getElem_cons_succ, List.setIfInBounds_toArray, List.set_cons_zero, List.set_cons_succ]
                  refine wpAnyH_take (i := 13) (v := ?_) rfl (by kernel_rfl) (by kernel_rfl) (by kernel_rfl) (fun _ _ _ h => h) (Or.inl ⟨by rfl, ?_⟩) hHeld ?_
                  rotate_left
                  focus
                    intro w hSw
                    (try dsimp only at hSw)
                    go_simp
                    try with_reducible rfl
                  try simp only [Act.put, List.getElem_toArray, List.getElem_cons_zero, List.getElem_cons_succ, List.setIfInBounds_toArray, List.set_cons_zero, List.set_cons_succ]
                  refine wpAnyH_take (i := 14) (v := ?_) rfl (by kernel_rfl) (by kernel_rfl) (by kernel_rfl) (fun _ _ _ h => h) (Or.inl ⟨by rfl, ?_⟩) hHeld ?_
                  rotate_left
                  focus
                    intro w hSw
                    clear hSw
                    go_simp
                    try with_reducible rfl
                  try simp only [Act.put, List.getElem_toArray, List.getElem_cons_zero, List.getElem_cons_succ, List.setIfInBounds_toArray, List.set_cons_zero, List.set_cons_succ]
                  refine wpAnyH_take (i := 15) (v := ?_) rfl (by kernel_rfl) (by kernel_rfl) (by kernel_rfl) (fun _ _ _ h => h) (Or.inl ⟨by rfl, ?_⟩) hHeld ?_
                  rotate_left
                  focus
                    intro w hSw
                    clear hSw
                    go_simp
                    try with_reducible rfl
                  try simp only [Act.put, List.getElem_toArray, List.getElem_cons_zero, List.getElem_cons_succ, List.setIfInBounds_toArray, List.set_cons_zero, List.set_cons_succ]
                  refine wpAnyH_take (i := 16) (v := ?_) rfl (by kernel_rfl) (by kernel_rfl) (by kernel_rfl) (fun _ _ _ h => h) (Or.inl ⟨by rfl, ?_⟩) hHeld ?_
                  rotate_left
                  focus
                    intro w hSw
                    clear hSw
                    go_simp
                    try with_reducible rfl
                  try simp only [Act.put, List.getElem_toArray, List.getElem_cons_zero, List.getElem_cons_succ, List.setIfInBounds_toArray, List.set_cons_zero, List.set_cons_succ]
                  refine wpAnyH_take (i := 17) (v := ?_) rfl (by kernel_rfl) (by kernel_rfl) (by kernel_rfl) (fun _ _ _ h => h) (Or.inl ⟨by rfl, ?_⟩) hHeld ?_
                  rotate_left
                  focus
                    intro w hSw
                    clear hSw
                    go_simp
                    try with_reducible rfl
                  try simp only [Act.put, List.getElem_toArray, List.getElem_cons_zero, List.getElem_cons_succ, List.setIfInBounds_toArray, List.set_cons_zero, List.set_cons_succ]
                  refine wpAnyH_ready (rs := [1]) (by kernel_rfl) (by simp) ?_
                  refine AllReadyH.cons rfl (fun K hK => ?_) AllReadyH.nil
                  go_simp
                  refine (rint_c z HZI.out.1 HZI.out.2 _).mono ?_
                  rintro e W1 ⟨rfl, hb1⟩
                  have c0 := (hb1.cell (p := ⟨q, 0, none⟩) hqs).trans c0
                  have c1 := (hb1.cell (p := ⟨q, 1, none⟩) hqs).trans c1
                  have HB4 := Lib.hid hb1
                  clear hb1
                  rw [← HSA.out]
                  refine hK.out _ _ ⟨c0, c1⟩ (fun hHeld => ?_)
                  clear hK K
                  try simp only [Act.put, List.getElem_toArray, List.getElem_cons_zero, List.getElem_cons_succ, List.setIfInBounds_toArray, List.set_cons_zero, List.set_cons_succ]
                  refine wpAnyH_take (i := 18) (v := ?_) rfl (by kernel_rfl) (by kernel_rfl) (by kernel_rfl) (fun _ _ _ h => h) (Or.inl ⟨by rfl, ?_⟩) hHeld ?_
                  rotate_left
                  focus
                    intro w hSw
                    clear hSw
                    go_simp
                    try with_reducible rfl
                  try simp only [Act.put, List.getElem_toArray, List.getElem_cons_zero, List.getElem_cons_succ, List.setIfInBounds_toArray, List.set_cons_zero, List.set_cons_succ]
                  refine wpAnyH_done (by kernel_rfl) ?_ _
                  refine NoPanic.normal ?_
                  have HB5 := Lib.hid (HB.out.drew.drew.drew.trans (HB4.out.mono HB.out.size))
                  go_wp2_with fail
                  refine (rfail_c q s (pos, none) pos W1 (Lib.hid (HRV.out W1 HB5.out))).mono ?_
                  rintro e W9 ⟨rfl, hr9, ht9⟩
                  have HF : Hid (RefIQ w q s (rdI s (pos, none)) (.returned (.int .i64 0)) W9) := by
                    rw [HRD.out]
                    exact ⟨rfl, hr9, (Turns.of_below HB5.out).trans ht9 (fun _ _ h => h)⟩
                  clear hr9 ht9
                  go_wp2_with fail
                  go_ret
                  exact HF.out
          · have hr : Hid (decR T 0 0 = decR (T.drop (k + 1)) (k + 1) (u + (b.toNat % 128) * 128 ^ k)) := by
              show _ = _
              rw [HD.out, drop_cons' HBT.out]
              conv => lhs; unfold decR
              rw [if_neg hA, if_neg hB]
            generalize b.toNat = c at *
            have hk8 : k ≤ 8 := by omega
            have dk : ((k : Int) == 9) = false := beq_eq_false_iff_ne.2 (by omega)
            have d128 : decide ((128 : Int) ≤ (c : Int)) = true := by simp; omega
            clear hA
            go_wp2_with fail
            refine ⟨⟨k + 1, u + (c % 128) * 128 ^ k, _, rfl, by omega, by omega, by go_num, ?_, ?_, hr, (show Hid _ from HB.out.drew.drew)⟩, ?_⟩
            · have := add_sh HU.out hcl hk9 (fun e => by omega)
              exact congrArg (Value.int IntKind.u64) (by rw [← this]; push_cast; rfl)
            · have := HU.out
              rw [Nat.pow_succ]
              have h3 : (c % 128) * 128 ^ k ≤ 127 * 128 ^ k := Nat.mul_le_mul_right _ (by omega)
              omega
            · simp [intOf]; omega
      · have hlt' : ¬ (pos : Int) + (k : Int) < (s.size : Int) := by omega
        have HRD : Hid (rdI s (pos, none) = (0, (s.size, some pos))) := rd_none (by
          rw [← HT.out]
          refine readI_none ?_
          rw [HD.out, List.drop_eq_nil_of_le (by have := HTL.out; omega)]
          rfl)
        go_wp2_with fail
        refine wp_region_noPanic ?_
        refine wp_region_held_drew (S := (fun w' => w'.cell? ⟨q, 0, none⟩ = some (.string s) ∧ w'.cell? ⟨q, 1, none⟩ = some (.int .i64 pos))) (by kernel_rfl) ⟨c0, c1⟩ (fun hHeld => ?_)
        refine wpAnyH_take (i := 0) (v := ?_) rfl (by kernel_rfl) (by kernel_rfl) (by kernel_rfl) (fun _ _ _ h => h) (Or.inl ⟨by rfl, ?_⟩) hHeld ?_
        rotate_left
        focus
          intro w hSw
          clear hSw
          go_simp
          try with_reducible rfl
        try simp only [Act.put, List.getElem_toArray, List.getElem_cons_zero, List.getElem_cons_succ, List.setIfInBounds_toArray, List.set_cons_zero, List.set_cons_succ]
        refine wpAnyH_take (i := 1) (v := ?_) rfl (by kernel_rfl) (by kernel_rfl) (by kernel_rfl) (fun _ _ _ h => h) (Or.inl ⟨by rfl, ?_⟩) hHeld ?_
        rotate_left
        focus
          intro w hSw
          clear hSw
          go_simp
          try with_reducible rfl
        try simp only [Act.put, List.getElem_toArray, List.getElem_cons_zero, List.getElem_cons_succ, List.setIfInBounds_toArray, List.set_cons_zero, List.set_cons_succ]
        refine wpAnyH_take (i := 2) (v := ?_) rfl (by kernel_rfl) (by kernel_rfl) (by kernel_rfl) (fun _ _ _ h => h) (Or.inl ⟨by rfl, ?_⟩) hHeld ?_
        rotate_left
        focus
          intro w hSw
          clear hSw
          go_simp
          try with_reducible rfl
        try simp only [Act.put, List.getElem_toArray, List.getElem_cons_zero, List.getElem_cons_succ, List.setIfInBounds_toArray, List.set_cons_zero, List.set_cons_succ]
        refine wpAnyH_take (i := 3) (v := ?_) rfl (by kernel_rfl) (by kernel_rfl) (by kernel_rfl) (fun _ _ _ h => h) (Or.inl ⟨by rfl, ?_⟩) hHeld ?_
        rotate_left
        focus
          intro w hSw
          clear hSw
          go_simp
          try with_reducible rfl
        try simp only [Act.put, List.getElem_toArray, List.getElem_cons_zero, List.getElem_cons_succ, List.setIfInBounds_toArray, List.set_cons_zero, List.set_cons_succ]
        refine wpAnyH_take (i := 4) (v := ?_) rfl (by kernel_rfl) (by kernel_rfl) (by kernel_rfl) (fun _ _ _ h => h) (Or.inl ⟨by rfl, ?_⟩) hHeld ?_
        rotate_left
        focus
          intro w hSw
          clear hSw
          go_simp
          try with_reducible rfl
        try simp only [Act.put, List.getElem_toArray, List.getElem_cons_zero, List.getElem_cons_succ, List.setIfInBounds_toArray, List.set_cons_zero, List.set_cons_succ]
        refine wpAnyH_take (i := 5) (v := ?_) rfl (by kernel_rfl) (by kernel_rfl) (by kernel_rfl) (fun _ _ _ h => h) (Or.inl ⟨by rfl, ?_⟩) hHeld ?_
        rotate_left
        focus
          intro w hSw
          clear hSw
          go_simp
          try with_reducible rfl
        try simp only [Act.put, List.getElem_toArray, List.getElem_cons_zero, List.getElem_cons_succ, List.setIfInBounds_toArray, List.set_cons_zero, List.set_cons_succ]
        refine wpAnyH_take (i := 6) (v := ?_) rfl (by kernel_rfl) (by kernel_rfl) (by kernel_rfl) (fun _ _ _ h => h) (Or.inl ⟨by rfl, ?_⟩) hHeld ?_
        rotate_left
        focus
          intro w hSw
          (try dsimp only at hSw)
          go_simp
          try with_reducible rfl
        try simp only [Act.put, List.getElem_toArray, List.getElem_cons_zero, List.getElem_cons_succ, List.setIfInBounds_toArray, List.set_cons_zero, List.set_cons_succ]
        refine wpAnyH_take (i := 7) (v := ?_) rfl (by kernel_rfl) (by kernel_rfl) (by kernel_rfl) (fun _ _ _ h => h) (Or.inl ⟨by rfl, ?_⟩) hHeld ?_
        rotate_left
        focus
          intro w hSw
          clear hSw
          go_simp
          try with_reducible rfl
        try simp only [Act.put, List.getElem_toArray, List.getElem_cons_zero, List.getElem_cons_succ, List.setIfInBounds_toArray, List.set_cons_zero, List.set_cons_succ]
        refine wpAnyH_take (i := 8) (v := ?_) rfl (by kernel_rfl) (by kernel_rfl) (by kernel_rfl) (fun _ _ _ h => h) (Or.inl ⟨by rfl, ?_⟩) hHeld ?_
        rotate_left
        focus
          intro w hSw
          clear hSw
          go_simp
          try with_reducible rfl
        try simp only [Act.put, List.getElem_toArray, List.getElem_cons_zero, List.getElem_cons_succ, List.setIfInBounds_toArray, List.set_cons_zero, List.set_cons_succ]
        refine wpAnyH_take (i := 9) (v := ?_) rfl (by kernel_rfl) (by kernel_rfl) (by kernel_rfl) (fun _ _ _ h => h) (Or.inl ⟨by rfl, ?_⟩) hHeld ?_
        rotate_left
        focus
          intro w hSw
          clear hSw
          go_simp
          try with_reducible rfl
        try simp only [Act.put, List.getElem_toArray, List.getElem_cons_zero, List.getElem_cons_succ, List.setIfInBounds_toArray, List.set_cons_zero, List.set_cons_succ]
        refine wpAnyH_take (i := 10) (v := ?_) rfl (by kernel_rfl) (by kernel_rfl) (by kernel_rfl) (fun _ _ _ h => h) (Or.inl ⟨by rfl, ?_⟩) hHeld ?_
        rotate_left
        focus
          intro w hSw
          clear hSw
          go_simp
          try with_reducible rfl
        try simp only [Act.put, List.getElem_toArray, List.getElem_cons_zero, List.getElem_cons_succ, List.setIfInBounds_toArray, List.set_cons_zero, List.set_cons_succ]
        refine wpAnyH_take (i := 11) (v := ?_) rfl (by kernel_rfl) (by kernel_rfl) (by kernel_rfl) (fun _ _ _ h => h) (Or.inl ⟨by rfl, ?_⟩) hHeld ?_
        rotate_left
        focus
          intro w hSw
          clear hSw
          go_simp
          try with_reducible rfl
        try simp only [Act.put, List.getElem_toArray, List.getElem_cons_zero, List.getElem_cons_succ, List.setIfInBounds_toArray, List.set_cons_zero, List.set_cons_succ]
        refine wpAnyH_take (i := 12) (v := ?_) rfl (by kernel_rfl) (by kernel_rfl) (by kernel_rfl) (fun _ _ _ h => h) (Or.inl ⟨by rfl, ?_⟩) hHeld ?_
        rotate_left
        focus
          intro w hSw
          (try dsimp only at hSw)
          go_simp
          try with_reducible rfl
        try simp only [Act.put, List.getElem_toArray, List.getElem_cons_zero, List.getElem_cons_succ, List.setIfInBounds_toArray, List.set_cons_zero, List.set_cons_succ]
        refine wpAnyH_take (i := 13) (v := ?_) rfl (by kernel_rfl) (by kernel_rfl) (by kernel_rfl) (fun _ _ _ h => h) (Or.inl ⟨by rfl, ?_⟩) hHeld ?_
        rotate_left
        focus
          intro w hSw
          clear hSw
          go_simp
          try with_reducible rfl
        try simp only [Act.put, List.getElem_toArray, List.getElem_cons_zero, List.getElem_cons_succ, List.setIfInBounds_toArray, List.set_cons_zero, List.set_cons_succ]
        refine wpAnyH_take (i := 14) (v := ?_) rfl (by kernel_rfl) (by kernel_rfl) (by kernel_rfl) (fun _ _ _ h => h) (Or.inl ⟨by rfl, ?_⟩) hHeld ?_
        rotate_left
        focus
          intro w hSw
          clear hSw
          go_simp
          try with_reducible rfl
        try simp only [Act.put, List.getElem_toArray, List.getElem_cons_zero, List.getElem_cons_succ, List.setIfInBounds_toArray, List.set_cons_zero, List.set_cons_succ]
        refine wpAnyH_take (i := 15) (v := ?_) rfl (by kernel_rfl) (by kernel_rfl) (by kernel_rfl) (fun _ _ _ h => h) (Or.inl ⟨by rfl, ?_⟩) hHeld ?_
        rotate_left
        focus
          intro w hSw
          clear hSw
          go_simp
          try with_reducible rfl
        try simp only [Act.put, List.getElem_toArray, List.getElem_cons_zero, List.getElem_cons_succ, List.setIfInBounds_toArray, List.set_cons_zero, List.set_cons_succ]
        refine wpAnyH_done (by kernel_rfl) ?_ _
        refine NoPanic.normal ?_
        go_wp2_with fail
        refine (rfail_c q s (pos, none) pos W0.drew (Lib.hid (HRV.out W0.drew HB.out.drew))).mono ?_
        rintro e W9 ⟨rfl, hr9, ht9⟩
        have HF : Hid (RefIQ w q s (rdI s (pos, none)) (.returned (.int .i64 0)) W9) := by
          rw [HRD.out]
          exact ⟨rfl, hr9, (Turns.of_below HB.out.drew).trans ht9 (fun _ _ h => h)⟩
        clear hr9 ht9
        go_wp2_with fail
        go_ret
        exact HF.out
end Go.Proofs.YtdebldpmloignaaDoor
