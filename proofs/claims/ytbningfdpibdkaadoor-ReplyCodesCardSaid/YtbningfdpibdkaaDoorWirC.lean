/-
  wire: the reader: Of, fail, Left, Err, End, raw.
-/
import Derived.Test.YtbningfdpibdkaaDoorAsF
import Derived.Test.YtbningfdpibdkaaDoorWirQ
import Derived.Lib.ConvBytes
import Derived.Outline
namespace Go.Proofs.YtbningfdpibdkaaDoor
open Go.RowKit
set_option linter.unusedVariables false
set_option linter.unusedSimpArgs false

def RD : ByteArray := ⟨#[114, 101, 97, 100]⟩
def EN : ByteArray := ⟨#[101, 110, 100]⟩
/-- An error of the reader's: none, or a Fault with its place. -/
def FaultIs (w : World) (E : Nat → Addr) (op : ByteArray) (er : Value) : Option Nat → Prop
  | none => er = .nilIface
  | some z => ∃ g, er = faultV g ∧ Blk w g #[.string op, .int .i64 z, erV E 3] 34
theorem FaultIs.of {w w' : World} {E : Nat → Addr} {op : ByteArray} {er : Value} {b : Option Nat} (ht : ∀ g cs, Blk w g cs 34 → Blk w' g cs 34) (h : FaultIs w E op er b) : FaultIs w' E op er b := by
  cases b with
  | none => exact h
  | some z => obtain ⟨g, h1, h2⟩ := h; exact ⟨g, h1, ht _ _ h2⟩
/-- A reader in block q. -/
structure InV (w : World) (E : Nat → Addr) (q : Nat) (s : ByteArray) (pos : Nat) (er : Value) (bad : Option Nat) : Prop where
  blk : Blk w q #[.string s, .int .i64 pos, er] 191
  err : FaultIs w E RD er bad
  le : pos ≤ s.size
theorem InV.turns {F : Nat → Prop} {w w' : World} {E : Nat → Addr} {q : Nat} {s : ByteArray} {pos : Nat} {er : Value} {bad : Option Nat} (h : InV w E q s pos er bad) (ht : Turns F w w') (hq : ¬ F q) (hF : ∀ g cs, Blk w g cs 34 → ¬ F g) : InV w' E q s pos er bad :=
  ⟨ht.blk h.blk hq, h.err.of (fun g cs hb => ht.blk hb (hF g cs hb)), h.le⟩
theorem InV.below {w w' : World} {E : Nat → Addr} {q : Nat} {s : ByteArray} {pos : Nat} {er : Value} {bad : Option Nat} (h : InV w E q s pos er bad) (hb : Below w.heap.size w w') : InV w' E q s pos er bad :=
  h.turns (Turns.of_below (F := fun _ => False) hb) (fun h => h) (fun _ _ _ h => h)
theorem blk_ne {w : World} {q g : Nat} {cs ds : Array Value} {T U : TypeId} (h : Blk w q cs T) (k : Blk w g ds U) (hT : T ≠ U) : g ≠ q := fun e => by
  subst e
  have := h.symm.trans k
  simp at this
  exact hT this.2
theorem InV.er_nil {w : World} {E : Nat → Addr} {q : Nat} {s : ByteArray} {pos : Nat} {er : Value} (h : InV w E q s pos er none) : er = .nilIface := h.err
theorem InV.er_some {w : World} {E : Nat → Addr} {q : Nat} {s : ByteArray} {pos : Nat} {er : Value} {z : Nat} (h : InV w E q s pos er (some z)) : ∃ g, er = faultV g ∧ Blk w g #[.string RD, .int .i64 z, erV E 3] 34 := h.err
set_option maxRecDepth 100000 in
theorem of_c (E : Nat → Addr) (s : ByteArray) (w : World) :
    Calls Tryd.prog 70 #[.string s] w fun e w' => e = .returned (.pointer (some ⟨w.heap.size, 0, none⟩)) ∧ InV w' E w.heap.size s 0 .nilIface none ∧ Below w.heap.size w w' := by
  go_enter Tryd.func70, Tryd.ntmps70
  go_wp2_with fail
  go_ret
  exact ⟨rfl, ⟨Blk.new w _ _, rfl, Nat.zero_le _⟩, (Below.refl _ w).alloc (Nat.le_refl _) _⟩
def FailQ (w : World) (E : Nat → Addr) (q : Nat) (s : ByteArray) (z : Nat) (e : Ending) (w' : World) : Prop := e = .returned (.tuple #[]) ∧ (∃ er, InV w' E q s s.size er (some z)) ∧ Turns (fun k => k = q) w w'
set_option maxRecDepth 100000 in
theorem fail_c (E : Nat → Addr) (q : Nat) (s : ByteArray) (pos z : Nat) (er : Value) (bad : Option Nat) (w : World) (h : Hid (InV w E q s pos er bad)) (hE : w.cell? ⟨1, 0, none⟩ = some (erV E 3)) :
    Calls Tryd.prog 106 #[.pointer (some ⟨q, 0, none⟩), .int .i64 z] w (FailQ w E q s z) := by
  have c0 := h.out.blk.cell 0 _ rfl
  have f1 := h.out.blk.free 1
  have f2 := h.out.blk.free 2
  have c1 := h.out.blk.cell 1 _ rfl
  have c2 := h.out.blk.cell 2 _ rfl
  have hlt := h.out.blk.lt
  have hne : ¬ q = w.heap.size := by omega
  have HF : Hid (∀ w', w' = (((w.setCell ⟨q, 2, none⟩ (faultV w.heap.size)).setCell ⟨q, 1, none⟩ (.int .i64 s.size)).alloc (.cells #[.string RD, .int .i64 z, erV E 3] 34)) → FailQ w E q s z (.returned (.tuple #[])) w') := fun w' hw => by
    subst hw
    have hb : Blk ((w.setCell ⟨q, 2, none⟩ (faultV w.heap.size)).setCell ⟨q, 1, none⟩ (.int .i64 s.size)) q #[.string s, .int .i64 s.size, faultV w.heap.size] 191 := (h.out.blk.set 2 _).set 1 _
    have hsz : ((w.setCell ⟨q, 2, none⟩ (faultV w.heap.size)).setCell ⟨q, 1, none⟩ (.int .i64 s.size)).heap.size = w.heap.size := by simp [World.setCell]
    refine ⟨rfl, ⟨faultV w.heap.size, hb.below ((Below.refl _ _).alloc (Nat.le_refl _) _), ⟨w.heap.size, rfl, ?_⟩, Nat.le_refl _⟩, ?_⟩
    · have := Blk.new ((w.setCell ⟨q, 2, none⟩ (faultV w.heap.size)).setCell ⟨q, 1, none⟩ (.int .i64 s.size)) #[.string RD, .int .i64 z, erV E 3] 34
      rwa [hsz] at this
    · exact ((Turns.set (F := fun k => k = q) rfl).trans (Turns.set (F := fun k => k = q) rfl) (fun _ _ h => h)).trans (Turns.alloc (F := fun k => k = q) _) (fun _ _ h => h)
  rw [erV_some E 3 (by decide)] at hE
  clear h
  go_enter Tryd.func106, Tryd.ntmps106
  go_wp2_with fail
  go_end0
  exact HF.out _ rfl
set_option maxRecDepth 100000 in
theorem left_c (E : Nat → Addr) (q : Nat) (s : ByteArray) (pos : Nat) (er : Value) (bad : Option Nat) (w : World) (h : Hid (InV w E q s pos er bad)) (hs : s.size ≤ 1000000) :
    Calls Tryd.prog 108 #[.pointer (some ⟨q, 0, none⟩)] w fun e w' => e = .returned (.int .i64 ((s.size - pos : Nat) : Int)) ∧ Below w.heap.size w w' := by
  have c0 := h.out.blk.cell 0 _ rfl
  have c1 := h.out.blk.cell 1 _ rfl
  have hle := h.out.le
  have hw : (s.size : Int) - (pos : Int) = ((s.size - pos : Nat) : Int) := by omega
  have HW := Lib.hid hw
  clear h hw
  go_enter Tryd.func108, Tryd.ntmps108
  go_wp2_with fail
  go_quiet (fail)
  go_wp2_with fail
  go_ret
  exact ⟨ret_int HW.out, below_dN (Below.refl _ _)⟩
set_option maxRecDepth 100000 in
theorem left_nil (w : World) : Calls Tryd.prog 108 #[.pointer none] w fun e w' => e = .returned (.int .i64 0) ∧ w = w' := by
  go_enter Tryd.func108, Tryd.ntmps108
  go_wp2_with fail
  go_ret
  exact ⟨rfl, rfl⟩
set_option maxRecDepth 100000 in
theorem err_c (E : Nat → Addr) (q : Nat) (s : ByteArray) (pos : Nat) (er : Value) (bad : Option Nat) (w : World) (h : Hid (InV w E q s pos er bad)) :
    Calls Tryd.prog 72 #[.pointer (some ⟨q, 0, none⟩)] w fun e w' => e = .returned er ∧ w = w' := by
  have c2 := h.out.blk.cell 2 _ rfl
  clear h
  go_enter Tryd.func72, Tryd.ntmps72
  go_wp2_with fail
  go_ret
  exact ⟨rfl, rfl⟩
set_option maxRecDepth 100000 in
theorem err_nil (E : Nat → Addr) (w : World) (hE : w.cell? ⟨3, 0, none⟩ = some (erV E 2)) : Calls Tryd.prog 72 #[.pointer none] w fun e w' => e = .returned (erV E 2) ∧ w = w' := by
  go_enter Tryd.func72, Tryd.ntmps72
  go_wp2_with fail
  go_ret
  exact ⟨rfl, rfl⟩
theorem extract_drop (s : ByteArray) (p : Nat) : (s.extract p s.size).data.toList = s.data.toList.drop p := by
  rw [ByteArray.data_extract, Array.toList_extract]
  simp only [List.extract_eq_take_drop]
  rw [List.take_of_length_le]
  rw [List.length_drop]
  show s.data.toList.length - p ≤ s.data.size - p
  simp
theorem drop_cons' {α : Type} {l : List α} {i : Nat} {x : α} (h : l[i]? = some x) : l.drop i = x :: l.drop (i + 1) := by
  obtain ⟨hi, rfl⟩ := List.getElem?_eq_some_iff.1 h
  exact List.drop_eq_getElem_cons hi
theorem or_sh {u c k : Nat} (hu : u < 128 ^ k) (hc : c < 256) (hk : k ≤ 8) : bits .or .u64 (u : Int) (IntKind.u64.wrap (IntKind.u64.wrap (bits .and .u8 (c : Int) 127) * 2 ^ (7 * k))) = ((u + (c % 128) * 128 ^ k : Nat) : Int) := by
  have h1 : bits .and .u8 (c : Int) 127 = ((c % 128 : Nat) : Int) := by
    have := u8_and_nat c 127 hc (by decide)
    rwa [nat_mask7] at this
  have hP : (128 : Nat) ^ k ≤ 128 ^ 8 := Nat.pow_le_pow_right (by omega) hk
  have h8 : (128 : Nat) ^ 8 = 72057594037927936 := by decide
  rw [h8] at hP
  have h2 : ((2 : Int) ^ (7 * k)) = ((128 ^ k : Nat) : Int) := by
    rw [show (128 : Nat) ^ k = 2 ^ (7 * k) by rw [Nat.pow_mul]]
    exact (Int.natCast_pow 2 (7 * k)).symm
  rw [h1, h2]
  have h3 : (c % 128) * 128 ^ k ≤ 127 * 72057594037927936 := Nat.mul_le_mul (by omega) hP
  have h4 : IntKind.u64.wrap ((c % 128 : Nat) : Int) = ((c % 128 : Nat) : Int) := by simp [IntKind.wrap, IntKind.signed, IntKind.bits]; omega
  rw [h4, ← Int.natCast_mul]
  have h5 : IntKind.u64.wrap (((c % 128) * 128 ^ k : Nat) : Int) = (((c % 128) * 128 ^ k : Nat) : Int) := by
    generalize (c % 128) * 128 ^ k = z at h3 ⊢
    simp [IntKind.wrap, IntKind.signed, IntKind.bits]; omega
  rw [h5, u64_or_nat _ _ (by omega) (by omega), Nat.or_comm, nat_join (7 * k) _ _ ?_ ?_, Nat.add_comm]
  · rw [Nat.pow_mul]
    exact Nat.mul_mod_left _ _
  · rw [Nat.pow_mul]; exact hu
theorem or_sh9 {u : Nat} (hu : u < 128 ^ 9) : bits .or .u64 (u : Int) (IntKind.u64.wrap (IntKind.u64.wrap (bits .and .u8 1 127) * 9223372036854775808)) = ((u + 1 * 128 ^ 9 : Nat) : Int) := by
  rw [pow9] at *
  have h1 : IntKind.u64.wrap (IntKind.u64.wrap (bits .and .u8 1 127) * 9223372036854775808) = ((9223372036854775808 : Nat) : Int) := by
    have := u8_and_nat 1 127 (by decide) (by decide)
    rw [show bits .and .u8 (1 : Int) 127 = ((1 &&& 127 : Nat) : Int) from this]
    decide
  rw [h1, u64_or_nat _ _ (by omega) (by omega), Nat.or_comm, nat_join 63 _ _ (by decide) (by omega), Nat.add_comm]
theorem or_sh0 {u : Nat} (hu : u < 128 ^ 0) : bits .or .u64 (u : Int) (IntKind.u64.wrap (IntKind.u64.wrap (bits .and .u8 0 127))) = ((u + 0 * 128 ^ 0 : Nat) : Int) := by
  have h0 : u = 0 := by simpa using hu
  subst h0
  have := u8_and_nat 0 127 (by decide) (by decide)
  rw [show bits .and .u8 (0 : Int) 127 = ((0 &&& 127 : Nat) : Int) from this]
  have h1 : IntKind.u64.wrap (IntKind.u64.wrap ((0 &&& 127 : Nat) : Int)) = ((0 : Nat) : Int) := by decide
  rw [h1, u64_or_nat _ _ (by decide) (by decide)]
  rfl
theorem ret_pair {a b : Int} {c d : Int} (h : a = b) (k : c = d) : Ending.returned (.tuple #[.int .u64 a, .int .i64 c]) = .returned (.tuple #[.int .u64 b, .int .i64 d]) := by rw [h, k]
def RawQ (w : World) (r : Nat × Nat) (e : Ending) (w' : World) : Prop := e = .returned (.tuple #[.int .u64 r.1, .int .i64 r.2]) ∧ Below w.heap.size w w'
set_option maxRecDepth 100000 in
set_option maxHeartbeats 4000000 in
theorem raw_c (E : Nat → Addr) (q : Nat) (s : ByteArray) (pos : Nat) (er : Value) (bad : Option Nat) (w : World) (h : Hid (InV w E q s pos er bad)) (hs : s.size ≤ 1000000) :
    Calls Tryd.prog 105 #[.pointer (some ⟨q, 0, none⟩)] w (RawQ w (decA (s.data.toList.drop pos) 0 0)) := by
  have c0 := h.out.blk.cell 0 _ rfl
  have c1 := h.out.blk.cell 1 _ rfl
  have hle := h.out.le
  have hqlt := h.out.blk.lt
  clear h
  have hps : (pos : Int) ≤ (s.size : Int) := by omega
  have hcv := fun (w' : World) (t : ByteArray) => Lib.run_convert_string_bytes (P := Tryd.prog) w' 9 110 5 t Tryd.underlying9 Tryd.underlying110 Tryd.underlying5
  go_enter Tryd.func105, Tryd.ntmps105
  go_wp2_with fail
  refine wp_region_noPanic ?_
  refine wp_region_held_drew (S := (fun w' => w'.cell? ⟨q, 0, none⟩ = some (.string s) ∧ w'.cell? ⟨q, 1, none⟩ = some (.int .i64 pos))) (by kernel_rfl) ⟨c0, c1⟩ (fun hHeld => ?_)
  refine wpAnyH_take (i := 0) (v := ?_) rfl (by kernel_rfl) (by kernel_rfl) (by kernel_rfl) (fun _ _ _ h => h) (Or.inl ⟨by rfl, ?_⟩) hHeld ?_
  rotate_left
  focus
    intro w hSw
    clear hSw
    go_simp
    try with_reducible rfl
  try simp only [Act.put, List.getElem_toArray, List.getElem_cons_zero, List.getElem_cons_succ, List.setIfInBounds_toArray, List.set_cons_zero, List.set_cons_succ]
  refine wpAnyH_take (i := 1) (v := ?_) rfl (by kernel_rfl) (by kernel_rfl) (by kernel_rfl) (fun _ _ _ h => h) (Or.inl ⟨by rfl, ?_⟩) hHeld ?_
  rotate_left
  focus
    intro w hSw
    clear hSw
    go_simp
    try with_reducible rfl
  try simp only [Act.put, List.getElem_toArray, List.getElem_cons_zero, List.getElem_cons_succ, List.setIfInBounds_toArray, List.set_cons_zero, List.set_cons_succ]
  refine wpAnyH_take (i := 2) (v := ?_) rfl (by kernel_rfl) (by kernel_rfl) (by kernel_rfl) (fun _ _ _ h => h) (Or.inl ⟨by rfl, ?_⟩) hHeld ?_
  rotate_left
  focus
    intro w hSw
    clear hSw
    go_simp
    try with_reducible rfl
  try simp only [Act.put, List.getElem_toArray, List.getElem_cons_zero, List.getElem_cons_succ, List.setIfInBounds_toArray, List.set_cons_zero, List.set_cons_succ]
  refine wpAnyH_take (i := 3) (v := ?_) rfl (by kernel_rfl) (by kernel_rfl) (by kernel_rfl) (fun _ _ _ h => h) (Or.inl ⟨by rfl, ?_⟩) hHeld ?_
  rotate_left
  focus
    intro w hSw
    (try dsimp only at hSw)
    go_simp
    try with_reducible rfl
  try simp only [Act.put, List.getElem_toArray, List.getElem_cons_zero, List.getElem_cons_succ, List.setIfInBounds_toArray, List.set_cons_zero, List.set_cons_succ]
  refine wpAnyH_take (i := 4) (v := ?_) rfl (by kernel_rfl) (by kernel_rfl) (by kernel_rfl) (fun _ _ _ h => h) (Or.inl ⟨by rfl, ?_⟩) hHeld ?_
  rotate_left
  focus
    intro w hSw
    clear hSw
    go_simp
    try with_reducible rfl
  try simp only [Act.put, List.getElem_toArray, List.getElem_cons_zero, List.getElem_cons_succ, List.setIfInBounds_toArray, List.set_cons_zero, List.set_cons_succ]
  refine wpAnyH_take (i := 5) (v := ?_) rfl (by kernel_rfl) (by kernel_rfl) (by kernel_rfl) (fun _ _ _ h => h) (Or.inl ⟨by rfl, ?_⟩) hHeld ?_
  rotate_left
  focus
    intro w hSw
    clear hSw
    go_simp
    try with_reducible rfl
  try simp only [Act.put, List.getElem_toArray, List.getElem_cons_zero, List.getElem_cons_succ, List.setIfInBounds_toArray, List.set_cons_zero, List.set_cons_succ]
  refine wpAnyH_take (i := 6) (v := ?_) rfl (by kernel_rfl) (by kernel_rfl) (by kernel_rfl) (fun _ _ _ h => h) (Or.inl ⟨by rfl, ?_⟩) hHeld ?_
  rotate_left
  focus
    intro w hSw
    clear hSw
    go_simp
    try with_reducible rfl
  try simp only [Act.put, List.getElem_toArray, List.getElem_cons_zero, List.getElem_cons_succ, List.setIfInBounds_toArray, List.set_cons_zero, List.set_cons_succ]
  refine wpAnyH_take (i := 7) (v := ?_) rfl (by kernel_rfl) (by kernel_rfl) (by kernel_rfl) (fun _ _ _ h => h) (Or.inl ⟨by rfl, ?_⟩) hHeld ?_
  rotate_left
  focus
    intro w hSw
    (try dsimp only at hSw)
    go_simp
    try with_reducible rfl
  try simp only [Act.put, List.getElem_toArray, List.getElem_cons_zero, List.getElem_cons_succ, List.setIfInBounds_toArray, List.set_cons_zero, List.set_cons_succ]
  refine wpAnyH_take (i := 8) (v := ?_) rfl (by kernel_rfl) (by kernel_rfl) (by kernel_rfl) (fun _ _ _ h => h) (Or.inl ⟨by rfl, ?_⟩) hHeld ?_
  rotate_left
  focus
    intro w hSw
    clear hSw
    go_simp
    try with_reducible rfl
  try simp only [Act.put, List.getElem_toArray, List.getElem_cons_zero, List.getElem_cons_succ, List.setIfInBounds_toArray, List.set_cons_zero, List.set_cons_succ]
  refine wpAnyH_take (i := 11) (v := ?_) rfl (by kernel_rfl) (by kernel_rfl) (by kernel_rfl) (fun _ _ _ h => h) (Or.inl ⟨by rfl, ?_⟩) hHeld ?_
  rotate_left
  focus
    intro w hSw
    clear hSw
    go_simp
    try with_reducible rfl
  try simp only [Act.put, List.getElem_toArray, List.getElem_cons_zero, List.getElem_cons_succ, List.setIfInBounds_toArray, List.set_cons_zero, List.set_cons_succ]
  refine wpAnyH_ready (rs := [9]) (by kernel_rfl) (by simp) ?_
  refine AllReadyH.cons rfl (fun K hK => ?_) AllReadyH.nil
  go_simp
  refine hK.out _ _ ⟨(Lib.bytesWorld_old w.drew 5 _ ⟨q, 0, none⟩ hqlt).trans c0, (Lib.bytesWorld_old w.drew 5 _ ⟨q, 1, none⟩ hqlt).trans c1⟩ (fun hHeld => ?_)
  clear hK K
  try simp only [Act.put, List.getElem_toArray, List.getElem_cons_zero, List.getElem_cons_succ, List.setIfInBounds_toArray, List.set_cons_zero, List.set_cons_succ]
  refine wpAnyH_take (i := 10) (v := ?_) rfl (by kernel_rfl) (by kernel_rfl) (by kernel_rfl) (fun _ _ _ h => h) (Or.inl ⟨by rfl, ?_⟩) hHeld ?_
  rotate_left
  focus
    intro w hSw
    clear hSw
    go_simp
    try with_reducible rfl
  try simp only [Act.put, List.getElem_toArray, List.getElem_cons_zero, List.getElem_cons_succ, List.setIfInBounds_toArray, List.set_cons_zero, List.set_cons_succ]
  refine wpAnyH_done (by kernel_rfl) ?_ _
  refine NoPanic.normal ?_
  have hN : (s.extract pos s.size).size = s.size - pos := by simp
  obtain ⟨W1, hW1⟩ : ∃ Z : World, Z = Lib.bytesWorld w.drew 5 (s.extract pos s.size) := ⟨_, rfl⟩
  rw [← hW1]
  have HCELL : Hid (∀ j c, (s.data.toList.drop pos)[j]? = some c → W1.cell? ⟨w.heap.size, j, none⟩ = some (.int .u8 c.toNat)) := fun j c hj => by
    have hlen := (List.getElem?_eq_some_iff.1 hj).1
    rw [List.length_drop] at hlen
    have hss : s.data.toList.length = s.size := by simp
    rw [hW1]
    have := Lib.bytesWorld_cell w.drew 5 (s.extract pos s.size) j (by rw [hN]; omega)
    rw [show (s.extract pos s.size).data.toList = s.data.toList.drop pos from extract_drop s pos, List.getD_eq_getElem?_getD, hj] at this
    exact this
  have HB1 : Hid (Below w.heap.size w W1) := by
    show Below _ _ _
    rw [hW1]
    exact ⟨rfl, rfl, rfl, by rw [Lib.bytesWorld_size]; show w.heap.size ≤ w.heap.size + 1; omega, fun k hk => Lib.bytesWorld_at_old w.drew 5 _ k hk⟩
  have hlenT : (s.data.toList.drop pos).length = s.size - pos := by rw [List.length_drop]; simp
  have hNI : (s.size : Int) - (pos : Int) = ((s.size - pos : Nat) : Int) := by omega
  obtain ⟨T, hT⟩ : ∃ T, T = s.data.toList.drop pos := ⟨_, rfl⟩
  have HTT := Lib.hid hT
  rw [← hT] at HCELL hlenT ⊢
  obtain ⟨N, hNN⟩ : ∃ N, N = s.size - pos := ⟨_, rfl⟩
  rw [← hNN] at hlenT ⊢
  have hNle : N ≤ 1000000 := by omega
  generalize grownCap w.drew N 0 5 = cp
  clear hW1 hN hT hNN hcv c0 c1 hps hNI
  go_wp2_with fail
  go_loopw [4, 19] (fun s4 s19 wx => ∃ (k u : Nat), k ≤ N ∧ k ≤ 9 ∧ s19 = .int .i64 k ∧ s4 = .int .u64 u ∧ u < 128 ^ k ∧ Hid (decA T 0 0 = decA (T.drop k) k u) ∧ W1 = wx) (fun _ s19 _ => N - (intOf s19).toNat)
  case atStart => exact ⟨0, 0, by omega, by omega, rfl, rfl, by simp, rfl, rfl⟩
  case round =>
    obtain ⟨k, u, hk, hk9, rfl, rfl, hu, hdec, rfl⟩ := hrel
    by_cases hlt : k < N
    · obtain ⟨b, hb⟩ : ∃ b, T[k]? = some b := ⟨_, List.getElem?_eq_getElem (by omega)⟩
      have cc := HCELL.out k b hb
      have hdr := drop_cons' hb
      have hbl := b.toNat_lt
      have hkN : (k : Int) < (N : Int) := by omega
      rw [hdr] at hdec
      clear hdr hb
      have HU := Lib.hid hu
      clear hu
      by_cases hA : (k = 9 ∧ 1 < b.toNat) ∨ (b.toNat = 0 ∧ 0 < k)
      · have hr : Hid (decA T 0 0 = (0, 0)) := by
          show _ = _
          rw [hdec.out]
          simp only [decA]
          rw [if_pos hA]
        generalize b.toNat = c at *
        clear hdec
        rcases hA with ⟨h9, h1⟩ | ⟨h0, hk0⟩
        · subst h9
          have h1' : (1 : Int) < (c : Int) := by omega
          go_wp2_with fail
          all_goals (go_ret2; rw [← HTT.out, hr.out]; exact ⟨rfl, HB1.out⟩)
        · subst h0
          have hk0' : (0 : Int) < (k : Int) := by omega
          go_wp2_with fail
          all_goals (go_ret2; rw [← HTT.out, hr.out]; exact ⟨rfl, HB1.out⟩)
      · obtain ⟨hA1, hA2⟩ : (k = 9 → b.toNat ≤ 1) ∧ (0 < k → 0 < b.toNat) := ⟨fun h => by have := mt Or.inl hA; omega, fun h => by have := mt Or.inr hA; omega⟩
        have hd0 : decide ((k : Int) = 9) = true → decide ((1 : Int) < (b.toNat : Int)) = false := fun h => by have := hA1 (by have := of_decide_eq_true h; omega); simp; omega
        by_cases h128 : b.toNat < 128
        · have hr : Hid (decA T 0 0 = (u + b.toNat * 128 ^ k, k + 1)) := by
            show _ = _
            rw [hdec.out]
            simp only [decA]
            rw [if_neg hA, if_pos h128]
          generalize b.toNat = c at *
          clear hdec hA
          obtain ⟨h9, rfl⟩ | ⟨h8, h0, rfl⟩ | ⟨h8, hc0⟩ : (k = 9 ∧ c = 1) ∨ (k < 9 ∧ k = 0 ∧ c = 0) ∨ (k < 9 ∧ 0 < c) := by omega
          · subst h9
            clear hA1 hA2 hd0
            have h1n : (1 : Int) < (N : Int) ∨ True := Or.inr trivial
            go_wp2_with fail
            go_ret2
            rw [← HTT.out, hr.out]
            exact ⟨ret_pair (or_sh9 HU.out) rfl, HB1.out⟩
          · subst h0
            clear hA1 hA2 hd0
            go_wp2_with fail
            go_ret2
            rw [← HTT.out, hr.out]
            exact ⟨ret_pair (or_sh0 HU.out) rfl, HB1.out⟩
          · clear hA1 hA2 hd0
            have h8' : (k : Int) < 9 := by omega
            have hc0' : (0 : Int) < (c : Int) := by omega
            have h128' : (c : Int) < 128 := by omega
            go_wp2_with fail
            go_ret2
            rw [← HTT.out, hr.out]
            exact ⟨ret_pair (by have := or_sh HU.out (show c < 256 by omega) (by omega); rwa [Nat.mod_eq_of_lt h128] at this) rfl, HB1.out⟩
        · have hr : Hid (decA T 0 0 = decA (T.drop (k + 1)) (k + 1) (u + (b.toNat % 128) * 128 ^ k)) := by
            show _ = _
            rw [hdec.out]
            conv => lhs; unfold decA
            rw [if_neg hA, if_neg h128]
          generalize b.toNat = c at *
          clear hdec hA
          have hk8 : k < 9 := by omega
          clear hA1 hA2 hd0
          have h8' : (k : Int) < 9 := by omega
          have hc0' : (0 : Int) < (c : Int) := by omega
          have h128' : ¬ (c : Int) < 128 := by omega
          have hc2 : ¬ c = 0 := by omega
          go_wp2_with fail
          refine ⟨⟨k + 1, u + (c % 128) * 128 ^ k, by omega, by omega, rfl, ?_, ?_, hr, trivial⟩, ?_⟩
          · exact congrArg (Value.int IntKind.u64) (or_sh HU.out (show c < 256 by omega) (by omega))
          · have := HU.out
            rw [Nat.pow_succ]
            have h3 : (c % 128) * 128 ^ k ≤ 127 * 128 ^ k := Nat.mul_le_mul_right _ (by omega)
            omega
          · simp [intOf]; omega
    · have hkN : ¬ (k : Int) < (N : Int) := by omega
      have hr : Hid (decA T 0 0 = (0, 0)) := by
        show _ = _
        rw [hdec.out, List.drop_eq_nil_of_le (by omega)]
        rfl
      go_wp2_with fail
      go_ret2
      rw [← HTT.out, hr.out]
      exact ⟨rfl, HB1.out⟩
end Go.Proofs.YtbningfdpibdkaaDoor
