/-
  QueueExact: the two queues side by side; the deeds that came in.
-/
import Derived.Test.YtkinbidpbgkaoaaDoorQueL
import Derived.Test.YtkinbidpbgkaoaaDoorQueP
import Derived.Test.YtkinbidpbgkaoaaDoorLaidS
namespace Go.Proofs.YtkinbidpbgkaoaaDoor
open Go.RowKit Go.ChangeShapes Go.WideShapes Go.ChangeAt
set_option linter.unusedVariables false

structure Deed where
  (kind job at_ band : Int)
def Deed.cells (d : Deed) : List Value := [.int .i64 d.kind, .int .i64 d.job, .int .i64 d.at_, .int .i64 d.band]
def Deed.tsk (d : Deed) : Tsk := ⟨d.job, d.at_⟩
theorem Deed.k4 (d : Deed) : d.cells.length = 4 := rfl
theorem size_deed : (Tryd.prog.info? 57).map (·.size) = some 4 := by kernel_rfl
set_option maxRecDepth 100000 in
theorem rd_of_deeds {H : Type} {enc : TypeId × Value → H} {W : World} {A : Option Addr} {n m : Nat} {d : DataW H} {p : List MemPlace} (h : DataW.Trod enc Tryd.prog W 0 (fun _ => true) true 51 (.slice A n m) d p) :
    ∃ xs : List Deed, RdRows W W.heap.size Deed.cells 4 A n xs ∧ n ≤ m ∧ m ≤ maxLen ∧ (A = none → n = 0) ∧ ∀ x ∈ xs, (fun _ => True) x := by
  have hci : Tryd.prog.cellsOf 3 = 1 := by kernel_rfl
  have hcb : Tryd.prog.cellsOf 45 = 2 := by kernel_rfl
  refine rd_of_structs Tryd.underlying51 Tryd.underlying57 (by kernel_rfl) (by omega) Deed.k4 (fun _ => True) ?_ h
  intro cs fu hl hf
  match cs, hl with
  | [c0, c1, c2, c3], _ =>
    obtain ⟨_, h0⟩ := hf 0 _ rfl
    simp [hci, hcb] at h0
    obtain ⟨n0, e0, _, w0⟩ := DataW.trod_int Tryd.underlying3 h0
    simp at e0
    subst e0
    obtain ⟨_, h1⟩ := hf 1 _ rfl
    simp [hci, hcb] at h1
    obtain ⟨xs, nn, _, _, _, hxl, hfl⟩ := DataW.trod_struct Tryd.underlying45 h1
    have t0 := hfl 0 _ rfl
    have t1 := hfl 1 _ rfl
    simp [hci] at t0 t1
    rw [List.getElem?_eq_getElem (by rw [hxl]; decide)] at t0
    rw [List.getElem?_eq_getElem (by rw [hxl]; decide)] at t1
    obtain ⟨n1, e1, _, w1⟩ := DataW.trod_int Tryd.underlying3 t0
    obtain ⟨n2, e2, _, w2⟩ := DataW.trod_int Tryd.underlying3 t1
    simp at e1 e2
    subst e1
    subst e2
    obtain ⟨_, h3⟩ := hf 2 _ rfl
    simp [hci, hcb] at h3
    obtain ⟨n3, e3, _, w3⟩ := DataW.trod_int Tryd.underlying3 h3
    simp at e3
    subst e3
    exact ⟨⟨n0, n1, n2, n3⟩, rfl, trivial⟩

/-! ### No step of one queue turns a block of the other -/
theorem own_of_type {w w' : World} {base : Nat} {e : TypeId} {size n : Nat} {v : Value} {xs : List Value} (h : w.ownsRow base e size v n xs) (hk : ∀ (g : Nat) (cur : Array Value), w.heap[g]? = some (Obj.cells cur e (0, 0)) → w'.heap[g]? = w.heap[g]?) : w'.ownsRow base e size v n xs := by
  refine ⟨h.1, h.2.imp id ?_⟩
  rintro ⟨g, cap, cur, hv, hb, hc, hr⟩
  exact ⟨g, cap, cur, hv, hb, by rw [hk g cur hc]; exact hc, hr⟩
theorem QStep.types {w w' : World} {B q : Nat} {l : Nat → List Tsk} {v v' : Nat → Value} (h : QStep w w' q v v') (hq : QV w B q l v) (k : Nat) (c : Array Value) (t : TypeId) (fr : Nat × Nat) (hk : w.heap[k]? = some (.cells c t fr)) (h1 : t ≠ 45) (h2 : t ≠ 103) : w'.heap[k]? = w.heap[k]? := by
  refine h.block k (Array.getElem?_eq_some_iff.1 hk).1 (fun e => ?_) (fun i hi e => ?_)
  · subst e
    rw [hq.cells] at hk
    simp at hk
    exact h2 hk.2.1.symm
  · obtain ⟨cur, hc⟩ := own_type (hq.row i hi) e
    rw [hc] at hk
    simp at hk
    exact h1 hk.2.1.symm
theorem RV.qstep {w w' : World} {B C q r : Nat} {l : Nat → List Tsk} {v v' : Nat → Value} {L : List Ent} {vr : Value} (h : RV w C r L vr) (hs : QStep w w' q v v') (hq : QV w B q l v) : RV w' C r L vr :=
  ⟨h.low, by rw [hs.types hq r _ _ _ h.cells (by decide) (by decide)]; exact h.cells, own_of_type h.row fun g cur hc => hs.types hq g cur _ _ hc (by decide) (by decide)⟩
theorem QV.rstep {w w' : World} {B C q : Nat} {l : Nat → List Tsk} {v : Nat → Value} (h : QV w B q l v) (hs : RStep w w' C) : QV w' B q l v :=
  ⟨h.low, by rw [hs.block q _ _ _ h.cells (by decide) (by decide)]; exact h.cells, fun i hi => own_of_type (h.row i hi) fun g cur hc => hs.block g cur _ _ hc (by decide) (by decide), h.notq, h.apart⟩
theorem QV.congr {w : World} {B q : Nat} {l l' : Nat → List Tsk} {v : Nat → Value} (h : QV w B q l v) (he : ∀ i, i < 3 → l i = l' i) : QV w B q l' v :=
  ⟨h.low, h.cells, fun i hi => by rw [← he i hi]; exact h.row i hi, h.notq, h.apart⟩

/-! ### The plain law -/
def Bands (L : List Ent) : Prop := ∀ e ∈ L, 0 ≤ e.band ∧ e.band ≤ 2
def has (L : List Ent) (t : Tsk) : Bool := L.any fun x => Tsk.beq x.tsk t
theorem Tsk.beq_comm (a b : Tsk) : Tsk.beq a b = Tsk.beq b a := by
  unfold Tsk.beq
  rw [Bool.eq_iff_iff]
  simp
  omega
theorem mem_rows {L : List Ent} (hB : Bands L) (t : Tsk) : (catT (rowsOf L) 3).any (Tsk.beq t) = has L t := by
  rw [Bool.eq_iff_iff, catT3]
  unfold has rowsOf
  simp only [List.any_append, List.any_map, List.any_filter, Bool.or_eq_true, List.any_eq_true, Bool.and_eq_true, Function.comp]
  constructor
  · rintro ((⟨x, hx, h1, h2⟩ | ⟨x, hx, h1, h2⟩) | ⟨x, hx, h1, h2⟩) <;> exact ⟨x, hx, by rw [Tsk.beq_comm]; exact h2⟩
  · rintro ⟨x, hx, h⟩
    rw [Tsk.beq_comm] at h
    have hb := hB x hx
    by_cases h0 : x.band = 0
    · exact .inl (.inl ⟨x, hx, by simp [h0], h⟩)
    · by_cases h1 : x.band = 1
      · exact .inl (.inr ⟨x, hx, by simp [h1], h⟩)
      · exact .inr ⟨x, hx, by simp; omega, h⟩
theorem len_rows {L : List Ent} (hB : Bands L) : (catT (rowsOf L) 3).length = L.length := by
  rw [catT3]
  unfold rowsOf
  simp only [List.length_append, List.length_map]
  induction L with
  | nil => rfl
  | cons x L ih =>
    have hb := hB x (by simp)
    have := ih (fun e he => hB e (by simp [he]))
    by_cases h0 : x.band = 0
    · simp [h0] at *; omega
    · by_cases h1 : x.band = 1
      · simp [h1] at *; omega
      · have h2 : x.band = 2 := by omega
        simp [h2] at *; omega
theorem upd_rows (L : List Ent) (t : Tsk) (b : Nat) (i : Nat) : upd (rowsOf L) b (rowsOf L b ++ [t]) i = rowsOf (L ++ [⟨t.job, t.at_, (b : Int)⟩]) i := by
  unfold upd rowsOf
  by_cases h : i = b
  · subst h
    simp [List.filter_append, List.filter, Ent.tsk]
  · have hf : (((b : Int)) == (i : Int)) = false := by simp; omega
    rw [if_neg h, List.filter_append]
    simp [List.filter, hf]
theorem cut_rows (p : Tsk → Bool) (L : List Ent) (i : Nat) (hi : i < 3) : cutAll p (rowsOf L) i = rowsOf (L.filter fun x => !p x.tsk) i := by
  unfold cutAll cutTo rowsOf
  rw [if_pos hi, List.filter_map, List.filter_filter, List.filter_filter]
  congr 2
  funext x
  exact Bool.and_comm _ _
theorem catT_congr {l l' : Nat → List Tsk} (h : ∀ i, i < 3 → l i = l' i) : catT l 3 = catT l' 3 := by
  rw [catT3, catT3, h 0 (by omega), h 1 (by omega), h 2 (by omega)]
theorem Bands.filter {L : List Ent} (h : Bands L) (p : Ent → Bool) : Bands (L.filter p) := fun e he => h e (List.mem_filter.1 he).1
theorem cutP_false (t : Tsk) (L : List Ent) : L.filter (cutP t false) = L.filter fun x => !(Tsk.beq x.tsk t) := by
  congr 1; funext x; simp [cutP]
theorem cutP_true (t : Tsk) (L : List Ent) : L.filter (cutP t true) = L.filter fun x => !(x.tsk.job == t.job) := by
  congr 1; funext x
  simp only [cutP, Tsk.beq, Ent.tsk]
  cases (x.job == t.job) <;> simp
def pushK (L : List Ent) (t : Tsk) (band : Int) : Nat := if band < 0 ∨ 2 < band then 1 else if has L t then 6 else 0
def pushL (L : List Ent) (t : Tsk) (band : Int) : List Ent := if band < 0 ∨ 2 < band then L else if has L t then L else L ++ [⟨t.job, t.at_, band⟩]
theorem pushK_le (L : List Ent) (t : Tsk) (band : Int) : pushK L t band ≤ 14 := by unfold pushK; split <;> try split
                                                                                   all_goals omega
theorem Bands.push {L : List Ent} (h : Bands L) (t : Tsk) (band : Int) : Bands (pushL L t band) := by
  unfold pushL
  split
  · exact h
  · split
    · exact h
    · intro e he
      rw [List.mem_append] at he
      rcases he with he | he
      · exact h e he
      · simp at he
        subst he
        constructor <;> simp <;> omega
theorem pushL_len (L : List Ent) (t : Tsk) (band : Int) : (pushL L t band).length ≤ L.length + 1 := by
  unfold pushL
  split
  · omega
  · split
    · omega
    · simp
theorem push_any (Er : Nat → Addr) (B q : Nat) (L : List Ent) (v : Nat → Value) (t : Tsk) (band : Int) (w : World) (hB : B ≤ w.heap.size) (hE : ∀ k, k = 1 ∨ k = 6 → ∀ g, g = (if k = 1 then 0 else 2) → w.cell? ⟨g, 0, none⟩ = some (erV Er k) ∧ g < w.heap.size) (h : Hid (QV w B q (rowsOf L) v)) (hbs : Bands L) (hN : L.length ≤ 100000) :
    Calls Tryd.prog 17 #[.pointer (some ⟨q, 0, none⟩), .agg t.cells.toArray, .int .i64 band] w fun e w' => e = .returned (erV Er (pushK L t band)) ∧ ∃ v', QV w' B q (rowsOf (pushL L t band)) v' ∧ QStep w w' q v v' := by
  by_cases hr : band < 0 ∨ 2 < band
  · rw [pushK, if_pos hr, pushL, if_pos hr]
    refine (push_range Er q t band w (hE 1 (.inl rfl) _ (by rw [if_pos rfl])).1 (hE 1 (.inl rfl) _ (by rw [if_pos rfl])).2 (by omega)).mono fun e w' ⟨he, hb⟩ => ⟨he, v, h.out.below hb, QStep.ofBelow hb⟩
  · obtain ⟨b, rfl⟩ : ∃ b : Nat, band = (b : Int) := ⟨band.toNat, by omega⟩
    have hb3 : b < 3 := by omega
    rw [pushK, if_neg hr, pushL, if_neg hr]
    cases hh : has L t with
    | true =>
      refine (push_dup Er B q (rowsOf L) t b hb3 w (hE 6 (.inr rfl) _ (by rw [if_neg (by decide)])).1 (hE 6 (.inr rfl) _ (by rw [if_neg (by decide)])).2 (show Hid _ from ⟨v, h.out⟩) (by rw [len_rows hbs]; omega) (by rw [mem_rows hbs]; exact hh)).mono fun e w' ⟨he, hb⟩ => ⟨by simpa using he, v, by simpa using h.out.below hb, QStep.ofBelow hb⟩
    | false =>
      refine (push_ok B q (rowsOf L) v t b hb3 w hB h (by rw [len_rows hbs]; omega) (by rw [mem_rows hbs]; exact hh)).mono fun e w' ⟨he, v', hq, hs⟩ => ⟨by simpa [erV_nil] using he, v', by simpa using hq.congr fun i hi => upd_rows L t b i, hs⟩
theorem rpush_any (B r : Nat) (L : List Ent) (v : Value) (t : Tsk) (band : Int) (w : World) (hB : B ≤ w.heap.size) (h : Hid (RV w B r L v)) (hN : L.length ≤ 100000) :
    Calls Tryd.prog 25 #[.pointer (some ⟨r, 0, none⟩), .agg t.cells.toArray, .int .i64 band] w fun e w' => e = .returned (.int .i64 (pushK L t band : Nat)) ∧ ∃ v', RV w' B r (pushL L t band) v' ∧ RStep w w' B := by
  by_cases hr : band < 0 ∨ 2 < band
  · rw [pushK, if_pos hr, pushL, if_pos hr]
    refine (rpush_range r t band w (by omega)).mono fun e w' ⟨he, hb⟩ => ⟨he, v, h.out.below hb, RStep.ofBelow hB hb⟩
  · obtain ⟨b, rfl⟩ : ∃ b : Nat, band = (b : Int) := ⟨band.toNat, by omega⟩
    have hb3 : b < 3 := by omega
    rw [pushK, if_neg hr, pushL, if_neg hr]
    cases hh : has L t with
    | true =>
      refine (rpush_dup B r L t b hb3 w (show Hid _ from ⟨v, h.out⟩) hN hh).mono fun e w' ⟨he, hb⟩ => ⟨by simpa using he, v, by simpa using h.out.below hb, RStep.ofBelow hB hb⟩
    | false =>
      refine (rpush_ok B r L v t b hb3 w hB h hN hh).mono fun e w' ⟨he, v', hq, hs⟩ => ⟨by simpa using he, v', by simpa using hq, hs⟩
def dropL (L : List Ent) (t : Tsk) : List Ent := L.filter fun x => !(Tsk.beq x.tsk t)
def dropK (L : List Ent) (t : Tsk) : Nat := if has L t then 0 else 5
theorem drop_same (L : List Ent) (t : Tsk) : (L.length = (dropL L t).length) ↔ has L t = false := by
  unfold dropL has
  rw [eq_comm, List.length_filter_eq_length_iff, List.any_eq_false]
  simp
theorem drop_any (Er : Nat → Addr) (B q : Nat) (L : List Ent) (v : Nat → Value) (t : Tsk) (w : World) (hB : B ≤ w.heap.size) (hE : w.cell? ⟨5, 0, none⟩ = some (erV Er 5)) (hEl : 5 < B) (h : Hid (QV w B q (rowsOf L) v)) (hbs : Bands L) (hN : L.length ≤ 100000) :
    Calls Tryd.prog 23 #[.pointer (some ⟨q, 0, none⟩), .agg t.cells.toArray] w fun e w' => e = .returned (erV Er (dropK L t)) ∧ ∃ v', QV w' B q (rowsOf (dropL L t)) v' ∧ QStep w w' q v v' := by
  have hc : ∀ i, i < 3 → cutAll (fun x => Tsk.beq x t) (rowsOf L) i = rowsOf (dropL L t) i := fun i hi => cut_rows _ L i hi
  refine (drop_c Er B q (rowsOf L) v t w hB hE hEl h (by rw [len_rows hbs]; omega) (dropK L t) ?_).mono fun e w' ⟨he, v', hq, hs⟩ => ⟨he, v', hq.congr hc, hs⟩
  rw [catT_congr hc, len_rows hbs, len_rows (L := dropL L t) (hbs.filter _)]
  unfold dropK
  have := drop_same L t
  cases hh : has L t <;> simp [hh] at this ⊢ <;> simp [this]
def jobL (L : List Ent) (j : Int) : List Ent := L.filter fun x => !(x.tsk.job == j)
theorem job_any (B q : Nat) (L : List Ent) (v : Nat → Value) (j : Int) (w : World) (h : Hid (QV w B q (rowsOf L) v)) (hbs : Bands L) (hN : L.length ≤ 100000) :
    Calls Tryd.prog 24 #[.pointer (some ⟨q, 0, none⟩), .int .i64 j] w fun e w' => e = .returned (.int .i64 ((L.length : Int) - ((jobL L j).length : Int))) ∧ ∃ v', QV w' B q (rowsOf (jobL L j)) v' ∧ QStep w w' q v v' := by
  have hc : ∀ i, i < 3 → cutAll (fun x => x.job == j) (rowsOf L) i = rowsOf (jobL L j) i := fun i hi => cut_rows _ L i hi
  refine (dropJob_c B q (rowsOf L) v j w h (by rw [len_rows hbs]; omega)).mono fun e w' ⟨he, v', hq, hs⟩ => ⟨?_, v', hq.congr hc, hs⟩
  rw [he, catT_congr hc, len_rows hbs, len_rows (L := jobL L j) (hbs.filter _)]
theorem rcut_drop (B r : Nat) (L : List Ent) (v : Value) (t : Tsk) (w : World) (hB : B ≤ w.heap.size) (h : Hid (RV w B r L v)) (hN : L.length ≤ 100000) :
    Calls Tryd.prog 21 #[.pointer (some ⟨r, 0, none⟩), .agg t.cells.toArray, .bool false] w fun e w' => e = .returned (.int .i64 ((L.length : Int) - ((dropL L t).length : Int))) ∧ ∃ v', RV w' B r (dropL L t) v' ∧ RStep w w' B := by
  have := rcut_c B r L v t false w hB h hN
  rw [cutP_false] at this
  exact this
theorem rcut_job (B r : Nat) (L : List Ent) (v : Value) (t : Tsk) (w : World) (hB : B ≤ w.heap.size) (h : Hid (RV w B r L v)) (hN : L.length ≤ 100000) :
    Calls Tryd.prog 21 #[.pointer (some ⟨r, 0, none⟩), .agg t.cells.toArray, .bool true] w fun e w' => e = .returned (.int .i64 ((L.length : Int) - ((jobL L t.job).length : Int))) ∧ ∃ v', RV w' B r (jobL L t.job) v' ∧ RStep w w' B := by
  have := rcut_c B r L v t true w hB h hN
  rw [cutP_true] at this
  exact this
end Go.Proofs.YtkinbidpbgkaoaaDoor
