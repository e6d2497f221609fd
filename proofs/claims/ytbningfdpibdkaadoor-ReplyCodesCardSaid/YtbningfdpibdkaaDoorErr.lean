/-
  What a row that lists sentinel errors gives a walk: each variable's cell, that the pointers differ, and their rows of cells.
-/
import Derived.Test.YtbningfdpibdkaaDoorProg
import Derived.Stop.LaidTwo
import Derived.Below
import Derived.KernelRfl
namespace Go.Proofs.YtbningfdpibdkaaDoor
open Go.RowKit Go.ChangeShapes

/-- The sentinels of a list of (variable's number, address): below block B. -/
structure SentList (tp : TypeId) (B : Nat) (w : World) (l : List (Nat × Addr)) : Prop where
  nodup : (l.map (·.2)).Nodup
  var : ∀ x ∈ l, x.1 < B ∧ w.cell? ⟨x.1, 0, none⟩ = some (.iface tp (.pointer (some x.2)))
  row : ∀ x ∈ l, x.2.block < B ∧ ∃ c t, w.heap[x.2.block]? = some (.cells c t (0, 0))

theorem SentList.below {tp : TypeId} {B : Nat} {w w' : World} {l : List (Nat × Addr)} (h : SentList tp B w l) (hb : Below B w w') : SentList tp B w' l :=
  ⟨h.nodup, fun x hx => ⟨(h.var x hx).1, (hb.cell (p := ⟨x.1, 0, none⟩) (h.var x hx).1).trans (h.var x hx).2⟩, fun x hx => ⟨(h.row x hx).1, by rw [hb.block _ (h.row x hx).1]; exact (h.row x hx).2⟩⟩

/-- One listed sentinel's datum. -/
def sentDatum (nm : String) (text : List UInt8) : DataW Unit := .iface nm (.ptr (.agg [.lit (.string text)]))

theorem laid_places {P : Program} {nm : String} {W : World} {ti tp te ts : TypeId} {ms : Array (String × TypeId)} {f : Field}
    (hi : P.underlying ti = some (.interface ms)) (hrow : ∀ u, P.typeName? 3 u = some nm → u = tp)
    (hp : P.underlying tp = some (.pointer te)) (he : P.underlying te = some (.struct #[f])) (hft : f.type = ts) (hfo : f.offset = 0) (hs : P.underlying ts = some .string) (hc : P.cellsOf te = 1) (hcs : P.cellsOf ts = 1) :
    ∀ (l : List (String × List UInt8 × Nat)) (ps : List MemPlace), DataW.LaidVars P W (l.map fun x => (x.1, sentDatum nm x.2.1)) ps → ps.Nodup →
      (∀ b off, MemPlace.cell b off ∈ ps → (∃ c t, W.heap[b]? = some (.cells c t (0, 0))) ∧ ∀ u v, W.cell? ⟨b, off, none⟩ = some (.iface u v) → Value.okWide P W .any 0 u v) →
      (∀ x ∈ l, P.globalNamed x.1 = some x.2.2 ∧ (P.globals[x.2.2]?).map (·.type) = some ti) →
      ∃ az : List Addr, az.length = l.length ∧ az.Nodup ∧ (∀ a ∈ az, MemPlace.cell a.block a.off ∈ ps ∧ a.spot = none) ∧
        ∀ (i : Nat) (x : String × List UInt8 × Nat) (a : Addr), l[i]? = some x → az[i]? = some a → W.cell? ⟨x.2.2, 0, none⟩ = some (.iface tp (.pointer (some a))) := by
  intro l
  induction l with
  | nil => intro ps _ _ _ _; exact ⟨[], rfl, List.nodup_nil, by simp, by simp⟩
  | cons x r ih =>
    intro ps hv hnd hrows hall
    obtain ⟨n, text, g⟩ := x
    obtain ⟨g0, t0, cs0, f0, p0, q0, hg0, ht0, hv0, hd0, hq, rfl⟩ := hv
    obtain ⟨hg, ht⟩ := hall (n, text, g) (by simp)
    obtain rfl := Option.some.inj (hg.symm.trans hg0)
    obtain rfl := Option.some.inj (ht.symm.trans ht0)
    obtain ⟨l0⟩ := cs0
    have ok0 : ∀ u v, l0 = [.iface u v] → Value.okWide P W .any 0 u v := fun u v e => by
      subst e
      exact (hrows g 0 (by simp [MemPlace.row])).2 u v (by simpa using World.var?_cell hg0 hv0 0)
    obtain ⟨a0, s0, rfl, hc0, hs0, hz0, rfl⟩ := errorString_of_trod hi hrow hp he hft hfo hs hc hcs hd0 ok0
    have hsp : a0.spot = none := by
      unfold World.cell? at hc0
      split at hc0
      · split at hc0
        · cases hc0
        · rename_i hne; simpa using hne
      · cases hc0
    obtain ⟨az, hlen, hand, hmem, hcell⟩ := ih q0 hq (List.Nodup.sublist (List.sublist_append_right _ _) hnd) (fun b off hm => hrows b off (List.mem_append_right _ hm)) (fun y hy => hall y (by simp [hy]))
    refine ⟨a0 :: az, by simp [hlen], ?_, ?_, ?_⟩
    · refine List.nodup_cons.2 ⟨fun hin => ?_, hand⟩
      have h1 := (hmem a0 hin).1
      rw [List.append_assoc] at hnd
      have h2 := (List.nodup_append.1 hnd).2.1
      exact (List.nodup_append.1 h2).2.2 (MemPlace.cell a0.block a0.off) (by simp [MemPlace.row]) _ h1 rfl
    · intro a ha
      rcases List.mem_cons.1 ha with rfl | ha
      · exact ⟨by simp [MemPlace.row], hsp⟩
      · exact ⟨List.mem_append_right _ (hmem a ha).1, (hmem a ha).2⟩
    · intro i y a hl ha
      cases i with
      | zero =>
        simp only [List.getElem?_cons_zero, Option.some.injEq] at hl ha
        subst hl; subst ha
        simpa using World.var?_cell hg0 hv0 0
      | succ i =>
        simp only [List.getElem?_cons_succ] at hl ha
        exact hcell i y a hl ha

theorem sent_of_laid {P : Program} {nm : String} {W : World} {ti tp te ts : TypeId} {ms : Array (String × TypeId)} {f : Field}
    (hi : P.underlying ti = some (.interface ms)) (hrow : ∀ u, P.typeName? 3 u = some nm → u = tp)
    (hp : P.underlying tp = some (.pointer te)) (he : P.underlying te = some (.struct #[f])) (hft : f.type = ts) (hfo : f.offset = 0) (hs : P.underlying ts = some .string) (hc : P.cellsOf te = 1) (hcs : P.cellsOf ts = 1)
    (l : List (String × List UInt8 × Nat)) (h : laidMet P (l.map fun x => (x.1, sentDatum nm x.2.1)) W)
    (hall : ∀ x ∈ l, P.globalNamed x.1 = some x.2.2 ∧ (P.globals[x.2.2]?).map (·.type) = some ti) :
    ∃ az : List Addr, az.length = l.length ∧ SentList tp W.heap.size W ((l.map (·.2.2)).zip az) := by
  obtain ⟨ps, hv, hnd, hrows⟩ := h
  obtain ⟨az, hlen, hand, hmem, hcell⟩ := laid_places hi hrow hp he hft hfo hs hc hcs l ps hv hnd hrows hall
  have lt_of_cell : ∀ (a : Addr) (v : Value), W.cell? a = some v → a.block < W.heap.size := fun a v hv => World.block_lt_of_cell? W a hv
  refine ⟨az, hlen, ?_, ?_, ?_⟩
  · rw [List.map_snd_zip (by simp [hlen])]; exact hand
  · intro x hx
    obtain ⟨i, hi'⟩ := List.getElem?_of_mem hx
    rw [List.getElem?_zip_eq_some] at hi'
    obtain ⟨h1, h2⟩ := hi'
    rw [List.getElem?_map] at h1
    obtain ⟨y, hy, hy2⟩ := Option.map_eq_some_iff.1 h1
    have := hcell i y x.2 hy h2
    rw [hy2] at this
    exact ⟨lt_of_cell _ _ this, this⟩
  · intro x hx
    obtain ⟨i, hi'⟩ := List.getElem?_of_mem hx
    rw [List.getElem?_zip_eq_some] at hi'
    have hm := hmem x.2 (List.mem_of_getElem? hi'.2)
    obtain ⟨c, t, hh⟩ := (hrows _ _ hm.1).1
    exact ⟨(Array.getElem?_eq_some_iff.1 hh).1, c, t, hh⟩
end Go.Proofs.YtbningfdpibdkaaDoor
