/- The frame's own lemma for a list of chunks. -/
import Derived.Test.YtfaemhmefijaoaaDoorFrame
import Derived.Test.YtfaemhmefijaoaaDoorBulk
import Derived.Test.YtfaemhmefijaoaaDoorCkTrip
import Derived.Deep.SlicePairs
namespace Go.Proofs.YtfaemhmefijaoaaDoor
open Go.ChangeShapes Go.WideShapes Go.ChangeAt Go.RowKit

/-- small enough for every append -/
def ck.Small (ls : List ck.Arg) : Prop := (∀ x ∈ ls, x.n ≤ 1048576) ∧ (ck.joined (ls.map (·.ck))).length ≤ 4194304

set_option maxRecDepth 100000 in
theorem open_sl8 {H : Type} {enc : TypeId × Value → H} {W : World} {fuel : Nat} {v : Value} {x : DataW H × List MemPlace}
    (hf : DataW.trod enc Tryd.prog W 0 (fun _ => true) true fuel 22 [v] = some x) :
    ∃ a n cap l, v = .slice a n cap ∧ Sl .u8 W a n cap l ∧ (l.length + 1 ≤ Rows.uptoBulk x.1) := by
  rcases open_ints (k := .u8) Tryd.underlying22 Tryd.underlying5 (by kernel_rfl) hf with ⟨hcs, hx⟩ | ⟨x', l, c, zs, hcs, _, hl, hm, hz, hx, hcell, hwz⟩
  · refine ⟨none, 0, 0, [], by simpa using hcs, Sl.nil, ?_⟩
    rw [hx]
    simp [Rows.uptoBulk]
  · simp only [if_true] at hz
    refine ⟨some x', l, c, zs.take l, by simpa using hcs, ⟨by rw [List.length_take]; omega, hl, hm, (fun e => by cases e), (fun x hx => hwz x (List.mem_of_mem_take hx)), ?_⟩, ?_⟩
    · by_cases h0 : l = 0
      · subst h0; exact .inl (by simp)
      · obtain ⟨b, off, spot⟩ := x'
        have hc0 := hcell 0 (by omega)
        have hspot : spot = none := by simpa [Addr.add] using World.cell?_spot hc0
        subst hspot
        refine .inr ⟨b, off, rfl, fun i hi => ?_⟩
        rw [List.length_take] at hi
        have := hcell i (by omega)
        have e2 : (⟨b, off, none⟩ : Addr).add i = ⟨b, off + i, none⟩ := by unfold Addr.add; split <;> simp_all
        rw [e2] at this
        rw [this]
        congr 2
        simp only [List.getD_eq_getElem?_getD, List.getElem?_take]
        rw [if_pos (by omega)]
    · rw [hx]
      have h1 := bulks.slice_le (H := H) (lits .u8 (zs.take l)) (lits .u8 (zs.drop l))
      have h2 : (lits (H := H) .u8 (zs.take l)).length = (zs.take l).length := by simp [lits]
      rw [h2] at h1
      exact Nat.le_trans (by omega) h1
theorem encodes_le {H : Type} (f : Nat → ck.Arg) (G : Nat → DataW H) : ∀ (l : List Nat), (∀ i ∈ l, (ck.encode (f i).ck).length ≤ 3 * Rows.uptoBulk (G i)) → (((l.map f).map (·.ck)).flatMap ck.encode).length ≤ 3 * Rows.uptoBulkAll (l.map G)
  | [], _ => by simp
  | i :: l, h => by
    have h1 := encodes_le f G l (fun j hj => h j (by simp [hj]))
    have h2 := h i (by simp)
    simp only [List.map_cons, List.flatMap_cons, List.length_append, Rows.uptoBulkAll]
    omega
set_option maxRecDepth 100000 in
theorem open_chunks {H : Type} {enc : TypeId × Value → H} {W : World} {a : Option Addr} {n cap : Nat} {d : DataW H} {p : List MemPlace}
    (h : DataW.Trod enc Tryd.prog W 0 (fun _ => true) true 24 (Value.slice a n cap) d p) (hk : Rows.uptoBulk d ≤ 1048576) :
    ∃ ls, ck.Rd W a n cap ls ∧ cap ≤ 1048576 ∧ ck.Small ls := by
  obtain ⟨fuel, hf⟩ := h
  rcases Deep.open_slice_pairs Tryd.underlying24 Tryd.underlying57 (by kernel_rfl) rfl rfl (by kernel_rfl) (by kernel_rfl) hf with ⟨hcs, hx⟩ | ⟨x, len, c, m, k, V0, V1, D0, D1, P0, P1, hcs, _, hl, hm, hme, hx, hel⟩
  · simp [Value.cells] at hcs
    obtain ⟨rfl, rfl, rfl⟩ := hcs
    exact ⟨[], ⟨rfl, Nat.le_refl _, Nat.zero_le _, (fun _ => rfl), .inl rfl, (fun _ h => nomatch h), (fun _ h => nomatch h)⟩, by omega, (fun _ h => nomatch h), by decide⟩
  · simp [Value.cells] at hcs
    obtain ⟨rfl, rfl, rfl⟩ := hcs
    simp only [if_true] at hme
    subst hme
    simp only [Prod.mk.injEq] at hx
    obtain ⟨rfl, _⟩ := hx
    have each : ∀ i, i < m → ∃ y : ck.Arg, V0 i = .string y.s ∧ V1 i = .slice y.p y.n y.cap ∧ Sl .u8 W y.p y.n y.cap y.d ∧ y.s.size ≤ maxLen ∧ y.s.size + y.d.length + 3 ≤ Rows.uptoBulk (.agg [D0 i, D1 i] : DataW H) := by
      intro i hi
      obtain ⟨_, _, t0, t1⟩ := hel i (by omega)
      obtain ⟨s, e0, e1, e2⟩ := DataW.trod_string Tryd.underlying9 t0
      obtain ⟨a', n', c', l', e3, e4, e5⟩ := open_sl8 t1
      simp only [Prod.mk.injEq] at e1
      refine ⟨⟨s, a', n', c', l'⟩, by simpa using e0, e3, e4, e2, ?_⟩
      simp only [Rows.uptoBulk, Rows.uptoBulkAll, e1.1]
      simp
      simp at e5
      omega
    haveI : Inhabited ck.Arg := ⟨⟨⟨#[]⟩, none, 0, 0, []⟩⟩
    obtain ⟨f, hf'⟩ := Deep.choose_lt (α := ck.Arg) each
    have hcap : m ≤ 1048576 := by
      have h1 := bulks.slice_le (H := H) ((List.range n).map fun i => .agg [D0 i, D1 i]) ((List.range (m - n)).map fun j => .agg [D0 (n + j), D1 (n + j)])
      simp only [List.length_map, List.length_range] at h1
      omega
    have hall : Rows.uptoBulkAll ((List.range n).map fun i => (.agg [D0 i, D1 i] : DataW H)) ≤ 1048576 := by
      simp only [Rows.uptoBulk] at hk
      omega
    have hmem : ∀ y ∈ (List.range n).map f, ∃ i, i < n ∧ y = f i := by
      intro y hy
      obtain ⟨i, hi, rfl⟩ := List.mem_map.1 hy
      exact ⟨i, List.mem_range.1 hi, rfl⟩
    refine ⟨(List.range n).map f, ⟨by simp, hl, hm, (fun e => by cases e), ?_, ?_, ?_⟩, hcap, ?_, ?_⟩
    · by_cases h0 : n = 0
      · subst h0; exact .inl rfl
      · obtain ⟨b, off, spot⟩ := x
        have hc0 := (hel 0 (by omega)).1
        have hspot : spot = none := by simpa [Addr.add] using World.cell?_spot hc0
        subst hspot
        refine .inr ⟨b, off, rfl, fun i y hy => ?_⟩
        have hi : i < n := by
          have := (List.getElem?_eq_some_iff.1 hy).1
          simpa using this
        obtain rfl : f i = y := by
          rw [List.getElem?_map, List.getElem?_range hi] at hy
          exact Option.some.inj hy
        obtain ⟨c0, c1, _, _⟩ := hel i (by omega)
        obtain ⟨e0, e1, _⟩ := hf' i (by omega)
        have ea : ∀ j, (⟨b, off, none⟩ : Addr).add j = ⟨b, off + j, none⟩ := fun j => by unfold Addr.add; split <;> simp_all
        rw [ea, e0] at c0
        rw [ea, e1] at c1
        exact ⟨c0, c1⟩
    · intro y hy
      obtain ⟨i, hi, rfl⟩ := hmem y hy
      exact (hf' i (by omega)).2.2.1
    · intro y hy
      obtain ⟨i, hi, rfl⟩ := hmem y hy
      exact (hf' i (by omega)).2.2.2.1
    · intro y hy
      obtain ⟨i, hi, rfl⟩ := hmem y hy
      have h1 := (hf' i (by omega)).2.2.2.2
      have h2 := bulks.part_le (H := H) (d := .agg [D0 i, D1 i]) (l := (List.range n).map fun i => .agg [D0 i, D1 i]) (List.mem_map.2 ⟨i, List.mem_range.2 hi, rfl⟩)
      have h3 := (hf' i (by omega)).2.2.1.len
      omega
    · have h1 := encodes_le f (fun i => (.agg [D0 i, D1 i] : DataW H)) (List.range n) (fun i hi => by
        have h2 := (hf' i (by have := List.mem_range.1 hi; omega)).2.2.2.2
        rw [ck.encode_length]
        simp only [ck.Arg.ck, ck.bytesOf_length]
        omega)
      unfold ck.joined ck.joinedTo
      rw [List.take_of_length_le (Nat.le_refl _), List.length_append]
      have h2 : ck.sign.length = 8 := rfl
      omega
end Go.Proofs.YtfaemhmefijaoaaDoor
