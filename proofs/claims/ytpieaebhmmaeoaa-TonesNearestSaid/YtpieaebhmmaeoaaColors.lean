/- Lists of colours in memory: an argument opened, a row of the call's own, what it reads as. -/
import Derived.Test.YtpieaebhmmaeoaaFrameT
import Derived.Test.YtpieaebhmmaeoaaTones5
import Derived.Deep.Slices
namespace Go.Proofs.Ytpieaebhmmaeoaa
open Go.ChangeShapes Go.WideShapes Go.ChangeAt Go.RowKit Go.Joins

theorem addr_add (b off i : Nat) : (⟨b, off, none⟩ : Addr).add i = ⟨b, off + i, none⟩ := by unfold Addr.add; split <;> simp_all

/-- A SLICE OF COLOURS THAT CAN BE READ -/
structure SlC (w : World) (a : Option Addr) (n cap : Nat) (l : List C4) : Prop where
  len : l.length = n
  fits : n ≤ cap
  most : cap ≤ maxLen
  bare : a = Option.none → cap = 0
  ok : ∀ x ∈ l, x.ok
  rd : RdC w a l
theorem RdC.below {w w' : World} {a : Option Addr} {l : List C4} (h : RdC w a l) (hb : Below w.heap.size w w') : RdC w' a l := by
  rcases h with h | ⟨b, off, rfl, h⟩
  · exact .inl h
  · exact .inr ⟨b, off, rfl, fun i hi => ⟨keep_cell hb (h i hi).1, keep_cell hb (h i hi).2.1, keep_cell hb (h i hi).2.2.1, keep_cell hb (h i hi).2.2.2⟩⟩
theorem SlC.below {w w' : World} {a : Option Addr} {n cap : Nat} {l : List C4} (h : SlC w a n cap l) (hb : Below w.heap.size w w') : SlC w' a n cap l :=
  ⟨h.len, h.fits, h.most, h.bare, h.ok, h.rd.below hb⟩

theorem open_colors {H : Type} {enc : TypeId × Value → H} {W : World} {a : Option Addr} {n cap : Nat} {d : DataW H} {p : List MemPlace}
    (h : DataW.Trod enc Try.prog W 0 (fun _ => true) true 46 (Value.slice a n cap) d p) :
    ∃ l, SlC W a n cap l ∧ (d = .nil ∧ cap = 0 ∨ ∃ es sp, d = .slice es sp ∧ es.length + sp.length = cap) := by
  obtain ⟨fuel, hf⟩ := h
  rcases Deep.open_slice Try.underlying46 hf with ⟨hcs, hx⟩ | ⟨x, len, c, m, k, D, Pl, hcs, _, hl, hm, hme, hx, hel⟩
  · simp [Value.cells] at hcs
    obtain ⟨rfl, rfl, rfl⟩ := hcs
    simp only [Prod.mk.injEq] at hx
    exact ⟨[], ⟨rfl, Nat.le_refl _, Nat.zero_le _, fun _ => rfl, (fun _ h => by cases h), .inl rfl⟩, .inl ⟨hx.1, rfl⟩⟩
  · simp [Value.cells] at hcs
    obtain ⟨rfl, rfl, rfl⟩ := hcs
    simp only [if_true] at hme
    subst hme
    simp only [Prod.mk.injEq] at hx
    have each : ∀ i, i < n → ∃ col : C4, col.ok ∧ W.cell? (x.add (i * 4)) = some (.int .u16 col.r) ∧ W.cell? ((x.add (i * 4)).add 1) = some (.int .u16 col.g) ∧ W.cell? ((x.add (i * 4)).add 2) = some (.int .u16 col.b) ∧ W.cell? ((x.add (i * 4)).add 3) = some (.int .u16 col.a) := by
      intro i hi
      obtain ⟨cs', hc, ht⟩ := hel i (by omega)
      rw [cells_color] at hc
      obtain ⟨_, hlen, hcell⟩ := World.cells?_some hc
      obtain ⟨y0, y1, y2, y3, k', hx', hcl, t0, t1, t2, t3⟩ := trod_struct4 Try.underlying36 ht
      obtain ⟨c0, c1, c2, c3, rfl⟩ : ∃ c0 c1 c2 c3, cs' = [c0, c1, c2, c3] := by
        match cs', hlen with
        | [c0, c1, c2, c3], _ => exact ⟨c0, c1, c2, c3, rfl⟩
      have q : Try.prog.cellsOf 22 = 1 := by kernel_rfl
      obtain ⟨r, e0, _, w0⟩ := DataW.trod_int Try.underlying22 t0
      obtain ⟨g, e1, _, w1⟩ := DataW.trod_int Try.underlying22 t1
      obtain ⟨b, e2, _, w2⟩ := DataW.trod_int Try.underlying22 t2
      obtain ⟨al, e3, _, w3⟩ := DataW.trod_int Try.underlying22 t3
      simp only [q] at e0 e1 e2 e3
      simp at e0 e1 e2 e3
      subst e0 e1 e2 e3
      have z0 := hcell 0 (by omega)
      have z1 := hcell 1 (by omega)
      have z2 := hcell 2 (by omega)
      have z3 := hcell 3 (by omega)
      simp [Addr.add] at z0
      refine ⟨⟨r, g, b, al⟩, ⟨wf_u16_range w0, wf_u16_range w1, wf_u16_range w2, wf_u16_range w3⟩, ?_, z1, z2, z3⟩
      simpa [Addr.add] using z0
    haveI : Inhabited C4 := ⟨C4.zero⟩
    obtain ⟨f, hf'⟩ := Deep.choose_lt (α := C4) each
    have hget : ∀ i, i < n → ((List.range n).map f).getD i C4.zero = f i := by
      intro i hi
      simp [List.getD_eq_getElem?_getD, hi]
    refine ⟨(List.range n).map f, ⟨by simp, hl, hm, (fun e => by cases e), ?_, ?_⟩, .inr ⟨_, _, hx.1, ?_⟩⟩
    · intro y hy
      obtain ⟨i, hi, rfl⟩ := List.mem_map.1 hy
      exact (hf' i (List.mem_range.1 hi)).1
    · by_cases h0 : n = 0
      · subst h0; exact .inl rfl
      · obtain ⟨b, off, spot⟩ := x
        have hc0 := (hf' 0 (by omega)).2.1
        have hspot : spot = none := by simpa [Addr.add] using World.cell?_spot hc0
        subst hspot
        refine .inr ⟨b, off, rfl, fun i hi => ?_⟩
        simp only [List.length_map, List.length_range] at hi
        rw [hget i hi]
        obtain ⟨_, q0, q1, q2, q3⟩ := hf' i hi
        simp only [addr_add] at q0 q1 q2 q3
        exact ⟨q0, q1, q2, q3⟩
    · simp; omega

/-- the cells of a list of colours -/
def colVals (l : List C4) : List Value := l.flatMap fun c => [.int .u16 c.r, .int .u16 c.g, .int .u16 c.b, .int .u16 c.a]
theorem colVals_cons (c : C4) (l : List C4) : colVals (c :: l) = .int .u16 c.r :: .int .u16 c.g :: .int .u16 c.b :: .int .u16 c.a :: colVals l := rfl
theorem colVals_append (l m : List C4) : colVals (l ++ m) = colVals l ++ colVals m := by simp [colVals]
theorem colVals_length (l : List C4) : (colVals l).length = l.length * 4 := by
  induction l with
  | nil => rfl
  | cons c r ih => rw [colVals_cons]; simp only [List.length_cons, ih]; omega
theorem colVals_get : ∀ (l : List C4) (i : Nat), i < l.length →
    (colVals l)[i * 4]? = some (.int .u16 (l.getD i C4.zero).r) ∧ (colVals l)[i * 4 + 1]? = some (.int .u16 (l.getD i C4.zero).g) ∧ (colVals l)[i * 4 + 2]? = some (.int .u16 (l.getD i C4.zero).b) ∧ (colVals l)[i * 4 + 3]? = some (.int .u16 (l.getD i C4.zero).a)
  | c :: r, 0, _ => ⟨rfl, rfl, rfl, rfl⟩
  | c :: r, i + 1, h => by
    obtain ⟨h0, h1, h2, h3⟩ := colVals_get r i (by simpa using h)
    have e : (i + 1) * 4 = i * 4 + 4 := by omega
    rw [colVals_cons]
    refine ⟨?_, ?_, ?_, ?_⟩
    · rw [e]; exact h0
    · rw [e]; exact h1
    · rw [e]; exact h2
    · rw [e]; exact h3
theorem colVals_one (l : List C4) : ∀ u ∈ colVals l, u.oneCell' = true := by
  intro u hu
  obtain ⟨c, _, h⟩ := List.mem_flatMap.1 hu
  simp only [List.mem_cons, List.not_mem_nil, or_false] at h
  rcases h with rfl | rfl | rfl | rfl <;> rfl
/-- what can be read serves as an append's source -/
theorem SlC.at_news {w : World} {ad : Addr} {n cap : Nat} {l : List C4} (h : SlC w (some ad) n cap l) : ∀ j u, (colVals l)[j]? = some u → w.cell? (ad.add j) = some u := by
  intro j u hu
  have hj : j < l.length * 4 := by
    have := (List.getElem?_eq_some_iff.1 hu).1
    rwa [colVals_length] at this
  have hi : j / 4 < l.length := by omega
  rcases h.rd with h0 | ⟨b, off, e, hc⟩
  · rw [h0] at hj; simp at hj
  · simp only [Option.some.injEq] at e
    subst e
    obtain ⟨g0, g1, g2, g3⟩ := colVals_get l (j / 4) hi
    obtain ⟨c0, c1, c2, c3⟩ := hc (j / 4) hi
    rw [addr_add]
    rcases (show j = j / 4 * 4 ∨ j = j / 4 * 4 + 1 ∨ j = j / 4 * 4 + 2 ∨ j = j / 4 * 4 + 3 by omega) with e | e | e | e
    · rw [← e, hu] at g0; rw [← e] at c0; rw [c0, ← g0]
    · rw [← e, hu] at g1; rw [Nat.add_assoc, ← e] at c1; rw [c1, ← g1]
    · rw [← e, hu] at g2; rw [Nat.add_assoc, ← e] at c2; rw [c2, ← g2]
    · rw [← e, hu] at g3; rw [Nat.add_assoc, ← e] at c3; rw [c3, ← g3]
/-- an owned row of colours can be read -/
theorem RdC.owned {w : World} {base : Nat} {t : TypeId} {g n cap : Nat} {l m : List C4} (h : w.ownsRow base t 4 (.slice (some ⟨g, 0, none⟩) n cap) n (colVals (l ++ m))) : RdC w (some ⟨g, 0, none⟩) l := by
  refine .inr ⟨g, 0, rfl, fun i hi => ?_⟩
  have hn : (l ++ m).length * 4 = n * 4 := by have := h.1; rwa [colVals_length] at this
  have hlm : i < (l ++ m).length := by rw [List.length_append]; omega
  obtain ⟨g0, g1, g2, g3⟩ := colVals_get (l ++ m) i hlm
  have eg : (l ++ m).getD i C4.zero = l.getD i C4.zero := by simp [List.getD_eq_getElem?_getD, List.getElem?_append_left hi]
  rw [eg] at g0 g1 g2 g3
  simp only [Nat.zero_add]
  exact ⟨(h.cellAt _ (by omega)).trans g0, (h.cellAt _ (by omega)).trans g1, (h.cellAt _ (by omega)).trans g2, (h.cellAt _ (by omega)).trans g3⟩
end Go.Proofs.Ytpieaebhmmaeoaa
