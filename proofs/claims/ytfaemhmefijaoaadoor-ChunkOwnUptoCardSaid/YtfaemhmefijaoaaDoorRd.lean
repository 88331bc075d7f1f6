/- What a list of numbers is read from, and how an argument that is a slice of integers is opened into it. -/
import Derived.Test.YtfaemhmefijaoaaDoorRows
import Derived.WalkKit
import Derived.WalkSpells
import Derived.WalkLawsBesides
import Derived.Lib.Hide
import Derived.Deep.DeepMust
import Derived.Outline
namespace Go.Proofs.YtfaemhmefijaoaaDoor
open Go.RowKit

/-- WHAT A LIST OF NUMBERS IS READ FROM: the cells at 'a' on hold it (nothing is said of the address of an empty one). -/
def Rd (k : IntKind) (w : World) (a : Option Addr) (l : List Int) : Prop :=
  l = [] ∨ ∃ b off, a = some ⟨b, off, none⟩ ∧ ∀ i, i < l.length → w.cell? ⟨b, off + i, none⟩ = some (.int k (l.getD i 0))
theorem Rd.nil {k : IntKind} {w : World} {a : Option Addr} : Rd k w a [] := .inl rfl
theorem Rd.below {k : IntKind} {w w' : World} {a : Option Addr} {l : List Int} (h : Rd k w a l) (hb : Below w.heap.size w w') : Rd k w' a l := by
  rcases h with h | ⟨b, off, rfl, h⟩
  · exact .inl h
  · exact .inr ⟨b, off, rfl, fun i hi => (hb.cell (block_lt_of_cell (h i hi))).trans (h i hi)⟩
theorem Rd.take {k : IntKind} {w : World} {a : Option Addr} {l : List Int} (h : Rd k w a l) (m : Nat) : Rd k w a (l.take m) := by
  rcases h with h | ⟨b, off, rfl, h⟩
  · exact .inl (by simp [h])
  · refine .inr ⟨b, off, rfl, fun i hi => ?_⟩
    simp only [List.length_take] at hi
    rw [h i (by omega)]
    congr 2
    simp only [List.getD_eq_getElem?_getD, List.getElem?_take]
    rw [if_pos (by omega)]
theorem Rd.drop {k : IntKind} {w : World} {b off : Nat} {l : List Int} (h : Rd k w (some ⟨b, off, none⟩) l) (m : Nat) : Rd k w (some ⟨b, off + m, none⟩) (l.drop m) := by
  rcases h with h | ⟨b', off', e, h⟩
  · exact .inl (by simp [h])
  · simp only [Option.some.injEq, Addr.mk.injEq, and_true] at e
    obtain ⟨rfl, rfl⟩ := e
    refine .inr ⟨b, off + m, rfl, fun i hi => ?_⟩
    simp only [List.length_drop] at hi
    have := h (m + i) (by omega)
    rw [show off + m + i = off + (m + i) from by omega, this]
    congr 2
    simp only [List.getD_eq_getElem?_getD, List.getElem?_drop]
theorem Rd.cell {k : IntKind} {w : World} {b off : Nat} {l : List Int} (h : Rd k w (some ⟨b, off, none⟩) l) (i : Nat) (hi : i < l.length) : w.cell? ⟨b, off + i, none⟩ = some (.int k (l.getD i 0)) := by
  rcases h with h | ⟨b', off', e, h⟩
  · rw [h] at hi; simp at hi
  · simp only [Option.some.injEq, Addr.mk.injEq, and_true] at e
    obtain ⟨rfl, rfl⟩ := e
    exact h i hi
/-- a list that is not empty has a true address -/
theorem Rd.at {k : IntKind} {w : World} {a : Option Addr} {l : List Int} (h : Rd k w a l) (hl : 0 < l.length) : ∃ b off, a = some ⟨b, off, none⟩ := by
  rcases h with h | ⟨b, off, rfl, _⟩
  · rw [h] at hl; simp at hl
  · exact ⟨b, off, rfl⟩

/-- A SLICE OF INTEGERS THAT CAN BE READ: its length, its capacity, what it holds. -/
structure Sl (k : IntKind) (w : World) (a : Option Addr) (n cap : Nat) (l : List Int) : Prop where
  len : l.length = n
  fits : n ≤ cap
  most : cap ≤ maxLen
  bare : a = Option.none → cap = 0
  wf : ∀ x ∈ l, (Lit.int k x).wf = true
  rd : Rd k w a l
theorem Sl.below {k : IntKind} {w w' : World} {a : Option Addr} {n cap : Nat} {l : List Int} (h : Sl k w a n cap l) (hb : Below w.heap.size w w') : Sl k w' a n cap l :=
  ⟨h.len, h.fits, h.most, h.bare, h.wf, h.rd.below hb⟩
theorem Sl.nil {k : IntKind} {w : World} : Sl k w Option.none 0 0 [] := ⟨rfl, Nat.le_refl _, Nat.zero_le _, fun _ => rfl, (fun _ h => by cases h), .nil⟩

/-- A SLICE IN NEW MEMORY (from block 'base' on) that holds l, its own from its row's head. -/
def Fresh (k : IntKind) (t : TypeId) (base : Nat) (w' : World) (v : Value) (n : Nat) (l : List Int) : Prop :=
  ∃ g cap, v = .slice (some ⟨g, 0, none⟩) n cap ∧ base ≤ g ∧ w'.ownsRow base t 1 v n (l.map (Value.int k))
theorem Fresh.sl {k : IntKind} {t : TypeId} {base : Nat} {w' : World} {g n cap : Nat} {l : List Int} (h : w'.ownsRow base t 1 (.slice (some ⟨g, 0, none⟩) n cap) n (l.map (Value.int k))) (hw : ∀ x ∈ l, (Lit.int k x).wf = true) : Sl k w' (some ⟨g, 0, none⟩) n cap l := by
  have hl : l.length = n := by have := h.1; simpa using this
  have hc : n ≤ cap ∧ cap ≤ maxLen := by
    rcases h.2 with ⟨h', _⟩ | ⟨g', cap', cur, h', _, _, h1, h2, _⟩
    · cases h'
    · simp only [Value.slice.injEq, Option.some.injEq, Addr.mk.injEq, and_true, true_and] at h'
      obtain ⟨_, rfl⟩ := h'
      exact ⟨h1, h2⟩
  refine ⟨hl, hc.1, hc.2, fun e => by simp at e, hw, .inr ⟨g, 0, rfl, fun i hi => ?_⟩⟩
  rw [Nat.zero_add, h.cellAt i (by omega), List.getElem?_map]
  simp [List.getD_eq_getElem?_getD, List.getElem?_eq_getElem hi]
theorem Sl.at_news {k : IntKind} {w : World} {ad : Addr} {n cap : Nat} {l : List Int} (h : Sl k w (some ad) n cap l) : ∀ j u, (l.map (Value.int k))[j]? = some u → w.cell? (ad.add j) = some u := by
  intro j u hu
  have hj : j < l.length := by
    have := (List.getElem?_eq_some_iff.1 hu).1
    simpa using this
  rcases h.rd with h0 | ⟨b, off, e, hc⟩
  · rw [h0] at hj; simp at hj
  · simp only [Option.some.injEq] at e
    subst e
    have := hc j hj
    simp only [List.getElem?_map, List.getElem?_eq_getElem hj, Option.map_some, Option.some.injEq] at hu
    rw [← hu]
    have e2 : (⟨b, off, Option.none⟩ : Addr).add j = ⟨b, off + j, Option.none⟩ := by unfold Addr.add; split <;> simp_all
    rw [e2, this, List.getD_eq_getElem?_getD, List.getElem?_eq_getElem hj]
    rfl
theorem fresh_of {k : IntKind} {t : TypeId} {base : Nat} {w' : World} {v : Value} {n : Nat} {l : List Int} (h : w'.ownsRow base t 1 v n (l.map (Value.int k))) (hv : ¬ v = .slice none 0 0) : Fresh k t base w' v n l := by
  rcases h.2 with ⟨h', _⟩ | ⟨g, cap, cur, rfl, hb, hr⟩
  · exact absurd h' hv
  · exact ⟨g, cap, rfl, hb, h⟩

end Go.Proofs.YtfaemhmefijaoaaDoor
