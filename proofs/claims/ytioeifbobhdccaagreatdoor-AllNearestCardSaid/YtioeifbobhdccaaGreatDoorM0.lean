/- What a list of numbers is read from, and how an argument that is a slice of integers is opened into it. -/
import Derived.Test.YtioeifbobhdccaaGreatDoorRows
import Derived.WalkKit
import Derived.WalkSpells
import Derived.WalkLawsBesides
import Derived.Lib.Hide
import Derived.Deep.DeepMust
import Derived.Outline
import Derived.Orders
namespace Go.Proofs.YtioeifbobhdccaaGreatDoor
open Go.RowKit

/-- WHAT A LIST OF NUMBERS IS READ FROM: the cells at 'a' on hold it (nothing is said of the address of an empty one). -/
def Rd (k : IntKind) (w : World) (a : Option Addr) (l : List Int) : Prop :=
  l = [] ∨ ∃ b off, a = some ⟨b, off, none⟩ ∧ ∀ i, i < l.length → w.cell? ⟨b, off + i, none⟩ = some (.int k (l.getD i 0))
theorem Rd.nil {k : IntKind} {w : World} {a : Option Addr} : Rd k w a [] := .inl rfl
theorem Rd.below {k : IntKind} {w w' : World} {a : Option Addr} {l : List Int} (h : Rd k w a l) (hb : Below w.heap.size w w') : Rd k w' a l := by
  rcases h with h | ⟨b, off, rfl, h⟩
  · exact .inl h
  · exact .inr ⟨b, off, rfl, fun i hi => (hb.cell (block_lt_of_cell (h i hi))).trans (h i hi)⟩
theorem Rd.take {k : IntKind} {w : World} {a : Option Addr} {l : List Int} (h : Rd k w a l) (m : Nat) : Rd k w a (l.take m) := by
  rcases h with h | ⟨b, off, rfl, h⟩
  · exact .inl (by simp [h])
  · refine .inr ⟨b, off, rfl, fun i hi => ?_⟩
    simp only [List.length_take] at hi
    rw [h i (by omega)]
    congr 2
    simp only [List.getD_eq_getElem?_getD, List.getElem?_take]
    rw [if_pos (by omega)]
theorem Rd.drop {k : IntKind} {w : World} {b off : Nat} {l : List Int} (h : Rd k w (some ⟨b, off, none⟩) l) (m : Nat) : Rd k w (some ⟨b, off + m, none⟩) (l.drop m) := by
  rcases h with h | ⟨b', off', e, h⟩
  · exact .inl (by simp [h])
  · simp only [Option.some.injEq, Addr.mk.injEq, and_true] at e
    obtain ⟨rfl, rfl⟩ := e
    refine .inr ⟨b, off + m, rfl, fun i hi => ?_⟩
    simp only [List.length_drop] at hi
    have := h (m + i) (by omega)
    rw [show off + m + i = off + (m + i) from by omega, this]
    congr 2
    simp only [List.getD_eq_getElem?_getD, List.getElem?_drop]
theorem Rd.cell {k : IntKind} {w : World} {b off : Nat} {l : List Int} (h : Rd k w (some ⟨b, off, none⟩) l) (i : Nat) (hi : i < l.length) : w.cell? ⟨b, off + i, none⟩ = some (.int k (l.getD i 0)) := by
  rcases h with h | ⟨b', off', e, h⟩
  · rw [h] at hi; simp at hi
  · simp only [Option.some.injEq, Addr.mk.injEq, and_true] at e
    obtain ⟨rfl, rfl⟩ := e
    exact h i hi
/-- a list that is not empty has a true address -/
theorem Rd.at {k : IntKind} {w : World} {a : Option Addr} {l : List Int} (h : Rd k w a l) (hl : 0 < l.length) : ∃ b off, a = some ⟨b, off, none⟩ := by
  rcases h with h | ⟨b, off, rfl, _⟩
  · rw [h] at hl; simp at hl
  · exact ⟨b, off, rfl⟩

/-- A SLICE OF INTEGERS THAT CAN BE READ: its length, its capacity, what it holds. -/
structure Sl (k : IntKind) (w : World) (a : Option Addr) (n cap : Nat) (l : List Int) : Prop where
  len : l.length = n
  fits : n ≤ cap
  most : cap ≤ maxLen
  bare : a = Option.none → cap = 0
  wf : ∀ x ∈ l, (Lit.int k x).wf = true
  rd : Rd k w a l
theorem Sl.below {k : IntKind} {w w' : World} {a : Option Addr} {n cap : Nat} {l : List Int} (h : Sl k w a n cap l) (hb : Below w.heap.size w w') : Sl k w' a n cap l :=
  ⟨h.len, h.fits, h.most, h.bare, h.wf, h.rd.below hb⟩
theorem Sl.nil {k : IntKind} {w : World} : Sl k w Option.none 0 0 [] := ⟨rfl, Nat.le_refl _, Nat.zero_le _, fun _ => rfl, (fun _ h => by cases h), .nil⟩

/-- A SLICE IN NEW MEMORY (from block 'base' on) that holds l, its own from its row's head. -/
def Fresh (k : IntKind) (t : TypeId) (base : Nat) (w' : World) (v : Value) (n : Nat) (l : List Int) : Prop :=
  ∃ g cap, v = .slice (some ⟨g, 0, none⟩) n cap ∧ base ≤ g ∧ w'.ownsRow base t 1 v n (l.map (Value.int k))
theorem Fresh.sl {k : IntKind} {t : TypeId} {base : Nat} {w' : World} {g n cap : Nat} {l : List Int} (h : w'.ownsRow base t 1 (.slice (some ⟨g, 0, none⟩) n cap) n (l.map (Value.int k))) (hw : ∀ x ∈ l, (Lit.int k x).wf = true) : Sl k w' (some ⟨g, 0, none⟩) n cap l := by
  have hl : l.length = n := by have := h.1; simpa using this
  have hc : n ≤ cap ∧ cap ≤ maxLen := by
    rcases h.2 with ⟨h', _⟩ | ⟨g', cap', cur, h', _, _, h1, h2, _⟩
    · cases h'
    · simp only [Value.slice.injEq, Option.some.injEq, Addr.mk.injEq, and_true, true_and] at h'
      obtain ⟨_, rfl⟩ := h'
      exact ⟨h1, h2⟩
  refine ⟨hl, hc.1, hc.2, fun e => by simp at e, hw, .inr ⟨g, 0, rfl, fun i hi => ?_⟩⟩
  rw [Nat.zero_add, h.cellAt i (by omega), List.getElem?_map]
  simp [List.getD_eq_getElem?_getD, List.getElem?_eq_getElem hi]
theorem Sl.at_news {k : IntKind} {w : World} {ad : Addr} {n cap : Nat} {l : List Int} (h : Sl k w (some ad) n cap l) : ∀ j u, (l.map (Value.int k))[j]? = some u → w.cell? (ad.add j) = some u := by
  intro j u hu
  have hj : j < l.length := by
    have := (List.getElem?_eq_some_iff.1 hu).1
    simpa using this
  rcases h.rd with h0 | ⟨b, off, e, hc⟩
  · rw [h0] at hj; simp at hj
  · simp only [Option.some.injEq] at e
    subst e
    have := hc j hj
    simp only [List.getElem?_map, List.getElem?_eq_getElem hj, Option.map_some, Option.some.injEq] at hu
    rw [← hu]
    have e2 : (⟨b, off, Option.none⟩ : Addr).add j = ⟨b, off + j, Option.none⟩ := by unfold Addr.add; split <;> simp_all
    rw [e2, this, List.getD_eq_getElem?_getD, List.getElem?_eq_getElem hj]
    rfl
theorem fresh_of {k : IntKind} {t : TypeId} {base : Nat} {w' : World} {v : Value} {n : Nat} {l : List Int} (h : w'.ownsRow base t 1 v n (l.map (Value.int k))) (hv : ¬ v = .slice none 0 0) : Fresh k t base w' v n l := by
  rcases h.2 with ⟨h', _⟩ | ⟨g, cap, cur, rfl, hb, hr⟩
  · exact absurd h' hv
  · exact ⟨g, cap, rfl, hb, h⟩

end Go.Proofs.YtioeifbobhdccaaGreatDoor
/- A law of drawn regions whose operations make memory: an invariant that holds in every order. No program in sight. -/
namespace Go.Proofs.YtioeifbobhdccaaGreatDoor
open Go.RowKit

section
variable {P : Program} {ops : Array Oper} {Q : Exit → Act → World → Prop}

/-- how many operations have not come up -/
def left (listed : Array Bool) : Nat := listed.toList.count false

theorem left_set (listed : Array Bool) (i : Nat) (h : listed.getD i true = false) : left (listed.setIfInBounds i true) + 1 = left listed := by
  have hlt : i < listed.size := by
    rcases Nat.lt_or_ge i listed.size with h' | h'
    · exact h'
    · simp [Array.getElem?_eq_none h'] at h
  have hv : listed.toList[i]'(by simpa using hlt) = false := by
    simpa [hlt] using h
  unfold left
  rw [Array.toList_setIfInBounds, List.count_set (by simpa using hlt)]
  have hp : 0 < listed.toList.count false := List.count_pos_iff.2 (hv ▸ List.getElem_mem _)
  rw [hv, if_pos (by rfl), if_neg (by simp)]
  omega

theorem left_zero (listed : Array Bool) (h : left listed = 0) (i : Nat) : listed.getD i true = true := by
  rcases Nat.lt_or_ge i listed.size with hlt | h'
  · have := List.count_eq_zero.1 h
    cases hv : listed[i]'hlt
    · exact absurd (by rw [← hv]; simp) this
    · simp [hlt, hv]
  · simp [Array.getElem?_eq_none h']

theorem wpAny_inv (Inv : Array Bool → Act → World → Prop)
    (hstep : ∀ listed a w, listed.size = ops.size → Inv listed a w → ∀ i ∈ Region.ready .any ops listed, wpOp P ops Q i (Inv (listed.setIfInBounds i true)) a w)
    (hfin : ∀ listed a w, listed.size = ops.size → Inv listed a w → Region.ready .any ops listed = [] → Q .normal a w) :
    ∀ fuel listed a w, listed.size = ops.size → left listed ≤ fuel → Inv listed a w → wpAny P .any ops Q fuel listed a w := by
  intro fuel
  induction fuel with
  | zero =>
    intro listed a w hs hl hI
    have h0 : Region.ready .any ops listed = [] := by
      apply List.eq_nil_iff_forall_not_mem.2
      intro j hj
      have := (mem_ready.1 hj).1
      rw [left_zero listed (by omega)] at this
      cases this
    exact ⟨h0, hfin listed a w hs hI h0⟩
  | succ fuel ih =>
    intro listed a w hs hl hI
    refine ⟨hfin listed a w hs hI, fun i hi => ?_⟩
    refine wpOp_mono (fun a' w' h => ih _ a' w' (by simpa using hs) ?_ h) (hstep listed a w hs hI i hi)
    have := left_set listed i (mem_ready.1 hi).1
    omega

/-- every operation stands behind earlier ones alone -/
def backs (ops : Array Oper) : Bool := (List.range ops.size).all fun i => ((ops[i]?).map (·.after.all fun e => decide (e.on < i))).getD true

theorem all_listed (hb : backs ops = true) {listed : Array Bool} (hs : listed.size = ops.size) (h : Region.ready .any ops listed = []) : ∀ i, i < ops.size → listed.getD i false = true := by
  intro i
  induction i using Nat.strongRecOn with
  | _ i ih =>
    intro hi
    cases hv : listed.getD i false with
    | true => rfl
    | false =>
      exfalso
      have hmem : i ∈ Region.ready .any ops listed := by
        refine mem_ready.2 ⟨?_, ops[i], Array.getElem?_eq_getElem hi, fun e he _ => ?_⟩
        · have : i < listed.size := hs ▸ hi
          simpa [this] using hv
        · have h1 := List.all_eq_true.1 hb i (List.mem_range.2 hi)
          rw [Array.getElem?_eq_getElem hi] at h1
          have h2 := Array.all_eq_true_iff_forall_mem.1 h1 e he
          have hlt : e.on < i := by simpa using h2
          exact ih e.on hlt (by omega)
      rw [h] at hmem
      cases hmem

/-- no guards, each lays a value, each in a place of its own: the i-th in D i -/
def plainOps (ops : Array Oper) (D : Nat → Nat) (n : Nat) : Bool :=
  (List.range ops.size).all fun i => ((ops[i]?).map fun o => o.guard.isNone && decide (o.dst = some (D i)) && decide (D i < n)).getD false &&
    (List.range i).all fun j => decide (D j ≠ D i)

section
variable {D : Nat → Nat}
theorem plainOps_at {n i : Nat} {o : Oper} (h : plainOps ops D n = true) (ho : ops[i]? = some o) :
    o.guard = none ∧ o.dst = some (D i) ∧ D i < n := by
  have hlt : i < ops.size := (Array.getElem?_eq_some_iff.1 ho).1
  have h1 := List.all_eq_true.1 h i (List.mem_range.2 hlt)
  rw [ho] at h1
  simp only [Option.map_some, Option.getD_some, Bool.and_eq_true, Option.isNone_iff_eq_none, decide_eq_true_eq] at h1
  exact ⟨h1.1.1.1, h1.1.1.2, h1.1.2⟩

theorem plainOps_ne {n i j : Nat} (h : plainOps ops D n = true) (hi : i < ops.size) (hj : j < ops.size) (hne : i ≠ j) : D i ≠ D j := by
  have key : ∀ i j, i < ops.size → j < i → D j ≠ D i := fun i j hi hj => by
    have h1 := List.all_eq_true.1 h i (List.mem_range.2 hi)
    rw [Bool.and_eq_true] at h1
    have h2 := List.all_eq_true.1 h1.2 j (List.mem_range.2 hj)
    simpa using h2
  rcases Nat.lt_or_gt_of_ne hne with hl | hl
  · exact key j i hj hl
  · exact fun e => key i j hi hl e.symm

/-- what the operations that have come up have left: the i-th one a value of which R i holds; all else as it was -/
structure Laid (ops : Array Oper) (D : Nat → Nat) (R : Nat → Value → World → Prop) (a₀ : Act) (w₀ : World) (listed : Array Bool) (a : Act) (w : World) : Prop where
  below : Below w₀.heap.size w₀ w
  defers : a.defers = a₀.defers
  size : a.tmps.size = a₀.tmps.size
  old : ∀ d, (∀ i, i < ops.size → D i ≠ d) → a.tmps[d]? = a₀.tmps[d]?
  new : ∀ i, i < ops.size → listed.getD i false = true → ∃ v, a.tmps[D i]? = some v ∧ R i v w

/-- what is asked of the operation i -/
def OpDoes (P : Program) (Q : Exit → Act → World → Prop) (S : Act → World → Prop) (D : Nat → Nat) (R : Nat → Value → World → Prop) (i : Nat) (o : Oper) : Prop :=
  ∀ (a : Act) (w : World), S a w → (∀ j, o.after.any (fun e => e.on == j && Region.binds .any e) = true → ∃ v, a.tmps[D j]? = some v ∧ R j v w) →
    o.wp P a w (fun a' w' => ∃ v, a' = a.put o.dst v ∧ R i v w' ∧ Below w.heap.size w w') Q

/-- of all of a list -/
def AllDo (G : Nat → Oper → Prop) : Nat → List Oper → Prop
  | _, [] => True
  | n, o :: os => G n o ∧ AllDo G (n + 1) os
theorem AllDo.at {G : Nat → Oper → Prop} : ∀ {l : List Oper} {n : Nat}, AllDo G n l → ∀ {i : Nat} {o : Oper}, l[i]? = some o → G (n + i) o
  | [], _, _, i, o, h => by simp at h
  | x :: xs, n, ⟨h0, h1⟩, 0, o, h => by simp at h; subst h; exact h0
  | x :: xs, n, ⟨h0, h1⟩, i + 1, o, h => by
    have := AllDo.at h1 (i := i) (by simpa using h)
    rwa [Nat.add_assoc, Nat.add_comm 1] at this

theorem wp_region_laid {R : Nat → Value → World → Prop} {S : Act → World → Prop} {a₀ : Act} {w₀ : World} {id : Nat} (hm : P.follows .mixedOrders = true)
    (hb : backs ops = true) (hp : plainOps ops D a₀.tmps.size = true)
    (hR : ∀ i v w w', R i v w → Below w.heap.size w w' → R i v w')
    (hS : ∀ a w, Below w₀.heap.size w₀ w → w₀.heap.size ≤ w.heap.size → (∀ d, (∀ i, i < ops.size → D i ≠ d) → a.tmps[d]? = a₀.tmps[d]?) → S a w)
    (hop : AllDo (OpDoes P Q S D R) 0 ops.toList)
    (hfin : ∀ a w, Laid ops D R a₀ w₀ (Array.replicate ops.size true) a w → Q .normal a w) :
    (Code.region id ops true).wp P Q a₀ w₀ := by
  refine wp_region_any hm (wpAny_inv (Laid ops D R a₀ w₀) ?_ ?_ _ _ _ _ (by simp) (by simp [left]) ?_)
  · intro listed a w hs hI i hi
    obtain ⟨hun, o, ho, hall⟩ := mem_ready.1 hi
    obtain ⟨hg, hd, hdn⟩ := plainOps_at hp ho
    have hlt : i < ops.size := (Array.getElem?_eq_some_iff.1 ho).1
    have hwanted : Region.wanted o (yielded ops a.tmps) = true := by simp [Region.wanted, hg]
    have hdo := AllDo.at hop (i := i) (o := o) (by simpa using ho)
    rw [Nat.zero_add] at hdo
    unfold wpOp
    simp only [ho, hwanted, if_true]
    refine .inl (Oper.wp_mono ?_ (hdo a w (hS a w hI.below hI.below.size hI.old) fun j hj => ?_))
    · rintro a' w' ⟨v, rfl, hRv, hbw⟩
      rw [hd]
      refine ⟨hI.below.trans (hbw.mono hI.below.size), hI.defers, ?_, ?_, ?_⟩
      · simpa [Act.put] using hI.size
      · intro d hdd
        have : D i ≠ d := hdd i hlt
        simp only [Act.put, Array.getElem?_setIfInBounds_ne this]
        exact hI.old d hdd
      · intro j hj hjl
        by_cases hij : i = j
        · subst hij
          exact ⟨v, by simp [Act.put, hI.size, hdn], hRv⟩
        · rw [getD_set_ne false hij] at hjl
          obtain ⟨u, hu, hRu⟩ := hI.new j hj hjl
          refine ⟨u, ?_, hR j u w w' hRu hbw⟩
          simp only [Act.put, Array.getElem?_setIfInBounds_ne (plainOps_ne hp hlt hj hij)]
          exact hu
    · obtain ⟨e, he, hbd⟩ := Array.any_eq_true'.1 hj
      simp only [Bool.and_eq_true, beq_iff_eq] at hbd
      have hl := hall e he hbd.2
      rw [hbd.1] at hl
      have hon : j < ops.size := by
        rcases Nat.lt_or_ge j listed.size with h' | h'
        · omega
        · simp [Array.getElem?_eq_none h'] at hl
      exact hI.new j hon hl
  · intro listed a w hs hI hnil
    refine hfin a w ⟨hI.below, hI.defers, hI.size, hI.old, fun i hi _ => hI.new i hi (all_listed hb hs hnil i hi)⟩
  · refine ⟨Below.drew (Below.refl _ _), rfl, rfl, fun _ _ => rfl, fun i hi hl => ?_⟩
    simp [hi] at hl
end
end
end Go.Proofs.YtioeifbobhdccaaGreatDoor
