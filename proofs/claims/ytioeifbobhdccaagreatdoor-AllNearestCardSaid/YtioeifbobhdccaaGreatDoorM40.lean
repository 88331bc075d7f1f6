/- A law of drawn regions with ONE store among operations that make memory: what may still come up behind the store is told apart. No program in sight. -/
import Derived.Test.YtioeifbobhdccaaGreatDoorM4
namespace Go.Proofs.YtioeifbobhdccaaGreatDoor
open Go.RowKit

section
variable {P : Program} {ops : Array Oper} {Q : Exit → Act → World → Prop} {D : Nat → Nat}

/-- every binding edge points back -/
def backsB (ops : Array Oper) : Bool := (List.range ops.size).all fun i => ((ops[i]?).map (·.after.all fun e => !Region.binds .any e || decide (e.on < i))).getD true
theorem all_listedB (hb : backsB ops = true) {listed : Array Bool} (hs : listed.size = ops.size) (h : Region.ready .any ops listed = []) : ∀ i, i < ops.size → listed.getD i false = true := by
  intro i
  induction i using Nat.strongRecOn with
  | _ i ih =>
    intro hi
    cases hv : listed.getD i false with
    | true => rfl
    | false =>
      exfalso
      have hmem : i ∈ Region.ready .any ops listed := by
        refine mem_ready.2 ⟨?_, ops[i], Array.getElem?_eq_getElem hi, fun e he hbd => ?_⟩
        · have : i < listed.size := hs ▸ hi
          simpa [this] using hv
        · have h1 := List.all_eq_true.1 hb i (List.mem_range.2 hi)
          rw [Array.getElem?_eq_getElem hi] at h1
          have h2 := Array.all_eq_true_iff_forall_mem.1 h1 e he
          simp only [hbd, Bool.not_true, Bool.false_or, decide_eq_true_eq] at h2
          exact ih e.on h2 (by omega)
      rw [h] at hmem
      cases hmem

/-- all but number s: no guards, each lays a value in a place of its own; number s lays none -/
def plainBut (ops : Array Oper) (D : Nat → Nat) (s m : Nat) : Bool :=
  (List.range ops.size).all fun i => if i = s then ((ops[i]?).map fun o => o.guard.isNone && o.dst.isNone).getD false else
    ((ops[i]?).map fun o => o.guard.isNone && decide (o.dst = some (D i)) && decide (D i < m)).getD false && (List.range i).all fun j => decide (j = s) || decide (D j ≠ D i)
theorem plainBut_at {s m i : Nat} {o : Oper} (h : plainBut ops D s m = true) (hi : i ≠ s) (ho : ops[i]? = some o) : o.guard = none ∧ o.dst = some (D i) ∧ D i < m := by
  have hlt : i < ops.size := (Array.getElem?_eq_some_iff.1 ho).1
  have h1 := List.all_eq_true.1 h i (List.mem_range.2 hlt)
  rw [if_neg hi, ho] at h1
  simp only [Option.map_some, Option.getD_some, Bool.and_eq_true, Option.isNone_iff_eq_none, decide_eq_true_eq] at h1
  exact ⟨h1.1.1.1, h1.1.1.2, h1.1.2⟩
theorem plainBut_s {s m : Nat} {o : Oper} (h : plainBut ops D s m = true) (ho : ops[s]? = some o) : o.guard = none ∧ o.dst = none := by
  have hlt : s < ops.size := (Array.getElem?_eq_some_iff.1 ho).1
  have h1 := List.all_eq_true.1 h s (List.mem_range.2 hlt)
  rw [if_pos rfl, ho] at h1
  simp only [Option.map_some, Option.getD_some, Bool.and_eq_true, Option.isNone_iff_eq_none] at h1
  exact h1
theorem plainBut_ne {s m i j : Nat} (h : plainBut ops D s m = true) (hi : i < ops.size) (hj : j < ops.size) (his : i ≠ s) (hjs : j ≠ s) (hne : i ≠ j) : D i ≠ D j := by
  have key : ∀ i j, i < ops.size → i ≠ s → j ≠ s → j < i → D j ≠ D i := fun i j hi his hjs hj => by
    have h1 := List.all_eq_true.1 h i (List.mem_range.2 hi)
    rw [if_neg his, Bool.and_eq_true] at h1
    have h2 := List.all_eq_true.1 h1.2 j (List.mem_range.2 hj)
    simpa [hjs] using h2
  rcases Nat.lt_or_gt_of_ne hne with hl | hl
  · exact key j i hj hjs his hl
  · exact fun e => key i j hi his hjs hl e.symm

/-- who does not stand ahead of number s may come up behind it -/
def lateB (ops : Array Oper) (s : Nat) (late : List Nat) : Bool :=
  (List.range ops.size).all fun i => decide (i = s) || late.contains i || (((ops[s]?).map fun o => o.after.any fun e => e.on == i && Region.binds .any e).getD false)

structure LaidS (ops : Array Oper) (s : Nat) (D : Nat → Nat) (R : Nat → Value → World → Prop) (a₀ : Act) (w₀ : World) (listed : Array Bool) (a : Act) (w : World) : Prop where
  below : Below w₀.heap.size w₀ w
  defers : a.defers = a₀.defers
  size : a.tmps.size = a₀.tmps.size
  old : ∀ d, (∀ i, i < ops.size → i ≠ s → D i ≠ d) → a.tmps[d]? = a₀.tmps[d]?
  new : ∀ i, i < ops.size → i ≠ s → listed.getD i false = true → ∃ v, a.tmps[D i]? = some v ∧ R i v w

theorem LaidS.step {R : Nat → Value → World → Prop} {a₀ : Act} {w₀ : World} {s : Nat} {listed : Array Bool} {a : Act} {w : World} (hI : LaidS ops s D R a₀ w₀ listed a w) (hp : plainBut ops D s a₀.tmps.size = true)
    (hR : ∀ i v w w', R i v w → Below w.heap.size w w' → R i v w') {i : Nat} (hi : i < ops.size) (his : i ≠ s) (hdn : D i < a₀.tmps.size) {v : Value} {w' : World} (hv : R i v w') (hb : Below w.heap.size w w') :
    LaidS ops s D R a₀ w₀ (listed.setIfInBounds i true) (a.put (some (D i)) v) w' := by
  refine ⟨hI.below.trans (hb.mono hI.below.size), hI.defers, ?_, ?_, ?_⟩
  · simpa [Act.put] using hI.size
  · intro d hdd
    have : D i ≠ d := hdd i hi his
    simp only [Act.put, Array.getElem?_setIfInBounds_ne this]
    exact hI.old d hdd
  · intro j hj hjs hjl
    by_cases hij : i = j
    · subst hij
      exact ⟨v, by simp [Act.put, hI.size, hdn], hv⟩
    · rw [getD_set_ne false hij] at hjl
      obtain ⟨u, hu, hRu⟩ := hI.new j hj hjs hjl
      refine ⟨u, ?_, hR j u w w' hRu hb⟩
      simp only [Act.put, Array.getElem?_setIfInBounds_ne (plainBut_ne hp hi hj his hjs hij)]
      exact hu

theorem wp_region_store {R R' : Nat → Value → World → Prop} {S : Act → World → Prop} {a₀ : Act} {w₀ : World} {id : Nat} (s : Nat) (late : List Nat) (hsz : s < ops.size) (hm : P.follows .mixedOrders = true)
    (hb : backsB ops = true) (hp : plainBut ops D s a₀.tmps.size = true) (hl : lateB ops s late = true) (hDs : D s < a₀.tmps.size) (hRs : ∀ v w, R' s v w)
    (hR : ∀ i v w w', R i v w → Below w.heap.size w w' → R i v w') (hR' : ∀ i v w w', R' i v w → Below w.heap.size w w' → R' i v w')
    (hS : ∀ a w, Below w₀.heap.size w₀ w → w₀.heap.size ≤ w.heap.size → (∀ d, (∀ i, i < ops.size → i ≠ s → D i ≠ d) → a.tmps[d]? = a₀.tmps[d]?) → S a w)
    (hop : AllDo (fun i o => i ≠ s → OpDoes P Q S D R i o) 0 ops.toList)
    (hop' : AllDo (fun i o => i ∈ late → OpDoes P Q S D R' i o) 0 ops.toList)
    (hstore : ∀ o a w, ops[s]? = some o → S a w → (∀ i, i ≠ s → Waits o i → ∃ v, a.tmps[D i]? = some v ∧ R i v w) →
      o.wp P a w (fun a' w' => a' = a.put none undef ∧ Below w₀.heap.size w w' ∧ ∀ i v, (i ∈ late ∨ Waits o i) → a.tmps[D i]? = some v → R i v w → R' i v w') Q)
    (hfin : ∀ a w, LaidS ops s D R' a₀ w₀ (Array.replicate ops.size true) a w → Q .normal a w) :
    (Code.region id ops true).wp P Q a₀ w₀ := by
  refine wp_region_any hm (wpAny_inv (fun listed a w => (listed.getD s false = false ∧ LaidS ops s D R a₀ w₀ listed a w) ∨ (listed.getD s false = true ∧ (∀ i, i < ops.size → i ≠ s → i ∉ late → listed.getD i false = true) ∧ LaidS ops s D R' a₀ w₀ listed a w)) ?_ ?_ _ _ _ _ (by simp) (by simp [left]) ?_)
  · intro listed a w hz hI i hi
    obtain ⟨hun, o, ho, hall⟩ := mem_ready.1 hi
    have hlt : i < ops.size := (Array.getElem?_eq_some_iff.1 ho).1
    have hwait : ∀ j, Waits o j → j < ops.size ∧ listed.getD j false = true := by
      intro j hj
      obtain ⟨e, he, hbd⟩ := Array.any_eq_true'.1 hj
      simp only [Bool.and_eq_true, beq_iff_eq] at hbd
      have hl := hall e he hbd.2
      rw [hbd.1] at hl
      have h1 := List.all_eq_true.1 hb i (List.mem_range.2 hlt)
      rw [ho] at h1
      have h2 := Array.all_eq_true_iff_forall_mem.1 h1 e he
      simp only [hbd.2, Bool.not_true, Bool.false_or, decide_eq_true_eq] at h2
      exact ⟨by omega, hl⟩
    by_cases his : i = s
    · subst his
      rcases hI with ⟨_, hI⟩ | ⟨hs1, _, _⟩
      · obtain ⟨hg, hd⟩ := plainBut_s hp ho
        have hwanted : Region.wanted o (yielded ops a.tmps) = true := by simp [Region.wanted, hg]
        unfold wpOp
        simp only [ho, hwanted, if_true]
        refine .inl (Oper.wp_mono ?_ (hstore o a w ho (hS a w hI.below hI.below.size hI.old) fun j hjs hj => hI.new j (hwait j hj).1 hjs (hwait j hj).2))
        rintro a' w' ⟨rfl, hbw, htr⟩
        refine .inr ⟨by simp [hz, hlt], ?_, hI.below.trans hbw, hI.defers, hI.size, hI.old, ?_⟩
        · intro j hj hjs hjl
          rw [getD_set_ne false (Ne.symm hjs)]
          have h1 := List.all_eq_true.1 hl j (List.mem_range.2 hj)
          simp only [Bool.or_eq_true, decide_eq_true_eq, hjs, false_or] at h1
          rcases h1 with h1 | h1
          · exact absurd (List.contains_iff_mem.1 h1) hjl
          · rw [ho] at h1
            exact (hwait j h1).2
        · intro j hj hjs hjl
          rw [getD_set_ne false (Ne.symm hjs)] at hjl
          obtain ⟨v, hv, hRv⟩ := hI.new j hj hjs hjl
          refine ⟨v, hv, htr j v ?_ hv hRv⟩
          have h1 := List.all_eq_true.1 hl j (List.mem_range.2 hj)
          simp only [Bool.or_eq_true, decide_eq_true_eq, hjs, false_or] at h1
          rcases h1 with h1 | h1
          · exact .inl (List.contains_iff_mem.1 h1)
          · rw [ho] at h1
            exact .inr h1
      · have : i < listed.size := by rw [hz]; exact hlt
        simp [this] at hun hs1
        rw [hun] at hs1; cases hs1
    · obtain ⟨hg, hd, hdn⟩ := plainBut_at hp his ho
      have hwanted : Region.wanted o (yielded ops a.tmps) = true := by simp [Region.wanted, hg]
      unfold wpOp
      simp only [ho, hwanted, if_true]
      rcases hI with ⟨hs0, hI⟩ | ⟨hs1, hearly, hI⟩
      · have hdo := AllDo.at hop (i := i) (o := o) (by simpa using ho)
        rw [Nat.zero_add] at hdo
        refine .inl (Oper.wp_mono ?_ (hdo his a w (hS a w hI.below hI.below.size hI.old) fun j hj => ?_))
        · rintro a' w' ⟨v, rfl, hRv, hbw⟩
          rw [hd]
          exact .inl ⟨by rw [getD_set_ne false his]; exact hs0, hI.step hp hR hlt his hdn hRv hbw⟩
        · have h1 := hwait j hj
          have hjs : j ≠ s := by
            rintro rfl
            rw [hs0] at h1; cases h1.2
          exact hI.new j h1.1 hjs h1.2
      · have hil : i ∈ late := by
          by_cases h : i ∈ late
          · exact h
          · have h1 := hearly i hlt his h
            have h2 : i < listed.size := by rw [hz]; exact hlt
            simp [h2] at hun h1
            rw [hun] at h1; cases h1
        have hdo := AllDo.at hop' (i := i) (o := o) (by simpa using ho)
        rw [Nat.zero_add] at hdo
        refine .inl (Oper.wp_mono ?_ (hdo hil a w (hS a w hI.below hI.below.size hI.old) fun j hj => ?_))
        · rintro a' w' ⟨v, rfl, hRv, hbw⟩
          rw [hd]
          refine .inr ⟨by rw [getD_set_ne false his]; exact hs1, fun j hj hjs hjl => ?_, hI.step hp hR' hlt his hdn hRv hbw⟩
          exact getD_set_true (hearly j hj hjs hjl)
        · have h1 := hwait j hj
          by_cases hjs : j = s
          · subst hjs
            have h2 : D j < a.tmps.size := by rw [hI.size]; exact hDs
            exact ⟨a.tmps[D j], Array.getElem?_eq_getElem h2, hRs _ _⟩
          · exact hI.new j h1.1 hjs h1.2
  · intro listed a w hz hI hnil
    have hall := all_listedB hb hz hnil
    rcases hI with ⟨hs0, _⟩ | ⟨_, _, hI⟩
    · rw [hall s hsz] at hs0; cases hs0
    · exact hfin a w ⟨hI.below, hI.defers, hI.size, hI.old, fun i hi his _ => hI.new i hi his (hall i hi)⟩
  · refine .inl ⟨by rw [getD_replicate_false], Below.drew (Below.refl _ _), rfl, rfl, fun _ _ => rfl, fun i hi _ hl => ?_⟩
    rw [getD_replicate_false] at hl; cases hl
end
end Go.Proofs.YtioeifbobhdccaaGreatDoor
