/- A law of drawn regions whose operations make memory, with one operation at the end that waits for all of them. No program in sight. -/
import Derived.Test.YtioeifbobhdccaaGreatDoorM0
import Derived.StillTail
namespace Go.Proofs.YtioeifbobhdccaaGreatDoor
open Go.RowKit

section
variable {P : Program} {ops : Array Oper} {Q : Exit → Act → World → Prop} {D : Nat → Nat}

/-- the first n: no guards, each lays a value, each in a place of its own -/
def plainHead (ops : Array Oper) (D : Nat → Nat) (n m : Nat) : Bool :=
  (List.range n).all fun i => ((ops[i]?).map fun o => o.guard.isNone && decide (o.dst = some (D i)) && decide (D i < m)).getD false &&
    (List.range i).all fun j => decide (D j ≠ D i)
theorem plainHead_at {n m i : Nat} {o : Oper} (h : plainHead ops D n m = true) (hi : i < n) (ho : ops[i]? = some o) :
    o.guard = none ∧ o.dst = some (D i) ∧ D i < m := by
  have h1 := List.all_eq_true.1 h i (List.mem_range.2 hi)
  rw [ho] at h1
  simp only [Option.map_some, Option.getD_some, Bool.and_eq_true, Option.isNone_iff_eq_none, decide_eq_true_eq] at h1
  exact ⟨h1.1.1.1, h1.1.1.2, h1.1.2⟩
theorem plainHead_ne {n m i j : Nat} (h : plainHead ops D n m = true) (hi : i < n) (hj : j < n) (hne : i ≠ j) : D i ≠ D j := by
  have key : ∀ i j, i < n → j < i → D j ≠ D i := fun i j hi hj => by
    have h1 := List.all_eq_true.1 h i (List.mem_range.2 hi)
    rw [Bool.and_eq_true] at h1
    have h2 := List.all_eq_true.1 h1.2 j (List.mem_range.2 hj)
    simpa using h2
  rcases Nat.lt_or_gt_of_ne hne with hl | hl
  · exact key j i hj hl
  · exact fun e => key i j hi hl e.symm

structure LaidH (n : Nat) (D : Nat → Nat) (R : Nat → Value → World → Prop) (a₀ : Act) (w₀ : World) (listed : Array Bool) (a : Act) (w : World) : Prop where
  below : Below w₀.heap.size w₀ w
  defers : a.defers = a₀.defers
  size : a.tmps.size = a₀.tmps.size
  old : ∀ d, (∀ i, i < n → D i ≠ d) → a.tmps[d]? = a₀.tmps[d]?
  new : ∀ i, i < n → listed.getD i false = true → ∃ v, a.tmps[D i]? = some v ∧ R i v w

theorem getD_true_of {listed : Array Bool} {j : Nat} (hj : j < listed.size) (h : ¬ listed.getD j true = false) : listed.getD j false = true := by
  simp [hj] at h ⊢; exact h

theorem wp_region_laid_tail {R : Nat → Value → World → Prop} {S : Act → World → Prop} {a₀ : Act} {w₀ : World} {id : Nat} (n : Nat) (hn : ops.size = n + 1) (hm : P.follows .mixedOrders = true)
    (hb : backs ops = true) (hs : Region.sinkB .any ops n = true) (hp : plainHead ops D n a₀.tmps.size = true)
    (hR : ∀ i v w w', R i v w → Below w.heap.size w w' → R i v w')
    (hS : ∀ a w, Below w₀.heap.size w₀ w → w₀.heap.size ≤ w.heap.size → (∀ d, (∀ i, i < n → D i ≠ d) → a.tmps[d]? = a₀.tmps[d]?) → S a w)
    (hop : AllDo (OpDoes P Q S D R) 0 (ops.toList.take n))
    (hfin : ∀ a w, LaidH n D R a₀ w₀ (Array.replicate ops.size true) a w → wpList P ops Q (ops.toList.drop n) a w) :
    (Code.region id ops true).wp P Q a₀ w₀ := by
  have hc : Region.chainB .any ops n = true := by
    refine List.all_eq_true.2 fun t ht => ?_
    have := List.mem_range.1 ht
    simp only [Bool.or_eq_true, decide_eq_true_eq]
    exact .inl (by omega)
  refine wp_region_any hm (wpAny_inv (fun listed a w => (HeadInv .any ops n listed ∧ LaidH n D R a₀ w₀ listed a w) ∨ ((∀ j, j < ops.size → listed.getD j false = true) ∧ Q .normal a w)) ?_ ?_ _ _ _ _ (by simp) (by simp [left]) ?_)
  · intro listed a w hsz hI i hi
    have hi0 := hi
    obtain ⟨hun, o, ho, hall⟩ := mem_ready.1 hi
    have hlt : i < ops.size := (Array.getElem?_eq_some_iff.1 ho).1
    rcases hI with ⟨hH, hI⟩ | ⟨hA, _⟩
    · by_cases hin : i < n
      · obtain ⟨hg, hd, hdn⟩ := plainHead_at hp hin ho
        have hwanted : Region.wanted o (yielded ops a.tmps) = true := by simp [Region.wanted, hg]
        have hdo := AllDo.at hop (i := i) (o := o) (by simpa [List.getElem?_take, hin] using ho)
        rw [Nat.zero_add] at hdo
        unfold wpOp
        simp only [ho, hwanted, if_true]
        refine .inl (Oper.wp_mono ?_ (hdo a w (hS a w hI.below hI.below.size hI.old) fun j hj => ?_))
        · rintro a' w' ⟨v, rfl, hRv, hbw⟩
          rw [hd]
          refine .inl ⟨hH.set hi0 hin, hI.below.trans (hbw.mono hI.below.size), hI.defers, ?_, ?_, ?_⟩
          · simpa [Act.put] using hI.size
          · intro d hdd
            have : D i ≠ d := hdd i hin
            simp only [Act.put, Array.getElem?_setIfInBounds_ne this]
            exact hI.old d hdd
          · intro j hj hjl
            by_cases hij : i = j
            · subst hij
              exact ⟨v, by simp [Act.put, hI.size, hdn], hRv⟩
            · rw [getD_set_ne false hij] at hjl
              obtain ⟨u, hu, hRu⟩ := hI.new j hj hjl
              refine ⟨u, ?_, hR j u w w' hRu hbw⟩
              simp only [Act.put, Array.getElem?_setIfInBounds_ne (plainHead_ne hp hin hj hij)]
              exact hu
        · obtain ⟨e, he, hbd⟩ := Array.any_eq_true'.1 hj
          simp only [Bool.and_eq_true, beq_iff_eq] at hbd
          have hl := hall e he hbd.2
          rw [hbd.1] at hl
          have hjn : j < n := by
            have h1 := List.all_eq_true.1 hb i (List.mem_range.2 hlt)
            rw [ho] at h1
            have h2 := Array.all_eq_true_iff_forall_mem.1 h1 e he
            have : e.on < i := by simpa using h2
            omega
          exact hI.new j hjn hl
      · obtain rfl : i = n := by omega
        have hall' : ∀ j, j < i → listed.getD j false = true := by
          intro j hj
          refine getD_true_of (by rw [hsz]; omega) fun hf => ?_
          exact tail_waits hs hc (by omega) hH _ j rfl hj hf i (Nat.le_refl _) hi0
        have hL : LaidH i D R a₀ w₀ (Array.replicate ops.size true) a w := ⟨hI.below, hI.defers, hI.size, hI.old, fun j hj _ => hI.new j hj (hall' j hj)⟩
        have hf := hfin a w hL
        have hdrop : ops.toList.drop i = [o] := by
          have h1 : i < ops.toList.length := by simpa using hlt
          rw [List.drop_eq_getElem_cons h1, List.drop_eq_nil_of_le (by simp; omega)]
          have := (Array.getElem?_eq_some_iff.1 ho).2
          simpa using this
        rw [hdrop] at hf
        have hnew : ∀ j, j < ops.size → (listed.setIfInBounds i true).getD j false = true := by
          intro j hj
          by_cases hij : i = j
          · subst hij; simp [hsz, hlt]
          · rw [getD_set_ne false hij]; exact hall' j (by omega)
        unfold wpList at hf
        unfold wpOp
        simp only [ho]
        by_cases hw : Region.wanted o (yielded ops a.tmps) = true
        · simp only [hw, if_true] at hf ⊢
          rcases hf with hf | hf
          · exact .inl (Oper.wp_mono (fun a' w' h => .inr ⟨hnew, h⟩) hf)
          · exact .inr hf
        · simp only [hw] at hf ⊢
          exact .inr ⟨hnew, hf⟩
    · have h1 := hA i hlt
      have h2 : i < listed.size := by rw [hsz]; exact hlt
      simp [h2] at hun h1
      rw [hun] at h1; cases h1
  · intro listed a w hsz hI hnil
    rcases hI with ⟨hH, hI⟩ | ⟨_, hQ⟩
    · have h1 := all_listed hb hsz hnil n (by omega)
      have h2 := hH.tail n (Nat.le_refl _) (by omega)
      have h3 : n < listed.size := by rw [hsz]; omega
      simp [h3] at h1 h2
      rw [h2] at h1; cases h1
    · exact hQ
  · refine .inl ⟨⟨by simp, fun j oj _ hl => (by rw [getD_replicate_false] at hl; cases hl), fun t _ ht => getD_in (by simpa using ht) (getD_replicate_false _ _)⟩, Below.drew (Below.refl _ _), rfl, rfl, fun _ _ => rfl, fun i hi hl => ?_⟩
    rw [getD_replicate_false] at hl; cases hl
end
end Go.Proofs.YtioeifbobhdccaaGreatDoor
/- A law of drawn regions whose operations make memory, with several operations at the end, one after the other. No program in sight. -/
namespace Go.Proofs.YtioeifbobhdccaaGreatDoor
open Go.RowKit

section
variable {P : Program} {ops : Array Oper} {Q : Exit → Act → World → Prop} {D : Nat → Nat}

/-- the first n have come up -/
def firstN (m n : Nat) : Array Bool := ((List.range m).map fun i => decide (i < n)).toArray

theorem eq_firstN {listed : Array Bool} {m n : Nat} (hs : listed.size = m) (h1 : ∀ j, j < n → listed.getD j false = true) (h2 : ∀ t, n ≤ t → t < m → listed.getD t true = false) : listed = firstN m n := by
  apply Array.ext
  · simp [firstN, hs]
  · intro i hi hi'
    have him : i < m := hs ▸ hi
    simp only [firstN, List.getElem_toArray, List.getElem_map, List.getElem_range]
    by_cases h : i < n
    · have := h1 i h
      simp [hi] at this
      simp [this, h]
    · have := h2 i (by omega) him
      simp [hi] at this
      simp [this, h]

/-- .. with several operations behind, one after the other -/
theorem wp_region_laid_tails {R : Nat → Value → World → Prop} {S : Act → World → Prop} {a₀ : Act} {w₀ : World} {id : Nat} (n : Nat) (hn : n < ops.size) (hm : P.follows .mixedOrders = true)
    (hb : backs ops = true) (hs : Region.sinkB .any ops n = true) (hc : Region.chainB .any ops n = true) (hq : Region.seqB .any ops (ops.toList.drop n).length n (firstN ops.size n) = true) (hlf : left (firstN ops.size n) = (ops.toList.drop n).length) (hp : plainHead ops D n a₀.tmps.size = true)
    (hR : ∀ i v w w', R i v w → Below w.heap.size w w' → R i v w')
    (hS : ∀ a w, Below w₀.heap.size w₀ w → w₀.heap.size ≤ w.heap.size → (∀ d, (∀ i, i < n → D i ≠ d) → a.tmps[d]? = a₀.tmps[d]?) → S a w)
    (hop : AllDo (OpDoes P Q S D R) 0 (ops.toList.take n))
    (hfin : ∀ a w, LaidH n D R a₀ w₀ (Array.replicate ops.size true) a w → wpList P ops Q (ops.toList.drop n) a w) :
    (Code.region id ops true).wp P Q a₀ w₀ := by
  have key : ∀ fuel listed a w, listed.size = ops.size → left listed = fuel → HeadInv .any ops n listed → LaidH n D R a₀ w₀ listed a w → wpAny P .any ops Q fuel listed a w := by
    intro fuel
    induction fuel with
    | zero =>
      intro listed a w hsz hl hH _
      exfalso
      have h1 := left_zero listed hl n
      rw [hH.tail n (Nat.le_refl _) hn] at h1
      cases h1
    | succ f ih =>
      intro listed a w hsz hl hH hI
      by_cases hall : ∀ j, j < n → listed.getD j false = true
      · have he := eq_firstN hsz hall hH.tail
        have hL : LaidH n D R a₀ w₀ (Array.replicate ops.size true) a w := ⟨hI.below, hI.defers, hI.size, hI.old, fun j hj _ => hI.new j hj (hall j hj)⟩
        have := wpAny_of_seq (md := .any) (Q' := Q) (ops.toList.drop n) n listed a w (fun j => by simp [List.getElem?_drop]) (by rw [he]; exact hq) (hfin a w hL)
        rw [← hlf, ← he, hl] at this
        exact this
      · obtain ⟨j0, hj0⟩ := Classical.not_forall.1 hall
        obtain ⟨hj0n, hj0f⟩ := Classical.not_imp.1 hj0
        have hj0t : listed.getD j0 true = false := by
          have : j0 < listed.size := by rw [hsz]; omega
          simp [this] at hj0f ⊢; exact hj0f
        refine ⟨fun hnil => ?_, fun i hi => ?_⟩
        · exfalso
          have h1 := all_listed hb hsz hnil n hn
          have h2 := hH.tail n (Nat.le_refl _) hn
          have h3 : n < listed.size := by rw [hsz]; exact hn
          simp [h3] at h1 h2
          rw [h2] at h1; cases h1
        · have hin : i < n := by
            rcases Nat.lt_or_ge i n with h | h
            · exact h
            · exact absurd hi (tail_waits hs hc hn hH _ j0 rfl hj0n hj0t i h)
          have hi0 := hi
          obtain ⟨hun, o, ho, hal⟩ := mem_ready.1 hi
          have hlt : i < ops.size := (Array.getElem?_eq_some_iff.1 ho).1
          obtain ⟨hg, hd, hdn⟩ := plainHead_at hp hin ho
          have hwanted : Region.wanted o (yielded ops a.tmps) = true := by simp [Region.wanted, hg]
          have hdo := AllDo.at hop (i := i) (o := o) (by simpa [List.getElem?_take, hin] using ho)
          rw [Nat.zero_add] at hdo
          unfold wpOp
          simp only [ho, hwanted, if_true]
          refine .inl (Oper.wp_mono ?_ (hdo a w (hS a w hI.below hI.below.size hI.old) fun j hj => ?_))
          · rintro a' w' ⟨v, rfl, hRv, hbw⟩
            rw [hd]
            refine ih _ _ _ (by simpa using hsz) ?_ (hH.set hi0 hin) ⟨hI.below.trans (hbw.mono hI.below.size), hI.defers, ?_, ?_, ?_⟩
            · have := left_set listed i hun
              omega
            · simpa [Act.put] using hI.size
            · intro d hdd
              have : D i ≠ d := hdd i hin
              simp only [Act.put, Array.getElem?_setIfInBounds_ne this]
              exact hI.old d hdd
            · intro j hj hjl
              by_cases hij : i = j
              · subst hij
                exact ⟨v, by simp [Act.put, hI.size, hdn], hRv⟩
              · rw [getD_set_ne false hij] at hjl
                obtain ⟨u, hu, hRu⟩ := hI.new j hj hjl
                refine ⟨u, ?_, hR j u w w' hRu hbw⟩
                simp only [Act.put, Array.getElem?_setIfInBounds_ne (plainHead_ne hp hin hj hij)]
                exact hu
          · obtain ⟨e, he, hbd⟩ := Array.any_eq_true'.1 hj
            simp only [Bool.and_eq_true, beq_iff_eq] at hbd
            have hl := hal e he hbd.2
            rw [hbd.1] at hl
            have hjn : j < n := by
              have h1 := List.all_eq_true.1 hb i (List.mem_range.2 hlt)
              rw [ho] at h1
              have h2 := Array.all_eq_true_iff_forall_mem.1 h1 e he
              have : e.on < i := by simpa using h2
              omega
            exact hI.new j hjn hl
  refine wp_region_any hm (key _ _ _ _ (by simp) (by simp [left]) ⟨by simp, fun j oj _ hl => (by rw [getD_replicate_false] at hl; cases hl), fun t _ ht => getD_in (by simpa using ht) (getD_replicate_false _ _)⟩ ⟨Below.drew (Below.refl _ _), rfl, rfl, fun _ _ => rfl, fun i hi hl => ?_⟩)
  rw [getD_replicate_false] at hl; cases hl
end
end Go.Proofs.YtioeifbobhdccaaGreatDoor
