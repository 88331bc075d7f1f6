/- A region without defers, inside a round of a loop over an iterator: walked as everywhere. No program in sight. -/
import Derived.Test.YtioeifbobhdccaaGreatDoorM1
import Derived.OrdersIn
import Derived.TacticsInMore
import Derived.RangeFuncCalls
import Derived.Test.YtioeifbobhdccaaGreatDoorM0
import Derived.Deep.WholeRow
import Derived.Deep.LoopGhost
import Derived.Deep.DeepCutAuto
import Derived.Laws.CopyOwn
import Derived.Deep.MidRow
namespace Go.Proofs.YtioeifbobhdccaaGreatDoor
open Go.RowKit

section
variable {P : Program} {ops : Array Oper} {Q : Exit → Act → World → Prop} {l n : Nat}

def noDefer (o : Oper) : Bool := match o.op with | .defer _ => false | _ => true
theorem noDefer_spec {o : Oper} (h : noDefer o = true) : ∀ c, o.op ≠ .defer c := by
  intro c e
  unfold noDefer at h
  rw [e] at h
  cases h

theorem rowsIn_wide {n : Nat} {row : String} {args : Array Value} {w : World} {R : Value → World → Prop} (h : Rows P row args w R) : RowsIn (Fence.wide.inRound l) n P row args w R := by
  intro c cs _
  obtain ⟨v, w', r, s⟩ := h c cs
  refine ⟨v, w', r, ?_⟩
  rw [fenced_inRound]
  exact stepsIn_wide.2 s

theorem oper_round {o : Oper} {a : Act} {w : World} {K : Act → World → Prop} (hnd : noDefer o = true) (h : o.wp P a w K Q) : o.wpIn (Fence.wide.inRound l) n P a w K Q := by
  refine ⟨fun _ _ => trivial, ?_⟩
  rw [Oper.semAt_eq _ _ _ (noDefer_spec hnd)]
  unfold Oper.wp at h
  generalize (execOp a.eval o).run P w = r at h
  cases r with
  | ok x w' =>
    cases x with
    | enter f args => exact ⟨fun h => by simp [Fence.wide] at h, CallsIn.inRound l (callsIn_wide.2 h)⟩
    | row row args => exact ⟨fun h => by simp [Fence.wide] at h, rowsIn_wide h⟩
    | value v => exact h
    | skip => exact h
    | defer d => exact h
    | _ => exact h.elim
  | halt x w' => cases x <;> exact h

theorem wpOp_round {i : Nat} {a : Act} {w : World} {K : Act → World → Prop} (hnd : ops.toList.all noDefer = true) (hLO : ¬ LetsOut Q) (h : wpOp P ops Q i K a w) : wpOpIn (Fence.wide.inRound l) n P ops Q i K a w := by
  unfold wpOp at h
  unfold wpOpIn
  cases ho : ops[i]? with
  | none => rw [ho] at h; exact h
  | some o =>
    rw [ho] at h
    have hd : noDefer o = true := List.all_eq_true.1 hnd o (List.mem_of_getElem? (by simpa using ho))
    simp only at h ⊢
    split
    · rename_i hw
      rw [if_pos hw] at h
      rcases h with h | ⟨_, h⟩
      · exact oper_round hd h
      · exact absurd h hLO
    · rename_i hw
      rw [if_neg hw] at h
      exact ⟨fun _ _ => trivial, h⟩

theorem wpAny_round {md : Region.Mode} (hnd : ops.toList.all noDefer = true) (hLO : ¬ LetsOut Q) : ∀ fuel listed a w, wpAny P md ops Q fuel listed a w → wpAnyIn (Fence.wide.inRound l) n P md ops Q fuel listed a w
  | 0, _, _, _, h => h
  | fuel + 1, _, _, _, h => ⟨h.1, fun i hi => wpOpIn_mono (fun a' w' h' => wpAny_round hnd hLO fuel _ a' w' h') (wpOp_round hnd hLO (h.2 i hi))⟩

theorem wpList_round (hLO : ¬ LetsOut Q) : ∀ (os : List Oper) a w, os.all noDefer = true → wpList P ops Q os a w → wpListIn (Fence.wide.inRound l) n P ops Q os a w
  | [], _, _, _, h => h
  | o :: os, a, w, hnd, h => by
    rw [List.all_cons, Bool.and_eq_true] at hnd
    unfold wpList at h
    unfold wpListIn
    split
    · rename_i hw
      rw [if_pos hw] at h
      rcases h with h | ⟨_, h⟩
      · exact Oper.wpIn_mono (fun a' w' h' => wpList_round hLO os a' w' hnd.2 h') (oper_round hnd.1 h)
      · exact absurd h hLO
    · rename_i hw
      rw [if_neg hw] at h
      exact ⟨fun _ _ => trivial, wpList_round hLO os _ _ hnd.2 h⟩

/-- A REGION THAT DRAWS ITS ORDER, IN A ROUND -/
theorem round_region_any {id : Nat} {a : Act} {w : World} (hm : P.follows .mixedOrders = true) (hnd : ops.toList.all noDefer = true) (hLO : ¬ LetsOut Q)
    (h : wpAny P .any ops Q ops.size (Array.replicate ops.size false) a { w with drawn := w.drawn + 1 }) : (Code.region id ops true).wpIn (Fence.wide.inRound l) n P Q a w :=
  wpIn_region_any hm (wpAny_round hnd hLO _ _ _ _ h)
theorem round_region {id : Nat} {a : Act} {w : World} {os : List Oper} (hLO : ¬ LetsOut Q) (hnd : os.all noDefer = true) (h : wpList P os.toArray Q os a w) : (Code.region id os.toArray false).wpIn (Fence.wide.inRound l) n P Q a w :=
  wpIn_region_lit (wpList_round hLO _ _ _ hnd h)

/-- operations that make memory, with one operation at the end that waits for all of them -/
theorem wpAny_laid_tail {D : Nat → Nat} {R : Nat → Value → World → Prop} {S : Act → World → Prop} {a₀ : Act} {w₀ : World} (n : Nat) (hn : ops.size = n + 1)
    (hb : backs ops = true) (hs : Region.sinkB .any ops n = true) (hp : plainHead ops D n a₀.tmps.size = true)
    (hR : ∀ i v w w', R i v w → Below w.heap.size w w' → R i v w')
    (hS : ∀ a w, Below w₀.heap.size w₀ w → w₀.heap.size ≤ w.heap.size → (∀ d, (∀ i, i < n → D i ≠ d) → a.tmps[d]? = a₀.tmps[d]?) → S a w)
    (hop : AllDo (OpDoes P Q S D R) 0 (ops.toList.take n))
    (hfin : ∀ a w, LaidH n D R a₀ w₀ (Array.replicate ops.size true) a w → wpList P ops Q (ops.toList.drop n) a w) :
    wpAny P .any ops Q ops.size (Array.replicate ops.size false) a₀ { w₀ with drawn := w₀.drawn + 1 } := by
  have hc : Region.chainB .any ops n = true := by
    refine List.all_eq_true.2 fun t ht => ?_
    have := List.mem_range.1 ht
    simp only [Bool.or_eq_true, decide_eq_true_eq]
    exact .inl (by omega)
  refine (wpAny_inv (fun listed a w => (HeadInv .any ops n listed ∧ LaidH n D R a₀ w₀ listed a w) ∨ ((∀ j, j < ops.size → listed.getD j false = true) ∧ Q .normal a w)) ?_ ?_ _ _ _ _ (by simp) (by simp [left]) ?_)
  · intro listed a w hsz hI i hi
    have hi0 := hi
    obtain ⟨hun, o, ho, hall⟩ := mem_ready.1 hi
    have hlt : i < ops.size := (Array.getElem?_eq_some_iff.1 ho).1
    rcases hI with ⟨hH, hI⟩ | ⟨hA, _⟩
    · by_cases hin : i < n
      · obtain ⟨hg, hd, hdn⟩ := plainHead_at hp hin ho
        have hwanted : Region.wanted o (yielded ops a.tmps) = true := by simp [Region.wanted, hg]
        have hdo := AllDo.at hop (i := i) (o := o) (by simpa [List.getElem?_take, hin] using ho)
        rw [Nat.zero_add] at hdo
        unfold wpOp
        simp only [ho, hwanted, if_true]
        refine .inl (Oper.wp_mono ?_ (hdo a w (hS a w hI.below hI.below.size hI.old) fun j hj => ?_))
        · rintro a' w' ⟨v, rfl, hRv, hbw⟩
          rw [hd]
          refine .inl ⟨hH.set hi0 hin, hI.below.trans (hbw.mono hI.below.size), hI.defers, ?_, ?_, ?_⟩
          · simpa [Act.put] using hI.size
          · intro d hdd
            have : D i ≠ d := hdd i hin
            simp only [Act.put, Array.getElem?_setIfInBounds_ne this]
            exact hI.old d hdd
          · intro j hj hjl
            by_cases hij : i = j
            · subst hij
              exact ⟨v, by simp [Act.put, hI.size, hdn], hRv⟩
            · rw [getD_set_ne false hij] at hjl
              obtain ⟨u, hu, hRu⟩ := hI.new j hj hjl
              refine ⟨u, ?_, hR j u w w' hRu hbw⟩
              simp only [Act.put, Array.getElem?_setIfInBounds_ne (plainHead_ne hp hin hj hij)]
              exact hu
        · obtain ⟨e, he, hbd⟩ := Array.any_eq_true'.1 hj
          simp only [Bool.and_eq_true, beq_iff_eq] at hbd
          have hl := hall e he hbd.2
          rw [hbd.1] at hl
          have hjn : j < n := by
            have h1 := List.all_eq_true.1 hb i (List.mem_range.2 hlt)
            rw [ho] at h1
            have h2 := Array.all_eq_true_iff_forall_mem.1 h1 e he
            have : e.on < i := by simpa using h2
            omega
          exact hI.new j hjn hl
      · obtain rfl : i = n := by omega
        have hall' : ∀ j, j < i → listed.getD j false = true := by
          intro j hj
          refine getD_true_of (by rw [hsz]; omega) fun hf => ?_
          exact tail_waits hs hc (by omega) hH _ j rfl hj hf i (Nat.le_refl _) hi0
        have hL : LaidH i D R a₀ w₀ (Array.replicate ops.size true) a w := ⟨hI.below, hI.defers, hI.size, hI.old, fun j hj _ => hI.new j hj (hall' j hj)⟩
        have hf := hfin a w hL
        have hdrop : ops.toList.drop i = [o] := by
          have h1 : i < ops.toList.length := by simpa using hlt
          rw [List.drop_eq_getElem_cons h1, List.drop_eq_nil_of_le (by simp; omega)]
          have := (Array.getElem?_eq_some_iff.1 ho).2
          simpa using this
        rw [hdrop] at hf
        have hnew : ∀ j, j < ops.size → (listed.setIfInBounds i true).getD j false = true := by
          intro j hj
          by_cases hij : i = j
          · subst hij; simp [hsz, hlt]
          · rw [getD_set_ne false hij]; exact hall' j (by omega)
        unfold wpList at hf
        unfold wpOp
        simp only [ho]
        by_cases hw : Region.wanted o (yielded ops a.tmps) = true
        · simp only [hw, if_true] at hf ⊢
          rcases hf with hf | hf
          · exact .inl (Oper.wp_mono (fun a' w' h => .inr ⟨hnew, h⟩) hf)
          · exact .inr hf
        · simp only [hw] at hf ⊢
          exact .inr ⟨hnew, hf⟩
    · have h1 := hA i hlt
      have h2 : i < listed.size := by rw [hsz]; exact hlt
      simp [h2] at hun h1
      rw [hun] at h1; cases h1
  · intro listed a w hsz hI hnil
    rcases hI with ⟨hH, hI⟩ | ⟨_, hQ⟩
    · have h1 := all_listed hb hsz hnil n (by omega)
      have h2 := hH.tail n (Nat.le_refl _) (by omega)
      have h3 : n < listed.size := by rw [hsz]; omega
      simp [h3] at h1 h2
      rw [h2] at h1; cases h1
    · exact hQ
  · refine .inl ⟨⟨by simp, fun j oj _ hl => (by rw [getD_replicate_false] at hl; cases hl), fun t _ ht => getD_in (by simpa using ht) (getD_replicate_false _ _)⟩, Below.drew (Below.refl _ _), rfl, rfl, fun _ _ => rfl, fun i hi hl => ?_⟩
    rw [getD_replicate_false] at hl; cases hl
end
end Go.Proofs.YtioeifbobhdccaaGreatDoor
/- A drawn region whose operations make memory, several behind, in a round; slices.Chunk at uint16. -/
namespace Go.Proofs.YtioeifbobhdccaaGreatDoor
open Go.RowKit

section
variable {P : Program} {ops : Array Oper} {Q : Exit → Act → World → Prop} {D : Nat → Nat}

/-- .. with several operations behind, one after the other -/
theorem wpAny_laid_tails {R : Nat → Value → World → Prop} {S : Act → World → Prop} {a₀ : Act} {w₀ : World} (n : Nat) (hn : n < ops.size)
    (hb : backs ops = true) (hs : Region.sinkB .any ops n = true) (hc : Region.chainB .any ops n = true) (hq : Region.seqB .any ops (ops.toList.drop n).length n (firstN ops.size n) = true) (hlf : left (firstN ops.size n) = (ops.toList.drop n).length) (hp : plainHead ops D n a₀.tmps.size = true)
    (hR : ∀ i v w w', R i v w → Below w.heap.size w w' → R i v w')
    (hS : ∀ a w, Below w₀.heap.size w₀ w → w₀.heap.size ≤ w.heap.size → (∀ d, (∀ i, i < n → D i ≠ d) → a.tmps[d]? = a₀.tmps[d]?) → S a w)
    (hop : AllDo (OpDoes P Q S D R) 0 (ops.toList.take n))
    (hfin : ∀ a w, LaidH n D R a₀ w₀ (Array.replicate ops.size true) a w → wpList P ops Q (ops.toList.drop n) a w) :
    wpAny P .any ops Q ops.size (Array.replicate ops.size false) a₀ { w₀ with drawn := w₀.drawn + 1 } := by
  have key : ∀ fuel listed a w, listed.size = ops.size → left listed = fuel → HeadInv .any ops n listed → LaidH n D R a₀ w₀ listed a w → wpAny P .any ops Q fuel listed a w := by
    intro fuel
    induction fuel with
    | zero =>
      intro listed a w hsz hl hH _
      exfalso
      have h1 := left_zero listed hl n
      rw [hH.tail n (Nat.le_refl _) hn] at h1
      cases h1
    | succ f ih =>
      intro listed a w hsz hl hH hI
      by_cases hall : ∀ j, j < n → listed.getD j false = true
      · have he := eq_firstN hsz hall hH.tail
        have hL : LaidH n D R a₀ w₀ (Array.replicate ops.size true) a w := ⟨hI.below, hI.defers, hI.size, hI.old, fun j hj _ => hI.new j hj (hall j hj)⟩
        have := wpAny_of_seq (md := .any) (Q' := Q) (ops.toList.drop n) n listed a w (fun j => by simp [List.getElem?_drop]) (by rw [he]; exact hq) (hfin a w hL)
        rw [← hlf, ← he, hl] at this
        exact this
      · obtain ⟨j0, hj0⟩ := Classical.not_forall.1 hall
        obtain ⟨hj0n, hj0f⟩ := Classical.not_imp.1 hj0
        have hj0t : listed.getD j0 true = false := by
          have : j0 < listed.size := by rw [hsz]; omega
          simp [this] at hj0f ⊢; exact hj0f
        refine ⟨fun hnil => ?_, fun i hi => ?_⟩
        · exfalso
          have h1 := all_listed hb hsz hnil n hn
          have h2 := hH.tail n (Nat.le_refl _) hn
          have h3 : n < listed.size := by rw [hsz]; exact hn
          simp [h3] at h1 h2
          rw [h2] at h1; cases h1
        · have hin : i < n := by
            rcases Nat.lt_or_ge i n with h | h
            · exact h
            · exact absurd hi (tail_waits hs hc hn hH _ j0 rfl hj0n hj0t i h)
          have hi0 := hi
          obtain ⟨hun, o, ho, hal⟩ := mem_ready.1 hi
          have hlt : i < ops.size := (Array.getElem?_eq_some_iff.1 ho).1
          obtain ⟨hg, hd, hdn⟩ := plainHead_at hp hin ho
          have hwanted : Region.wanted o (yielded ops a.tmps) = true := by simp [Region.wanted, hg]
          have hdo := AllDo.at hop (i := i) (o := o) (by simpa [List.getElem?_take, hin] using ho)
          rw [Nat.zero_add] at hdo
          unfold wpOp
          simp only [ho, hwanted, if_true]
          refine .inl (Oper.wp_mono ?_ (hdo a w (hS a w hI.below hI.below.size hI.old) fun j hj => ?_))
          · rintro a' w' ⟨v, rfl, hRv, hbw⟩
            rw [hd]
            refine ih _ _ _ (by simpa using hsz) ?_ (hH.set hi0 hin) ⟨hI.below.trans (hbw.mono hI.below.size), hI.defers, ?_, ?_, ?_⟩
            · have := left_set listed i hun
              omega
            · simpa [Act.put] using hI.size
            · intro d hdd
              have : D i ≠ d := hdd i hin
              simp only [Act.put, Array.getElem?_setIfInBounds_ne this]
              exact hI.old d hdd
            · intro j hj hjl
              by_cases hij : i = j
              · subst hij
                exact ⟨v, by simp [Act.put, hI.size, hdn], hRv⟩
              · rw [getD_set_ne false hij] at hjl
                obtain ⟨u, hu, hRu⟩ := hI.new j hj hjl
                refine ⟨u, ?_, hR j u w w' hRu hbw⟩
                simp only [Act.put, Array.getElem?_setIfInBounds_ne (plainHead_ne hp hin hj hij)]
                exact hu
          · obtain ⟨e, he, hbd⟩ := Array.any_eq_true'.1 hj
            simp only [Bool.and_eq_true, beq_iff_eq] at hbd
            have hl := hal e he hbd.2
            rw [hbd.1] at hl
            have hjn : j < n := by
              have h1 := List.all_eq_true.1 hb i (List.mem_range.2 hlt)
              rw [ho] at h1
              have h2 := Array.all_eq_true_iff_forall_mem.1 h1 e he
              have : e.on < i := by simpa using h2
              omega
            exact hI.new j hjn hl
  refine (key _ _ _ _ (by simp) (by simp [left]) ⟨by simp, fun j oj _ hl => (by rw [getD_replicate_false] at hl; cases hl), fun t _ ht => getD_in (by simpa using ht) (getD_replicate_false _ _)⟩ ⟨Below.drew (Below.refl _ _), rfl, rfl, fun _ _ => rfl, fun i hi hl => ?_⟩)
  rw [getD_replicate_false] at hl; cases hl
end
end Go.Proofs.YtioeifbobhdccaaGreatDoor
/- A block of integers, as a list. -/
namespace Go.Proofs.YtioeifbobhdccaaGreatDoor
open Go.RowKit

/-- the cells of a list of integers (not to be looked into by the walk) -/
def ints (l : List Int) : Array Value := (l.map (Value.int .i64)).toArray
theorem ints_size (l : List Int) : (ints l).size = l.length := by simp [ints]
theorem ints_get (l : List Int) (i : Nat) (h : i < l.length) : (ints l)[i]? = some (.int .i64 (l.getD i 0)) := by
  simp [ints, List.getD_eq_getElem?_getD, List.getElem?_eq_getElem h]
theorem ints_set (l : List Int) (i : Nat) (x : Int) : (ints l).setIfInBounds i (.int .i64 x) = ints (l.set i x) := by
  simp [ints, List.map_set]
theorem ints_one (l : List Int) : (ints l).all (·.oneCell') = true := by
  rw [Array.all_eq_true]
  intro i h
  simp [ints, Value.oneCell']
/-- a cell of such a block -/
theorem ints_cell {w : World} {g : Nat} {l : List Int} {t : TypeId} (h : w.heap[g]? = some (.cells (ints l) t (0, 0))) (i : Nat) (hi : i < l.length) : w.cell? ⟨g, i, none⟩ = some (.int .i64 (l.getD i 0)) :=
  (cell_of_row w g i _ t (0, 0) h).trans (ints_get l i hi)
theorem ints_free {w : World} {g : Nat} {l : List Int} {t : TypeId} (h : w.heap[g]? = some (.cells (ints l) t (0, 0))) (i : Nat) : w.frozen? ⟨g, i, none⟩ = false := frozen_of_row w g i _ t h
theorem ints_store {w : World} {g : Nat} {l : List Int} {t : TypeId} (h : w.heap[g]? = some (.cells (ints l) t (0, 0))) (i : Nat) (x : Int) : (w.setCell ⟨g, i, none⟩ (.int .i64 x)).heap[g]? = some (.cells (ints (l.set i x)) t (0, 0)) := by
  rw [heap_setCell_same w g i _ t _ h, ints_set]
theorem heap3 (w : World) (A B C : Obj) : (((w.alloc A).alloc B).alloc C).heap[w.heap.size]? = some A ∧ (((w.alloc A).alloc B).alloc C).heap[w.heap.size + 1]? = some B ∧ (((w.alloc A).alloc B).alloc C).heap[w.heap.size + 1 + 1]? = some C := by
  refine ⟨?_, ?_, ?_⟩
  · show (((w.heap.push A).push B).push C)[w.heap.size]? = some A
    rw [Array.getElem?_push, if_neg (by simp; omega), Array.getElem?_push, if_neg (by simp), Array.getElem?_push, if_pos rfl]
  · show (((w.heap.push A).push B).push C)[w.heap.size + 1]? = some B
    rw [Array.getElem?_push, if_neg (by simp), Array.getElem?_push, if_pos (by simp)]
  · show (((w.heap.push A).push B).push C)[w.heap.size + 1 + 1]? = some C
    rw [Array.getElem?_push, if_pos (by simp)]

section
variable {P : Program}
/-- an index into an array that is a value -/
theorem run_index_ints {T E : TypeId} {n : Nat} (hT : P.underlying T = some (.array n E)) (hE : P.underlying E = some (.int .i64)) {iE : TypeInfo} (hi : P.info? E = some iE) (hs : iE.size = 1) (l : List Int) (hl : l.length = n) (j : Nat) (hj : j < n) (w : World) :
    (Instr.index T (.agg (ints l)) (.int .i64 (j : Int))).run P w = .ok (.int .i64 (l.getD j 0)) w := by
  have hg := ints_get l j (by omega)
  have hjn : (0 : Int) ≤ (j : Int) ∧ (j : Int) < (n : Int) := by omega
  have hagg : (isAgg E).run P w = .ok false w := by
    unfold isAgg
    rw [Sem.run_bind, run_underlying hE w]
    rfl
  simp [Instr.index, asIntOf, run_underlying hT, hjn, part, hagg, sizeOf, typeInfo, hi, hs, hg]
  intro h
  omega
/-- a whole array out of the middle of a block -/
theorem wpList_load_ints {ops : Array Oper} {rest : List Oper} {op : Oper} {a : Act} {w : World} {Q : Exit → Act → World → Prop} (hgd : op.guard = none) (ty : TypeId) (x : Operand) (ho : op.op = .load ty x)
    (b o : Nat) (hx : a.eval x = .pointer (some ⟨b, o, none⟩)) (l : List Int) (d : TypeDesc) (hc : ∀ j, j < l.length → w.cell? ⟨b, o + j, none⟩ = some (.int .i64 (l.getD j 0)))
    (hu : P.underlying ty = some d) (hd : d.isRow = true) (hi : (P.info? ty).map (·.size) = some l.length)
    (h : wpList P ops Q rest (a.put op.dst (.agg (ints l))) w) : wpList P ops Q (op :: rest) a w :=
  wpList_load_mid hgd ty x ho b o hx (l.map (Value.int .i64)) d (fun j v hv => by
    have hj : j < l.length := by
      have := (List.getElem?_eq_some_iff.1 hv).1
      simpa using this
    rw [hc j hj]
    rw [List.getElem?_map, List.getElem?_eq_getElem hj] at hv
    rw [List.getD_eq_getElem?_getD, List.getElem?_eq_getElem hj]
    exact hv) hu hd (by rw [hi, List.length_map]) h
end
theorem block_lt {w : World} {g : Nat} {o : Obj} (h : w.heap[g]? = some o) : g < w.heap.size := (Array.getElem?_eq_some_iff.1 h).1
theorem keep_cell {w w1 : World} {a : Addr} {v : Value} (hb : Below w.heap.size w w1) (h : w.cell? a = some v) : w1.cell? a = some v := (hb.cell (block_lt_of_cell h)).trans h
theorem keep_range {w w1 : World} {b o : Nat} {cs : List Value} (hb : Below w.heap.size w w1) (h : w.rangeAt b o cs) : w1.rangeAt b o cs := fun j v hv => keep_cell hb (h j v hv)
theorem mul_bd {A B : Nat} {x y : Int} (hx : -(A : Int) ≤ x ∧ x ≤ A) (hy : -(B : Int) ≤ y ∧ y ≤ B) : -((A * B : Nat) : Int) ≤ x * y ∧ x * y ≤ ((A * B : Nat) : Int) := by
  have h1 : x.natAbs ≤ A := by omega
  have h2 : y.natAbs ≤ B := by omega
  have h3 : (x * y).natAbs ≤ A * B := by rw [Int.natAbs_mul]; exact Nat.mul_le_mul h1 h2
  omega
end Go.Proofs.YtioeifbobhdccaaGreatDoor
