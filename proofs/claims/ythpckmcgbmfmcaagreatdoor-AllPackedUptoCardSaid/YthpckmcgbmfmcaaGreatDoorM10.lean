/- Texts of this claim, joined. -/
import Derived.Test.YthpckmcgbmfmcaaGreatDoorM9
set_option maxRecDepth 100000
set_option maxHeartbeats 12800000
namespace Go.Proofs.YthpckmcgbmfmcaaGreatDoor
open Go.RowKit
section
variable {P : Program} {ops : Array Oper} {Q : Exit -> Act -> World -> Prop} {D : Nat -> Nat}
def backsB (ops : Array Oper) : Bool := (List.range ops.size).all fun i => ((ops[i]?).map (·.after.all fun e => !Region.binds .any e || decide (e.on < i))).getD true
theorem all_listedB (hb : backsB ops = true) {listed : Array Bool} (hs : listed.size = ops.size) (h : Region.ready .any ops listed = []) : ∀ i, i < ops.size -> listed.getD i false = true := by
 intro i
 induction i using Nat.strongRecOn with
 | _ i ih =>
  intro hi;cases hv : listed.getD i false with
  | true => rfl
  | false =>
   exfalso;have hmem : i ∈ Region.ready .any ops listed := by
    refine mem_ready.2 ⟨?_, ops[i], Array.getElem?_eq_getElem hi, fun e he hbd => ?_⟩
    ·have : i < listed.size := hs ▸ hi
     simpa [this] using hv
    ·have h1 := List.all_eq_true.1 hb i (List.mem_range.2 hi)
     rw [Array.getElem?_eq_getElem hi] at h1;have h2 := Array.all_eq_true_iff_forall_mem.1 h1 e he;simp only [hbd, Bool.not_true, Bool.false_or, decide_eq_true_eq] at h2;exact ih e.on h2 (by omega)
   rw [h] at hmem;cases hmem
end
section
variable {P : Program} {ops : Array Oper} {Q : Exit -> Act -> World -> Prop} {D : Nat -> Nat}
def earlyHead (ops : Array Oper) (D : Nat -> Nat) (n s m : Nat) : Bool :=
 (List.range n).all fun i => ((ops[i]?).map fun o => o.guard.isNone && (if i = s then o.dst.isNone else decide (o.dst = some (D i))) && decide (i = s \/ D i < m)).getD false &&
  (List.range i).all fun j => decide (i = s \/ j = s \/ D j ≠ D i)
theorem earlyHead_at {n s m i : Nat} {o : Oper} (h : earlyHead ops D n s m = true) (hi : i < n) (ho : ops[i]? = some o) (his : i ≠ s) : o.guard = none /\ o.dst = some (D i) /\ D i < m := by
 have h1 := List.all_eq_true.1 h i (List.mem_range.2 hi);rw [ho] at h1;simp only [Option.map_some, Option.getD_some, if_neg his, Bool.and_eq_true, Option.isNone_iff_eq_none, decide_eq_true_eq] at h1;exact ⟨h1.1.1.1, h1.1.1.2, h1.1.2.resolve_left his⟩
theorem earlyHead_s {n s m : Nat} {o : Oper} (h : earlyHead ops D n s m = true) (hi : s < n) (ho : ops[s]? = some o) : o.guard = none /\ o.dst = none := by
 have h1 := List.all_eq_true.1 h s (List.mem_range.2 hi);rw [ho] at h1;simp only [Option.map_some, Option.getD_some, if_true, Bool.and_eq_true, Option.isNone_iff_eq_none, decide_eq_true_eq] at h1;exact ⟨h1.1.1.1, h1.1.1.2⟩
theorem earlyHead_ne {n s m i j : Nat} (h : earlyHead ops D n s m = true) (hi : i < n) (hj : j < n) (his : i ≠ s) (hjs : j ≠ s) (hne : i ≠ j) : D i ≠ D j := by
 have key : ∀ i j, i < n -> i ≠ s -> j ≠ s -> j < i -> D j ≠ D i := fun i j hi his hjs hj => by
  have h1 := List.all_eq_true.1 h i (List.mem_range.2 hi);rw [Bool.and_eq_true] at h1;have h2 := List.all_eq_true.1 h1.2 j (List.mem_range.2 hj);simp only [decide_eq_true_eq] at h2;exact (h2.resolve_left his).resolve_left hjs
 rcases Nat.lt_or_gt_of_ne hne with hl | hl
 ·exact key j i hj hjs his hl
 ·exact fun e => key i j hi his hjs hl e.symm
structure LaidE (n s : Nat) (D : Nat -> Nat) (val : Nat -> Value) (G : Bool -> World -> Prop) (a₀ : Act) (listed : Array Bool) (a : Act) (w : World) : Prop where
 world : G (listed.getD s false) w
 defers : a.defers = a₀.defers
 size : a.tmps.size = a₀.tmps.size
 old : ∀ d, (∀ i, i < n -> i ≠ s -> D i ≠ d) -> a.tmps[d]? = a₀.tmps[d]?
 new : ∀ i, i < n -> i ≠ s -> listed.getD i false = true -> a.tmps[D i]? = some (val i)
def OpVal (P : Program) (Q : Exit -> Act -> World -> Prop) (S : Act -> Prop) (G : Bool -> World -> Prop) (D : Nat -> Nat) (val : Nat -> Value) (s i : Nat) (o : Oper) : Prop :=
 ∀ (a : Act) (w : World) (b : Bool), (i = s -> b = false) -> G b w -> S a -> (∀ j, o.after.any (fun e => e.on == j && Region.binds .any e) = true -> j ≠ s -> a.tmps[D j]? = some (val j)) ->
  o.wp P a w (fun a' w' => (if i = s then a' = a.put none undef else a' = a.put o.dst (val i)) /\ G (if i = s then true else b) w') Q
theorem wp_region_early (n s : Nat) (val : Nat -> Value) (G : Bool -> World -> Prop) (S : Act -> Prop) {a₀ : Act} {w₀ : World} {id : Nat} (hn : n < ops.size) (hs' : s < n) (hm : P.follows .mixedOrders = true)
  (hb : backsB ops = true) (hs : Region.sinkB .any ops n = true) (hc : Region.chainB .any ops n = true) (hq : Region.seqB .any ops (ops.toList.drop n).length n (firstN ops.size n) = true) (hlf : left (firstN ops.size n) = (ops.toList.drop n).length) (hp : earlyHead ops D n s a₀.tmps.size = true)
  (hG0 : G false { w₀ with drawn := w₀.drawn + 1 })
  (hS : ∀ a, (∀ d, (∀ i, i < n -> i ≠ s -> D i ≠ d) -> a.tmps[d]? = a₀.tmps[d]?) -> S a)
  (hop : AllDo (OpVal P Q S G D val s) 0 (ops.toList.take n))
  (hfin : ∀ a w, LaidE n s D val G a₀ (Array.replicate ops.size true) a w -> wpList P ops Q (ops.toList.drop n) a w) :
  (Code.region id ops true).wp P Q a₀ w₀ := by
 have key : ∀ fuel listed a w, listed.size = ops.size -> left listed = fuel -> HeadInv .any ops n listed -> LaidE n s D val G a₀ listed a w -> wpAny P .any ops Q fuel listed a w := by
  intro fuel
  induction fuel with
  | zero =>
   intro listed a w hsz hl hH _;exfalso;have h1 := left_zero listed hl n;rw [hH.tail n (Nat.le_refl _) hn] at h1;cases h1
  | succ f ih =>
   intro listed a w hsz hl hH hI;by_cases hall : ∀ j, j < n -> listed.getD j false = true
   ·have he := eq_firstN hsz hall hH.tail
    have hL : LaidE n s D val G a₀ (Array.replicate ops.size true) a w := ⟨by
     have h1 := hI.world;rw [hall s hs'] at h1;have h2 : (Array.replicate ops.size true).getD s false = true := by
      have h3 : s < ops.size := (by omega);simp [h3]
     rw [h2];exact h1, hI.defers, hI.size, hI.old, fun j hj hjs _ => hI.new j hj hjs (hall j hj)⟩
    have := wpAny_of_seq (md := .any) (Q' := Q) (ops.toList.drop n) n listed a w (fun j => by simp [List.getElem?_drop]) (by rw [he]; exact hq) (hfin a w hL);rw [<- hlf, <- he, hl] at this;exact this
   ·obtain ⟨j0, hj0⟩ := Classical.not_forall.1 hall
    obtain ⟨hj0n, hj0f⟩ := Classical.not_imp.1 hj0;have hj0t : listed.getD j0 true = false := by
     have : j0 < listed.size := (by rw [hsz]; omega);simp [this] at hj0f ⊢; exact hj0f
    refine ⟨fun hnil => ?_, fun i hi => ?_⟩
    ·exfalso
     have h1 := all_listedB hb hsz hnil n hn;have h2 := hH.tail n (Nat.le_refl _) hn;have h3 : n < listed.size := (by rw [hsz]; exact hn);simp [h3] at h1 h2;rw [h2] at h1; cases h1
    ·have hin : i < n := by
      rcases Nat.lt_or_ge i n with h | h
      ·exact h
      ·exact absurd hi (tail_waits hs hc hn hH _ j0 rfl hj0n hj0t i h)
     have hi0 := hi;obtain ⟨hun, o, ho, hal⟩ := mem_ready.1 hi;have hlt : i < ops.size := (Array.getElem?_eq_some_iff.1 ho).1;have hgn : o.guard = none := by
      by_cases his : i = s
      ·subst his; exact (earlyHead_s hp hin ho).1
      ·exact (earlyHead_at hp hin ho his).1
     have hwanted : Region.wanted o (yielded ops a.tmps) = true := (by simp [Region.wanted, hgn]);have hdo := AllDo.at hop (i := i) (o := o) (by simpa [List.getElem?_take, hin] using ho);rw [Nat.zero_add] at hdo;unfold wpOp;simp only [ho, hwanted, if_true];refine .inl (Oper.wp_mono ?_ (hdo a w _ (fun his => by
      have h1 : i < listed.size := (by rw [hsz]; exact hlt);rw [<- his];simp [h1] at hun ⊢;exact hun) hI.world (hS a hI.old) fun j hj hjs => ?_))
     ·rintro a' w' ⟨ha', hg'⟩
      have hlft := left_set listed i hun;by_cases his : i = s
      ·subst his
       rw [if_pos rfl] at ha' hg';subst ha';refine ih _ _ _ (by simpa using hsz) (by omega) (hH.set hi0 hin) ⟨?_, hI.defers, hI.size, hI.old, ?_⟩
       ·have : (listed.setIfInBounds i true).getD i false = true := by
         have : i < listed.size := (by rw [hsz]; exact hlt);simp [this]
        rw [this];exact hg'
       ·intro j hj hjs hjl
        rw [getD_set_ne false (fun e => hjs e.symm)] at hjl;exact hI.new j hj hjs hjl
      ·rw [if_neg his] at ha' hg'
       subst ha';obtain ⟨_, hd, hdn⟩ := earlyHead_at hp hin ho his;rw [hd];refine ih _ _ _ (by simpa using hsz) (by omega) (hH.set hi0 hin) ⟨?_, hI.defers, ?_, ?_, ?_⟩
       ·rw [getD_set_ne false his]
        exact hg'
       ·simpa [Act.put] using hI.size
       ·intro d hdd
        have : D i ≠ d := hdd i hin his;simp only [Act.put, Array.getElem?_setIfInBounds_ne this];exact hI.old d hdd
       ·intro j hj hjs hjl
        by_cases hij : i = j
        ·subst hij
         simp [Act.put, hI.size, hdn]
        ·rw [getD_set_ne false hij] at hjl
         simp only [Act.put, Array.getElem?_setIfInBounds_ne (earlyHead_ne hp hin hj his hjs hij)];exact hI.new j hj hjs hjl
     ·obtain ⟨e, he, hbd⟩ := Array.any_eq_true'.1 hj
      simp only [Bool.and_eq_true, beq_iff_eq] at hbd;have hl := hal e he hbd.2;rw [hbd.1] at hl;have hjn : j < n := by
       have h1 := List.all_eq_true.1 hb i (List.mem_range.2 hlt);rw [ho] at h1;have h2 := Array.all_eq_true_iff_forall_mem.1 h1 e he;have : e.on < i := by
        simp only [hbd.2, Bool.not_true, Bool.false_or, decide_eq_true_eq] at h2;exact h2
       omega
      exact hI.new j hjn hjs hl
 refine wp_region_any hm (key _ _ _ _ (by simp) (by simp [left]) ⟨by simp, fun j oj _ hl => (by rw [getD_replicate_false] at hl; cases hl), fun t _ ht => getD_in (by simpa using ht) (getD_replicate_false _ _)⟩ ⟨by rw [getD_replicate_false]; exact hG0, rfl, rfl, fun _ _ => rfl, fun i hi _ hl => ?_⟩);rw [getD_replicate_false] at hl; cases hl
end
section
variable {P : Program} {ops : Array Oper} {Q : Exit -> Act -> World -> Prop} {D : Nat -> Nat}
structure LaidT (n s1 s2 : Nat) (D : Nat -> Nat) (val : Nat -> Value) (G : Bool -> Bool -> World -> Prop) (a₀ : Act) (listed : Array Bool) (a : Act) (w : World) : Prop where
 world : G (listed.getD s1 false) (listed.getD s2 false) w
 order : listed.getD s2 false = true -> listed.getD s1 false = true
 defers : a.defers = a₀.defers
 size : a.tmps.size = a₀.tmps.size
 old : ∀ d, (∀ i, i < n -> D i ≠ d) -> a.tmps[d]? = a₀.tmps[d]?
 new : ∀ i, i < n -> listed.getD i false = true -> a.tmps[D i]? = some (val i)
def OpTwo (P : Program) (Q : Exit -> Act -> World -> Prop) (S : Act -> Prop) (G : Bool -> Bool -> World -> Prop) (D : Nat -> Nat) (val : Nat -> Value) (s1 s2 i : Nat) (o : Oper) : Prop :=
 ∀ (a : Act) (w : World) (b1 b2 : Bool), (i = s1 -> b1 = false /\ b2 = false) -> (i = s2 -> b1 = true /\ b2 = false) -> (b2 = true -> b1 = true) -> G b1 b2 w -> S a -> (∀ j, o.after.any (fun e => e.on == j && Region.binds .any e) = true -> a.tmps[D j]? = some (val j)) ->
  o.wp P a w (fun a' w' => a' = a.put o.dst (val i) /\ G (if i = s1 then true else b1) (if i = s2 then true else b2) w') Q
theorem wp_region_two (n s1 s2 : Nat) (val : Nat -> Value) (G : Bool -> Bool -> World -> Prop) (S : Act -> Prop) {a₀ : Act} {w₀ : World} {id : Nat} (hn : n < ops.size) (hs12 : s1 < s2) (hs2n : s2 < n) (hm : P.follows .mixedOrders = true)
  (hw12 : ((ops[s2]?).map fun o => o.after.any fun e => e.on == s1 && Region.binds .any e).getD false = true)
  (hb : backsB ops = true) (hs : Region.sinkB .any ops n = true) (hc : Region.chainB .any ops n = true) (hq : Region.seqB .any ops (ops.toList.drop n).length n (firstN ops.size n) = true) (hlf : left (firstN ops.size n) = (ops.toList.drop n).length) (hp : earlyHead ops D n n a₀.tmps.size = true)
  (hG0 : G false false { w₀ with drawn := w₀.drawn + 1 })
  (hS : ∀ a, (∀ d, (∀ i, i < n -> D i ≠ d) -> a.tmps[d]? = a₀.tmps[d]?) -> S a)
  (hop : AllDo (OpTwo P Q S G D val s1 s2) 0 (ops.toList.take n))
  (hfin : ∀ a w, LaidT n s1 s2 D val G a₀ (Array.replicate ops.size true) a w -> wpList P ops Q (ops.toList.drop n) a w) :
  (Code.region id ops true).wp P Q a₀ w₀ := by
 have hs1n : s1 < n := by omega
 have hrep : ∀ j, j < ops.size -> (Array.replicate ops.size true).getD j false = true := by
  intro j hj;simp [hj]
 have key : ∀ fuel listed a w, listed.size = ops.size -> left listed = fuel -> HeadInv .any ops n listed -> LaidT n s1 s2 D val G a₀ listed a w -> wpAny P .any ops Q fuel listed a w := by
  intro fuel
  induction fuel with
  | zero =>
   intro listed a w hsz hl hH _;exfalso;have h1 := left_zero listed hl n;rw [hH.tail n (Nat.le_refl _) hn] at h1;cases h1
  | succ f ih =>
   intro listed a w hsz hl hH hI;by_cases hall : ∀ j, j < n -> listed.getD j false = true
   ·have he := eq_firstN hsz hall hH.tail
    have hL : LaidT n s1 s2 D val G a₀ (Array.replicate ops.size true) a w := ⟨by
     have h1 := hI.world;rw [hall s1 hs1n, hall s2 hs2n] at h1;rw [hrep s1 (by omega), hrep s2 (by omega)];exact h1, fun _ => hrep s1 (by omega), hI.defers, hI.size, hI.old, fun j hj _ => hI.new j hj (hall j hj)⟩
    have := wpAny_of_seq (md := .any) (Q' := Q) (ops.toList.drop n) n listed a w (fun j => by simp [List.getElem?_drop]) (by rw [he]; exact hq) (hfin a w hL);rw [<- hlf, <- he, hl] at this;exact this
   ·obtain ⟨j0, hj0⟩ := Classical.not_forall.1 hall
    obtain ⟨hj0n, hj0f⟩ := Classical.not_imp.1 hj0;have hj0t : listed.getD j0 true = false := by
     have : j0 < listed.size := (by rw [hsz]; omega);simp [this] at hj0f ⊢; exact hj0f
    refine ⟨fun hnil => ?_, fun i hi => ?_⟩
    ·exfalso
     have h1 := all_listedB hb hsz hnil n hn;have h2 := hH.tail n (Nat.le_refl _) hn;have h3 : n < listed.size := (by rw [hsz]; exact hn);simp [h3] at h1 h2;rw [h2] at h1; cases h1
    ·have hin : i < n := by
      rcases Nat.lt_or_ge i n with h | h
      ·exact h
      ·exact absurd hi (tail_waits hs hc hn hH _ j0 rfl hj0n hj0t i h)
     have hi0 := hi;obtain ⟨hun, o, ho, hal⟩ := mem_ready.1 hi;have hlt : i < ops.size := (Array.getElem?_eq_some_iff.1 ho).1;have hgn : o.guard = none := (earlyHead_at hp hin ho (by omega)).1;have hwanted : Region.wanted o (yielded ops a.tmps) = true := (by simp [Region.wanted, hgn]);have hdo := AllDo.at hop (i := i) (o := o) (by simpa [List.getElem?_take, hin] using ho);rw [Nat.zero_add] at hdo;have hif : listed.getD i false = false := by
      have h1 : i < listed.size := (by rw [hsz]; exact hlt);simp [h1] at hun ⊢;exact hun
     have hwt : ∀ j, o.after.any (fun e => e.on == j && Region.binds .any e) = true -> j < n /\ listed.getD j false = true := by
      intro j hj;obtain ⟨e, he, hbd⟩ := Array.any_eq_true'.1 hj;simp only [Bool.and_eq_true, beq_iff_eq] at hbd;have hl := hal e he hbd.2;rw [hbd.1] at hl;have hjn : j < n := by
       have h1 := List.all_eq_true.1 hb i (List.mem_range.2 hlt);rw [ho] at h1;have h2 := Array.all_eq_true_iff_forall_mem.1 h1 e he;have : e.on < i := by
        simp only [hbd.2, Bool.not_true, Bool.false_or, decide_eq_true_eq] at h2;exact h2
       omega
      exact ⟨hjn, hl⟩
     have hs1i : i = s2 -> listed.getD s1 false = true := by
      intro e;subst e;rw [ho] at hw12;exact (hwt s1 hw12).2
     unfold wpOp;simp only [ho, hwanted, if_true];refine .inl (Oper.wp_mono ?_ (hdo a w _ _ (fun his => ⟨by rw [<- his]; exact hif, by
      cases h2 : listed.getD s2 false with
      | false => rfl
      | true =>
       have h3 := hI.order h2;rw [<- his, hif] at h3;cases h3⟩) (fun his => ⟨hs1i his, by rw [<- his]; exact hif⟩) hI.order hI.world (hS a hI.old) fun j hj => hI.new j (hwt j hj).1 (hwt j hj).2))
     rintro a' w' ⟨ha', hg'⟩;have hlft := left_set listed i hun;subst ha';obtain ⟨_, hd, hdn⟩ := earlyHead_at hp hin ho (by omega);rw [hd];have hset : ∀ s, (listed.setIfInBounds i true).getD s false = if i = s then true else listed.getD s false := by
      intro s;by_cases his : i = s
      ·subst his
       have : i < listed.size := (by rw [hsz]; exact hlt);simp [this]
      ·rw [if_neg his, getD_set_ne false his]
     refine ih _ _ _ (by simpa using hsz) (by omega) (hH.set hi0 hin) ⟨?_, ?_, hI.defers, ?_, ?_, ?_⟩
     ·rw [hset s1, hset s2]
      exact hg'
     ·rw [hset s1, hset s2]
      intro h2;by_cases h1 : i = s1
      ·rw [if_pos h1]
      ·rw [if_neg h1]
       by_cases h3 : i = s2
       ·exact hs1i h3
       ·rw [if_neg h3] at h2
        exact hI.order h2
     ·simpa [Act.put] using hI.size
     ·intro d hdd
      have : D i ≠ d := hdd i hin;simp only [Act.put, Array.getElem?_setIfInBounds_ne this];exact hI.old d hdd
     ·intro j hj hjl
      by_cases hij : i = j
      ·subst hij
       simp [Act.put, hI.size, hdn]
      ·rw [getD_set_ne false hij] at hjl
       simp only [Act.put, Array.getElem?_setIfInBounds_ne (earlyHead_ne hp hin hj (by omega) (by omega) hij)];exact hI.new j hj hjl
 refine wp_region_any hm (key _ _ _ _ (by simp) (by simp [left]) ⟨by simp, fun j oj _ hl => (by rw [getD_replicate_false] at hl; cases hl), fun t _ ht => getD_in (by simpa using ht) (getD_replicate_false _ _)⟩ ⟨by rw [getD_replicate_false, getD_replicate_false]; exact hG0, (fun h => by rw [getD_replicate_false] at h; cases h), rfl, rfl, fun _ _ => rfl, fun i hi hl => ?_⟩);rw [getD_replicate_false] at hl; cases hl
end
end Go.Proofs.YthpckmcgbmfmcaaGreatDoor
namespace Go.Proofs.YthpckmcgbmfmcaaGreatDoor
open Go.RowKit Go.Sort Go.Shelf
structure PkI (w0 : World) (base : Nat) (fix : List (Nat × Array Value × TypeId)) (ob lb : Nat) (out loose : List Int) (W : World) : Prop where
 fix : ∀ p ∈ fix, W.heap[p.1]? = some (.cells p.2.1 p.2.2 (0, 0))
 rows : ∃ vo vl, W.heap[ob]? = some (.cells #[vo] 22 (0, 0)) /\ W.heap[lb]? = some (.cells #[vl] 22 (0, 0)) /\ W.ownsRow base 5 1 vo out.length (out.map (Value.int .u8)) /\ OwnS base W vl loose /\ (vl.ownBlock = none \/ vl.ownBlock ≠ vo.ownBlock)
 below : Below w0.heap.size w0 W
 size : base <= W.heap.size
structure PkAt (w0 : World) (base : Nat) (fix : List (Nat × Array Value × TypeId)) (ob lb : Nat) : Prop where
 f : ∀ p ∈ fix, p.1 < base /\ p.1 ≠ ob /\ p.1 ≠ lb
 o : w0.heap.size <= ob /\ ob < base
 l : w0.heap.size <= lb /\ lb < base
 ne : ob ≠ lb
section
variable {w0 : World} {base : Nat} {fix : List (Nat × Array Value × TypeId)} {ob lb : Nat} {out loose : List Int} {W W' : World}
theorem PkI.grown {row : Option Nat} (hA : PkAt w0 base fix ob lb) (h : PkI w0 base fix ob lb out loose W) (hg : W.grownBy W' row)
  (hr : ∀ r, row = some r -> base <= r /\ ∀ vo vl, W.heap[ob]? = some (.cells #[vo] 22 (0, 0)) -> W.heap[lb]? = some (.cells #[vl] 22 (0, 0)) -> vo.ownBlock ≠ some r /\ vl.ownBlock ≠ some r) : PkI w0 base fix ob lb out loose W' := by
 have hB : w0.heap.size <= base := Nat.le_of_lt (Nat.lt_of_le_of_lt hA.o.1 hA.o.2);have nr : ∀ j, j < base -> some j ≠ row := by
  intro j hj e;have := (hr j e.symm).1;omega
 obtain ⟨vo, vl, h1, h2, h3, h4, h5⟩ := h.rows;refine ⟨fun p hp => grown_block hg (h.fix p hp) (nr _ (hA.f p hp).1), ⟨vo, vl, grown_block hg h1 (nr _ hA.o.2), grown_block hg h2 (nr _ hA.l.2), World.ownsRow.kept h3 hg ?_, h4.kept hg ?_, h5⟩, h.below.grown hg h.below.size (fun j e => Nat.le_trans hB (hr j e).1), Nat.le_trans h.size hg.size⟩
 ·rcases hv : vo.ownBlock with _ | g
  ·exact .inl rfl
  ·exact .inr fun e => ((hr g e.symm).2 vo vl h1 h2).1 hv
 ·rcases hv : vl.ownBlock with _ | g
  ·exact .inl rfl
  ·exact .inr fun e => ((hr g e.symm).2 vo vl h1 h2).2 hv
theorem PkI.own {row : Option Nat} {D : Nat} (hD : base <= D) (hA : PkAt w0 base fix ob lb) (h : PkI w0 base fix ob lb out loose W) (hg : W.grownBy W' row) (hr : ∀ r, row = some r -> D <= r /\ ∃ o : Obj, W.heap[r]? = some o /\ o.isCells = false) : PkI w0 base fix ob lb out loose W' := by
 obtain ⟨vo, vl, h1, h2, h3, h4, h5⟩ := h.rows;refine h.grown hA hg fun r e => ⟨Nat.le_trans hD (hr r e).1, fun vo' vl' ho' hl' => ?_⟩
 rw [h1] at ho';rw [h2] at hl';cases ho';cases hl';obtain ⟨o, k1, k2⟩ := (hr r e).2;refine ⟨fun e' => own_not_loop h3 k1 k2 e'.symm, fun e' => ?_⟩;obtain ⟨cur, hc⟩ := h4.block r e';rw [hc] at k1;cases k1;cases k2
theorem own_cells {w : World} {b n : Nat} {v : Value} {xs : List Value} (h : w.ownsRow b 5 1 v n xs) : ∀ k, v.ownBlock = some k -> ∃ cur, w.heap[k]? = some (.cells cur 5 (0, 0)) := by
 intro k hk;rcases h.2 with ⟨rfl, _⟩ | ⟨g, cap, cur, rfl, _, hg, _⟩
 ·cases hk
 ·cases hk
  exact ⟨cur, hg⟩
theorem PkI.putOut {out2 : List Int} {vo vl v2 : Value} (hA : PkAt w0 base fix ob lb) (h : PkI w0 base fix ob lb out loose W) (ho : W.heap[ob]? = some (.cells #[vo] 22 (0, 0))) (hl : W.heap[lb]? = some (.cells #[vl] 22 (0, 0)))
  (hg : W.grownBy W' vo.ownBlock) (hown : W'.ownsRow base 5 1 v2 out2.length (out2.map (Value.int .u8))) (hat : v2.ownBlock = vo.ownBlock \/ ∃ k, v2.ownBlock = some k /\ W.heap.size <= k) :
  W'.heap[ob]? = some (.cells #[vo] 22 (0, 0)) /\ PkI w0 base fix ob lb out2 loose (W'.setCell ⟨ob, 0, none⟩ v2) /\ KeepsOthers W (W'.setCell ⟨ob, 0, none⟩ v2) := by
 obtain ⟨vo', vl', h1, h2, h3, h4, h5⟩ := h.rows;rw [ho] at h1;rw [hl] at h2;cases h1;cases h2;have hB : w0.heap.size <= base := Nat.le_of_lt (Nat.lt_of_le_of_lt hA.o.1 hA.o.2);have hbv : ∀ j, vo.ownBlock = some j -> base <= j := fun j e => (World.ownsRow.lt h3 j e).1
 have nr : ∀ j, j < base -> some j ≠ vo.ownBlock := by
  intro j hj e;have := hbv j e.symm;omega
 have o2 := grown_block hg ho (nr _ hA.o.2);have l2 := grown_block hg hl (nr _ hA.l.2);have k1 := grownBy_setCell3 W' ob 0 v2;have ne : ∀ {j : Nat}, j ≠ ob -> some j ≠ some ob := fun h1 e => h1 (Option.some.inj e)
 have hl4 := h4.kept hg h5;refine ⟨o2, ⟨fun p hp => grown_block k1 (grown_block hg (h.fix p hp) (nr _ (hA.f p hp).1)) (ne (hA.f p hp).2.1), ⟨v2, vl, heap_setCell_same W' ob 0 _ _ v2 o2, grown_block k1 l2 (ne hA.ne.symm), World.ownsRow.kept hown k1 (.inr fun e => own_ne hown o2 (by decide) e.symm), hl4.kept k1 (.inr (hl4.ne o2 (by decide))), ?_⟩, ?_, ?_⟩, ?_⟩
 ·rcases hv : vl.ownBlock with _ | g
  ·exact .inl rfl
  ·refine .inr fun e => ?_
   rcases hat with hat | ⟨k, hk, hk2⟩
   ·rcases h5 with h5 | h5
    ·rw [hv] at h5; cases h5
    ·exact h5 (by rw [hv, e, hat])
   ·have hlt := (h4.lt g hv).2
    rw [hk] at e;cases e;omega
 ·exact (h.below.grown hg h.below.size (fun j e => Nat.le_trans hB (hbv j e))).setCell (p := ⟨ob, 0, none⟩) hA.o.1 _
 ·exact Nat.le_trans (Nat.le_trans h.size hg.size) k1.size
 ·refine (KeepsOthers.of_grownBy hg fun j o e hj => ?_).trans (KeepsOthers.setCell _ _ _)
  obtain ⟨cur, hc⟩ := own_cells h3 j e;rw [hc] at hj;cases hj;rfl
theorem PkI.putLoose {lo2 : List Int} {vo vl v2 : Value} (hA : PkAt w0 base fix ob lb) (h : PkI w0 base fix ob lb out loose W) (ho : W.heap[ob]? = some (.cells #[vo] 22 (0, 0))) (hl : W.heap[lb]? = some (.cells #[vl] 22 (0, 0)))
  (hg : W.grownBy W' vl.ownBlock) (hown : OwnS base W' v2 lo2) (hat : v2.ownBlock = vl.ownBlock \/ ∃ k, v2.ownBlock = some k /\ W.heap.size <= k) :
  W'.heap[lb]? = some (.cells #[vl] 22 (0, 0)) /\ PkI w0 base fix ob lb out lo2 (W'.setCell ⟨lb, 0, none⟩ v2) /\ KeepsOthers W (W'.setCell ⟨lb, 0, none⟩ v2) := by
 obtain ⟨vo', vl', h1, h2, h3, h4, h5⟩ := h.rows;rw [ho] at h1;rw [hl] at h2;cases h1;cases h2;have hB : w0.heap.size <= base := Nat.le_of_lt (Nat.lt_of_le_of_lt hA.o.1 hA.o.2);have hbv : ∀ j, vl.ownBlock = some j -> base <= j := fun j e => (h4.lt j e).1
 have nr : ∀ j, j < base -> some j ≠ vl.ownBlock := by
  intro j hj e;have := hbv j e.symm;omega
 have o2 := grown_block hg ho (nr _ hA.o.2);have l2 := grown_block hg hl (nr _ hA.l.2);have k1 := grownBy_setCell3 W' lb 0 v2;have ne : ∀ {j : Nat}, j ≠ lb -> some j ≠ some lb := fun h1 e => h1 (Option.some.inj e)
 have hne' : vo.ownBlock = none \/ vo.ownBlock ≠ vl.ownBlock := by
  rcases hv : vo.ownBlock with _ | g
  ·exact .inl rfl
  ·refine .inr fun e => ?_
   rcases h5 with h5 | h5
   ·rw [h5] at e; cases e
   ·exact h5 (by rw [<- e, hv])
 have ho4 := World.ownsRow.kept h3 hg hne';refine ⟨l2, ⟨fun p hp => grown_block k1 (grown_block hg (h.fix p hp) (nr _ (hA.f p hp).1)) (ne (hA.f p hp).2.2), ⟨vo, v2, grown_block k1 o2 (ne hA.ne), heap_setCell_same W' lb 0 _ _ v2 l2, World.ownsRow.kept ho4 k1 (.inr fun e => own_ne ho4 l2 (by decide) e.symm), hown.kept k1 (.inr (hown.ne l2 (by decide))), ?_⟩, ?_, ?_⟩, ?_⟩
 ·rcases hat with hat | ⟨k, hk, hk2⟩
  ·rw [hat]
   exact h5
  ·refine .inr fun e => ?_
   rw [hk] at e;have := (World.ownsRow.lt h3 k e.symm).2;omega
 ·exact (h.below.grown hg h.below.size (fun j e => Nat.le_trans hB (hbv j e))).setCell (p := ⟨lb, 0, none⟩) hA.l.1 _
 ·exact Nat.le_trans (Nat.le_trans h.size hg.size) k1.size
 ·refine (KeepsOthers.of_grownBy hg fun j o e hj => ?_).trans (KeepsOthers.setCell _ _ _)
  obtain ⟨cur, hc⟩ := h4.block j e;rw [hc] at hj;cases hj;rfl
end
end Go.Proofs.YthpckmcgbmfmcaaGreatDoor
namespace Go.Proofs.YthpckmcgbmfmcaaGreatDoor
open Go.RowKit
theorem mem_getD {l : List Nat} {i : Nat} (h : i < l.length) : l.getD i 0 ∈ l := by
 rw [List.getD_eq_getElem?_getD, List.getElem?_eq_getElem h];exact List.getElem_mem _
theorem fold_set (t : Array Value) : ∀ (ds : List Nat) (t0 : Array Value) (k : Nat), t.size = t0.size -> (ds.foldl (fun u d => u.setIfInBounds d (t.getD d undef)) t0)[k]? = if k ∈ ds then t[k]? else t0[k]?
 | [], t0, k, _ => by simp
 | d :: ds, t0, k, h => by
  rw [List.foldl_cons, fold_set t ds _ k (by simpa using h)];by_cases hk : k ∈ ds
  ·rw [if_pos hk, if_pos (List.mem_cons_of_mem _ hk)]
  ·rw [if_neg hk]
   by_cases hd : d = k
   ·subst hd
    rw [if_pos List.mem_cons_self];rcases Nat.lt_or_ge d t0.size with hl | hl
    ·rw [Array.getElem?_setIfInBounds_self_of_lt hl]
     have hl' : d < t.size := (by omega);simp [Array.getD, hl']
    ·rw [Array.getElem?_eq_none (by simpa using hl), Array.getElem?_eq_none (by omega)]
   ·rw [Array.getElem?_setIfInBounds_ne hd, if_neg (by simp; exact ⟨fun e => hd e.symm, hk⟩)]
theorem tmps_set {t t0 : Array Value} (hs : t.size = t0.size) (ds : List Nat) (h : ∀ d, d ∉ ds -> t[d]? = t0[d]?) : t = ds.foldl (fun u d => u.setIfInBounds d (t.getD d undef)) t0 := by
 apply Array.ext_getElem?
 intro k;rw [fold_set t ds t0 k hs];by_cases hk : k ∈ ds
 ·rw [if_pos hk]
 ·rw [if_neg hk, h k hk]
end Go.Proofs.YthpckmcgbmfmcaaGreatDoor
