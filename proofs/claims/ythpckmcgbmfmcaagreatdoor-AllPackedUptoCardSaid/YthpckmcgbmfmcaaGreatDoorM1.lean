/- Texts of this claim, joined. -/
import Derived.Test.YthpckmcgbmfmcaaGreatDoorM0
import Derived.Test.YthpckmcgbmfmcaaGreatDoorRows
import Derived.WalkKit
import Derived.WalkSpells
import Derived.WalkLawsBesides
import Derived.Lib.Hide
import Derived.Deep.DeepMust
import Derived.Outline
import Derived.Deep.WholeRow
import Derived.Deep.LoopGhost
import Derived.Deep.DeepCutAuto
import Derived.Laws.CopyOwn
import Derived.Deep.MidRow
import Derived.Orders
import Derived.StillTail
import Derived.Shelf.Abstract
import Derived.Laws.Rows
import Derived.Lib.QuietBelow
import Derived.OrdersIn
import Derived.TacticsInMore
import Derived.RangeFuncCalls
import Derived.Laws.Tables
import Derived.Laws.AppendOwnNone
import Derived.Deep.Onto
import Derived.RangeFuncOwn
import Derived.RangeFuncRecord
import Derived.IntWalk
import Derived.Great.BuildSlice
set_option maxRecDepth 100000
set_option maxHeartbeats 12800000
namespace Go.Proofs.YthpckmcgbmfmcaaGreatDoor
inductive pk.Pk : List Int -> List Int -> Prop
 | nil : pk.Pk [] []
 | lit {e d : List Int} (c : List Int) (h1 : 1 <= c.length) (h2 : c.length <= 128) (h : pk.Pk e d) : pk.Pk (((c.length - 1 : Nat) : Int) :: (c ++ e)) (c ++ d)
 | run {e d : List Int} (n : Nat) (x : Int) (h1 : 2 <= n) (h2 : n <= 128) (h : pk.Pk e d) : pk.Pk (((257 - n : Nat) : Int) :: x :: e) (List.replicate n x ++ d)
theorem pk.Pk.append {e d e' d' : List Int} (h : pk.Pk e d) (h' : pk.Pk e' d') : pk.Pk (e ++ e') (d ++ d') := by
 induction h with
 | nil => exact h'
 | lit c h1 h2 _ ih =>
  rw [List.cons_append, List.append_assoc, List.append_assoc];exact .lit c h1 h2 ih
 | run n x h1 h2 _ ih =>
  rw [List.cons_append, List.cons_append, List.append_assoc];exact .run n x h1 h2 ih
theorem pk.Pk.snocLit {e d : List Int} (h : pk.Pk e d) (c : List Int) (h1 : 1 <= c.length) (h2 : c.length <= 128) : pk.Pk (e ++ ((c.length - 1 : Nat) : Int) :: c) (d ++ c) := by
 have := h.append (.lit c h1 h2 .nil);simp only [List.append_nil] at this;exact this
theorem pk.Pk.snocRun {e d : List Int} (h : pk.Pk e d) (n : Nat) (x : Int) (h1 : 2 <= n) (h2 : n <= 128) : pk.Pk (e ++ [((257 - n : Nat) : Int), x]) (d ++ List.replicate n x) := by
 have := h.append (.run n x h1 h2 .nil);simp only [List.append_nil] at this;exact this
theorem pk.Pk.len {e d : List Int} (h : pk.Pk e d) : e.length <= 2 * d.length := by
 induction h with
 | nil => exact Nat.le_refl _
 | lit c h1 h2 _ ih =>
  simp only [List.length_cons, List.length_append] at *;omega
 | run n x h1 h2 _ ih =>
  simp only [List.length_cons, List.length_append, List.length_replicate] at *;omega
end Go.Proofs.YthpckmcgbmfmcaaGreatDoor
namespace Go.Proofs.YthpckmcgbmfmcaaGreatDoor
open Go.RowKit
theorem hd_ {p : Prop} (h : p) : Hid p := Lib.hid h
theorem i64i {n : Int} (h : -9223372036854775808 <= n /\ n <= 9223372036854775807) : IntKind.i64.wrap n = n := IntWalk.i64_in n h
theorem i64o {n m : Int} (h : -9223372036854775808 <= n /\ n <= 9223372036854775807) (e : n = m) : IntKind.i64.wrap n = m := (IntWalk.i64_in n h).trans e
theorem cr_ (w : World) {b : Nat} (i : Nat) {cs : Array Value} {t : TypeId} (h : w.heap[b]? = some (.cells cs t (0, 0))) (v : Value) (e : cs[i]? = some v) : w.cell? ⟨b, i, none⟩ = some v := (cell_of_row w b i cs t (0, 0) h).trans e
def Rd (k : IntKind) (w : World) (a : Option Addr) (l : List Int) : Prop :=
 l = [] \/ ∃ b off, a = some ⟨b, off, none⟩ /\ ∀ i, i < l.length -> w.cell? ⟨b, off + i, none⟩ = some (.int k (l.getD i 0))
theorem Rd.nil {k : IntKind} {w : World} {a : Option Addr} : Rd k w a [] := .inl rfl
theorem Rd.below {k : IntKind} {w w' : World} {a : Option Addr} {l : List Int} (h : Rd k w a l) (hb : Below w.heap.size w w') : Rd k w' a l := by
 rcases h with h | ⟨b, off, rfl, h⟩
 ·exact .inl h
 ·exact .inr ⟨b, off, rfl, fun i hi => (hb.cell (block_lt_of_cell (h i hi))).trans (h i hi)⟩
theorem Rd.take {k : IntKind} {w : World} {a : Option Addr} {l : List Int} (h : Rd k w a l) (m : Nat) : Rd k w a (l.take m) := by
 rcases h with h | ⟨b, off, rfl, h⟩
 ·exact .inl (by simp [h])
 ·refine .inr ⟨b, off, rfl, fun i hi => ?_⟩
  simp only [List.length_take] at hi;rw [h i (by omega)];congr 2
  simp only [List.getD_eq_getElem?_getD, List.getElem?_take];rw [if_pos (by omega)]
theorem Rd.drop {k : IntKind} {w : World} {b off : Nat} {l : List Int} (h : Rd k w (some ⟨b, off, none⟩) l) (m : Nat) : Rd k w (some ⟨b, off + m, none⟩) (l.drop m) := by
 rcases h with h | ⟨b', off', e, h⟩
 ·exact .inl (by simp [h])
 ·simp only [Option.some.injEq, Addr.mk.injEq, and_true] at e
  obtain ⟨rfl, rfl⟩ := e;refine .inr ⟨b, off + m, rfl, fun i hi => ?_⟩;simp only [List.length_drop] at hi;have := h (m + i) (by omega);rw [show off + m + i = off + (m + i) from by omega, this];congr 2
  simp only [List.getD_eq_getElem?_getD, List.getElem?_drop]
theorem Rd.cell {k : IntKind} {w : World} {b off : Nat} {l : List Int} (h : Rd k w (some ⟨b, off, none⟩) l) (i : Nat) (hi : i < l.length) : w.cell? ⟨b, off + i, none⟩ = some (.int k (l.getD i 0)) := by
 rcases h with h | ⟨b', off', e, h⟩
 ·rw [h] at hi; simp at hi
 ·simp only [Option.some.injEq, Addr.mk.injEq, and_true] at e
  obtain ⟨rfl, rfl⟩ := e;exact h i hi
theorem Rd.at {k : IntKind} {w : World} {a : Option Addr} {l : List Int} (h : Rd k w a l) (hl : 0 < l.length) : ∃ b off, a = some ⟨b, off, none⟩ := by
 rcases h with h | ⟨b, off, rfl, _⟩
 ·rw [h] at hl; simp at hl
 ·exact ⟨b, off, rfl⟩
structure Sl (k : IntKind) (w : World) (a : Option Addr) (n cap : Nat) (l : List Int) : Prop where
 len : l.length = n
 fits : n <= cap
 most : cap <= maxLen
 bare : a = Option.none -> cap = 0
 wf : ∀ x ∈ l, (Lit.int k x).wf = true
 rd : Rd k w a l
theorem Sl.below {k : IntKind} {w w' : World} {a : Option Addr} {n cap : Nat} {l : List Int} (h : Sl k w a n cap l) (hb : Below w.heap.size w w') : Sl k w' a n cap l :=
 ⟨h.len, h.fits, h.most, h.bare, h.wf, h.rd.below hb⟩
theorem Sl.nil {k : IntKind} {w : World} : Sl k w Option.none 0 0 [] := ⟨rfl, Nat.le_refl _, Nat.zero_le _, fun _ => rfl, (fun _ h => by cases h), .nil⟩
def Fresh (k : IntKind) (t : TypeId) (base : Nat) (w' : World) (v : Value) (n : Nat) (l : List Int) : Prop :=
 ∃ g cap, v = .slice (some ⟨g, 0, none⟩) n cap /\ base <= g /\ w'.ownsRow base t 1 v n (l.map (Value.int k))
theorem Fresh.sl {k : IntKind} {t : TypeId} {base : Nat} {w' : World} {g n cap : Nat} {l : List Int} (h : w'.ownsRow base t 1 (.slice (some ⟨g, 0, none⟩) n cap) n (l.map (Value.int k))) (hw : ∀ x ∈ l, (Lit.int k x).wf = true) : Sl k w' (some ⟨g, 0, none⟩) n cap l := by
 have hl : l.length = n := by have := h.1; simpa using this
 have hc : n <= cap /\ cap <= maxLen := by
  rcases h.2 with ⟨h', _⟩ | ⟨g', cap', cur, h', _, _, h1, h2, _⟩
  ·cases h'
  ·simp only [Value.slice.injEq, Option.some.injEq, Addr.mk.injEq, and_true, true_and] at h'
   obtain ⟨_, rfl⟩ := h';exact ⟨h1, h2⟩
 refine ⟨hl, hc.1, hc.2, fun e => by simp at e, hw, .inr ⟨g, 0, rfl, fun i hi => ?_⟩⟩;rw [Nat.zero_add, h.cellAt i (by omega), List.getElem?_map];simp [List.getD_eq_getElem?_getD, List.getElem?_eq_getElem hi]
theorem Sl.at_news {k : IntKind} {w : World} {ad : Addr} {n cap : Nat} {l : List Int} (h : Sl k w (some ad) n cap l) : ∀ j u, (l.map (Value.int k))[j]? = some u -> w.cell? (ad.add j) = some u := by
 intro j u hu;have hj : j < l.length := by
  have := (List.getElem?_eq_some_iff.1 hu).1
  simpa using this
 rcases h.rd with h0 | ⟨b, off, e, hc⟩
 ·rw [h0] at hj; simp at hj
 ·simp only [Option.some.injEq] at e
  subst e;have := hc j hj;simp only [List.getElem?_map, List.getElem?_eq_getElem hj, Option.map_some, Option.some.injEq] at hu;rw [<- hu];have e2 : (⟨b, off, Option.none⟩ : Addr).add j = ⟨b, off + j, Option.none⟩ := by unfold Addr.add; split <;> simp_all
  rw [e2, this, List.getD_eq_getElem?_getD, List.getElem?_eq_getElem hj];rfl
theorem fresh_of {k : IntKind} {t : TypeId} {base : Nat} {w' : World} {v : Value} {n : Nat} {l : List Int} (h : w'.ownsRow base t 1 v n (l.map (Value.int k))) (hv : ¬ v = .slice none 0 0) : Fresh k t base w' v n l := by
 rcases h.2 with ⟨h', _⟩ | ⟨g, cap, cur, rfl, hb, hr⟩
 ·exact absurd h' hv
 ·exact ⟨g, cap, rfl, hb, h⟩
def ints (l : List Int) : Array Value := (l.map (Value.int .i64)).toArray
theorem heap3 (w : World) (A B C : Obj) : (((w.alloc A).alloc B).alloc C).heap[w.heap.size]? = some A /\ (((w.alloc A).alloc B).alloc C).heap[w.heap.size + 1]? = some B /\ (((w.alloc A).alloc B).alloc C).heap[w.heap.size + 1 + 1]? = some C := by
 refine ⟨?_, ?_, ?_⟩
 ·show (((w.heap.push A).push B).push C)[w.heap.size]? = some A
  rw [Array.getElem?_push, if_neg (by simp; omega), Array.getElem?_push, if_neg (by simp), Array.getElem?_push, if_pos rfl]
 ·show (((w.heap.push A).push B).push C)[w.heap.size + 1]? = some B
  rw [Array.getElem?_push, if_neg (by simp), Array.getElem?_push, if_pos (by simp)]
 ·show (((w.heap.push A).push B).push C)[w.heap.size + 1 + 1]? = some C
  rw [Array.getElem?_push, if_pos (by simp)]
section
variable {P : Program}
end
theorem block_lt {w : World} {g : Nat} {o : Obj} (h : w.heap[g]? = some o) : g < w.heap.size := (Array.getElem?_eq_some_iff.1 h).1
theorem keep_cell {w w1 : World} {a : Addr} {v : Value} (hb : Below w.heap.size w w1) (h : w.cell? a = some v) : w1.cell? a = some v := (hb.cell (block_lt_of_cell h)).trans h
section
variable {P : Program} {ops : Array Oper} {Q : Exit -> Act -> World -> Prop}
def left (listed : Array Bool) : Nat := listed.toList.count false
theorem left_set (listed : Array Bool) (i : Nat) (h : listed.getD i true = false) : left (listed.setIfInBounds i true) + 1 = left listed := by
 have hlt : i < listed.size := by
  rcases Nat.lt_or_ge i listed.size with h' | h'
  ·exact h'
  ·simp [Array.getElem?_eq_none h'] at h
 have hv : listed.toList[i]'(by simpa using hlt) = false := by
  simpa [hlt] using h
 unfold left;rw [Array.toList_setIfInBounds, List.count_set (by simpa using hlt)];have hp : 0 < listed.toList.count false := List.count_pos_iff.2 (hv ▸ List.getElem_mem _);rw [hv, if_pos (by rfl), if_neg (by simp)];omega
theorem left_zero (listed : Array Bool) (h : left listed = 0) (i : Nat) : listed.getD i true = true := by
 rcases Nat.lt_or_ge i listed.size with hlt | h'
 ·have := List.count_eq_zero.1 h
  cases hv : listed[i]'hlt
  ·exact absurd (by rw [<- hv]; simp) this
  ·simp [hlt, hv]
 ·simp [Array.getElem?_eq_none h']
theorem wpAny_inv (Inv : Array Bool -> Act -> World -> Prop)
  (hstep : ∀ listed a w, listed.size = ops.size -> Inv listed a w -> ∀ i ∈ Region.ready .any ops listed, wpOp P ops Q i (Inv (listed.setIfInBounds i true)) a w)
  (hfin : ∀ listed a w, listed.size = ops.size -> Inv listed a w -> Region.ready .any ops listed = [] -> Q .normal a w) :
  ∀ fuel listed a w, listed.size = ops.size -> left listed <= fuel -> Inv listed a w -> wpAny P .any ops Q fuel listed a w := by
 intro fuel
 induction fuel with
 | zero =>
  intro listed a w hs hl hI;have h0 : Region.ready .any ops listed = [] := by
   apply List.eq_nil_iff_forall_not_mem.2
   intro j hj;have := (mem_ready.1 hj).1;rw [left_zero listed (by omega)] at this;cases this
  exact ⟨h0, hfin listed a w hs hI h0⟩
 | succ fuel ih =>
  intro listed a w hs hl hI;refine ⟨hfin listed a w hs hI, fun i hi => ?_⟩;refine wpOp_mono (fun a' w' h => ih _ a' w' (by simpa using hs) ?_ h) (hstep listed a w hs hI i hi);have := left_set listed i (mem_ready.1 hi).1;omega
def backs (ops : Array Oper) : Bool := (List.range ops.size).all fun i => ((ops[i]?).map (·.after.all fun e => decide (e.on < i))).getD true
theorem all_listed (hb : backs ops = true) {listed : Array Bool} (hs : listed.size = ops.size) (h : Region.ready .any ops listed = []) : ∀ i, i < ops.size -> listed.getD i false = true := by
 intro i
 induction i using Nat.strongRecOn with
 | _ i ih =>
  intro hi;cases hv : listed.getD i false with
  | true => rfl
  | false =>
   exfalso;have hmem : i ∈ Region.ready .any ops listed := by
    refine mem_ready.2 ⟨?_, ops[i], Array.getElem?_eq_getElem hi, fun e he _ => ?_⟩
    ·have : i < listed.size := hs ▸ hi
     simpa [this] using hv
    ·have h1 := List.all_eq_true.1 hb i (List.mem_range.2 hi)
     rw [Array.getElem?_eq_getElem hi] at h1;have h2 := Array.all_eq_true_iff_forall_mem.1 h1 e he;have hlt : e.on < i := (by simpa using h2);exact ih e.on hlt (by omega)
   rw [h] at hmem;cases hmem
def plainOps (ops : Array Oper) (D : Nat -> Nat) (n : Nat) : Bool :=
 (List.range ops.size).all fun i => ((ops[i]?).map fun o => o.guard.isNone && decide (o.dst = some (D i)) && decide (D i < n)).getD false &&
  (List.range i).all fun j => decide (D j ≠ D i)
section
variable {D : Nat -> Nat}
theorem plainOps_at {n i : Nat} {o : Oper} (h : plainOps ops D n = true) (ho : ops[i]? = some o) :
  o.guard = none /\ o.dst = some (D i) /\ D i < n := by
 have hlt : i < ops.size := (Array.getElem?_eq_some_iff.1 ho).1;have h1 := List.all_eq_true.1 h i (List.mem_range.2 hlt);rw [ho] at h1;simp only [Option.map_some, Option.getD_some, Bool.and_eq_true, Option.isNone_iff_eq_none, decide_eq_true_eq] at h1;exact ⟨h1.1.1.1, h1.1.1.2, h1.1.2⟩
theorem plainOps_ne {n i j : Nat} (h : plainOps ops D n = true) (hi : i < ops.size) (hj : j < ops.size) (hne : i ≠ j) : D i ≠ D j := by
 have key : ∀ i j, i < ops.size -> j < i -> D j ≠ D i := fun i j hi hj => by
  have h1 := List.all_eq_true.1 h i (List.mem_range.2 hi);rw [Bool.and_eq_true] at h1;have h2 := List.all_eq_true.1 h1.2 j (List.mem_range.2 hj)
  simpa using h2
 rcases Nat.lt_or_gt_of_ne hne with hl | hl
 ·exact key j i hj hl
 ·exact fun e => key i j hi hl e.symm
structure Laid (ops : Array Oper) (D : Nat -> Nat) (R : Nat -> Value -> World -> Prop) (a₀ : Act) (w₀ : World) (listed : Array Bool) (a : Act) (w : World) : Prop where
 below : Below w₀.heap.size w₀ w
 defers : a.defers = a₀.defers
 size : a.tmps.size = a₀.tmps.size
 old : ∀ d, (∀ i, i < ops.size -> D i ≠ d) -> a.tmps[d]? = a₀.tmps[d]?
 new : ∀ i, i < ops.size -> listed.getD i false = true -> ∃ v, a.tmps[D i]? = some v /\ R i v w
def OpDoes (P : Program) (Q : Exit -> Act -> World -> Prop) (S : Act -> World -> Prop) (D : Nat -> Nat) (R : Nat -> Value -> World -> Prop) (i : Nat) (o : Oper) : Prop :=
 ∀ (a : Act) (w : World), S a w -> (∀ j, o.after.any (fun e => e.on == j && Region.binds .any e) = true -> ∃ v, a.tmps[D j]? = some v /\ R j v w) ->
  o.wp P a w (fun a' w' => ∃ v, a' = a.put o.dst v /\ R i v w' /\ Below w.heap.size w w') Q
def AllDo (G : Nat -> Oper -> Prop) : Nat -> List Oper -> Prop
 | _, [] => True
 | n, o :: os => G n o /\ AllDo G (n + 1) os
theorem AllDo.at {G : Nat -> Oper -> Prop} : ∀ {l : List Oper} {n : Nat}, AllDo G n l -> ∀ {i : Nat} {o : Oper}, l[i]? = some o -> G (n + i) o
 | [], _, _, i, o, h => by simp at h
 | x :: xs, n, ⟨h0, h1⟩, 0, o, h => by simp at h; subst h; exact h0
 | x :: xs, n, ⟨h0, h1⟩, i + 1, o, h => by
  have := AllDo.at h1 (i := i) (by simpa using h)
  rwa [Nat.add_assoc, Nat.add_comm 1] at this
end
end
section
variable {P : Program} {ops : Array Oper} {Q : Exit -> Act -> World -> Prop} {D : Nat -> Nat}
def plainHead (ops : Array Oper) (D : Nat -> Nat) (n m : Nat) : Bool :=
 (List.range n).all fun i => ((ops[i]?).map fun o => o.guard.isNone && decide (o.dst = some (D i)) && decide (D i < m)).getD false &&
  (List.range i).all fun j => decide (D j ≠ D i)
theorem plainHead_at {n m i : Nat} {o : Oper} (h : plainHead ops D n m = true) (hi : i < n) (ho : ops[i]? = some o) :
  o.guard = none /\ o.dst = some (D i) /\ D i < m := by
 have h1 := List.all_eq_true.1 h i (List.mem_range.2 hi);rw [ho] at h1;simp only [Option.map_some, Option.getD_some, Bool.and_eq_true, Option.isNone_iff_eq_none, decide_eq_true_eq] at h1;exact ⟨h1.1.1.1, h1.1.1.2, h1.1.2⟩
theorem plainHead_ne {n m i j : Nat} (h : plainHead ops D n m = true) (hi : i < n) (hj : j < n) (hne : i ≠ j) : D i ≠ D j := by
 have key : ∀ i j, i < n -> j < i -> D j ≠ D i := fun i j hi hj => by
  have h1 := List.all_eq_true.1 h i (List.mem_range.2 hi);rw [Bool.and_eq_true] at h1;have h2 := List.all_eq_true.1 h1.2 j (List.mem_range.2 hj)
  simpa using h2
 rcases Nat.lt_or_gt_of_ne hne with hl | hl
 ·exact key j i hj hl
 ·exact fun e => key i j hi hl e.symm
structure LaidH (n : Nat) (D : Nat -> Nat) (R : Nat -> Value -> World -> Prop) (a₀ : Act) (w₀ : World) (listed : Array Bool) (a : Act) (w : World) : Prop where
 below : Below w₀.heap.size w₀ w
 defers : a.defers = a₀.defers
 size : a.tmps.size = a₀.tmps.size
 old : ∀ d, (∀ i, i < n -> D i ≠ d) -> a.tmps[d]? = a₀.tmps[d]?
 new : ∀ i, i < n -> listed.getD i false = true -> ∃ v, a.tmps[D i]? = some v /\ R i v w
end
end Go.Proofs.YthpckmcgbmfmcaaGreatDoor
namespace Go.Proofs.YthpckmcgbmfmcaaGreatDoor
open Go.RowKit Go.Shelf
section
variable {P : Program} {Q : Exit -> Act -> World -> Prop} {S : Act -> World -> Prop} {D : Nat -> Nat} {R : Nat -> Value -> World -> Prop} {n : Nat} {o : Oper}
theorem eval_tmp {a : Act} {t : Nat} {v : Value} (h : a.tmps[t]? = some v) : a.eval (.tmp t) = v := by simp [Act.eval, h]
theorem od_move (t : Nat) (V : Value) (ho : o.op = .move (.tmp t)) (hS : ∀ a w, S a w -> a.tmps[t]? = some V) (hR : ∀ w, R n V w) : OpDoes P Q S D R n o := by
 intro a w h _;have e := eval_tmp (hS a w h);have hrun : (execOp a.eval o).run P w = .ok (.value V) w := by
  unfold execOp;simp only [ho, e];rfl
 unfold Oper.wp;rw [hrun];exact ⟨_, rfl, hR w, Below.refl _ _⟩
end
end Go.Proofs.YthpckmcgbmfmcaaGreatDoor
namespace Go.Proofs.YthpckmcgbmfmcaaGreatDoor
open Go.RowKit
section
variable {P : Program} {ops : Array Oper} {Q : Exit -> Act -> World -> Prop} {D : Nat -> Nat}
def firstN (m n : Nat) : Array Bool := ((List.range m).map fun i => decide (i < n)).toArray
theorem eq_firstN {listed : Array Bool} {m n : Nat} (hs : listed.size = m) (h1 : ∀ j, j < n -> listed.getD j false = true) (h2 : ∀ t, n <= t -> t < m -> listed.getD t true = false) : listed = firstN m n := by
 apply Array.ext
 ·simp [firstN, hs]
 ·intro i hi hi'
  have him : i < m := hs ▸ hi;simp only [firstN, List.getElem_toArray, List.getElem_map, List.getElem_range];by_cases h : i < n
  ·have := h1 i h
   simp [hi] at this;simp [this, h]
  ·have := h2 i (by omega) him
   simp [hi] at this;simp [this, h]
end
end Go.Proofs.YthpckmcgbmfmcaaGreatDoor
namespace Go.Proofs.YthpckmcgbmfmcaaGreatDoor
end Go.Proofs.YthpckmcgbmfmcaaGreatDoor
namespace Go.Proofs.YthpckmcgbmfmcaaGreatDoor
open Go.RowKit Go.Sort
section
variable {P : Program} {ops : Array Oper} {md : Region.Mode} {C : World -> Prop}
def headQ (P : Program) (md : Region.Mode) (ops : Array Oper) (C : World -> Prop) (n : Nat) (L : Array Bool -> Act -> Prop) : Nat -> Array Bool -> Act -> Prop
 | 0, listed, a => L listed a
 | f + 1, listed, a => Region.ready md ops listed ≠ [] /\ ∀ i ∈ Region.ready md ops listed, i < n /\ qOp P ops C i (headQ P md ops C n L f (listed.setIfInBounds i true)) a
theorem wpAny_of_headQ {n g : Nat} {L : Array Bool -> Act -> Prop} {Q' : Exit -> Act -> World -> Prop} (hL : ∀ listed a, L listed a -> ∀ w, C w -> wpAny P md ops Q' g listed a w) :
  ∀ (f : Nat) (listed : Array Bool) (a : Act), headQ P md ops C n L f listed a -> ∀ w, C w -> wpAny P md ops Q' (f + g) listed a w
 | 0, listed, a, h, w, hw => by rw [Nat.zero_add]; exact hL _ _ h w hw
 | f + 1, listed, a, h, w, hw => by
  rw [show f + 1 + g = (f + g) + 1 by omega];exact ⟨fun h0 => absurd h0 h.1, fun i hi => wpOp_of_qOp hw (fun a' w' hw' h' => wpAny_of_headQ hL f _ a' h' w' hw') (h.2 i hi).2⟩
theorem headQ_first {n i : Nat} {oi : Oper} {v : Value} {L : Array Bool -> Act -> Prop} (hi : ops[i]? = some oi) (hsel : ∀ (j : Nat) (o : Oper) cs b, ops[j]? = some o -> o.op ≠ .select cs b)
  (hs : Region.sinkB md ops n = true) (hc : Region.chainB md ops n = true) (hn : n < ops.size) (hin : i < n)
  (hdone : ∀ listed a, L listed a -> ∀ j ∈ Region.ready md ops listed, n <= j) :
  ∀ (f : Nat) (listed : Array Bool) (a : Act), HeadInv md ops n listed ->
   (∀ j oj, ops[j]? = some oj -> j ≠ i -> listed.getD j true = false -> (∀ e ∈ oj.after, Region.binds md e = true -> e.on ≠ i) -> oi.apart ops oj = true) ->
   i ∈ Region.ready md ops listed -> YieldsIn P ops C oi v a ->
   headQ P md ops C n L f (listed.setIfInBounds i true) (a.put oi.dst v) -> headQ P md ops C n L (f + 1) listed a := by
 intro f
 induction f with
 | zero =>
  intro listed a inv _ hr hy H;have hun := (mem_ready.1 hr).1;refine ⟨fun h => (by rw [h] at hr; cases hr), fun j hj => ?_⟩;have hjn : j < n := by
   rcases Nat.lt_or_ge j n with h | h
   ·exact h
   ·exact absurd hj (tail_waits hs hc hn inv _ i rfl hin hun j h)
  refine ⟨hjn, ?_⟩;by_cases hji : j = i
  ·subst hji; exact hy.qOp hi H
  ·have := hdone _ _ H j (ready_mono hj hji)
   omega
 | succ f ih =>
  intro listed a inv hfree hr hy H;have hun := (mem_ready.1 hr).1;refine ⟨fun h => (by rw [h] at hr; cases hr), fun j hj => ?_⟩;have hjn : j < n := by
   rcases Nat.lt_or_ge j n with h | h
   ·exact h
   ·exact absurd hj (tail_waits hs hc hn inv _ i rfl hin hun j h)
  refine ⟨hjn, ?_⟩;by_cases hji : j = i
  ·subst hji; exact hy.qOp hi H
  ·have h1 := (H.2 j (ready_mono hj hji)).2
   obtain ⟨hjun, oj, hoj, hall⟩ := mem_ready.1 hj;have hnot : ∀ e ∈ oj.after, Region.binds md e = true -> e.on ≠ i := fun e he hb heq => by
    have h1 := hall e he hb;rw [heq, getD_both hun] at h1;cases h1
   have h2 := qOp_put hoj (hfree j oj hoj hji hjun hnot) (fun cs b => hsel i oi cs b hi) (fun cs b => hsel j oj cs b hoj) hy h1;refine qOp_mono (fun a' h3 => ih (listed.setIfInBounds j true) a' (inv.set hj hjn) ?_ (ready_mono hr (Ne.symm hji)) h3.1 ?_) h2
   ·intro k ok hk hki hku hno
    refine hfree k ok hk hki ?_ hno;by_cases hjk : j = k
    ·subst hjk; exact hjun
    ·rw [getD_set_ne true hjk] at hku; exact hku
   ·rw [Array.setIfInBounds_comm _ _ hji]
    exact h3.2
theorem headQ_lex {n g : Nat} {Lq : Act -> Prop} (hsel : Region.noSelect ops = true) (hs : Region.sinkB md ops n = true) (hc : Region.chainB md ops n = true) (hn : n < ops.size) :
  ∀ (l : List Oper) (k : Nat) (listed : Array Bool) (a : Act), (∀ j, j < l.length -> l[j]? = ops[k + j]?) -> k + l.length = n -> HeadInv md ops n listed ->
  Region.lexHead md ops g l.length k listed = true -> wpQuiet P ops C Lq l a ->
  headQ P md ops C n (fun listed' a' => Region.seqB md ops g n listed' = true /\ Lq a') l.length listed a
 | [], k, listed, a, _, hk, _, hB, h => by
  obtain rfl : k = n := by simpa using hk
  exact ⟨by simpa [Region.lexHead] using hB, h⟩
 | o :: l, k, listed, a, hl, hk, inv, hB, h => by
  have h0 : ops[k]? = some o := by simpa using (hl 0 (by simp)).symm
  simp only [List.length_cons, Region.lexHead, Bool.and_eq_true] at hB;obtain ⟨⟨hr, hf⟩, hB'⟩ := hB;have hkn : k < n := by simp only [List.length_cons] at hk; omega
  have hr' : k ∈ Region.ready md ops listed := by simpa using hr
  have hst : qOp P ops C k (wpQuiet P ops C Lq l) a := by unfold qOp; simp only [h0]; exact h
  obtain ⟨v, hy, hK⟩ := yieldsIn_of_qOp h0 hst;exact headQ_first h0 (Region.noSelect_spec hsel) hs hc hn hkn (fun listed' a' hL => seqB_ready hL.1) l.length listed a inv (Region.free_spec h0 hf) hr' hy
   (headQ_lex hsel hs hc hn l (k + 1) _ _ (fun j hj => by have := hl (j + 1) (by simp; omega); simpa [Nat.add_assoc, Nat.add_comm 1 j] using this) (by simp only [List.length_cons] at hk; omega) (inv.set hr' hkn) hB' hK)
theorem wp_region_quiet_tail {id : Nat} {Q : Exit -> Act -> World -> Prop} {a : Act} {w : World} {l : List Oper} (n : Nat) (hm : P.follows .mixedOrders = true) (hB : Region.lexTailB .any l.toArray n = true)
  (h : wpQuiet P l.toArray (fun w' => ∃ p : Regrown, w' = grow (redrawn w p.d) p.os) (fun a' => ∀ w', (∃ p : Regrown, w' = grow (redrawn w p.d) p.os) -> wpList P l.toArray Q (l.drop n) a' w') (l.take n) a) : (Code.region id l.toArray true).wp P Q a w := by
 simp only [Region.lexTailB, Bool.and_eq_true, decide_eq_true_eq] at hB;obtain ⟨⟨⟨⟨hsel, hn⟩, hs⟩, hc⟩, hlex⟩ := hB;have hn' : n < l.length := by simpa using hn
 have htl : (l.take n).length = n := by simp; omega
 have hdl : (l.drop n).length = l.toArray.size - n := by simp
 have inv0 : HeadInv .any l.toArray n (Array.replicate l.toArray.size false) :=
  ⟨by simp, fun j oj _ hl => (by rw [getD_replicate_false] at hl; cases hl), fun t _ ht => getD_in (by simpa using ht) (getD_replicate_false _ _)⟩
 have H := headQ_lex (md := .any) (g := l.toArray.size - n) hsel hs hc hn (l.take n) 0 _ a (fun j hj => by
  have hj' : j < n := by rw [htl] at hj; exact hj
  simp [hj']) (by simpa using htl) inv0 (by rw [htl]; exact hlex) h
 refine wp_region_any hm ?_;have hw0 : (∃ p : Regrown, ({ w with drawn := w.drawn + 1 } : World) = grow (redrawn w p.d) p.os) := ⟨⟨w.drawn + 1, #[]⟩, by rw [grow_empty]; rfl⟩;have := wpAny_of_headQ (Q' := Q) (g := l.toArray.size - n) (fun listed a' hL w' hw' => by
  have := wpAny_of_seq (md := .any) (Q' := Q) (l.drop n) n listed a' w' (fun j => by simp [List.getElem?_drop]) (by rw [hdl]; exact hL.1) (hL.2 w' hw')
  rwa [hdl] at this) _ _ _ H _ hw0
 rw [htl, show n + (l.toArray.size - n) = l.toArray.size by omega] at this;exact this
end
end Go.Proofs.YthpckmcgbmfmcaaGreatDoor
namespace Go.Proofs.YthpckmcgbmfmcaaGreatDoor
end Go.Proofs.YthpckmcgbmfmcaaGreatDoor
namespace Go.Proofs.YthpckmcgbmfmcaaGreatDoor
open Go.RowKit
section
variable {P : Program} {ops : Array Oper} {Q : Exit -> Act -> World -> Prop} {l n : Nat}
def noDefer (o : Oper) : Bool := match o.op with | .defer _ => false | _ => true
theorem noDefer_spec {o : Oper} (h : noDefer o = true) : ∀ c, o.op ≠ .defer c := by
 intro c e;unfold noDefer at h;rw [e] at h;cases h
theorem rowsIn_wide {n : Nat} {row : String} {args : Array Value} {w : World} {R : Value -> World -> Prop} (h : Rows P row args w R) : RowsIn (Fence.wide.inRound l) n P row args w R := by
 intro c cs _;obtain ⟨v, w', r, s⟩ := h c cs;refine ⟨v, w', r, ?_⟩;rw [fenced_inRound];exact stepsIn_wide.2 s
theorem oper_round {o : Oper} {a : Act} {w : World} {K : Act -> World -> Prop} (hnd : noDefer o = true) (h : o.wp P a w K Q) : o.wpIn (Fence.wide.inRound l) n P a w K Q := by
 refine ⟨fun _ _ => trivial, ?_⟩;rw [Oper.semAt_eq _ _ _ (noDefer_spec hnd)];unfold Oper.wp at h;generalize (execOp a.eval o).run P w = r at h;cases r with
 | ok x w' =>
  cases x with
  | enter f args => exact ⟨fun h => by simp [Fence.wide] at h, CallsIn.inRound l (callsIn_wide.2 h)⟩
  | row row args => exact ⟨fun h => by simp [Fence.wide] at h, rowsIn_wide h⟩
  | value v => exact h
  | skip => exact h
  | defer d => exact h
  | _ => exact h.elim
 | halt x w' => cases x <;> exact h
theorem wpOp_round {i : Nat} {a : Act} {w : World} {K : Act -> World -> Prop} (hnd : ops.toList.all noDefer = true) (hLO : ¬ LetsOut Q) (h : wpOp P ops Q i K a w) : wpOpIn (Fence.wide.inRound l) n P ops Q i K a w := by
 unfold wpOp at h;unfold wpOpIn;cases ho : ops[i]? with
 | none => rw [ho] at h; exact h
 | some o =>
  rw [ho] at h;have hd : noDefer o = true := List.all_eq_true.1 hnd o (List.mem_of_getElem? (by simpa using ho));simp only at h ⊢;split
  ·rename_i hw
   rw [if_pos hw] at h;rcases h with h | ⟨_, h⟩
   ·exact oper_round hd h
   ·exact absurd h hLO
  ·rename_i hw
   rw [if_neg hw] at h;exact ⟨fun _ _ => trivial, h⟩
theorem wpAny_round {md : Region.Mode} (hnd : ops.toList.all noDefer = true) (hLO : ¬ LetsOut Q) : ∀ fuel listed a w, wpAny P md ops Q fuel listed a w -> wpAnyIn (Fence.wide.inRound l) n P md ops Q fuel listed a w
 | 0, _, _, _, h => h
 | fuel + 1, _, _, _, h => ⟨h.1, fun i hi => wpOpIn_mono (fun a' w' h' => wpAny_round hnd hLO fuel _ a' w' h') (wpOp_round hnd hLO (h.2 i hi))⟩
theorem wpList_round (hLO : ¬ LetsOut Q) : ∀ (os : List Oper) a w, os.all noDefer = true -> wpList P ops Q os a w -> wpListIn (Fence.wide.inRound l) n P ops Q os a w
 | [], _, _, _, h => h
 | o :: os, a, w, hnd, h => by
  rw [List.all_cons, Bool.and_eq_true] at hnd;unfold wpList at h;unfold wpListIn;split
  ·rename_i hw
   rw [if_pos hw] at h;rcases h with h | ⟨_, h⟩
   ·exact Oper.wpIn_mono (fun a' w' h' => wpList_round hLO os a' w' hnd.2 h') (oper_round hnd.1 h)
   ·exact absurd h hLO
  ·rename_i hw
   rw [if_neg hw] at h;exact ⟨fun _ _ => trivial, wpList_round hLO os _ _ hnd.2 h⟩
theorem round_region_any {id : Nat} {a : Act} {w : World} (hm : P.follows .mixedOrders = true) (hnd : ops.toList.all noDefer = true) (hLO : ¬ LetsOut Q)
  (h : wpAny P .any ops Q ops.size (Array.replicate ops.size false) a { w with drawn := w.drawn + 1 }) : (Code.region id ops true).wpIn (Fence.wide.inRound l) n P Q a w :=
 wpIn_region_any hm (wpAny_round hnd hLO _ _ _ _ h)
theorem round_region {id : Nat} {a : Act} {w : World} {os : List Oper} (hLO : ¬ LetsOut Q) (hnd : os.all noDefer = true) (h : wpList P os.toArray Q os a w) : (Code.region id os.toArray false).wpIn (Fence.wide.inRound l) n P Q a w :=
 wpIn_region_lit (wpList_round hLO _ _ _ hnd h)
end
end Go.Proofs.YthpckmcgbmfmcaaGreatDoor
namespace Go.Proofs.YthpckmcgbmfmcaaGreatDoor
open Go.RowKit Go.Sort Go.Shelf
theorem heap2 (w : World) (A B : Obj) : ((w.alloc A).alloc B).heap[w.heap.size]? = some A /\ ((w.alloc A).alloc B).heap[w.heap.size + 1]? = some B := by
 refine ⟨?_, ?_⟩
 ·show ((w.heap.push A).push B)[w.heap.size]? = some A
  rw [Array.getElem?_push, if_neg (by simp), Array.getElem?_push, if_pos rfl]
 ·show ((w.heap.push A).push B)[w.heap.size + 1]? = some B
  rw [Array.getElem?_push, if_pos (by simp)]
theorem below3 (w : World) (X Y Z : Obj) : Below w.heap.size w (((w.alloc X).alloc Y).alloc Z) :=
 (((Below.refl _ _).alloc (Nat.le_refl _) _).alloc (by simp) _).alloc (by simp; omega) _
theorem heap3' (w : World) (A B C : Obj) : ((((w.alloc A).alloc B).alloc C).heap[w.heap.size]? = some A /\ (((w.alloc A).alloc B).alloc C).heap[w.heap.size + 1]? = some B /\ (((w.alloc A).alloc B).alloc C).heap[w.heap.size + 1 + 1]? = some C) /\ (((w.alloc A).alloc B).alloc C).heap.size = w.heap.size + 1 + 1 + 1 := ⟨heap3 w A B C, by simp⟩
theorem cells_alloc (w : World) (cs : Array Value) (t : TypeId) (i : Nat) (x : Value) (h : cs[i]? = some x) : (w.alloc (.cells cs t)).cell? ⟨w.heap.size, i, none⟩ = some x :=
 (cell_of_row _ _ i cs t (0, 0) (by show (w.heap.push _)[w.heap.size]? = _; simp)).trans h
theorem grown_of_below {w w' : World} (h : Below w.heap.size w w') : w.grownBy w' none := ⟨h.os, h.tape, h.output, h.size, fun i hi _ => h.block i hi⟩
theorem ownsRow_below {w w' : World} {base : Nat} {e : TypeId} {size : Nat} {v : Value} {n : Nat} {xs : List Value} (h : w.ownsRow base e size v n xs) (hb : Below w.heap.size w w') : w'.ownsRow base e size v n xs :=
 World.ownsRow.kept h (grown_of_below hb) (by cases hv : v.ownBlock <;> simp)
theorem row_form {w : World} {base : Nat} {e : TypeId} {size : Nat} {v : Value} {n : Nat} {xs : List Value} (h : w.ownsRow base e size v n xs) (hv : ¬ v = .slice none 0 0) : ∃ g cap, v = .slice (some ⟨g, 0, none⟩) n cap := by
 rcases h.2 with ⟨h', _⟩ | ⟨g, cap, cur, h', _⟩
 ·exact absurd h' hv
 ·exact ⟨g, cap, h'⟩
theorem news_alloc (w : World) (cs : List Value) (t : TypeId) : ∀ j u, cs[j]? = some u -> (w.alloc (.cells cs.toArray t)).cell? ((⟨w.heap.size, 0, none⟩ : Addr).add j) = some u := by
 intro j u h;have e : (⟨w.heap.size, 0, none⟩ : Addr).add j = ⟨w.heap.size, j, none⟩ := by unfold Addr.add; split <;> simp_all
 rw [e];exact cells_alloc w cs.toArray t j u (by simpa using h)
theorem own_row {A B : World} {row : Option Nat} {base : Nat} {e : TypeId} {size : Nat} {v : Value} {n : Nat} {xs : List Value} (hg : A.grownBy B row) (hr : ∀ r, row = some r -> ∃ o : Obj, A.heap[r]? = some o /\ o.isCells = false) (h : A.ownsRow base e size v n xs) : B.ownsRow base e size v n xs := by
 refine World.ownsRow.kept h hg ?_;rcases h.2 with ⟨rfl, _⟩ | ⟨g, cap, cur, rfl, _, hgg, _⟩
 ·exact .inl rfl
 ·refine .inr fun e => ?_
  obtain ⟨o, ho, hc⟩ := hr g e.symm;rw [hgg] at ho;cases ho;cases hc
theorem take_deferred_below {w3 W : World} {n D : Nat} (hD : n <= D) (hn : n <= w3.heap.size) (hb : Below n w3 W) (o' : Obj) : Below n w3 (W.putObj D o') :=
 hb.grown (grownBy_putObj' W D o') (Nat.le_trans hn hb.size) (fun k e => by cases e; exact hD)
theorem grownBy_setRow (w : World) (b : Nat) (cs : Array Value) : w.grownBy (w.setRow b cs) (some b) := ⟨rfl, rfl, rfl, by simp [World.setRow], fun k hk hne => setRow_other w b k cs (by rintro rfl; exact hne rfl)⟩
theorem grownBy_setCell3 (w : World) (b i : Nat) (v : Value) : w.grownBy (w.setCell ⟨b, i, none⟩ v) (some b) := ⟨rfl, rfl, rfl, by simp [World.setCell], fun k hk hne => Below.heap_setCell w _ v k (by rintro rfl; exact hne rfl)⟩
theorem grown_block {w w1 : World} {row : Option Nat} {g : Nat} {o : Obj} (h : w.grownBy w1 row) (hg : w.heap[g]? = some o) (hne : some g ≠ row) : w1.heap[g]? = some o := (h.block g (block_lt hg) hne).trans hg
theorem grown_join {a b c : World} {row : Option Nat} (h : a.grownBy b row) (k : b.grownBy c row) : a.grownBy c row :=
 ⟨k.os.trans h.os, k.tape.trans h.tape, k.output.trans h.output, Nat.le_trans h.size k.size, fun i hi hne => (k.block i (Nat.lt_of_lt_of_le hi h.size) hne).trans (h.block i hi hne)⟩
theorem grown_any {a b : World} {row : Option Nat} (h : a.grownBy b none) : a.grownBy b row := ⟨h.os, h.tape, h.output, h.size, fun i hi _ => h.block i hi (by simp)⟩
theorem row_apart {w : World} {base : Nat} {e : TypeId} {size : Nat} {v : Value} {n : Nat} {xs : List Value} {b : Nat} {cs : Array Value} {t : TypeId} (h : w.ownsRow base e size v n xs) (hb : w.heap[b]? = some (.cells cs t (0, 0))) (ht : t ≠ e) : v.ownBlock = none \/ v.ownBlock ≠ some b := by
 rcases h.2 with ⟨rfl, _⟩ | ⟨g, cap', cur, rfl, _, hg, _⟩
 ·exact .inl rfl
 ·refine .inr fun e' => ?_
  have h2 : g = b := Option.some.inj e';rw [h2, hb] at hg;simp only [Option.some.injEq, Obj.cells.injEq] at hg;exact ht hg.2.1
theorem row_setRow {w : World} {base : Nat} {e : TypeId} {size : Nat} {v : Value} {n : Nat} {xs : List Value} {b : Nat} {cs : Array Value} {t : TypeId} (h : w.ownsRow base e size v n xs) (hb : w.heap[b]? = some (.cells cs t (0, 0))) (ht : t ≠ e) (cs' : Array Value) : (w.setRow b cs').ownsRow base e size v n xs :=
 World.ownsRow.kept h (grownBy_setRow w b cs') (row_apart h hb ht)
theorem slot_of {t : Array Value} {k : Nat} {v : Value} (h : t[k]? = some v) : (fun i => t.getD i undef) k = v := by
 simp [h]
theorem row_ne {w : World} {base g b n n' cap : Nat} {e t : TypeId} {xs : List Value} {cs : Array Value} {size : Nat} (h : w.ownsRow base e size (.slice (some ⟨g, 0, none⟩) n cap) n' xs) (hb : w.heap[b]? = some (.cells cs t (0, 0))) (ht : t ≠ e) : g ≠ b := by
 rcases row_apart h hb ht with h' | h'
 ·cases h'
 ·intro e'; subst e'; exact h' rfl
theorem results_cell_tmp {P : Program} {fn : Func} {p q : Tmp} {ty : TypeId} (h : fn.results = #[.cell p ty, .tmp q]) (tmps : Array Value) (w : World) (g : Nat) (t : TypeId) (cs : Array Value) (fr : Nat × Nat) (d : TypeDesc) (v : Value)
  (hp : tmps.getD p undef = .pointer (some ⟨g, 0, none⟩)) (hq : tmps.getD q undef = v) (hg : w.heap[g]? = some (.cells cs t fr))
  (hu : P.underlying ty = some d) (hd : (match d with | .struct _ | .array _ _ => true | _ => false) = true) (hi : (P.info? ty).map (·.size) = some cs.size) :
  (results fn tmps).run P w = .ok (.tuple #[.agg cs, v]) w := by
 have hp' : tmps[p]?.getD undef = .pointer (some ⟨g, 0, none⟩) := by simpa using hp
 have hq' : tmps[q]?.getD undef = v := by simpa using hq
 simp [results, h, hp', hq', asAddr, run_loadVar_row w g t ty cs fr d hg hu hd hi]
theorem Sl.cells {k : IntKind} {w : World} {p : Option Addr} {n cap : Nat} {l : List Int} (h : Sl k w p n cap l) (hn : 0 < n) : ∃ b off, p = some ⟨b, off, none⟩ /\ ∀ i, i < n -> w.cell? ⟨b, off + i, none⟩ = some (.int k (l.getD i 0)) := by
 obtain ⟨b, off, rfl⟩ := h.rd.at (by rw [h.len]; exact hn);exact ⟨b, off, rfl, fun i hi => h.rd.cell i (by rw [h.len]; exact hi)⟩
theorem list_eq_getD {l l' : List Int} (hl : l.length = l'.length) (h : ∀ i, i < l.length -> l.getD i 0 = l'.getD i 0) : l = l' := by
 apply List.ext_getElem hl
 intro i h1 h2;have := h i h1
 simpa [List.getD_eq_getElem?_getD, List.getElem?_eq_getElem h1, List.getElem?_eq_getElem h2] using this
theorem ownsRow_base {w : World} {b b' : Nat} {e : TypeId} {size n : Nat} {v : Value} {xs : List Value} (h : w.ownsRow b e size v n xs) (hb : b' <= b) : w.ownsRow b' e size v n xs := by
 obtain ⟨h1, h2⟩ := h;refine ⟨h1, ?_⟩;rcases h2 with h2 | ⟨g, cap, cur, a, h3, h4⟩
 ·exact .inl h2
 ·exact .inr ⟨g, cap, cur, a, Nat.le_trans hb h3, h4⟩
section
variable {o : Oper} {a : Act} {w : World} {Q : Exit -> Act -> World -> Prop}
theorem wp_built {P : Program} {K : Act -> World -> Prop} (t : TypeId) (parts : Array (Nat × Operand)) (ho : o.op = .build t parts) (L : List (Nat × Value)) (cells : Array Value)
  (hL : (parts.map fun (i, x) => (i, a.eval x)).toList = L) (hf : P.built t L = some cells) (h : K (a.put o.dst (.agg cells)) w) : o.wp P a w K Q := by
 unfold Oper.wp execOp;simp only [ho, Sem.run_bind, run_build w t _ cells (by rw [hL]; exact hf), Result.andThen_ok];exact h
theorem wp_slice {P : Program} {K : Act -> World -> Prop} (t e : TypeId) (len : Nat) (parts : Array (Nat × Operand)) (ho : o.op = .buildSlice t len parts) (L : List (Nat × Value)) (hL : (parts.map fun (i, x) => (i, a.eval x)).toList = L)
  (cells : Array Value) (ie : TypeInfo) (z : Value)
  (hu : P.underlying t = some (.slice e)) (hie : P.info? e = some ie) (hz : ie.zero = some z) (hsmall : ¬ len * ie.size > 2 ^ 24) (hpos : ¬ len * ie.size = 0)
  (hf : Instr.fill (fun i => some (i * ie.size, ie.size)) ((Array.range (len * ie.size)).map (z.cells[· % z.cells.size]!)) L = some cells)
  (h : K (a.put o.dst (.slice (some ⟨w.heap.size, 0, none⟩) len len)) (w.alloc (.cells cells e))) : o.wp P a w K Q :=
 wp_buildSlice t e len parts ho cells ie z hu hie hz hsmall hpos (by rw [hL]; exact hf) h
end
end Go.Proofs.YthpckmcgbmfmcaaGreatDoor
