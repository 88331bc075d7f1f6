/- A block of integers, as a list. -/
import Derived.Test.YtfaemhmefijaoaaDoorRd
import Derived.Deep.WholeRow
import Derived.Deep.LoopGhost
import Derived.Deep.DeepCutAuto
import Derived.Laws.CopyOwn
import Derived.Deep.MidRow
namespace Go.Proofs.YtfaemhmefijaoaaDoor
open Go.RowKit

/-- the cells of a list of integers (not to be looked into by the walk) -/
def ints (l : List Int) : Array Value := (l.map (Value.int .i64)).toArray
theorem ints_size (l : List Int) : (ints l).size = l.length := by simp [ints]
theorem ints_get (l : List Int) (i : Nat) (h : i < l.length) : (ints l)[i]? = some (.int .i64 (l.getD i 0)) := by
  simp [ints, List.getD_eq_getElem?_getD, List.getElem?_eq_getElem h]
theorem ints_set (l : List Int) (i : Nat) (x : Int) : (ints l).setIfInBounds i (.int .i64 x) = ints (l.set i x) := by
  simp [ints, List.map_set]
theorem ints_one (l : List Int) : (ints l).all (·.oneCell') = true := by
  rw [Array.all_eq_true]
  intro i h
  simp [ints, Value.oneCell']
/-- a cell of such a block -/
theorem ints_cell {w : World} {g : Nat} {l : List Int} {t : TypeId} (h : w.heap[g]? = some (.cells (ints l) t (0, 0))) (i : Nat) (hi : i < l.length) : w.cell? ⟨g, i, none⟩ = some (.int .i64 (l.getD i 0)) :=
  (cell_of_row w g i _ t (0, 0) h).trans (ints_get l i hi)
theorem ints_free {w : World} {g : Nat} {l : List Int} {t : TypeId} (h : w.heap[g]? = some (.cells (ints l) t (0, 0))) (i : Nat) : w.frozen? ⟨g, i, none⟩ = false := frozen_of_row w g i _ t h
theorem ints_store {w : World} {g : Nat} {l : List Int} {t : TypeId} (h : w.heap[g]? = some (.cells (ints l) t (0, 0))) (i : Nat) (x : Int) : (w.setCell ⟨g, i, none⟩ (.int .i64 x)).heap[g]? = some (.cells (ints (l.set i x)) t (0, 0)) := by
  rw [heap_setCell_same w g i _ t _ h, ints_set]
theorem heap3 (w : World) (A B C : Obj) : (((w.alloc A).alloc B).alloc C).heap[w.heap.size]? = some A ∧ (((w.alloc A).alloc B).alloc C).heap[w.heap.size + 1]? = some B ∧ (((w.alloc A).alloc B).alloc C).heap[w.heap.size + 1 + 1]? = some C := by
  refine ⟨?_, ?_, ?_⟩
  · show (((w.heap.push A).push B).push C)[w.heap.size]? = some A
    rw [Array.getElem?_push, if_neg (by simp; omega), Array.getElem?_push, if_neg (by simp), Array.getElem?_push, if_pos rfl]
  · show (((w.heap.push A).push B).push C)[w.heap.size + 1]? = some B
    rw [Array.getElem?_push, if_neg (by simp), Array.getElem?_push, if_pos (by simp)]
  · show (((w.heap.push A).push B).push C)[w.heap.size + 1 + 1]? = some C
    rw [Array.getElem?_push, if_pos (by simp)]

section
variable {P : Program}
/-- an index into an array that is a value -/
theorem run_index_ints {T E : TypeId} {n : Nat} (hT : P.underlying T = some (.array n E)) (hE : P.underlying E = some (.int .i64)) {iE : TypeInfo} (hi : P.info? E = some iE) (hs : iE.size = 1) (l : List Int) (hl : l.length = n) (j : Nat) (hj : j < n) (w : World) :
    (Instr.index T (.agg (ints l)) (.int .i64 (j : Int))).run P w = .ok (.int .i64 (l.getD j 0)) w := by
  have hg := ints_get l j (by omega)
  have hjn : (0 : Int) ≤ (j : Int) ∧ (j : Int) < (n : Int) := by omega
  have hagg : (isAgg E).run P w = .ok false w := by
    unfold isAgg
    rw [Sem.run_bind, run_underlying hE w]
    rfl
  simp [Instr.index, asIntOf, run_underlying hT, hjn, part, hagg, sizeOf, typeInfo, hi, hs, hg]
  intro h
  omega
/-- a whole array out of the middle of a block -/
theorem wpList_load_ints {ops : Array Oper} {rest : List Oper} {op : Oper} {a : Act} {w : World} {Q : Exit → Act → World → Prop} (hgd : op.guard = none) (ty : TypeId) (x : Operand) (ho : op.op = .load ty x)
    (b o : Nat) (hx : a.eval x = .pointer (some ⟨b, o, none⟩)) (l : List Int) (d : TypeDesc) (hc : ∀ j, j < l.length → w.cell? ⟨b, o + j, none⟩ = some (.int .i64 (l.getD j 0)))
    (hu : P.underlying ty = some d) (hd : d.isRow = true) (hi : (P.info? ty).map (·.size) = some l.length)
    (h : wpList P ops Q rest (a.put op.dst (.agg (ints l))) w) : wpList P ops Q (op :: rest) a w :=
  wpList_load_mid hgd ty x ho b o hx (l.map (Value.int .i64)) d (fun j v hv => by
    have hj : j < l.length := by
      have := (List.getElem?_eq_some_iff.1 hv).1
      simpa using this
    rw [hc j hj]
    rw [List.getElem?_map, List.getElem?_eq_getElem hj] at hv
    rw [List.getD_eq_getElem?_getD, List.getElem?_eq_getElem hj]
    exact hv) hu hd (by rw [hi, List.length_map]) h
end
theorem block_lt {w : World} {g : Nat} {o : Obj} (h : w.heap[g]? = some o) : g < w.heap.size := (Array.getElem?_eq_some_iff.1 h).1
theorem keep_cell {w w1 : World} {a : Addr} {v : Value} (hb : Below w.heap.size w w1) (h : w.cell? a = some v) : w1.cell? a = some v := (hb.cell (block_lt_of_cell h)).trans h
theorem keep_range {w w1 : World} {b o : Nat} {cs : List Value} (hb : Below w.heap.size w w1) (h : w.rangeAt b o cs) : w1.rangeAt b o cs := fun j v hv => keep_cell hb (h j v hv)
theorem mul_bd {A B : Nat} {x y : Int} (hx : -(A : Int) ≤ x ∧ x ≤ A) (hy : -(B : Int) ≤ y ∧ y ≤ B) : -((A * B : Nat) : Int) ≤ x * y ∧ x * y ≤ ((A * B : Nat) : Int) := by
  have h1 : x.natAbs ≤ A := by omega
  have h2 : y.natAbs ≤ B := by omega
  have h3 : (x * y).natAbs ≤ A * B := by rw [Int.natAbs_mul]; exact Nat.mul_le_mul h1 h2
  omega
end Go.Proofs.YtfaemhmefijaoaaDoor
