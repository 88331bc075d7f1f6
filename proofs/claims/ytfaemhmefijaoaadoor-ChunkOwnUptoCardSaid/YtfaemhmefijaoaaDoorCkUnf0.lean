/- Rows unfiltered: what the loops hold. -/
import Derived.Test.YtfaemhmefijaoaaDoorCkFilt2
namespace Go.Proofs.YtfaemhmefijaoaaDoor
open Go.RowKit Go.Sort Go.Shelf

namespace ck
def uStep (wn bn : Nat) (l : List Int) (s : List Int × List Int) (j : Nat) : List Int × List Int :=
  (s.1 ++ uTo (l.getD (j * (wn + 1)) 0) bn s.2 ((l.drop (j * (wn + 1) + 1)).take wn) wn, uTo (l.getD (j * (wn + 1)) 0) bn s.2 ((l.drop (j * (wn + 1) + 1)).take wn) wn)
def uSt (wn bn : Nat) (l : List Int) (pre : List Nat) : List Int × List Int := pre.foldl (uStep wn bn l) ([], List.replicate wn 0)
theorem uSt_snoc (wn bn : Nat) (l : List Int) (pre : List Nat) (x : Nat) : uSt wn bn l (pre ++ [x]) = uStep wn bn l (uSt wn bn l pre) x := by
  unfold uSt
  rw [List.foldl_append]
  rfl
theorem uSt_length (wn bn : Nat) (l : List Int) (pre : List Nat) : (uSt wn bn l pre).1.length = pre.length * wn := by
  suffices h : ∀ pre : List Nat, (uSt wn bn l pre.reverse).1.length = pre.length * wn by
    have := h pre.reverse
    rwa [List.reverse_reverse, List.length_reverse] at this
  intro pre
  induction pre with
  | nil => simp [uSt]
  | cons x pre ih => rw [List.reverse_cons, uSt_snoc, uStep, List.length_append, ih, uTo_length, List.length_cons, Nat.succ_mul]
theorem aboveOf_last {wn m : Nat} {O U : List Int} (hO : O.length = m * wn) (hU : U.length = wn) : aboveOf wn (O ++ U) (m + 1) = U := by
  unfold aboveOf rowOf
  rw [if_neg (by omega), Nat.add_sub_cancel, ← hO, List.drop_left, List.take_of_length_le (by omega)]
theorem getD_app_right {O U : List Int} {i k : Nat} (hO : O.length = k) : U.getD i 0 = (O ++ U).getD (k + i) 0 := by
  subst hO
  rw [List.getD_eq_getElem?_getD, List.getD_eq_getElem?_getD, List.getElem?_append_right (by omega), Nat.add_sub_cancel_left]
theorem uSt_range (wn bn : Nat) (l : List Int) (m : Nat) : uSt wn bn l (List.range m) = (unfTo wn bn l m, aboveOf wn (unfTo wn bn l m) m) := by
  induction m with
  | zero => rfl
  | succ m ih =>
    rw [List.range_succ, uSt_snoc, ih]
    unfold uStep
    simp only
    rw [← unfTo_succ]
    rw [unfTo_succ, aboveOf_last (unfTo_length _ _ _ _) (uTo_length _ _ _ _ _)]
/-- the row above -/
def uV (g z wn cap : Nat) (r : Nat) : Value := if r = 0 then .slice (some ⟨z, 0, none⟩) wn wn else .slice (some ⟨g, (r - 1) * wn, none⟩) wn (cap - (r - 1) * wn)
theorem uSt_above (wn bn : Nat) (l : List Int) (pre : List Nat) (y : Nat) (x : Nat) : (uSt wn bn l (pre ++ [y])).2.getD x 0 = (uSt wn bn l (pre ++ [y])).1.getD (pre.length * wn + x) 0 := by
  rw [uSt_snoc]
  unfold uStep
  exact getD_app_right (uSt_length _ _ _ _)
end ck

structure RowsGAt (w : World) (g : Nat) (fix : List (Nat × Array Value × TypeId)) (ob ab : Nat) : Prop where
  o1 : w.heap.size ≤ ob
  a1 : w.heap.size ≤ ab
  g1 : w.heap.size ≤ g
  ne : ob ≠ ab
  og : ob ≠ g
  agn : ab ≠ g
  f : ∀ p ∈ fix, p.1 ≠ g ∧ p.1 ≠ ob ∧ p.1 ≠ ab
/-- as RowsI, where the row lies at g and never moves -/
structure RowsG (w : World) (g cap : Nat) (fix : List (Nat × Array Value × TypeId)) (ob ab : Nat) (out : List Int) (va : Value) (W : World) : Prop where
  fix : ∀ p ∈ fix, W.heap[p.1]? = some (.cells p.2.1 p.2.2 (0, 0))
  above : W.heap[ab]? = some (.cells #[va] 22 (0, 0))
  box : W.heap[ob]? = some (.cells #[.slice (some ⟨g, 0, none⟩) out.length cap] 22 (0, 0))
  row : W.ownsRow w.heap.size 5 1 (.slice (some ⟨g, 0, none⟩) out.length cap) out.length (out.map (Value.int .u8))
  below : Below w.heap.size w W
section
variable {w : World} {g cap : Nat} {fix : List (Nat × Array Value × TypeId)} {ob ab : Nat} {out : List Int} {va : Value} {W : World}
theorem RowsG.own (h : RowsG w g cap fix ob ab out va W) {W' : World} {row : Option Nat} (hg : W.grownBy W' row) (hr : ∀ r, row = some r → w.heap.size ≤ r ∧ ∃ o : Obj, W.heap[r]? = some o ∧ o.isCells = false) : RowsG w g cap fix ob ab out va W' := by
  have hr' : ∀ r, row = some r → ∃ o : Obj, W.heap[r]? = some o ∧ o.isCells = false := fun r e => (hr r e).2
  exact ⟨fun p hp => own_heap hg hr' (h.fix p hp), own_heap hg hr' h.above, own_heap hg hr' h.box, own_row hg hr' h.row, h.below.grown hg h.below.size (fun k e => (hr k e).1)⟩
theorem RowsG.below' (h : RowsG w g cap fix ob ab out va W) {W' : World} (hb : Below W.heap.size W W') : RowsG w g cap fix ob ab out va W' :=
  h.own (grown_of_below hb) (fun r e => by cases e)
theorem RowsG.ownFrom {n : Nat} (hn : w.heap.size ≤ n) {α : Type} (f : List α → List Int) (g' : List α → Value) (X : List α → Prop) : OwnFrom n (fun pre W => X pre ∧ RowsG w g cap fix ob ab (f pre) (g' pre) W) := by
  intro s A B row hs hg hr
  exact ⟨hs.1, hs.2.own hg (fun r e => ⟨Nat.le_trans hn (hr r e).1, (hr r e).2⟩)⟩
theorem RowsG.cell (h : RowsG w g cap fix ob ab out va W) {i : Nat} (hi : i < out.length) : W.cell? ⟨g, i, none⟩ = some (.int .u8 (out.getD i 0)) := by
  rcases h.row.2 with ⟨h1, _⟩ | ⟨g1, cap1, cur, h1, _, hg, _, _, _, ht⟩
  · cases h1
  · simp only [Value.slice.injEq, Option.some.injEq, Addr.mk.injEq, and_true, true_and] at h1
    obtain ⟨rfl, rfl⟩ := h1
    rw [cell_of_row _ _ _ _ _ _ hg]
    have h2 : (cur.toList.take (out.length * 1))[i]? = cur[i]? := by rw [List.getElem?_take, if_pos (by omega)]; simp
    rw [← h2, ht, List.getElem?_map, List.getElem?_eq_getElem hi]
    simp [List.getD_eq_getElem?_getD, hi]
/-- bytes appended in place, and the slice laid back into its box -/
theorem RowsG.app (hA : RowsGAt w g fix ob ab) (h : RowsG w g cap fix ob ab out va W) {u w2 : World} {ys : List Int}
    (hu : Below W.heap.size W u) (hg : u.grownBy w2 (some g)) (hown : w2.ownsRow w.heap.size 5 1 (.slice (some ⟨g, 0, none⟩) (out ++ ys).length cap) (out ++ ys).length ((out ++ ys).map (Value.int .u8))) :
    w2.heap[ob]? = some (.cells #[.slice (some ⟨g, 0, none⟩) out.length cap] 22 (0, 0)) ∧ RowsG w g cap fix ob ab (out ++ ys) va (w2.setCell ⟨ob, 0, none⟩ (.slice (some ⟨g, 0, none⟩) (out ++ ys).length cap)) ∧ KeepsOthers W (w2.setCell ⟨ob, 0, none⟩ (.slice (some ⟨g, 0, none⟩) (out ++ ys).length cap)) := by
  have up : ∀ {b : Nat} {o : Obj}, W.heap[b]? = some o → b ≠ g → w2.heap[b]? = some o := fun {b o} h1 hlt => grown_block hg ((hu.block b (block_lt h1)).trans h1) (some_ne hlt)
  have c1 := up h.box hA.og
  have k1 := grownBy_setCell3 w2 ob 0 (.slice (some ⟨g, 0, none⟩) (out ++ ys).length cap)
  refine ⟨c1, ⟨fun p hp => grown_block k1 (up (h.fix p hp) (hA.f p hp).1) (some_ne (hA.f p hp).2.1), grown_block k1 (up h.above hA.agn) (some_ne (Ne.symm hA.ne)), heap_setCell_same w2 ob 0 _ _ _ c1, World.ownsRow.kept hown k1 (.inr (some_ne (Ne.symm hA.og))), ?_⟩, ?_⟩
  · have hb1 := h.below.trans (hu.mono h.below.size)
    have hb3 := hb1.grown hg hb1.size (fun j e => by cases e; exact hA.g1)
    exact hb3.setCell (p := ⟨ob, 0, none⟩) hA.o1 _
  · refine ((keepsOthers_below hu).trans (KeepsOthers.of_grownBy hg fun j o e hj => ?_)).trans (KeepsOthers.setCell _ _ _)
    cases e
    rcases h.row.2 with ⟨h1, _⟩ | ⟨g1, cap1, cur, h1, _, hgg, _⟩
    · cases h1
    · simp only [Value.slice.injEq, Option.some.injEq, Addr.mk.injEq, and_true, true_and] at h1
      obtain ⟨rfl, rfl⟩ := h1
      have := ((hu.block _ (block_lt hgg)).trans hgg).symm.trans hj
      cases this
      rfl
theorem RowsG.setAbove (hA : RowsGAt w g fix ob ab) (h : RowsG w g cap fix ob ab out va W) (va' : Value) : RowsG w g cap fix ob ab out va' (W.setCell ⟨ab, 0, none⟩ va') ∧ KeepsOthers W (W.setCell ⟨ab, 0, none⟩ va') := by
  have k1 := grownBy_setCell3 W ab 0 va'
  exact ⟨⟨fun p hp => grown_block k1 (h.fix p hp) (some_ne (hA.f p hp).2.2), heap_setCell_same W ab 0 _ _ va' h.above, grown_block k1 h.box (some_ne hA.ne), World.ownsRow.kept h.row k1 (.inr (some_ne (Ne.symm hA.agn))), h.below.setCell (p := ⟨ab, 0, none⟩) hA.a1 _⟩, KeepsOthers.setCell _ _ _⟩
theorem RowsG.two (h : RowsG w g cap fix ob ab out va W) {W' : World} {out' : List Int} {va' : Value} (h' : RowsG w g cap fix ob ab out' va' W') {A B : Nat} {x y : Array Value} {s t : TypeId} (hx : (A, x, s) ∈ fix) (hy : (B, y, t) ∈ fix) : KeepsTwo A B W W' :=
  ⟨(h'.fix _ hx).trans (h.fix _ hx).symm, (h'.fix _ hy).trans (h.fix _ hy).symm⟩
end
/-- append in place -/
theorem run_append_in (w : World) (ty : TypeId) (base g n cap : Nat) (xs : List Int) (hown : w.ownsRow base 5 1 (.slice (some ⟨g, 0, none⟩) n cap) n (xs.map (Value.int .u8))) (ad : Addr) (m c : Nat) (d : List Int) (hs : Sl .u8 w (some ad) m c d)
    (hroom : n + m ≤ cap) :
    ∃ v' w', (Builtin.append_ #[22, 22] ty #[.slice (some ⟨g, 0, none⟩) n cap, .slice (some ad) m c]).run Tryd.prog w = .ok v' w' ∧
      (v' = .slice (some ⟨g, 0, none⟩) (n + m) cap ∧ w'.ownsRow base 5 1 (.slice (some ⟨g, 0, none⟩) (n + m) cap) (n + m) ((xs ++ d).map (Value.int .u8)) ∧ w.grownBy w' (some g)) := by
  obtain ⟨i0, hi, hz0, hz1, hz2⟩ := info_parts infoByte
  obtain ⟨w', h1, h2, h3⟩ := run_append_fits (P := Tryd.prog) w base 22 ty 5 i0 1 Tryd.underlying22 hi hz1 g n cap _ hown ad m c (d.map (Value.int .u8)) (by rw [List.length_map, hs.len, Nat.mul_one]) hs.at_news (ints_oneCell _ _) hroom
  exact ⟨_, w', h1, rfl, by rw [List.map_append]; exact h2, h3⟩

/-- what Unfilter answers -/
def ck.unfErr (width bpp : Int) (l : List Int) : Int := if ck.fitB width bpp = true then (if l.length % (width.toNat + 1) = 0 ∧ ck.kindsOk width.toNat l (l.length / (width.toNat + 1)) then 0 else 9) else 190
def ck.unfOut (width bpp : Int) (l : List Int) : List Int := if ck.unfErr width bpp l = 0 then ck.unfTo width.toNat bpp.toNat l (l.length / (width.toNat + 1)) else []
def UnfPost (E : Int) (out : List Int) (w : World) (e : Ending) (w' : World) : Prop :=
  ∃ v, e = .returned (.tuple #[v, .int .i64 E]) ∧ w'.ownsRow w.heap.size 5 1 v out.length (out.map (Value.int .u8)) ∧ Below w.heap.size w w'
theorem UnfPost.no {E : Int} {w w' : World} (h : Below w.heap.size w w') : UnfPost E [] w (.returned (.tuple #[.slice none 0 0, .int .i64 E])) w' :=
  ⟨_, rfl, World.ownsRow_nil _ _ _ _, h⟩
end Go.Proofs.YtfaemhmefijaoaaDoor
