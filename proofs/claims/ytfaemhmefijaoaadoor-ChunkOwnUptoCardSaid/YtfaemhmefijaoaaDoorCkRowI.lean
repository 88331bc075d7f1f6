/- Rows that a round builds: what the loops of Filter and Unfilter hold. -/
import Derived.Test.YtfaemhmefijaoaaDoorCkRows
import Derived.Test.YtfaemhmefijaoaaDoorCkFence
namespace Go.Proofs.YtfaemhmefijaoaaDoor
open Go.RowKit Go.Sort Go.Shelf

theorem keepsOthers_below {W W' : World} (h : Below W.heap.size W W') : KeepsOthers W W' := ⟨h.size, fun _ _ hk _ => (h.block _ (block_lt hk)).trans hk⟩
theorem own_heap {A B : World} {row : Option Nat} {b : Nat} {cs : Array Value} {t : TypeId} {fr : Nat × Nat} (hg : A.grownBy B row) (hr : ∀ r, row = some r → ∃ o : Obj, A.heap[r]? = some o ∧ o.isCells = false) (h : A.heap[b]? = some (.cells cs t fr)) : B.heap[b]? = some (.cells cs t fr) :=
  grown_block hg h (by
    intro e
    obtain ⟨o, ho, hc⟩ := hr b e.symm
    rw [h] at ho
    cases ho
    cases hc)
theorem own_ne {w : World} {base : Nat} {e : TypeId} {size : Nat} {v : Value} {n : Nat} {xs : List Value} (h : w.ownsRow base e size v n xs) {b : Nat} (hb : b < base) : some b ≠ v.ownBlock := fun e' => by
  have := (World.ownsRow.lt h b e'.symm).1
  omega
theorem own_kept {w w' : World} {base : Nat} {e : TypeId} {size : Nat} {v : Value} {n : Nat} {xs : List Value} (h : w.ownsRow base e size v n xs) {b : Nat} (hg : w.grownBy w' (some b)) (hb : b < base) : w'.ownsRow base e size v n xs :=
  World.ownsRow.kept h hg (.inr fun e' => own_ne h hb e'.symm)

/-- blocks that stay, a row that grows (its slice lies in a box), a box for the row above -/
structure RowsI (w : World) (base : Nat) (fix : List (Nat × Array Value × TypeId)) (ob ab : Nat) (out : List Int) (va : Value) (W : World) : Prop where
  fix : ∀ p ∈ fix, W.heap[p.1]? = some (.cells p.2.1 p.2.2 (0, 0))
  above : W.heap[ab]? = some (.cells #[va] 22 (0, 0))
  out : ∃ vo, W.heap[ob]? = some (.cells #[vo] 22 (0, 0)) ∧ W.ownsRow base 5 1 vo out.length (out.map (Value.int .u8))
  below : Below w.heap.size w W
structure RowsAt (w : World) (base : Nat) (fix : List (Nat × Array Value × TypeId)) (ob ab : Nat) : Prop where
  o1 : w.heap.size ≤ ob
  o2 : ob < base
  a1 : w.heap.size ≤ ab
  a2 : ab < base
  ne : ob ≠ ab
  f : ∀ p ∈ fix, p.1 < base ∧ p.1 ≠ ob ∧ p.1 ≠ ab

section
variable {w : World} {base : Nat} {fix : List (Nat × Array Value × TypeId)} {ob ab : Nat} {out : List Int} {va : Value} {W : World}
theorem RowsI.own (h : RowsI w base fix ob ab out va W) {W' : World} {row : Option Nat} (hg : W.grownBy W' row) (hr : ∀ r, row = some r → w.heap.size ≤ r ∧ ∃ o : Obj, W.heap[r]? = some o ∧ o.isCells = false) : RowsI w base fix ob ab out va W' := by
  have hr' : ∀ r, row = some r → ∃ o : Obj, W.heap[r]? = some o ∧ o.isCells = false := fun r e => (hr r e).2
  obtain ⟨vo, h1, h2⟩ := h.out
  exact ⟨fun p hp => own_heap hg hr' (h.fix p hp), own_heap hg hr' h.above, ⟨vo, own_heap hg hr' h1, own_row hg hr' h2⟩, h.below.grown hg h.below.size (fun k e => (hr k e).1)⟩
theorem RowsI.below' (h : RowsI w base fix ob ab out va W) {W' : World} (hb : Below W.heap.size W W') : RowsI w base fix ob ab out va W' :=
  h.own (grown_of_below hb) (fun r e => by cases e)
theorem RowsI.ownFrom {n : Nat} (hn : w.heap.size ≤ n) {α : Type} (f : List α → List Int) (g : List α → Value) : OwnFrom n (fun pre W => RowsI w base fix ob ab (f pre) (g pre) W) := by
  intro s A B row hs hg hr
  exact hs.own hg (fun r e => ⟨Nat.le_trans hn (hr r e).1, (hr r e).2⟩)
/-- bytes appended, and the slice laid back into its box -/
theorem RowsI.app (hA : RowsAt w base fix ob ab) (h : RowsI w base fix ob ab out va W) {u w2 : World} {vo v' : Value} {ys : List Int} (ho : W.heap[ob]? = some (.cells #[vo] 22 (0, 0))) (hr : W.ownsRow base 5 1 vo out.length (out.map (Value.int .u8)))
    (hu : Below W.heap.size W u) (hg : u.grownBy w2 vo.ownBlock) (hown : w2.ownsRow base 5 1 v' (out ++ ys).length ((out ++ ys).map (Value.int .u8))) :
    w2.heap[ob]? = some (.cells #[vo] 22 (0, 0)) ∧ RowsI w base fix ob ab (out ++ ys) va (w2.setCell ⟨ob, 0, none⟩ v') ∧ KeepsOthers W (w2.setCell ⟨ob, 0, none⟩ v') := by
  have up : ∀ {b : Nat} {o : Obj}, W.heap[b]? = some o → b < base → w2.heap[b]? = some o := fun {b o} h1 hlt => grown_block hg ((hu.block b (block_lt h1)).trans h1) (own_ne hr hlt)
  have c1 := up ho hA.o2
  have k1 := grownBy_setCell3 w2 ob 0 v'
  refine ⟨c1, ⟨fun p hp => grown_block k1 (up (h.fix p hp) (hA.f p hp).1) (some_ne (hA.f p hp).2.1), grown_block k1 (up h.above hA.a2) (some_ne (Ne.symm hA.ne)), ⟨v', heap_setCell_same w2 ob 0 _ _ v' c1, own_kept hown k1 hA.o2⟩, ?_⟩, ?_⟩
  · have hb1 := h.below.trans (hu.mono h.below.size)
    have hb3 := hb1.grown hg hb1.size (fun j e => by
      have := (World.ownsRow.lt hr j e).1
      have := hA.o1
      have := hA.o2
      omega)
    exact hb3.setCell (p := ⟨ob, 0, none⟩) hA.o1 _
  · refine ((keepsOthers_below hu).trans (KeepsOthers.of_grownBy hg fun j o e hj => ?_)).trans (KeepsOthers.setCell _ _ _)
    rcases hr.2 with ⟨rfl, _⟩ | ⟨g0, cap0, cur, rfl, _, hgg, _⟩
    · cases e
    · cases e
      have := ((hu.block _ (block_lt hgg)).trans hgg).symm.trans hj
      cases this
      rfl
/-- the row above changed -/
theorem RowsI.setAbove (hA : RowsAt w base fix ob ab) (h : RowsI w base fix ob ab out va W) (va' : Value) : RowsI w base fix ob ab out va' (W.setCell ⟨ab, 0, none⟩ va') ∧ KeepsOthers W (W.setCell ⟨ab, 0, none⟩ va') := by
  have k1 := grownBy_setCell3 W ab 0 va'
  obtain ⟨vo, h1, h2⟩ := h.out
  exact ⟨⟨fun p hp => grown_block k1 (h.fix p hp) (some_ne (hA.f p hp).2.2), heap_setCell_same W ab 0 _ _ va' h.above, ⟨vo, grown_block k1 h1 (some_ne hA.ne), own_kept h2 k1 hA.a2⟩, h.below.setCell (p := ⟨ab, 0, none⟩) hA.a1 _⟩, KeepsOthers.setCell _ _ _⟩
theorem RowsI.two (h : RowsI w base fix ob ab out va W) {W' : World} {out' : List Int} {va' : Value} (h' : RowsI w base fix ob ab out' va' W') {A B : Nat} {x y : Array Value} {s t : TypeId} (hx : (A, x, s) ∈ fix) (hy : (B, y, t) ∈ fix) : KeepsTwo A B W W' :=
  ⟨(h'.fix _ hx).trans (h.fix _ hx).symm, (h'.fix _ hy).trans (h.fix _ hy).symm⟩
end
theorem zeros_sl {w : World} {g n : Nat} (hn : n ≤ maxLen) (h : w.heap[g]? = some (.cells (madeCells #[.int .u8 0] n) 5 (0, 0))) : Sl .u8 w (some ⟨g, 0, none⟩) n n (List.replicate n 0) := by
  refine ⟨by simp, Nat.le_refl _, hn, (fun h => nomatch h), fun x hx => by rw [List.eq_of_mem_replicate hx]; rfl, .inr ⟨_, _, rfl, fun i hi => ?_⟩⟩
  rw [List.length_replicate] at hi
  rw [Nat.zero_add, cell_of_row _ _ _ _ _ _ h]
  have h1 : (madeCells #[.int .u8 0] n)[i]? = (madeCells #[.int .u8 0] n).toList[i]? := by simp
  rw [h1, toList_madeCells_one]
  simp [hi, List.getD_eq_getElem?_getD]

section
variable {P : Program} {Q : Exit → Act → World → Prop} {l n id : Nat} {a : Act} {w : World}
/-- A REGION THAT DRAWS ITS ORDER AND ONLY READS, IN A ROUND -/
theorem round_region_quiet {ls : List Oper} (hLO : ¬ LetsOut Q) (hm : P.follows .mixedOrders = true) (hnd : ls.all noDefer = true) (hB : Region.lexB .any ls.toArray = true)
    (h : wpQuiet P ls.toArray (fun w' => ∃ p : Regrown, w' = grow (redrawn w p.d) p.os) (fun a' => ∀ w', (∃ p : Regrown, w' = grow (redrawn w p.d) p.os) → Q .normal a' w') ls a) : (Code.region id ls.toArray true).wpIn (Fence.wide.inRound l) n P Q a w := by
  simp only [Region.lexB, Bool.and_eq_true] at hB
  refine wpIn_region_any hm (wpAny_round (by simpa using hnd) hLO _ _ _ _ ?_)
  refine wpAny_of_quiet (C := fun w' => ∃ p : Regrown, w' = grow (redrawn w p.d) p.os) (Q := fun a' => ∀ w', (∃ p : Regrown, w' = grow (redrawn w p.d) p.os) → Q .normal a' w') (fun _ w' hw' h => h w' hw') _ _ _ _ ⟨⟨w.drawn + 1, #[]⟩, by rw [grow_empty]; rfl⟩ ?_
  have := wpAnyQ_lex (C := fun w' => ∃ p : Regrown, w' = grow (redrawn w p.d) p.os) (md := .any) hB.1 ls 0 (Array.replicate ls.length false) a (by simp) (by simpa using hB.2) h
  simpa using this
/-- .. THAT MAKES MEMORY, WITH OPERATIONS BEHIND, ONE AFTER THE OTHER -/
theorem round_region_tails {ops : Array Oper} {D : Nat → Nat} {R : Nat → Value → World → Prop} {S : Act → World → Prop} (k : Nat) (hLO : ¬ LetsOut Q) (hm : P.follows .mixedOrders = true) (hk : k < ops.size)
    (hb : backs ops = true) (hs : Region.sinkB .any ops k = true) (hc : Region.chainB .any ops k = true) (hq : Region.seqB .any ops (ops.toList.drop k).length k (firstN ops.size k) = true) (hlf : left (firstN ops.size k) = (ops.toList.drop k).length) (hp : plainHead ops D k a.tmps.size = true)
    (hnd : ops.toList.all noDefer = true)
    (hR : ∀ i v w w', R i v w → Below w.heap.size w w' → R i v w')
    (hS : ∀ a' w', Below w.heap.size w w' → w.heap.size ≤ w'.heap.size → (∀ d, (∀ i, i < k → D i ≠ d) → a'.tmps[d]? = a.tmps[d]?) → S a' w')
    (hop : AllDo (OpDoes P Q S D R) 0 (ops.toList.take k))
    (hfin : ∀ a' w', LaidH k D R a w (Array.replicate ops.size true) a' w' → wpList P ops Q (ops.toList.drop k) a' w') :
    (Code.region id ops true).wpIn (Fence.wide.inRound l) n P Q a w :=
  wpIn_region_any hm (wpAnyIn_laid_tails (fun h h' => oper_round h h') k hk hb hs hc hq hlf hp hR hS (List.all_eq_true.2 fun o ho => List.all_eq_true.1 hnd o (List.mem_of_mem_take ho)) hop
    (fun a' w' h => wpList_round hLO _ _ _ (List.all_eq_true.2 fun o ho => List.all_eq_true.1 hnd o (List.mem_of_mem_drop ho)) (hfin a' w' h)))
end
/-- the slots behind such a region, written out -/
theorem set_all {t t0 : Array Value} {Ds : List Nat} (ps : List (Nat × Value)) (hD : ps.map (·.1) = Ds) (hnew : ∀ p ∈ ps, t[p.1]? = some p.2) (hold : ∀ d : Nat, (∀ i, i < Ds.length → Ds.getD i 0 ≠ d) → t[d]? = t0[d]?) (hsz : t.size = t0.size) :
    t = ps.foldl (fun s p => s.setIfInBounds p.1 p.2) t0 := by
  have key : ∀ (ps : List (Nat × Value)) (t0 : Array Value), t.size = t0.size → (∀ p ∈ ps, t[p.1]? = some p.2) → (∀ d : Nat, d ∉ ps.map (·.1) → t[d]? = t0[d]?) → t = ps.foldl (fun s p => s.setIfInBounds p.1 p.2) t0 := by
    intro ps
    induction ps with
    | nil =>
      intro t0 _ _ h2
      apply Array.ext_getElem?
      intro i
      simpa using h2 i (by simp)
    | cons p ps ih =>
      intro t0 hsz h1 h2
      have htv := h1 p (by simp)
      rw [List.foldl_cons]
      refine ih _ (by simpa using hsz) (fun q hq => h1 q (by simp [hq])) fun d' hd' => ?_
      by_cases e : p.1 = d'
      · subst e
        have hlt : p.1 < t0.size := by
          rw [← hsz]
          exact (Array.getElem?_eq_some_iff.1 htv).1
        rw [htv]
        simp [hlt]
      · rw [Array.getElem?_setIfInBounds_ne e]
        exact h2 d' (by simp only [List.map_cons, List.mem_cons, not_or]; exact ⟨fun h => e h.symm, hd'⟩)
  subst hD
  refine key ps t0 hsz hnew fun d hd => hold d fun i hi e => hd ?_
  rw [← e, List.getD_eq_getElem?_getD, List.getElem?_eq_getElem hi]
  exact List.getElem_mem hi
theorem chunks_mul {m wn : Nat} (h : 1 ≤ wn) : Go.Proofs.YtfaemhmefijaoaaDoor.chunks (m * wn) wn = m := by
  unfold Go.Proofs.YtfaemhmefijaoaaDoor.chunks
  rw [show m * wn + wn - 1 = wn - 1 + wn * m by rw [Nat.mul_comm]; omega, Nat.add_mul_div_left _ _ (by omega), Nat.div_eq_of_lt (by omega), Nat.zero_add]
theorem chunkV_mul {b off wn m k : Nat} (hk : k < m) : chunkV b off (m * wn) wn k = .slice (some ⟨b, off + k * wn, none⟩) wn wn := by
  have h1 : (k + 1) * wn ≤ m * wn := Nat.mul_le_mul_right _ hk
  rw [Nat.succ_mul] at h1
  unfold chunkV
  rw [show min wn (m * wn - k * wn) = wn by omega]
theorem row_cell {w : World} {b off n cap wn m : Nat} {l : List Int} (h : Sl .u8 w (some ⟨b, off, none⟩) n cap l) (hnm : n = m * wn) {k x : Nat} (hk : k < m) (hx : x < wn) : w.cell? ⟨b, off + k * wn + x, none⟩ = some (.int .u8 ((ck.rowOf wn l k).getD x 0)) := by
  have h1 : (k + 1) * wn ≤ m * wn := Nat.mul_le_mul_right _ hk
  rw [Nat.succ_mul] at h1
  have := h.rd.cell (k * wn + x) (by rw [h.len]; omega)
  rw [show off + k * wn + x = off + (k * wn + x) by omega, this]
  unfold ck.rowOf
  rw [List.getD_eq_getElem?_getD, List.getD_eq_getElem?_getD, List.getElem?_take, if_pos hx, List.getElem?_drop]
end Go.Proofs.YtfaemhmefijaoaaDoor
