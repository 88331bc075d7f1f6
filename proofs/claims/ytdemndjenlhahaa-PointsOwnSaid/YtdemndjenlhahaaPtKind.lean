/- What the table of the operators is made of: its kinds of values, and the operations that make them. -/
import Derived.Test.YtdemndjenlhahaaInts
import Derived.Test.YtdemndjenlhahaaRegionInv
import Derived.Test.YtdemndjenlhahaaPtMath
import Derived.Great.BuildSlice
namespace Go.Proofs.Ytdemndjenlhahaa
open Go.RowKit

/-- what an operator's work is: a function, or one of the makers around it -/
inductive DoK where
  | dir (f : FuncId) | each (f : FuncId) | three (f : FuncId)
def doL : List DoK := [.each 33, .dir 34, .dir 37, .each 38, .each 40, .each 41, .each 42, .each 43, .each 46, .each 47, .dir 49, .dir 50, .three 52, .three 53, .dir 54, .dir 55, .dir 56, .dir 58, .dir 60, .dir 61]
def doK (k : Nat) : DoK := doL.getD k (.dir 0)

def DoIs : DoK → Value → World → Prop
  | .dir f, v, _ => v = .func (.func f) #[] #[]
  | .each f, v, w => ∃ b, v = .func (.func 65) #[] #[.pointer (some ⟨b, 0, none⟩)] ∧ w.cell? ⟨b, 0, none⟩ = some (.func (.func f) #[] #[])
  | .three f, v, w => ∃ b, v = .func (.func 68) #[] #[.pointer (some ⟨b, 0, none⟩)] ∧ w.cell? ⟨b, 0, none⟩ = some (.func (.func f) #[] #[])

def pairV (p : Int × Int) : Value := .agg #[.int .i64 p.1, .int .i64 p.2]
def flat : List (Int × Int) → List Value
  | [] => []
  | p :: l => .int .i64 p.1 :: .int .i64 p.2 :: flat l

def BndIs (l : List (Int × Int)) (v : Value) (w : World) : Prop :=
  (l = [] ∧ v = .slice none 0 0) ∨ ∃ g, v = .slice (some ⟨g, 0, none⟩) l.length l.length ∧ ∀ i x, (flat l)[i]? = some x → w.cell? ⟨g, i, none⟩ = some x

def OpIs (k : Nat) (v : Value) (w : World) : Prop :=
  ∃ bs d, v = .agg #[.string (pm.nm k), bs, d] ∧ BndIs (pm.bnd k) bs w ∧ DoIs (doK k) d w

/-- the table lies at T -/
def TabAt (T : Nat) (w : World) : Prop :=
  ∀ k, k < 20 → ∃ bs d, w.cell? ⟨T, 3 * k, none⟩ = some (.string (pm.nm k)) ∧ w.cell? ⟨T, 3 * k + 1, none⟩ = some bs ∧ w.cell? ⟨T, 3 * k + 2, none⟩ = some d ∧ BndIs (pm.bnd k) bs w ∧ DoIs (doK k) d w
def TabIs (v : Value) (w : World) : Prop := ∃ T, v = .slice (some ⟨T, 0, none⟩) 20 20 ∧ TabAt T w

inductive Kd where
  | pair (p : Int × Int) | bnd (l : List (Int × Int)) | does (d : DoK) | oper (k : Nat) | tab
def Kd.is : Kd → Value → World → Prop
  | .pair p, v, _ => v = pairV p
  | .bnd l, v, w => BndIs l v w
  | .does d, v, w => DoIs d v w
  | .oper k, v, w => OpIs k v w
  | .tab, v, w => TabIs v w

theorem DoIs.below {d : DoK} {v : Value} {w w' : World} (h : DoIs d v w) (hb : Below w.heap.size w w') : DoIs d v w' := by
  cases d with
  | dir f => exact h
  | each f => obtain ⟨b, h1, h2⟩ := h; exact ⟨b, h1, (hb.cell (block_lt_of_cell h2)).trans h2⟩
  | three f => obtain ⟨b, h1, h2⟩ := h; exact ⟨b, h1, (hb.cell (block_lt_of_cell h2)).trans h2⟩
theorem BndIs.below {l : List (Int × Int)} {v : Value} {w w' : World} (h : BndIs l v w) (hb : Below w.heap.size w w') : BndIs l v w' := by
  rcases h with h | ⟨g, h1, h2⟩
  · exact .inl h
  · exact .inr ⟨g, h1, fun i x hx => (hb.cell (block_lt_of_cell (h2 i x hx))).trans (h2 i x hx)⟩
theorem OpIs.below {k : Nat} {v : Value} {w w' : World} (h : OpIs k v w) (hb : Below w.heap.size w w') : OpIs k v w' := by
  obtain ⟨bs, d, h1, h2, h3⟩ := h
  exact ⟨bs, d, h1, h2.below hb, h3.below hb⟩
theorem TabAt.below {T : Nat} {w w' : World} (h : TabAt T w) (hb : Below w.heap.size w w') : TabAt T w' := by
  intro k hk
  obtain ⟨bs, d, h1, h2, h3, h4, h5⟩ := h k hk
  exact ⟨bs, d, (hb.cell (block_lt_of_cell h1)).trans h1, (hb.cell (block_lt_of_cell h2)).trans h2, (hb.cell (block_lt_of_cell h3)).trans h3, h4.below hb, h5.below hb⟩
theorem TabIs.below {v : Value} {w w' : World} (h : TabIs v w) (hb : Below w.heap.size w w') : TabIs v w' := by
  obtain ⟨T, h1, h2⟩ := h
  exact ⟨T, h1, h2.below hb⟩
theorem Kd.is_below {k : Kd} {v : Value} {w w' : World} (h : k.is v w) (hb : Below w.heap.size w w') : k.is v w' := by
  cases k with
  | pair p => exact h
  | bnd l => exact BndIs.below h hb
  | does d => exact DoIs.below h hb
  | oper k => exact OpIs.below h hb
  | tab => exact TabIs.below h hb

set_option maxRecDepth 100000 in
set_option maxHeartbeats 1600000 in
theorem each_any (fn : Fn) (w : World) : Calls Try.prog 32 #[.func fn #[] #[]] w fun e w' => e = .returned (.func (.func 65) #[] #[.pointer (some ⟨w.heap.size, 0, none⟩)]) ∧ w' = w.alloc (.cells #[.func fn #[] #[]] 75) := by
  go_enter Try.func32, Try.ntmps32
  go_wp2_with fail
  go_ret
  exact ⟨rfl, rfl⟩
set_option maxRecDepth 100000 in
theorem three_any (fn : Fn) (w : World) : Calls Try.prog 51 #[.func fn #[] #[]] w fun e w' => e = .returned (.func (.func 68) #[] #[.pointer (some ⟨w.heap.size, 0, none⟩)]) ∧ w' = w.alloc (.cells #[.func fn #[] #[]] 90) := by
  go_enter Try.func51, Try.ntmps51
  go_wp2_with fail
  go_ret
  exact ⟨rfl, rfl⟩

section
variable {o : Oper} {a : Act} {w : World} {Q : Exit → Act → World → Prop}

theorem eval_of {R : Value → World → Prop} {t : Nat} (h : ∃ v, a.tmps[t]? = some v ∧ R v w) : ∃ v, a.eval (.tmp t) = v ∧ R v w := by
  obtain ⟨v, h1, h2⟩ := h
  exact ⟨v, by simp [Act.eval, h1], h2⟩

theorem built_pair (x y : Int) : Try.prog.built 73 [(0, .int .i64 x), (1, .int .i64 y)] = some #[.int .i64 x, .int .i64 y] := rfl
theorem built_oper (s : ByteArray) (p : Option Addr) (n m : Nat) (f : Fn) (x y : Array Value) : Try.prog.built 57 [(0, .string s), (1, .slice p n m), (2, .func f x y)] = some #[.string s, .slice p n m, .func f x y] := rfl

theorem wp_built {P : Program} {K : Act → World → Prop} (t : TypeId) (parts : Array (Nat × Operand)) (ho : o.op = .build t parts) (L : List (Nat × Value)) (cells : Array Value)
    (hL : (parts.map fun (i, x) => (i, a.eval x)).toList = L) (hf : P.built t L = some cells) (h : K (a.put o.dst (.agg cells)) w) : o.wp P a w K Q := by
  unfold Oper.wp execOp
  simp only [ho, Sem.run_bind, run_build w t _ cells (by rw [hL]; exact hf), Result.andThen_ok]
  exact h

theorem op_pair (x y : Int) (ho : o.op = .build 73 #[(0, .const (.int .i64 x)), (1, .const (.int .i64 y))]) :
    o.wp Try.prog a w (fun a' w' => ∃ v, a' = a.put o.dst v ∧ v = pairV (x, y) ∧ Below w.heap.size w w') Q :=
  wp_built _ _ ho _ _ (by simp [Act.eval]) (built_pair x y) ⟨_, rfl, rfl, Below.refl _ _⟩

theorem op_oper (k : Nat) (x y : Operand) (ho : o.op = .build 57 #[(0, .const (.string (pm.nm k))), (1, x), (2, y)])
    (hx : ∃ v, a.eval x = v ∧ BndIs (pm.bnd k) v w) (hy : ∃ v, a.eval y = v ∧ DoIs (doK k) v w) :
    o.wp Try.prog a w (fun a' w' => ∃ v, a' = a.put o.dst v ∧ OpIs k v w' ∧ Below w.heap.size w w') Q := by
  obtain ⟨bs, h1, h2⟩ := hx
  obtain ⟨d, h3, h4⟩ := hy
  have e1 : ∃ p n m, bs = .slice p n m := by
    rcases h2 with ⟨_, h⟩ | ⟨g, h, _⟩ <;> exact ⟨_, _, _, h⟩
  have e2 : ∃ f u v, d = .func f u v := by
    cases hk : doK k with
    | dir f => rw [hk] at h4; exact ⟨_, _, _, h4⟩
    | each f => rw [hk] at h4; obtain ⟨b, h, _⟩ := h4; exact ⟨_, _, _, h⟩
    | three f => rw [hk] at h4; obtain ⟨b, h, _⟩ := h4; exact ⟨_, _, _, h⟩
  obtain ⟨p, n, m, e1⟩ := e1
  obtain ⟨f, u, v, e2⟩ := e2
  refine wp_built _ _ ho [(0, .string (pm.nm k)), (1, .slice p n m), (2, .func f u v)] _ ?_ (built_oper _ _ _ _ _ _ _) ⟨_, rfl, ⟨_, _, rfl, e1 ▸ h2, e2 ▸ h4⟩, Below.refl _ _⟩
  have h0 : a.eval (.const (.string (pm.nm k))) = .string (pm.nm k) := rfl
  simp only [List.map_toArray, List.map_cons, List.map_nil, h0, h1, h3, e1, e2]

/-- a pair that lies in a block of its own -/
def PairAt (b : Nat) (p : Int × Int) (w : World) : Prop := w.heap[b]? = some (.cells #[.int .i64 p.1, .int .i64 p.2] 73)
theorem PairAt.below {b : Nat} {p : Int × Int} {w w' : World} (h : PairAt b p w) (hb : Below w.heap.size w w') : PairAt b p w' :=
  (hb.block b (Array.getElem?_eq_some_iff.1 h).1).trans h

theorem op_load (t : Nat) (p : Int × Int) (ho : o.op = .load 73 (.tmp t)) (h : ∃ b, a.tmps[t]? = some (.pointer (some ⟨b, 0, none⟩)) ∧ PairAt b p w) :
    o.wp Try.prog a w (fun a' w' => ∃ v, a' = a.put o.dst v ∧ v = pairV p ∧ Below w.heap.size w w') Q := by
  obtain ⟨b, hb, hp⟩ := h
  exact wp_load_row _ _ ho b (by simp [Act.eval, hb]) _ _ _ _ hp rfl rfl rfl ⟨_, rfl, rfl, Below.refl _ _⟩

/-- the cells of a new block -/
theorem cells_alloc (w : World) (cs : Array Value) (t : TypeId) (i : Nat) (x : Value) (h : cs[i]? = some x) : (w.alloc (.cells cs t)).cell? ⟨w.heap.size, i, none⟩ = some x :=
  (cell_of_row _ _ i cs t (0, 0) (by show (w.heap.push _)[w.heap.size]? = _; simp)).trans h

theorem op_each (f : FuncId) (T : TypeId) (ho : o.op = .call { callee := .value (.func 32), args := #[.func f], argTypes := #[T] }) :
    o.wp Try.prog a w (fun a' w' => ∃ v, a' = a.put o.dst v ∧ DoIs (.each f) v w' ∧ Below w.heap.size w w') Q := by
  obtain ⟨dst, op, type, pos, after, guard⟩ := o
  simp only at ho
  subst ho
  have hrun : (execOp a.eval { dst, op := .call { callee := .value (.func 32), args := #[.func f], argTypes := #[T] }, type, pos, after, guard }).run Try.prog w = .ok (.enter 32 #[.func (.func f) #[] #[]]) w := by kernel_rfl
  unfold Oper.wp
  rw [hrun, Oper.upon_enter]
  refine (each_any (.func f) w).mono ?_
  rintro e w' ⟨rfl, rfl⟩
  refine ⟨_, rfl, ⟨_, rfl, ?_⟩, (Below.refl _ _).alloc (Nat.le_refl _) _⟩
  exact cells_alloc _ _ _ 0 _ rfl
theorem op_three (f : FuncId) (T : TypeId) (ho : o.op = .call { callee := .value (.func 51), args := #[.func f], argTypes := #[T] }) :
    o.wp Try.prog a w (fun a' w' => ∃ v, a' = a.put o.dst v ∧ DoIs (.three f) v w' ∧ Below w.heap.size w w') Q := by
  obtain ⟨dst, op, type, pos, after, guard⟩ := o
  simp only at ho
  subst ho
  have hrun : (execOp a.eval { dst, op := .call { callee := .value (.func 51), args := #[.func f], argTypes := #[T] }, type, pos, after, guard }).run Try.prog w = .ok (.enter 51 #[.func (.func f) #[] #[]]) w := by kernel_rfl
  unfold Oper.wp
  rw [hrun, Oper.upon_enter]
  refine (three_any (.func f) w).mono ?_
  rintro e w' ⟨rfl, rfl⟩
  refine ⟨_, rfl, ⟨_, rfl, ?_⟩, (Below.refl _ _).alloc (Nat.le_refl _) _⟩
  exact cells_alloc _ _ _ 0 _ rfl

theorem wp_slice {P : Program} {K : Act → World → Prop} (t e : TypeId) (len : Nat) (parts : Array (Nat × Operand)) (ho : o.op = .buildSlice t len parts) (L : List (Nat × Value)) (hL : (parts.map fun (i, x) => (i, a.eval x)).toList = L)
    (cells : Array Value) (ie : TypeInfo) (z : Value)
    (hu : P.underlying t = some (.slice e)) (hie : P.info? e = some ie) (hz : ie.zero = some z) (hsmall : ¬ len * ie.size > 2 ^ 24) (hpos : ¬ len * ie.size = 0)
    (hf : Instr.fill (fun i => some (i * ie.size, ie.size)) ((Array.range (len * ie.size)).map (z.cells[· % z.cells.size]!)) L = some cells)
    (h : K (a.put o.dst (.slice (some ⟨w.heap.size, 0, none⟩) len len)) (w.alloc (.cells cells e))) : o.wp P a w K Q :=
  wp_buildSlice t e len parts ho cells ie z hu hie hz hsmall hpos (by rw [hL]; exact hf) h

theorem op_bnd1 (x0 : Nat) (p0 : Int × Int) (ho : o.op = .buildSlice 54 1 #[(0, .tmp x0)])
    (h0 : ∃ v, a.eval (.tmp x0) = v ∧ v = pairV p0) :
    o.wp Try.prog a w (fun a' w' => ∃ v, a' = a.put o.dst v ∧ BndIs [p0] v w' ∧ Below w.heap.size w w') Q := by
  obtain ⟨_, e0, rfl⟩ := h0
  refine wp_slice _ 73 _ _ ho [(0, pairV p0)] (by simp only [List.map_toArray, List.map_cons, List.map_nil, e0]) #[.int .i64 p0.1, .int .i64 p0.2] _ _ rfl rfl rfl (by decide) (by decide) (by kernel_rfl) ⟨_, rfl, .inr ⟨_, rfl, fun i x hx => ?_⟩, (Below.refl _ _).alloc (Nat.le_refl _) _⟩
  exact cells_alloc _ _ _ i x (by simpa [flat] using hx)
theorem op_bnd2 (x0 x1 : Nat) (p0 p1 : Int × Int) (ho : o.op = .buildSlice 54 2 #[(0, .tmp x0), (1, .tmp x1)])
    (h0 : ∃ v, a.eval (.tmp x0) = v ∧ v = pairV p0) (h1 : ∃ v, a.eval (.tmp x1) = v ∧ v = pairV p1) :
    o.wp Try.prog a w (fun a' w' => ∃ v, a' = a.put o.dst v ∧ BndIs [p0, p1] v w' ∧ Below w.heap.size w w') Q := by
  obtain ⟨_, e0, rfl⟩ := h0
  obtain ⟨_, e1, rfl⟩ := h1
  refine wp_slice _ 73 _ _ ho [(0, pairV p0), (1, pairV p1)] (by simp only [List.map_toArray, List.map_cons, List.map_nil, e0, e1]) #[.int .i64 p0.1, .int .i64 p0.2, .int .i64 p1.1, .int .i64 p1.2] _ _ rfl rfl rfl (by decide) (by decide) (by kernel_rfl) ⟨_, rfl, .inr ⟨_, rfl, fun i x hx => ?_⟩, (Below.refl _ _).alloc (Nat.le_refl _) _⟩
  exact cells_alloc _ _ _ i x (by simpa [flat] using hx)
theorem op_bnd3 (x0 x1 x2 : Nat) (p0 p1 p2 : Int × Int) (ho : o.op = .buildSlice 54 3 #[(0, .tmp x0), (1, .tmp x1), (2, .tmp x2)])
    (h0 : ∃ v, a.eval (.tmp x0) = v ∧ v = pairV p0) (h1 : ∃ v, a.eval (.tmp x1) = v ∧ v = pairV p1) (h2 : ∃ v, a.eval (.tmp x2) = v ∧ v = pairV p2) :
    o.wp Try.prog a w (fun a' w' => ∃ v, a' = a.put o.dst v ∧ BndIs [p0, p1, p2] v w' ∧ Below w.heap.size w w') Q := by
  obtain ⟨_, e0, rfl⟩ := h0
  obtain ⟨_, e1, rfl⟩ := h1
  obtain ⟨_, e2, rfl⟩ := h2
  refine wp_slice _ 73 _ _ ho [(0, pairV p0), (1, pairV p1), (2, pairV p2)] (by simp only [List.map_toArray, List.map_cons, List.map_nil, e0, e1, e2]) #[.int .i64 p0.1, .int .i64 p0.2, .int .i64 p1.1, .int .i64 p1.2, .int .i64 p2.1, .int .i64 p2.2] _ _ rfl rfl rfl (by decide) (by decide) (by kernel_rfl) ⟨_, rfl, .inr ⟨_, rfl, fun i x hx => ?_⟩, (Below.refl _ _).alloc (Nat.le_refl _) _⟩
  exact cells_alloc _ _ _ i x (by simpa [flat] using hx)
theorem op_bnd4 (x0 x1 x2 x3 : Nat) (p0 p1 p2 p3 : Int × Int) (ho : o.op = .buildSlice 54 4 #[(0, .tmp x0), (1, .tmp x1), (2, .tmp x2), (3, .tmp x3)])
    (h0 : ∃ v, a.eval (.tmp x0) = v ∧ v = pairV p0) (h1 : ∃ v, a.eval (.tmp x1) = v ∧ v = pairV p1) (h2 : ∃ v, a.eval (.tmp x2) = v ∧ v = pairV p2) (h3 : ∃ v, a.eval (.tmp x3) = v ∧ v = pairV p3) :
    o.wp Try.prog a w (fun a' w' => ∃ v, a' = a.put o.dst v ∧ BndIs [p0, p1, p2, p3] v w' ∧ Below w.heap.size w w') Q := by
  obtain ⟨_, e0, rfl⟩ := h0
  obtain ⟨_, e1, rfl⟩ := h1
  obtain ⟨_, e2, rfl⟩ := h2
  obtain ⟨_, e3, rfl⟩ := h3
  refine wp_slice _ 73 _ _ ho [(0, pairV p0), (1, pairV p1), (2, pairV p2), (3, pairV p3)] (by simp only [List.map_toArray, List.map_cons, List.map_nil, e0, e1, e2, e3]) #[.int .i64 p0.1, .int .i64 p0.2, .int .i64 p1.1, .int .i64 p1.2, .int .i64 p2.1, .int .i64 p2.2, .int .i64 p3.1, .int .i64 p3.2] _ _ rfl rfl rfl (by decide) (by decide) (by kernel_rfl) ⟨_, rfl, .inr ⟨_, rfl, fun i x hx => ?_⟩, (Below.refl _ _).alloc (Nat.le_refl _) _⟩
  exact cells_alloc _ _ _ i x (by simpa [flat] using hx)

theorem op_tab (x : Nat → Nat) (ho : o.op = .buildSlice 52 20 #[(0, .tmp (x 0)), (1, .tmp (x 1)), (2, .tmp (x 2)), (3, .tmp (x 3)), (4, .tmp (x 4)), (5, .tmp (x 5)), (6, .tmp (x 6)), (7, .tmp (x 7)), (8, .tmp (x 8)), (9, .tmp (x 9)), (10, .tmp (x 10)), (11, .tmp (x 11)), (12, .tmp (x 12)), (13, .tmp (x 13)), (14, .tmp (x 14)), (15, .tmp (x 15)), (16, .tmp (x 16)), (17, .tmp (x 17)), (18, .tmp (x 18)), (19, .tmp (x 19))])
    (h : ∀ k, k < 20 → ∃ v, a.eval (.tmp (x k)) = v ∧ OpIs k v w) :
    o.wp Try.prog a w (fun a' w' => ∃ v, a' = a.put o.dst v ∧ TabIs v w' ∧ Below w.heap.size w w') Q := by
  have hc : ∀ k, ∃ p : Value × Value, k < 20 → a.eval (.tmp (x k)) = .agg #[.string (pm.nm k), p.1, p.2] ∧ BndIs (pm.bnd k) p.1 w ∧ DoIs (doK k) p.2 w := by
    intro k
    by_cases hk : k < 20
    · obtain ⟨v, h1, bs, d, rfl, h2, h3⟩ := h k hk
      exact ⟨(bs, d), fun _ => ⟨h1, h2, h3⟩⟩
    · exact ⟨(undef, undef), fun hk' => absurd hk' hk⟩
  obtain ⟨p, hp⟩ := Classical.axiomOfChoice hc
  have B := (Below.refl w.heap.size w).alloc (Nat.le_refl _) (.cells #[.string (pm.nm 0), (p 0).1, (p 0).2, .string (pm.nm 1), (p 1).1, (p 1).2, .string (pm.nm 2), (p 2).1, (p 2).2, .string (pm.nm 3), (p 3).1, (p 3).2, .string (pm.nm 4), (p 4).1, (p 4).2, .string (pm.nm 5), (p 5).1, (p 5).2, .string (pm.nm 6), (p 6).1, (p 6).2, .string (pm.nm 7), (p 7).1, (p 7).2, .string (pm.nm 8), (p 8).1, (p 8).2, .string (pm.nm 9), (p 9).1, (p 9).2, .string (pm.nm 10), (p 10).1, (p 10).2, .string (pm.nm 11), (p 11).1, (p 11).2, .string (pm.nm 12), (p 12).1, (p 12).2, .string (pm.nm 13), (p 13).1, (p 13).2, .string (pm.nm 14), (p 14).1, (p 14).2, .string (pm.nm 15), (p 15).1, (p 15).2, .string (pm.nm 16), (p 16).1, (p 16).2, .string (pm.nm 17), (p 17).1, (p 17).2, .string (pm.nm 18), (p 18).1, (p 18).2, .string (pm.nm 19), (p 19).1, (p 19).2] 57)
  refine wp_slice _ 57 _ _ ho [(0, .agg #[.string (pm.nm 0), (p 0).1, (p 0).2]), (1, .agg #[.string (pm.nm 1), (p 1).1, (p 1).2]), (2, .agg #[.string (pm.nm 2), (p 2).1, (p 2).2]), (3, .agg #[.string (pm.nm 3), (p 3).1, (p 3).2]), (4, .agg #[.string (pm.nm 4), (p 4).1, (p 4).2]), (5, .agg #[.string (pm.nm 5), (p 5).1, (p 5).2]), (6, .agg #[.string (pm.nm 6), (p 6).1, (p 6).2]), (7, .agg #[.string (pm.nm 7), (p 7).1, (p 7).2]), (8, .agg #[.string (pm.nm 8), (p 8).1, (p 8).2]), (9, .agg #[.string (pm.nm 9), (p 9).1, (p 9).2]), (10, .agg #[.string (pm.nm 10), (p 10).1, (p 10).2]), (11, .agg #[.string (pm.nm 11), (p 11).1, (p 11).2]), (12, .agg #[.string (pm.nm 12), (p 12).1, (p 12).2]), (13, .agg #[.string (pm.nm 13), (p 13).1, (p 13).2]), (14, .agg #[.string (pm.nm 14), (p 14).1, (p 14).2]), (15, .agg #[.string (pm.nm 15), (p 15).1, (p 15).2]), (16, .agg #[.string (pm.nm 16), (p 16).1, (p 16).2]), (17, .agg #[.string (pm.nm 17), (p 17).1, (p 17).2]), (18, .agg #[.string (pm.nm 18), (p 18).1, (p 18).2]), (19, .agg #[.string (pm.nm 19), (p 19).1, (p 19).2])] (by simp only [List.map_toArray, List.map_cons, List.map_nil, (hp 0 (by decide)).1, (hp 1 (by decide)).1, (hp 2 (by decide)).1, (hp 3 (by decide)).1, (hp 4 (by decide)).1, (hp 5 (by decide)).1, (hp 6 (by decide)).1, (hp 7 (by decide)).1, (hp 8 (by decide)).1, (hp 9 (by decide)).1, (hp 10 (by decide)).1, (hp 11 (by decide)).1, (hp 12 (by decide)).1, (hp 13 (by decide)).1, (hp 14 (by decide)).1, (hp 15 (by decide)).1, (hp 16 (by decide)).1, (hp 17 (by decide)).1, (hp 18 (by decide)).1, (hp 19 (by decide)).1]) #[.string (pm.nm 0), (p 0).1, (p 0).2, .string (pm.nm 1), (p 1).1, (p 1).2, .string (pm.nm 2), (p 2).1, (p 2).2, .string (pm.nm 3), (p 3).1, (p 3).2, .string (pm.nm 4), (p 4).1, (p 4).2, .string (pm.nm 5), (p 5).1, (p 5).2, .string (pm.nm 6), (p 6).1, (p 6).2, .string (pm.nm 7), (p 7).1, (p 7).2, .string (pm.nm 8), (p 8).1, (p 8).2, .string (pm.nm 9), (p 9).1, (p 9).2, .string (pm.nm 10), (p 10).1, (p 10).2, .string (pm.nm 11), (p 11).1, (p 11).2, .string (pm.nm 12), (p 12).1, (p 12).2, .string (pm.nm 13), (p 13).1, (p 13).2, .string (pm.nm 14), (p 14).1, (p 14).2, .string (pm.nm 15), (p 15).1, (p 15).2, .string (pm.nm 16), (p 16).1, (p 16).2, .string (pm.nm 17), (p 17).1, (p 17).2, .string (pm.nm 18), (p 18).1, (p 18).2, .string (pm.nm 19), (p 19).1, (p 19).2] _ _ rfl rfl rfl (by decide) (by decide) (by kernel_rfl) ⟨_, rfl, ⟨_, rfl, fun k hk => ?_⟩, B⟩
  refine ⟨(p k).1, (p k).2, ?_, ?_, ?_, (hp k hk).2.1.below B, (hp k hk).2.2.below B⟩
  all_goals (refine cells_alloc _ _ _ _ _ ?_; match k, hk with
    | 0, _ => rfl
    | 1, _ => rfl
    | 2, _ => rfl
    | 3, _ => rfl
    | 4, _ => rfl
    | 5, _ => rfl
    | 6, _ => rfl
    | 7, _ => rfl
    | 8, _ => rfl
    | 9, _ => rfl
    | 10, _ => rfl
    | 11, _ => rfl
    | 12, _ => rfl
    | 13, _ => rfl
    | 14, _ => rfl
    | 15, _ => rfl
    | 16, _ => rfl
    | 17, _ => rfl
    | 18, _ => rfl
    | 19, _ => rfl
    | n + 20, h => exact absurd h (by omega))
end
end Go.Proofs.Ytdemndjenlhahaa
