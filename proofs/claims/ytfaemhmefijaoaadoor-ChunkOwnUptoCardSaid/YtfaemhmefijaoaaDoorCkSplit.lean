/- Split: a file taken apart. -/
import Derived.Test.YtfaemhmefijaoaaDoorCkParts
import Derived.Lib.SmallJoins
namespace Go.Proofs.YtfaemhmefijaoaaDoor
open Go.RowKit Go.Sort Go.Shelf
attribute [local go_sem] Oper.semAt_some

theorem infoCk : (Tryd.prog.info? 57).map (fun i => (i.zero, i.size, i.bytes)) = some (some (.agg #[.string ⟨#[]⟩, .slice none 0 0]), 2, 40) := by kernel_rfl
theorem ckSize : (Tryd.prog.info? 57).map (·.size) = some 2 := by kernel_rfl
theorem ckSize2 (a b : Value) : (Tryd.prog.info? 57).map (·.size) = some (#[a, b] : Array Value).size := ckSize
theorem ckSz (a b a' b' : Value) : (#[a, b] : Array Value).size = (#[a', b'] : Array Value).size := rfl
theorem ckOne (s : ByteArray) (p : Option Addr) (n cap : Nat) : (#[.string s, .slice p n cap] : Array Value).all (·.oneCell') = true := by simp [Value.oneCell']

/-- the cells of a list of chunks -/
def ck.cells (xs : List ck.El) : List Value := xs.flatMap fun x => [.string (strOfNums x.t), .slice (some ⟨x.g, 0, none⟩) x.d.length x.cap]
theorem ck.cells_length (xs : List ck.El) : (ck.cells xs).length = xs.length * 2 := by
  induction xs with
  | nil => rfl
  | cons x xs ih => simp only [ck.cells, List.flatMap_cons, List.length_append, List.length_cons, List.length_nil] at *; omega
theorem ck.cells_snoc (xs : List ck.El) (x : ck.El) : ck.cells (xs ++ [x]) = ck.cells xs ++ [.string (strOfNums x.t), .slice (some ⟨x.g, 0, none⟩) x.d.length x.cap] := by
  simp [ck.cells, List.flatMap_append]
/-- a list of chunks in memory made from base on -/
structure ck.At (base : Nat) (w : World) (v : Value) (xs : List ck.El) : Prop where
  row : w.ownsRow base 57 2 v xs.length (ck.cells xs)
  ok : ∀ x ∈ xs, x.Ok base w
theorem ck.At.below {base : Nat} {w w' : World} {v : Value} {xs : List ck.El} (h : ck.At base w v xs) (hb : Below w.heap.size w w') : ck.At base w' v xs :=
  ⟨ownsRow_below h.row hb, fun x hx => (h.ok x hx).below hb⟩
theorem ck.At.mono {base base' : Nat} {w : World} {v : Value} {xs : List ck.El} (h : ck.At base w v xs) (hb : base' ≤ base) : ck.At base' w v xs :=
  ⟨World.ownsRow.mono h.row hb, fun x hx => World.ownsRow.mono (h.ok x hx) hb⟩

theorem results_cells {P : Program} {fn : Func} {p q : Tmp} {ty tz e : TypeId} {k : IntKind} (h : fn.results = #[.cell p ty, .cell q tz]) (tmps : Array Value) (w : World) (g g' : Nat) (v v' : Value)
    (hp : tmps.getD p undef = .pointer (some ⟨g, 0, none⟩)) (hq : tmps.getD q undef = .pointer (some ⟨g', 0, none⟩)) (c : w.cell? ⟨g, 0, none⟩ = some v) (c' : w.cell? ⟨g', 0, none⟩ = some v')
    (hu : P.underlying ty = some (.slice e)) (hz : P.underlying tz = some (.int k)) :
    (results fn tmps).run P w = .ok (.tuple #[v, v']) w := by
  have hp' : tmps[p]?.getD undef = .pointer (some ⟨g, 0, none⟩) := by simpa using hp
  have hq' : tmps[q]?.getD undef = .pointer (some ⟨g', 0, none⟩) := by simpa using hq
  have a1 : (isAgg ty).run P w = .ok false w := by
    unfold isAgg
    rw [Sem.run_bind, run_underlying hu w]
    rfl
  have a2 : (isAgg tz).run P w = .ok false w := by
    unfold isAgg
    rw [Sem.run_bind, run_underlying hz w]
    rfl
  simp [results, h, hp', hq', asAddr, go_sem, c, c', a1, a2]
/-- a literal's bytes in new memory -/
theorem sl_bytes (w : World) (l : List Int) (t : TypeId) (fr : Nat × Nat) (g : Nat) (hg : w.heap.size = g) (hm : l.length ≤ maxLen) (hw : ∀ x ∈ l, (Lit.int .u8 x).wf = true) : Sl .u8 (w.alloc (.cells (l.map (Value.int .u8)).toArray t fr)) (some ⟨g, 0, none⟩) l.length l.length l := by
  subst hg
  refine ⟨rfl, Nat.le_refl _, hm, (fun h => nomatch h), hw, .inr ⟨_, _, rfl, fun i hi => ?_⟩⟩
  rw [Nat.zero_add, cell_of_row _ _ _ _ _ _ (heap_alloc_new w _)]
  simp [List.getD_eq_getElem?_getD, List.getElem?_eq_getElem hi]

/-- between two rounds -/
def SplitI (w : World) (ob r2 r3 B : Nat) (pre : List ck.El) (W : World) : Prop :=
  ∃ v, W.heap[ob]? = some (.cells #[v] 24 (0, 0)) ∧ ck.At B W v pre ∧ W.heap[r2]? = some (.cells #[.slice none 0 0] 24 (0, 0)) ∧ W.heap[r3]? = some (.cells #[.int .i64 0] 25 (0, 0)) ∧ Below w.heap.size w W
/-- a block of the loop's own, or one that lies before the rows -/
def RowOut (w W : World) (B : Nat) (row : Option Nat) : Prop := ∀ k, row = some k → w.heap.size ≤ k ∧ (k < B ∨ ∃ o : Obj, W.heap[k]? = some o ∧ o.isCells = false)
theorem RowOut.ne {w W : World} {B : Nat} {row : Option Nat} (h : RowOut w W B row) {base : Nat} (hb : B ≤ base) {e : TypeId} {size : Nat} {v : Value} {n : Nat} {xs : List Value} (hr : W.ownsRow base e size v n xs) : v.ownBlock = none ∨ v.ownBlock ≠ row := by
  rcases hr.2 with ⟨rfl, _⟩ | ⟨g, cap, cur, rfl, hbg, hg, _⟩
  · exact .inl rfl
  · refine .inr fun e => ?_
    rcases (h g e.symm).2 with h1 | ⟨o, ho, hc⟩
    · omega
    · rw [hg] at ho
      cases ho
      cases hc
theorem ck.At.grown {B : Nat} {w W W' : World} {v : Value} {xs : List ck.El} {row : Option Nat} (h : ck.At B W v xs) (hg : W.grownBy W' row) (hr : RowOut w W B row) : ck.At B W' v xs :=
  ⟨World.ownsRow.kept h.row hg (hr.ne (Nat.le_refl _) h.row), fun x hx => World.ownsRow.kept (h.ok x hx) hg (hr.ne (Nat.le_refl _) (h.ok x hx))⟩
theorem SplitI.grown {w W W' : World} {ob r2 r3 B : Nat} {pre : List ck.El} {row : Option Nat} (h : SplitI w ob r2 r3 B pre W) (hg : W.grownBy W' row) (hr : RowOut w W B row) (h1 : some ob ≠ row) (h2 : some r2 ≠ row) (h3 : some r3 ≠ row) : SplitI w ob r2 r3 B pre W' := by
  obtain ⟨v, a1, a2, a3, a4, a5⟩ := h
  exact ⟨v, grown_block hg a1 h1, a2.grown hg hr, grown_block hg a3 h2, grown_block hg a4 h3, a5.grown hg a5.size (fun k e => (hr k e).1)⟩
/-- where a round has left -/
def SplitX (w : World) (r2 r3 B : Nat) (all : List ck.Ck) (pre : List ck.El) (W : World) : Prop :=
  ∃ v pre' x, pre = pre' ++ [x] ∧ x.t = ck.iend ∧ (∀ y ∈ pre', y.t ≠ ck.iend) ∧ (∃ rest, all = pre.map (·.ck) ++ rest) ∧ W.heap[r2]? = some (.cells #[v] 24 (0, 0)) ∧ ck.At B W v pre ∧ W.heap[r3]? = some (.cells #[.int .i64 0] 25 (0, 0)) ∧ Below w.heap.size w W

theorem PartsKeep.below {n0 Bb : Nat} {A B : World} (h : Below A.heap.size A B) (hn : n0 ≤ A.heap.size) (hb : Bb < A.heap.size) : PartsKeep n0 Bb A B := ⟨h.mono hn, h.block _ hb⟩
theorem PartsKeep.grown {n0 Bb : Nat} {A B C : World} {row : Option Nat} (h : PartsKeep n0 Bb A B) (hg : B.grownBy C row) (hn : n0 ≤ B.heap.size) (hb : Bb < B.heap.size) (hr : ∀ k, row = some k → n0 ≤ k ∧ k ≠ Bb) : PartsKeep n0 Bb A C :=
  ⟨h.1.grown hg hn (fun k e => (hr k e).1), (hg.block _ hb (fun e => (hr _ e.symm).2 rfl)).trans h.2⟩

theorem rows_apart {w : World} {base base' m m' size size' : Nat} {e e' : TypeId} {xs xs' : List Value} {v v' : Value} (h : w.ownsRow base e size v m xs) (h' : w.ownsRow base' e' size' v' m' xs') (ht : e' ≠ e) : v.ownBlock = none ∨ v.ownBlock ≠ v'.ownBlock := by
  rcases h'.2 with ⟨rfl, _⟩ | ⟨g, cap, cur, rfl, _, hg, _⟩
  · cases hv : v.ownBlock with
    | none => exact .inl rfl
    | some k => exact .inr (by simp [Value.ownBlock])
  · exact row_apart h hg ht
theorem own_not_loop {w : World} {base m size l : Nat} {e : TypeId} {xs : List Value} {v : Value} {o : Obj} (h : w.ownsRow base e size v m xs) (hl : w.heap[l]? = some o) (ho : o.isCells = false) : some l ≠ v.ownBlock := by
  rcases h.2 with ⟨rfl, _⟩ | ⟨g, cap, cur, rfl, _, hg, _⟩
  · simp [Value.ownBlock]
  · intro e'
    have : l = g := by simpa [Value.ownBlock] using e'
    subst this
    rw [hl] at hg
    cases hg
    cases ho

theorem row_out_before {w W : World} {B k : Nat} (h1 : w.heap.size ≤ k) (h2 : k < B) : RowOut w W B (some k) := fun j e => by
  obtain rfl := Option.some.inj e
  exact ⟨h1, .inl h2⟩
theorem row_out_loop {w W : World} {B k : Nat} {o : Obj} (h1 : w.heap.size ≤ k) (h2 : W.heap[k]? = some o) (h3 : o.isCells = false) : RowOut w W B (some k) := fun j e => by
  obtain rfl := Option.some.inj e
  exact ⟨h1, .inr ⟨o, h2, h3⟩⟩
theorem some_ne {a b : Nat} (h : a ≠ b) : some a ≠ some b := fun e => h (Option.some.inj e)

def SplitPost (r : Option (List ck.Ck)) (w : World) (e : Ending) (w' : World) : Prop :=
  match r with
  | none => e = .returned (.tuple #[.slice none 0 0, .int .i64 9]) ∧ Below w.heap.size w w'
  | some cs => ∃ v xs, e = .returned (.tuple #[v, .int .i64 0]) ∧ ck.At w.heap.size w' v xs ∧ xs.map (·.ck) = cs ∧ Below w.heap.size w w'

set_option maxRecDepth 100000 in
set_option maxHeartbeats 3200000 in
theorem split_any (b off n cap : Nat) (bs : List Int) (w : World) (h : Sl .u8 w (some ⟨b, off, none⟩) n cap bs) (hn : n ≤ 67108864) :
    Calls Tryd.prog 11 #[.slice (some ⟨b, off, none⟩) n cap] w (SplitPost (ck.split bs) w) := by
  have HS := Lib.hid h
  have hfit := h.fits
  clear h
  have kc := Joins.run_convert_bytes_const_at (P := Tryd.prog) ((w.alloc (.cells #[.slice none 0 0] 24)).alloc (.cells #[.int .i64 0] 25)) 22 5 #[.int .u8 137, .int .u8 80, .int .u8 78, .int .u8 71, .int .u8 13, .int .u8 10, .int .u8 26, .int .u8 10] 8 8 (w.heap.size + 1 + 1) (by simp) Tryd.underlying22 Tryd.underlying5
  refine (callsIn_wide (n := 6)).1 (callsIn_of_wp_marks Tryd.func11 rfl trivial ?_ rfl)
  simp only [Tryd.ntmps11, List.size_toArray, List.length_cons, List.length_nil, Nat.reduceAdd, Nat.reduceSub, Array.replicate_succ, Array.replicate_zero, List.push_toArray, List.append_toArray, List.nil_append, List.cons_append]
  refine wpIn_wide.2 ?_
  go_wp2_with fail
  have SG : Hid (Sl .u8 (((w.alloc (.cells #[.slice none 0 0] 24)).alloc (.cells #[.int .i64 0] 25)).alloc (.cells #[.int .u8 137, .int .u8 80, .int .u8 78, .int .u8 71, .int .u8 13, .int .u8 10, .int .u8 26, .int .u8 10] 5 (8, 9))) (some ⟨w.heap.size + 1 + 1, 0, none⟩) 8 8 ck.sign) := Lib.hid (sl_bytes ((w.alloc (.cells #[.slice none 0 0] 24)).alloc (.cells #[.int .i64 0] 25)) ck.sign 5 (8, 9) (w.heap.size + 1 + 1) (by simp) (by decide) (by decide))
  obtain ⟨⟨q0, q1, _⟩, q3⟩ := heap3' w (.cells #[.slice none 0 0] 24) (.cells #[.int .i64 0] 25) (.cells #[.int .u8 137, .int .u8 80, .int .u8 78, .int .u8 71, .int .u8 13, .int .u8 10, .int .u8 26, .int .u8 10] 5 (8, 9))
  have BA := ((((Below.refl w.heap.size w).alloc (Nat.le_refl _) (.cells #[.slice none 0 0] 24)).alloc (by simp) (.cells #[.int .i64 0] 25)).alloc (by simp; omega) (.cells #[.int .u8 137, .int .u8 80, .int .u8 78, .int .u8 71, .int .u8 13, .int .u8 10, .int .u8 26, .int .u8 10] 5 (8, 9)))
  clear kc
  generalize ((w.alloc (.cells #[.slice none 0 0] 24)).alloc (.cells #[.int .i64 0] 25)).alloc (.cells #[.int .u8 137, .int .u8 80, .int .u8 78, .int .u8 71, .int .u8 13, .int .u8 10, .int .u8 26, .int .u8 10] 5 (8, 9)) = w0 at *
  have Q0 := Lib.hid q0
  have Q1 := Lib.hid q1
  have B0 := Lib.hid BA
  have SZ := Lib.hid q3
  clear q0 q1 q3 BA
  refine (hasPrefix_any _ _ n 8 cap 8 bs ck.sign w0 (HS.out.below B0.out) SG.out).mono ?_
  rintro e w1 ⟨rfl, rfl⟩
  have c0 := (cell_of_row _ _ 0 _ _ (0, 0) Q0.out).trans rfl
  have f0 := frozen_of_row _ _ 0 _ _ Q0.out
  have c1 := (cell_of_row _ _ 0 _ _ (0, 0) Q1.out).trans rfl
  have f1 := frozen_of_row _ _ 0 _ _ Q1.out
  by_cases hp : bs.take 8 = ck.sign
  · rw [decide_eq_true hp]
    have h8 : 8 ≤ n := by
      have h1 : (bs.take 8).length = 8 := by rw [hp]; rfl
      rw [List.length_take, HS.out.len] at h1
      omega
    have hspl : ck.split bs = ck.uptoEnd (ck.parse (bs.drop 8)) := by unfold ck.split; rw [if_pos hp]
    have HSP := Lib.hid hspl
    clear hp hspl
    have h8i : (8 : Int) ≤ (n : Int) := by omega
    have h8j : (n : Int) ≤ (cap : Int) := by omega
    clear c0 f0 c1 f1
    by_cases hc8 : cap = 8
    · subst hc8
      have hn8 : n = 8 := by omega
      subst hn8
      have S8 : Hid (Sl .u8 w0 (some ⟨b, off, none⟩) 0 0 (bs.drop 8)) := Lib.hid (by
        have he : bs.drop 8 = [] := List.drop_eq_nil_of_le (by rw [HS.out.len]; omega)
        exact ⟨by rw [he]; rfl, Nat.le_refl _, Nat.zero_le _, (fun e => by cases e), (fun x hx => by rw [he] at hx; cases hx), .inl he⟩)
      go_wp2_with fail
      refine (parts_any _ _ _ _).mono ?_
      rintro e w2 ⟨rfl, rfl⟩
      go_wp2_with fail
      refine (wpIn_wide (n := 6)).1 ?_
      obtain ⟨p0, p1⟩ := heap2 w0 (.cells #[.slice none 0 0] 24) (.cells #[.slice (some ⟨b, off, none⟩) 0 0] 22)
      have B2' := (((Below.refl w0.heap.size w0).alloc (Nat.le_refl _) (.cells #[.slice none 0 0] 24)).alloc (by simp) (.cells #[.slice (some ⟨b, off, none⟩) 0 0] 22))
      have SZ2 : ((w0.alloc (.cells #[.slice none 0 0] 24)).alloc (.cells #[.slice (some ⟨b, off, none⟩) 0 0] 22)).heap.size = w0.heap.size + 1 + 1 := by simp
      generalize (w0.alloc (.cells #[.slice none 0 0] 24)).alloc (.cells #[.slice (some ⟨b, off, none⟩) 0 0] 22) = w2 at *
      have hbn : b < w.heap.size := block_lt_of_cell (HS.out.rd.cell 0 (by rw [HS.out.len]; omega))
      have hsz0 : w.heap.size + 1 + 1 + 1 = w0.heap.size := SZ.out.symm
      refine rangeFunc_enter rfl (by omega) (gf := 46) (lb := #[.pointer (some ⟨w0.heap.size + 1, 0, none⟩)]) rfl trivial (enters_of Tryd.func46 (by kernel_rfl) rfl) ?_
      intro fn _
      generalize hrec : theLoop fn _ _ _ _ w2.heap.size = rec
      have BW1 := (((Below.refl w2.heap.size w2).alloc (Nat.le_refl _) (.deferred (some []))).alloc (by simp) (rec .ready none))
      obtain ⟨l0, l1⟩ := heap2 w2 (.deferred (some [])) (rec .ready none)
      generalize (w2.alloc (.deferred (some []))).alloc (rec .ready none) = W1 at *
      have R0 := (BW1.block _ (block_lt p0)).trans p0
      have R1 := (BW1.block _ (block_lt p1)).trans p1
      have r2 := ((B2'.block _ (block_lt Q0.out)).trans Q0.out)
      have r3 := ((B2'.block _ (block_lt Q1.out)).trans Q1.out)
      have BW : Below w.heap.size w W1 := (B0.out.trans (B2'.mono B0.out.size)).trans (BW1.mono (by omega))
      refine (parts1_in 5 (w2.heap.size + 1) (w0.heap.size + 1) w.heap.size (w0.heap.size + 1 + 1) b _ 0 0 (bs.drop 8) hbn (by omega) (by omega)
        (fun pre W => SplitI w w0.heap.size w.heap.size (w.heap.size + 1) (w0.heap.size + 1 + 1) pre W ∧ LoopAt W (w2.heap.size + 1) w2.heap.size (rec .ready none) ∧ ∀ x ∈ pre, x.t ≠ ck.iend)
        (fun pre W => SplitX w w.heap.size (w.heap.size + 1) (w0.heap.size + 1 + 1) (ck.parse (bs.drop 8)) pre W ∧ LoopAt W (w2.heap.size + 1) w2.heap.size (rec .done (some .ret)))
        ?_ ?_ ?_ W1 ((S8.out.below B2').below BW1) R1 ⟨⟨_, R0, ⟨World.ownsRow_nil _ _ _ _, fun x hx => by cases hx⟩, (BW1.block _ (block_lt r2)).trans r2, (BW1.block _ (block_lt r3)).trans r3, BW⟩, ⟨l1, l0⟩, fun x hx => by cases hx⟩).mono ?_
      · rintro pre W W' row ⟨h1, h2, h3⟩ hg hr
        have hne : ∀ k, k ≠ w0.heap.size + 1 → some k ≠ row := fun k hk e => by
          rcases hr with rfl | rfl
          · cases e
          · exact hk (Option.some.inj e)
        refine ⟨h1.grown hg (fun k e => ?_) (hne _ (by omega)) (hne _ (by omega)) (hne _ (by omega)), h2.grown hg (hne _ (by omega)) (hne _ (by omega)), h3⟩
        rcases hr with rfl | rfl
        · cases e
        · obtain rfl := Option.some.inj e
          exact ⟨by omega, .inl (by omega)⟩
      · rintro pre W ⟨h1, h2, _⟩
        have := block_lt h2.1
        omega
      · rintro pre x W ⟨h1, h2, h3⟩ hx hex
        obtain ⟨v, a1, a2, a3, a4, a5⟩ := h1
        have AL := (Below.refl W.heap.size W).alloc (Nat.le_refl _) (.cells #[.string (strOfNums x.t), .slice (some ⟨x.g, 0, none⟩) x.d.length x.cap] 57)
        have h2' : LoopAt (W.alloc (.cells #[.string (strOfNums x.t), .slice (some ⟨x.g, 0, none⟩) x.d.length x.cap] 57)) (w2.heap.size + 1) w2.heap.size (rec .ready none) := h2.grown (grown_of_below AL) (by simp) (by simp)
        have hl1 := block_lt h2.1
        rw [← hrec] at h2 h2'
        refine yield_round (a₁ := { tmps := #[.slice (some ⟨b, off, none⟩) 8 8, undef, .pointer (some ⟨w.heap.size, 0, none⟩), .pointer (some ⟨w.heap.size + 1, 0, none⟩), .pointer (some ⟨w0.heap.size, 0, none⟩), .pointer (some ⟨W.heap.size, 0, none⟩), .slice (some ⟨b, off, none⟩) 8 8, .slice (some ⟨w.heap.size + 1 + 1, 0, none⟩) 8 8, .slice (some ⟨w.heap.size + 1 + 1, 0, none⟩) 8 8, .bool true, .bool false, .slice (some ⟨b, off, none⟩) 8 8, .slice (some ⟨b, off, none⟩) 0 0, .func (.func 46) #[] #[.pointer (some ⟨w0.heap.size + 1, 0, none⟩)], x.val, undef, undef, undef, undef, undef, undef, undef, undef], defers := [] }) trivial h2 rfl h2' ?_ ?_
        · intro K hK
          have HK := Lib.hid hK
          have H2 := Lib.hid h2
          have H2' := Lib.hid h2'
          clear hK h2 h2'
          refine round_region (by rintro ⟨_, _, h⟩; exact h) (by kernel_rfl) ?_
          go_wp2_with (with_reducible refine wpList_store_row rfl 57 _ _ rfl W.heap.size _ rfl rfl 57 _ (heap_alloc_last _ _) (ckSize2 _ _) (ckSz _ _ _ _) (ckOne _ _ _ _) ?_; rw [World.setRow_alloc_new])
          exact HK.out
        · rw [hrec] at h2 h2'
          rw [hrec]
          have hne1 : W.heap.size ≠ w2.heap.size + 1 := by omega
          have hg1 := grownBy_putObj' (W.alloc (.cells #[.string (strOfNums x.t), .slice (some ⟨x.g, 0, none⟩) x.d.length x.cap] 57)) (w2.heap.size + 1) (rec .busy none)
          have hlp := h2'.put (by omega) (rec .busy none)
          have hro : RowOut w (W.alloc (.cells #[.string (strOfNums x.t), .slice (some ⟨x.g, 0, none⟩) x.d.length x.cap] 57)) (w0.heap.size + 1 + 1) (some (w2.heap.size + 1)) := fun k e => by
            obtain rfl := Option.some.inj e
            exact ⟨by omega, .inr ⟨_, h2'.1, by rw [← hrec]; rfl⟩⟩
          have C := Lib.hid ((World.putObj_heap_other (r := w2.heap.size + 1) (o := rec .busy none) hne1).trans (heap_alloc_last W (.cells #[.string (strOfNums x.t), .slice (some ⟨x.g, 0, none⟩) x.d.length x.cap] 57)))
          have A1 := Lib.hid (grown_block hg1 ((AL.block _ (block_lt a1)).trans a1) (by intro e; have := Option.some.inj e; omega))
          have A3 := Lib.hid (grown_block hg1 ((AL.block _ (block_lt a3)).trans a3) (by intro e; have := Option.some.inj e; omega))
          have A4 := Lib.hid (grown_block hg1 ((AL.block _ (block_lt a4)).trans a4) (by intro e; have := Option.some.inj e; omega))
          have A2 := Lib.hid ((a2.below AL).grown hg1 hro)
          have AX := Lib.hid (World.ownsRow.kept (hx.below AL) hg1 (hro.ne (Nat.le_refl _) (hx.below AL)))
          have A5 := Lib.hid ((a5.trans (AL.mono a5.size)).grown hg1 (a5.trans (AL.mono a5.size)).size (fun k e => (hro k e).1))
          have HLP := Lib.hid hlp
          have hBb : w0.heap.size + 1 < W.heap.size := by omega
          have PK := Lib.hid ((PartsKeep.below AL a5.size hBb).grown hg1 (by have := a5.size; have := AL.size; omega) (by have := AL.size; omega) (fun k e => by obtain rfl := Option.some.inj e; omega))
          have SZb : Hid (W.heap.size + 1 ≤ ((W.alloc (.cells #[.string (strOfNums x.t), .slice (some ⟨x.g, 0, none⟩) x.d.length x.cap] 57)).putObj (w2.heap.size + 1) (rec .busy none)).heap.size) := Lib.hid (by simp)
          have HVB : Hid (∀ k, v.ownBlock = some k → w0.heap.size + 1 + 1 ≤ k ∧ k < W.heap.size) := Lib.hid (World.ownsRow.lt a2.row)
          clear h2 h2' hg1 hlp hro a1 a2 a3 a4 a5 hx AL
          generalize (W.alloc (.cells #[.string (strOfNums x.t), .slice (some ⟨x.g, 0, none⟩) x.d.length x.cap] 57)).putObj (w2.heap.size + 1) (rec .busy none) = Wb at *
          have HRec := Lib.hid hrec
          have HEX := Lib.hid hex
          have H3 := Lib.hid h3
          have hpl : pre.length + 1 ≤ 8 := by
            obtain ⟨rest, he⟩ := hex
            have h4 := ck.parse_len (bs.drop 8)
            rw [he, List.length_append, List.length_map, List.length_append, List.length_drop, HS.out.len] at h4
            simp only [List.length_cons, List.length_nil] at h4
            omega
          clear hrec hex h3
          obtain ⟨i0, hi, hz0, hz1, hz2⟩ := info_parts infoCk
          have c1 := (cell_of_row _ _ 0 _ _ (0, 0) A1.out).trans rfl
          have NW : Hid (∀ j u, ([.string (strOfNums x.t), .slice (some ⟨x.g, 0, none⟩) x.d.length x.cap] : List Value)[j]? = some u → (Wb.alloc (.cells #[.string (strOfNums x.t), .slice (some ⟨x.g, 0, none⟩) x.d.length x.cap] 57)).cell? ((⟨Wb.heap.size, 0, none⟩ : Addr).add j) = some u) := Lib.hid (news_alloc Wb [.string (strOfNums x.t), .slice (some ⟨x.g, 0, none⟩) x.d.length x.cap] 57)
          have HRU := Lib.hid (A2.out.row.alloc (.cells #[.string (strOfNums x.t), .slice (some ⟨x.g, 0, none⟩) x.d.length x.cap] 57))
          have SZU : w0.heap.size + 1 + 1 ≤ (Wb.alloc (.cells #[.string (strOfNums x.t), .slice (some ⟨x.g, 0, none⟩) x.d.length x.cap] 57)).heap.size := by have := SZb.out; simp; omega
          have HNE0 : Hid (some w0.heap.size ≠ v.ownBlock) := Lib.hid (fun e => by have := (World.ownsRow.lt A2.out.row _ e.symm).1; omega)
          have HNE1 : Hid (some W.heap.size ≠ v.ownBlock) := Lib.hid (fun e => by have := (HVB.out _ e.symm).2; omega)
          have HNE2 : Hid (some W.heap.size ≠ some w0.heap.size) := Lib.hid (fun e => by have := Option.some.inj e; omega)
          have HSZ2 := Lib.hid SZ2
          have HSZ0 := Lib.hid hsz0
          clear SZ2 hsz0
          refine wpIn_block (wpIn_seq_k ?_)
          intro K1 hK1
          have HK1 := Lib.hid hK1
          clear hK1
          refine round_region (by rintro ⟨_, _, h⟩; exact h) (by kernel_rfl) ?_
          go_wp2_with (first
            | (with_reducible refine wpList_load_row rfl 57 _ rfl W.heap.size rfl 57 _ (0, 0) _ C.out Tryd.underlying57 rfl (ckSize2 _ _) ?_)
            | (at_builtin; go_must (refine wpList_append_own _ rfl _ _ 24 rfl (w0.heap.size + 1 + 1) 57 i0 (.agg #[.string ⟨#[]⟩, .slice none 0 0]) 2 40 Tryd.underlying24 hi hz0 hz1 hz2 rfl (by decide) v pre.length _ rfl HRU.out ⟨Wb.heap.size, 0, none⟩ 1 1 [.string (strOfNums x.t), .slice (some ⟨x.g, 0, none⟩) x.d.length x.cap] rfl rfl NW.out (by simp [Value.oneCell']) (by unfold maxLen; omega) (by omega) SZU ?_; intro v' w3 hown hg hnil; obtain ⟨g3, cap3, rfl⟩ := row_form hown (fun e => absurd (hnil.1 e).2 (by decide)); have Hown := Lib.hid hown; have Hg := Lib.hid hg; have A1' := Lib.hid (grown_block hg ((Below.heap_alloc Wb _ _ (block_lt A1.out)).trans A1.out) (HNE0.out)); have C' := Lib.hid (grown_block hg ((Below.heap_alloc Wb _ _ (block_lt C.out)).trans C.out) (HNE1.out)); have c3 := (cell_of_row _ _ 0 _ _ (0, 0) A1'.out).trans rfl; have f3 := frozen_of_row _ _ 0 _ _ A1'.out; clear hown hg hnil)))
          have AB := Lib.hid ((Below.refl Wb.heap.size Wb).alloc (Nat.le_refl _) (.cells #[.string (strOfNums x.t), .slice (some ⟨x.g, 0, none⟩) x.d.length x.cap] 57))
          have GS := Lib.hid (grownBy_setCell3 w3 w0.heap.size 0 (.slice (some ⟨g3, 0, none⟩) (pre.length + 1) cap3))
          have HVW := Lib.hid (World.ownsRow.lt HRU.out)
          have HK4 : Hid (∀ k o, Wb.heap[k]? = some o → some k ≠ v.ownBlock → k ≠ w0.heap.size → (w3.setCell ⟨w0.heap.size, 0, none⟩ (.slice (some ⟨g3, 0, none⟩) (pre.length + 1) cap3)).heap[k]? = some o) := Lib.hid (fun k o ho h1 h2 => grown_block GS.out (grown_block Hg.out ((AB.out.block _ (block_lt ho)).trans ho) h1) (by intro e; exact h2 (Option.some.inj e)))
          have E1 := Lib.hid (heap_setCell_same w3 w0.heap.size 0 _ _ (.slice (some ⟨g3, 0, none⟩) (pre.length + 1) cap3) A1'.out)
          have EC := Lib.hid (HK4.out _ _ C.out HNE1.out (by have := HSZ2.out; omega))
          have E3 := Lib.hid (HK4.out _ _ A3.out (fun e => by have := (HVB.out _ e.symm).1; have := HSZ0.out; omega) (by have := HSZ0.out; omega))
          have E4 := Lib.hid (HK4.out _ _ A4.out (fun e => by have := (HVB.out _ e.symm).1; have := HSZ0.out; omega) (by have := HSZ0.out; omega))
          have hcl : (rec .busy none).isCells = false := by rw [← HRec.out]; rfl
          have EL : Hid (LoopAt (w3.setCell ⟨w0.heap.size, 0, none⟩ (.slice (some ⟨g3, 0, none⟩) (pre.length + 1) cap3)) (w2.heap.size + 1) w2.heap.size (rec .busy none)) := Lib.hid ⟨HK4.out _ _ HLP.out.1 (own_not_loop A2.out.row HLP.out.1 hcl) (by have := HSZ2.out; omega), HK4.out _ _ HLP.out.2 (own_not_loop A2.out.row HLP.out.2 rfl) (by have := HSZ2.out; omega)⟩
          have hkd : ∀ y : ck.El, y.Ok (w0.heap.size + 1 + 1) Wb → y.Ok (w0.heap.size + 1 + 1) (w3.setCell ⟨w0.heap.size, 0, none⟩ (.slice (some ⟨g3, 0, none⟩) (pre.length + 1) cap3)) := fun y hy => by
            have h1 := World.ownsRow.kept (hy.below AB.out) Hg.out (rows_apart (hy.below AB.out) HRU.out (by decide))
            refine World.ownsRow.kept h1 GS.out (.inr fun e => ?_)
            have h2 := (World.ownsRow.lt h1 _ e).1
            omega
          have EA : Hid (ck.At (w0.heap.size + 1 + 1) (w3.setCell ⟨w0.heap.size, 0, none⟩ (.slice (some ⟨g3, 0, none⟩) (pre.length + 1) cap3)) (.slice (some ⟨g3, 0, none⟩) (pre.length + 1) cap3) (pre ++ [x])) := Lib.hid ⟨by
            have h1 := World.ownsRow.kept Hown.out GS.out (.inr fun e => by have h2 := (World.ownsRow.lt Hown.out _ e).1; omega)
            rw [ck.cells_snoc, List.length_append]
            exact h1, fun y hy => by
            rcases List.mem_append.1 hy with h | h
            · exact hkd y (A2.out.ok y h)
            · obtain rfl : y = x := by simpa using h
              exact hkd y AX.out⟩
          have hsw : w.heap.size ≤ w0.heap.size := by have := HSZ0.out; omega
          have hb9 := (A5.out.trans (AB.out.mono A5.out.size)).grown Hg.out (A5.out.trans (AB.out.mono A5.out.size)).size (fun k e => by have := (HVB.out k e).1; omega)
          have E5 := Lib.hid (hb9.setCell (p := ⟨w0.heap.size, 0, none⟩) hsw (.slice (some ⟨g3, 0, none⟩) (pre.length + 1) cap3))
          have hbs : w0.heap.size + 1 < (Wb.alloc (.cells #[.string (strOfNums x.t), .slice (some ⟨x.g, 0, none⟩) x.d.length x.cap] 57)).heap.size := by have := SZb.out; simp; omega
          have hb10 : w0.heap.size + 1 < w3.heap.size := by have := Hg.out.size; omega
          have EP : Hid (PartsKeep w.heap.size (w0.heap.size + 1) W (w3.setCell ⟨w0.heap.size, 0, none⟩ (.slice (some ⟨g3, 0, none⟩) (pre.length + 1) cap3))) := Lib.hid (((PK.out.grown (World.grownBy_alloc Wb (.cells #[.string (strOfNums x.t), .slice (some ⟨x.g, 0, none⟩) x.d.length x.cap] 57) none) A5.out.size (by have := SZb.out; omega) (fun k e => by cases e)).grown Hg.out (A5.out.trans (AB.out.mono A5.out.size)).size hbs (fun k e => by have := (HVB.out k e).1; omega)).grown GS.out (by omega) hb10 (fun k e => by obtain rfl := Option.some.inj e; omega))
          refine HK1.out _ _ ?_
          clear hkd hcl hb9 hbs hb10 c1 c3 f3 HK1 AB GS HVW HK4 Hown Hg A1' C' HRU NW HNE0 HNE1 HNE2 A1 A2 A3 A4 A5 AX HLP PK C hi hz0 hz1 hz2 SZU
          generalize w3.setCell ⟨w0.heap.size, 0, none⟩ (.slice (some ⟨g3, 0, none⟩) (pre.length + 1) cap3) = w4 at *
          have hxb : sm.Bytes x.t := by
            obtain ⟨rest, he⟩ := HEX.out
            exact (ck.parse_mem (HS.out.bytes.drop 8) x.ck (by rw [he]; simp)).2.2.2.1
          have hcmp := ck.iend_eq hxb
          have c4 := (cell_of_row _ _ 0 _ _ (0, 0) EC.out).trans rfl
          by_cases hend : x.t = ck.iend
          · rw [decide_eq_true hend] at hcmp
            have HEnd := Lib.hid hend
            clear hend
            have c5 := (cell_of_row _ _ 0 _ _ (0, 0) E1.out).trans rfl
            have c6 := (cell_of_row _ _ 0 _ _ (0, 0) E3.out).trans rfl
            have f6 := frozen_of_row _ _ 0 _ _ E3.out
            have c7 := (cell_of_row _ _ 0 _ _ (0, 0) E4.out).trans rfl
            have f7 := frozen_of_row _ _ 0 _ _ E4.out
            gi_wp2
            have z2 := HSZ2.out
            have z0 := HSZ0.out
            have hcl : (rec .busy none).isCells = false := by rw [← HRec.out]; rfl
            have g1 := grownBy_setCell3 w4 w.heap.size 0 (.slice (some ⟨g3, 0, none⟩) (pre.length + 1) cap3)
            have s1 := heap_setCell_same w4 w.heap.size 0 _ _ (.slice (some ⟨g3, 0, none⟩) (pre.length + 1) cap3) E3.out
            have l1' := EL.out.grown g1 (some_ne (by omega)) (some_ne (by omega))
            have t1 := grown_block g1 E4.out (some_ne (by omega))
            have b1' := E5.out.setCell (p := ⟨w.heap.size, 0, none⟩) (Nat.le_refl _) (.slice (some ⟨g3, 0, none⟩) (pre.length + 1) cap3)
            have at1 := EA.out.grown g1 (row_out_before (w := w) (Nat.le_refl _) (by omega))
            have HX := Lib.hid HEX.out
            clear EA E5 E3 E4 EL EC E1 EP c4 c5 c6 f6 c7 f7
            generalize w4.setCell ⟨w.heap.size, 0, none⟩ (.slice (some ⟨g3, 0, none⟩) (pre.length + 1) cap3) = w5 at *
            have g2 := grownBy_setCell3 w5 (w.heap.size + 1) 0 (.int .i64 0)
            have s2 := grown_block g2 s1 (some_ne (by omega))
            have l2' := l1'.grown g2 (some_ne (by omega)) (some_ne (by omega))
            have t2 := heap_setCell_same w5 (w.heap.size + 1) 0 _ _ (.int .i64 0) t1
            have b2' := b1'.setCell (p := ⟨w.heap.size + 1, 0, none⟩) (Nat.le_succ _) (.int .i64 0)
            have at2 := at1.grown g2 (row_out_before (w := w) (Nat.le_succ _) (by omega))
            generalize w5.setCell ⟨w.heap.size + 1, 0, none⟩ (.int .i64 0) = w6 at *
            have g3' := grownBy_putObj' w6 (w2.heap.size + 1) (rec .done (some .ret))
            exact ⟨l2', .inr ⟨rfl, ⟨_, pre, x, rfl, HEnd.out, H3.out, HX.out, grown_block g3' s2 (some_ne (by omega)), at2.grown g3' (row_out_loop (w := w) (by omega) l2'.1 hcl), grown_block g3' t2 (some_ne (by omega)), b2'.grown g3' b2'.size (fun k e => by obtain rfl := Option.some.inj e; omega)⟩, l2'.put (by omega) _⟩⟩
          · rw [decide_eq_false hend] at hcmp
            have HEnd := Lib.hid hend
            clear hend
            gi_wp2
            have z2 := HSZ2.out
            have z0 := HSZ0.out
            have hcl : (rec .busy none).isCells = false := by rw [← HRec.out]; rfl
            have g1 := grownBy_putObj' w4 (w2.heap.size + 1) (rec .ready none)
            have hsz4 := block_lt E1.out
            have hszw := block_lt EL.out.1
            exact ⟨EL.out, .inl ⟨rfl, ⟨⟨_, grown_block g1 E1.out (some_ne (by omega)), EA.out.grown g1 (row_out_loop (w := w) (by omega) EL.out.1 hcl), grown_block g1 E3.out (some_ne (by omega)), grown_block g1 E4.out (some_ne (by omega)), E5.out.grown g1 E5.out.size (fun k e => by obtain rfl := Option.some.inj e; omega)⟩, EL.out.put (by omega) _, fun y hy => by
              rcases List.mem_append.1 hy with h | h
              · exact H3.out y h
              · obtain rfl : y = x := by simpa using h
                exact HEnd.out⟩, EP.out.grown g1 E5.out.size (by omega) (fun k e => by obtain rfl := Option.some.inj e; omega)⟩⟩
      · rintro e W ⟨⟨v, rfl⟩, h⟩
        have z2 := SZ2
        have z0 := hsz0
        have hrd : ∀ st pe, (rec st pe).isCells = false := fun st pe => by rw [← hrec]; rfl
        have HSZ2 := Lib.hid SZ2
        have HSZ0 := Lib.hid hsz0
        have HRec := Lib.hid hrec
        clear SZ2 hsz0 hrec p0 p1 B2' l0 l1 R0 R1 r2 r3 BW BW1
        refine ⟨⟨v, rfl⟩, ?_⟩
        rcases h with ⟨xs, hxs, ⟨v1, a1, a2, a3, a4, a5⟩, hl, hno⟩ | ⟨xs, ⟨v1, pre', x, rfl, hend, hno, ⟨rest, hall⟩, a3, a2, a4, a5⟩, hl⟩
        · refine .inl ⟨hl, ?_⟩
          have HV : Hid (ck.split bs = none) := Lib.hid (by
            rw [HSP.out, ← hxs]
            exact ck.uptoEnd_none fun c hc => by
              obtain ⟨y, hy, rfl⟩ := List.mem_map.1 hc
              exact hno y hy)
          have g1 := grownBy_putObj' W (w2.heap.size + 1) (rec .exhausted none)
          have A3 := Lib.hid (grown_block g1 a3 (some_ne (by omega)))
          have A4 := Lib.hid (grown_block g1 a4 (some_ne (by omega)))
          have A5 := Lib.hid (a5.grown g1 a5.size (fun k e => by obtain rfl := Option.some.inj e; omega))
          have HLD := Lib.hid (hl.put (by omega) (rec .exhausted none))
          clear g1 a1 a2 a3 a4 a5 hl hno hxs z2 z0
          generalize W.putObj (w2.heap.size + 1) (rec .exhausted none) = W5 at *
          have c6 := (cell_of_row _ _ 0 _ _ (0, 0) A3.out).trans rfl
          have f6 := frozen_of_row _ _ 0 _ _ A3.out
          have c7 := (cell_of_row _ _ 0 _ _ (0, 0) A4.out).trans rfl
          have f7 := frozen_of_row _ _ 0 _ _ A4.out
          go_wp2_with fail
          have z2 := HSZ2.out
          have z0 := HSZ0.out
          have g1 := grownBy_setCell3 W5 w.heap.size 0 (.slice none 0 0)
          have s1 := heap_setCell_same W5 w.heap.size 0 _ _ (.slice none 0 0) A3.out
          have t1 := grown_block g1 A4.out (some_ne (by omega))
          have l1' := HLD.out.grown g1 (some_ne (by omega)) (some_ne (by omega))
          have b1' := A5.out.setCell (p := ⟨w.heap.size, 0, none⟩) (Nat.le_refl _) (.slice none 0 0)
          clear c6 f6 c7 f7
          generalize W5.setCell ⟨w.heap.size, 0, none⟩ (.slice none 0 0) = w5 at *
          have g2 := grownBy_setCell3 w5 (w.heap.size + 1) 0 (.int .i64 9)
          have s2 := grown_block g2 s1 (some_ne (by omega))
          have t2 := heap_setCell_same w5 (w.heap.size + 1) 0 _ _ (.int .i64 9) t1
          have l2' := l1'.grown g2 (some_ne (by omega)) (some_ne (by omega))
          have b2' := b1'.setCell (p := ⟨w.heap.size + 1, 0, none⟩) (Nat.le_succ _) (.int .i64 9)
          generalize w5.setCell ⟨w.heap.size + 1, 0, none⟩ (.int .i64 9) = w6 at *
          refine ⟨by simp, .inl ⟨_, _, rfl, run_takeDeferred l2'.2, ?_⟩⟩
          have g3 := grownBy_putObj' w6 w2.heap.size (.deferred none)
          have s3 := grown_block g3 s2 (some_ne (by omega))
          have t3 := grown_block g3 t2 (some_ne (by omega))
          refine ⟨_, results_cells (p := 2) (q := 3) (ty := 24) (tz := 25) rfl _ _ w.heap.size (w.heap.size + 1) _ _ rfl rfl ((cell_of_row _ _ 0 _ _ (0, 0) s3).trans rfl) ((cell_of_row _ _ 0 _ _ (0, 0) t3).trans rfl) Tryd.underlying24 Tryd.underlying25, ?_⟩
          rw [HV.out]
          exact ⟨rfl, take_deferred_below (by omega) (Nat.le_refl _) b2' _⟩
        · refine .inr ⟨.ret, hl, wpIn_ret ?_⟩
          have HV : Hid (ck.split bs = some ((pre' ++ [x]).map (·.ck))) := Lib.hid (by
            rw [HSP.out, hall, List.map_append, List.append_assoc]
            refine (ck.uptoEnd_end (fun c hc => ?_) hend).trans rfl
            obtain ⟨y, hy, rfl⟩ := List.mem_map.1 hc
            exact hno y hy)
          have g1 := grownBy_putObj' W (w2.heap.size + 1) (rec .exhausted (some .ret))
          have A3 := grown_block g1 a3 (some_ne (by omega))
          have A4 := grown_block g1 a4 (some_ne (by omega))
          have A2 := a2.grown g1 (row_out_loop (w := w) (by omega) hl.1 (hrd _ _))
          have A5 := a5.grown g1 a5.size (fun k e => by obtain rfl := Option.some.inj e; omega)
          have HLD := hl.put (by omega) (rec .exhausted (some .ret))
          generalize W.putObj (w2.heap.size + 1) (rec .exhausted (some .ret)) = w6 at *
          refine ⟨by simp, .inl ⟨_, _, rfl, run_takeDeferred HLD.2, ?_⟩⟩
          have g3 := grownBy_putObj' w6 w2.heap.size (.deferred none)
          have s3 := grown_block g3 A3 (some_ne (by omega))
          have t3 := grown_block g3 A4 (some_ne (by omega))
          have at3 := A2.grown g3 (row_out_loop (w := w) (by omega) HLD.2 rfl)
          refine ⟨_, results_cells (p := 2) (q := 3) (ty := 24) (tz := 25) rfl _ _ w.heap.size (w.heap.size + 1) _ _ rfl rfl ((cell_of_row _ _ 0 _ _ (0, 0) s3).trans rfl) ((cell_of_row _ _ 0 _ _ (0, 0) t3).trans rfl) Tryd.underlying24 Tryd.underlying25, ?_⟩
          rw [HV.out]
          exact ⟨_, _, rfl, at3.mono (by omega), rfl, take_deferred_below (by omega) (Nat.le_refl _) A5 _⟩
    · have S8 : Hid (Sl .u8 w0 (some ⟨b, off + 8, none⟩) (n - 8) (cap - 8) (bs.drop 8)) := Lib.hid ((HS.out.below B0.out).drop (m := 8) h8)
      go_wp2_with fail
      refine (parts_any _ _ _ _).mono ?_
      rintro e w2 ⟨rfl, rfl⟩
      go_wp2_with fail
      refine (wpIn_wide (n := 6)).1 ?_
      obtain ⟨p0, p1⟩ := heap2 w0 (.cells #[.slice none 0 0] 24) (.cells #[.slice (some ⟨b, off + 8, none⟩) (n - 8) (cap - 8)] 22)
      have B2' := (((Below.refl w0.heap.size w0).alloc (Nat.le_refl _) (.cells #[.slice none 0 0] 24)).alloc (by simp) (.cells #[.slice (some ⟨b, off + 8, none⟩) (n - 8) (cap - 8)] 22))
      have SZ2 : ((w0.alloc (.cells #[.slice none 0 0] 24)).alloc (.cells #[.slice (some ⟨b, off + 8, none⟩) (n - 8) (cap - 8)] 22)).heap.size = w0.heap.size + 1 + 1 := by simp
      generalize (w0.alloc (.cells #[.slice none 0 0] 24)).alloc (.cells #[.slice (some ⟨b, off + 8, none⟩) (n - 8) (cap - 8)] 22) = w2 at *
      have hbn : b < w.heap.size := block_lt_of_cell (HS.out.rd.cell 0 (by rw [HS.out.len]; omega))
      have hsz0 : w.heap.size + 1 + 1 + 1 = w0.heap.size := SZ.out.symm
      refine rangeFunc_enter rfl (by omega) (gf := 46) (lb := #[.pointer (some ⟨w0.heap.size + 1, 0, none⟩)]) rfl trivial (enters_of Tryd.func46 (by kernel_rfl) rfl) ?_
      intro fn _
      generalize hrec : theLoop fn _ _ _ _ w2.heap.size = rec
      have BW1 := (((Below.refl w2.heap.size w2).alloc (Nat.le_refl _) (.deferred (some []))).alloc (by simp) (rec .ready none))
      obtain ⟨l0, l1⟩ := heap2 w2 (.deferred (some [])) (rec .ready none)
      generalize (w2.alloc (.deferred (some []))).alloc (rec .ready none) = W1 at *
      have R0 := (BW1.block _ (block_lt p0)).trans p0
      have R1 := (BW1.block _ (block_lt p1)).trans p1
      have r2 := ((B2'.block _ (block_lt Q0.out)).trans Q0.out)
      have r3 := ((B2'.block _ (block_lt Q1.out)).trans Q1.out)
      have BW : Below w.heap.size w W1 := (B0.out.trans (B2'.mono B0.out.size)).trans (BW1.mono (by omega))
      refine (parts1_in 5 (w2.heap.size + 1) (w0.heap.size + 1) w.heap.size (w0.heap.size + 1 + 1) b _ (n - 8) (cap - 8) (bs.drop 8) hbn (by omega) (by omega)
        (fun pre W => SplitI w w0.heap.size w.heap.size (w.heap.size + 1) (w0.heap.size + 1 + 1) pre W ∧ LoopAt W (w2.heap.size + 1) w2.heap.size (rec .ready none) ∧ ∀ x ∈ pre, x.t ≠ ck.iend)
        (fun pre W => SplitX w w.heap.size (w.heap.size + 1) (w0.heap.size + 1 + 1) (ck.parse (bs.drop 8)) pre W ∧ LoopAt W (w2.heap.size + 1) w2.heap.size (rec .done (some .ret)))
        ?_ ?_ ?_ W1 ((S8.out.below B2').below BW1) R1 ⟨⟨_, R0, ⟨World.ownsRow_nil _ _ _ _, fun x hx => by cases hx⟩, (BW1.block _ (block_lt r2)).trans r2, (BW1.block _ (block_lt r3)).trans r3, BW⟩, ⟨l1, l0⟩, fun x hx => by cases hx⟩).mono ?_
      · rintro pre W W' row ⟨h1, h2, h3⟩ hg hr
        have hne : ∀ k, k ≠ w0.heap.size + 1 → some k ≠ row := fun k hk e => by
          rcases hr with rfl | rfl
          · cases e
          · exact hk (Option.some.inj e)
        refine ⟨h1.grown hg (fun k e => ?_) (hne _ (by omega)) (hne _ (by omega)) (hne _ (by omega)), h2.grown hg (hne _ (by omega)) (hne _ (by omega)), h3⟩
        rcases hr with rfl | rfl
        · cases e
        · obtain rfl := Option.some.inj e
          exact ⟨by omega, .inl (by omega)⟩
      · rintro pre W ⟨h1, h2, _⟩
        have := block_lt h2.1
        omega
      · rintro pre x W ⟨h1, h2, h3⟩ hx hex
        obtain ⟨v, a1, a2, a3, a4, a5⟩ := h1
        have AL := (Below.refl W.heap.size W).alloc (Nat.le_refl _) (.cells #[.string (strOfNums x.t), .slice (some ⟨x.g, 0, none⟩) x.d.length x.cap] 57)
        have h2' : LoopAt (W.alloc (.cells #[.string (strOfNums x.t), .slice (some ⟨x.g, 0, none⟩) x.d.length x.cap] 57)) (w2.heap.size + 1) w2.heap.size (rec .ready none) := h2.grown (grown_of_below AL) (by simp) (by simp)
        have hl1 := block_lt h2.1
        rw [← hrec] at h2 h2'
        refine yield_round (a₁ := { tmps := #[.slice (some ⟨b, off, none⟩) n cap, undef, .pointer (some ⟨w.heap.size, 0, none⟩), .pointer (some ⟨w.heap.size + 1, 0, none⟩), .pointer (some ⟨w0.heap.size, 0, none⟩), .pointer (some ⟨W.heap.size, 0, none⟩), .slice (some ⟨b, off, none⟩) n cap, .slice (some ⟨w.heap.size + 1 + 1, 0, none⟩) 8 8, .slice (some ⟨w.heap.size + 1 + 1, 0, none⟩) 8 8, .bool true, .bool false, .slice (some ⟨b, off, none⟩) n cap, .slice (some ⟨b, off + 8, none⟩) (n - 8) (cap - 8), .func (.func 46) #[] #[.pointer (some ⟨w0.heap.size + 1, 0, none⟩)], x.val, undef, undef, undef, undef, undef, undef, undef, undef], defers := [] }) trivial h2 rfl h2' ?_ ?_
        · intro K hK
          have HK := Lib.hid hK
          have H2 := Lib.hid h2
          have H2' := Lib.hid h2'
          clear hK h2 h2'
          refine round_region (by rintro ⟨_, _, h⟩; exact h) (by kernel_rfl) ?_
          go_wp2_with (with_reducible refine wpList_store_row rfl 57 _ _ rfl W.heap.size _ rfl rfl 57 _ (heap_alloc_last _ _) (ckSize2 _ _) (ckSz _ _ _ _) (ckOne _ _ _ _) ?_; rw [World.setRow_alloc_new])
          exact HK.out
        · rw [hrec] at h2 h2'
          rw [hrec]
          have hne1 : W.heap.size ≠ w2.heap.size + 1 := by omega
          have hg1 := grownBy_putObj' (W.alloc (.cells #[.string (strOfNums x.t), .slice (some ⟨x.g, 0, none⟩) x.d.length x.cap] 57)) (w2.heap.size + 1) (rec .busy none)
          have hlp := h2'.put (by omega) (rec .busy none)
          have hro : RowOut w (W.alloc (.cells #[.string (strOfNums x.t), .slice (some ⟨x.g, 0, none⟩) x.d.length x.cap] 57)) (w0.heap.size + 1 + 1) (some (w2.heap.size + 1)) := fun k e => by
            obtain rfl := Option.some.inj e
            exact ⟨by omega, .inr ⟨_, h2'.1, by rw [← hrec]; rfl⟩⟩
          have C := Lib.hid ((World.putObj_heap_other (r := w2.heap.size + 1) (o := rec .busy none) hne1).trans (heap_alloc_last W (.cells #[.string (strOfNums x.t), .slice (some ⟨x.g, 0, none⟩) x.d.length x.cap] 57)))
          have A1 := Lib.hid (grown_block hg1 ((AL.block _ (block_lt a1)).trans a1) (by intro e; have := Option.some.inj e; omega))
          have A3 := Lib.hid (grown_block hg1 ((AL.block _ (block_lt a3)).trans a3) (by intro e; have := Option.some.inj e; omega))
          have A4 := Lib.hid (grown_block hg1 ((AL.block _ (block_lt a4)).trans a4) (by intro e; have := Option.some.inj e; omega))
          have A2 := Lib.hid ((a2.below AL).grown hg1 hro)
          have AX := Lib.hid (World.ownsRow.kept (hx.below AL) hg1 (hro.ne (Nat.le_refl _) (hx.below AL)))
          have A5 := Lib.hid ((a5.trans (AL.mono a5.size)).grown hg1 (a5.trans (AL.mono a5.size)).size (fun k e => (hro k e).1))
          have HLP := Lib.hid hlp
          have hBb : w0.heap.size + 1 < W.heap.size := by omega
          have PK := Lib.hid ((PartsKeep.below AL a5.size hBb).grown hg1 (by have := a5.size; have := AL.size; omega) (by have := AL.size; omega) (fun k e => by obtain rfl := Option.some.inj e; omega))
          have SZb : Hid (W.heap.size + 1 ≤ ((W.alloc (.cells #[.string (strOfNums x.t), .slice (some ⟨x.g, 0, none⟩) x.d.length x.cap] 57)).putObj (w2.heap.size + 1) (rec .busy none)).heap.size) := Lib.hid (by simp)
          have HVB : Hid (∀ k, v.ownBlock = some k → w0.heap.size + 1 + 1 ≤ k ∧ k < W.heap.size) := Lib.hid (World.ownsRow.lt a2.row)
          clear h2 h2' hg1 hlp hro a1 a2 a3 a4 a5 hx AL
          generalize (W.alloc (.cells #[.string (strOfNums x.t), .slice (some ⟨x.g, 0, none⟩) x.d.length x.cap] 57)).putObj (w2.heap.size + 1) (rec .busy none) = Wb at *
          have HRec := Lib.hid hrec
          have HEX := Lib.hid hex
          have H3 := Lib.hid h3
          have hpl : pre.length + 1 ≤ n := by
            obtain ⟨rest, he⟩ := hex
            have h4 := ck.parse_len (bs.drop 8)
            rw [he, List.length_append, List.length_map, List.length_append, List.length_drop, HS.out.len] at h4
            simp only [List.length_cons, List.length_nil] at h4
            omega
          clear hrec hex h3
          obtain ⟨i0, hi, hz0, hz1, hz2⟩ := info_parts infoCk
          have c1 := (cell_of_row _ _ 0 _ _ (0, 0) A1.out).trans rfl
          have NW : Hid (∀ j u, ([.string (strOfNums x.t), .slice (some ⟨x.g, 0, none⟩) x.d.length x.cap] : List Value)[j]? = some u → (Wb.alloc (.cells #[.string (strOfNums x.t), .slice (some ⟨x.g, 0, none⟩) x.d.length x.cap] 57)).cell? ((⟨Wb.heap.size, 0, none⟩ : Addr).add j) = some u) := Lib.hid (news_alloc Wb [.string (strOfNums x.t), .slice (some ⟨x.g, 0, none⟩) x.d.length x.cap] 57)
          have HRU := Lib.hid (A2.out.row.alloc (.cells #[.string (strOfNums x.t), .slice (some ⟨x.g, 0, none⟩) x.d.length x.cap] 57))
          have SZU : w0.heap.size + 1 + 1 ≤ (Wb.alloc (.cells #[.string (strOfNums x.t), .slice (some ⟨x.g, 0, none⟩) x.d.length x.cap] 57)).heap.size := by have := SZb.out; simp; omega
          have HNE0 : Hid (some w0.heap.size ≠ v.ownBlock) := Lib.hid (fun e => by have := (World.ownsRow.lt A2.out.row _ e.symm).1; omega)
          have HNE1 : Hid (some W.heap.size ≠ v.ownBlock) := Lib.hid (fun e => by have := (HVB.out _ e.symm).2; omega)
          have HNE2 : Hid (some W.heap.size ≠ some w0.heap.size) := Lib.hid (fun e => by have := Option.some.inj e; omega)
          have HSZ2 := Lib.hid SZ2
          have HSZ0 := Lib.hid hsz0
          clear SZ2 hsz0
          refine wpIn_block (wpIn_seq_k ?_)
          intro K1 hK1
          have HK1 := Lib.hid hK1
          clear hK1
          refine round_region (by rintro ⟨_, _, h⟩; exact h) (by kernel_rfl) ?_
          go_wp2_with (first
            | (with_reducible refine wpList_load_row rfl 57 _ rfl W.heap.size rfl 57 _ (0, 0) _ C.out Tryd.underlying57 rfl (ckSize2 _ _) ?_)
            | (at_builtin; go_must (refine wpList_append_own _ rfl _ _ 24 rfl (w0.heap.size + 1 + 1) 57 i0 (.agg #[.string ⟨#[]⟩, .slice none 0 0]) 2 40 Tryd.underlying24 hi hz0 hz1 hz2 rfl (by decide) v pre.length _ rfl HRU.out ⟨Wb.heap.size, 0, none⟩ 1 1 [.string (strOfNums x.t), .slice (some ⟨x.g, 0, none⟩) x.d.length x.cap] rfl rfl NW.out (by simp [Value.oneCell']) (by unfold maxLen; omega) (by omega) SZU ?_; intro v' w3 hown hg hnil; obtain ⟨g3, cap3, rfl⟩ := row_form hown (fun e => absurd (hnil.1 e).2 (by decide)); have Hown := Lib.hid hown; have Hg := Lib.hid hg; have A1' := Lib.hid (grown_block hg ((Below.heap_alloc Wb _ _ (block_lt A1.out)).trans A1.out) (HNE0.out)); have C' := Lib.hid (grown_block hg ((Below.heap_alloc Wb _ _ (block_lt C.out)).trans C.out) (HNE1.out)); have c3 := (cell_of_row _ _ 0 _ _ (0, 0) A1'.out).trans rfl; have f3 := frozen_of_row _ _ 0 _ _ A1'.out; clear hown hg hnil)))
          have AB := Lib.hid ((Below.refl Wb.heap.size Wb).alloc (Nat.le_refl _) (.cells #[.string (strOfNums x.t), .slice (some ⟨x.g, 0, none⟩) x.d.length x.cap] 57))
          have GS := Lib.hid (grownBy_setCell3 w3 w0.heap.size 0 (.slice (some ⟨g3, 0, none⟩) (pre.length + 1) cap3))
          have HVW := Lib.hid (World.ownsRow.lt HRU.out)
          have HK4 : Hid (∀ k o, Wb.heap[k]? = some o → some k ≠ v.ownBlock → k ≠ w0.heap.size → (w3.setCell ⟨w0.heap.size, 0, none⟩ (.slice (some ⟨g3, 0, none⟩) (pre.length + 1) cap3)).heap[k]? = some o) := Lib.hid (fun k o ho h1 h2 => grown_block GS.out (grown_block Hg.out ((AB.out.block _ (block_lt ho)).trans ho) h1) (by intro e; exact h2 (Option.some.inj e)))
          have E1 := Lib.hid (heap_setCell_same w3 w0.heap.size 0 _ _ (.slice (some ⟨g3, 0, none⟩) (pre.length + 1) cap3) A1'.out)
          have EC := Lib.hid (HK4.out _ _ C.out HNE1.out (by have := HSZ2.out; omega))
          have E3 := Lib.hid (HK4.out _ _ A3.out (fun e => by have := (HVB.out _ e.symm).1; have := HSZ0.out; omega) (by have := HSZ0.out; omega))
          have E4 := Lib.hid (HK4.out _ _ A4.out (fun e => by have := (HVB.out _ e.symm).1; have := HSZ0.out; omega) (by have := HSZ0.out; omega))
          have hcl : (rec .busy none).isCells = false := by rw [← HRec.out]; rfl
          have EL : Hid (LoopAt (w3.setCell ⟨w0.heap.size, 0, none⟩ (.slice (some ⟨g3, 0, none⟩) (pre.length + 1) cap3)) (w2.heap.size + 1) w2.heap.size (rec .busy none)) := Lib.hid ⟨HK4.out _ _ HLP.out.1 (own_not_loop A2.out.row HLP.out.1 hcl) (by have := HSZ2.out; omega), HK4.out _ _ HLP.out.2 (own_not_loop A2.out.row HLP.out.2 rfl) (by have := HSZ2.out; omega)⟩
          have hkd : ∀ y : ck.El, y.Ok (w0.heap.size + 1 + 1) Wb → y.Ok (w0.heap.size + 1 + 1) (w3.setCell ⟨w0.heap.size, 0, none⟩ (.slice (some ⟨g3, 0, none⟩) (pre.length + 1) cap3)) := fun y hy => by
            have h1 := World.ownsRow.kept (hy.below AB.out) Hg.out (rows_apart (hy.below AB.out) HRU.out (by decide))
            refine World.ownsRow.kept h1 GS.out (.inr fun e => ?_)
            have h2 := (World.ownsRow.lt h1 _ e).1
            omega
          have EA : Hid (ck.At (w0.heap.size + 1 + 1) (w3.setCell ⟨w0.heap.size, 0, none⟩ (.slice (some ⟨g3, 0, none⟩) (pre.length + 1) cap3)) (.slice (some ⟨g3, 0, none⟩) (pre.length + 1) cap3) (pre ++ [x])) := Lib.hid ⟨by
            have h1 := World.ownsRow.kept Hown.out GS.out (.inr fun e => by have h2 := (World.ownsRow.lt Hown.out _ e).1; omega)
            rw [ck.cells_snoc, List.length_append]
            exact h1, fun y hy => by
            rcases List.mem_append.1 hy with h | h
            · exact hkd y (A2.out.ok y h)
            · obtain rfl : y = x := by simpa using h
              exact hkd y AX.out⟩
          have hsw : w.heap.size ≤ w0.heap.size := by have := HSZ0.out; omega
          have hb9 := (A5.out.trans (AB.out.mono A5.out.size)).grown Hg.out (A5.out.trans (AB.out.mono A5.out.size)).size (fun k e => by have := (HVB.out k e).1; omega)
          have E5 := Lib.hid (hb9.setCell (p := ⟨w0.heap.size, 0, none⟩) hsw (.slice (some ⟨g3, 0, none⟩) (pre.length + 1) cap3))
          have hbs : w0.heap.size + 1 < (Wb.alloc (.cells #[.string (strOfNums x.t), .slice (some ⟨x.g, 0, none⟩) x.d.length x.cap] 57)).heap.size := by have := SZb.out; simp; omega
          have hb10 : w0.heap.size + 1 < w3.heap.size := by have := Hg.out.size; omega
          have EP : Hid (PartsKeep w.heap.size (w0.heap.size + 1) W (w3.setCell ⟨w0.heap.size, 0, none⟩ (.slice (some ⟨g3, 0, none⟩) (pre.length + 1) cap3))) := Lib.hid (((PK.out.grown (World.grownBy_alloc Wb (.cells #[.string (strOfNums x.t), .slice (some ⟨x.g, 0, none⟩) x.d.length x.cap] 57) none) A5.out.size (by have := SZb.out; omega) (fun k e => by cases e)).grown Hg.out (A5.out.trans (AB.out.mono A5.out.size)).size hbs (fun k e => by have := (HVB.out k e).1; omega)).grown GS.out (by omega) hb10 (fun k e => by obtain rfl := Option.some.inj e; omega))
          refine HK1.out _ _ ?_
          clear hkd hcl hb9 hbs hb10 c1 c3 f3 HK1 AB GS HVW HK4 Hown Hg A1' C' HRU NW HNE0 HNE1 HNE2 A1 A2 A3 A4 A5 AX HLP PK C hi hz0 hz1 hz2 SZU
          generalize w3.setCell ⟨w0.heap.size, 0, none⟩ (.slice (some ⟨g3, 0, none⟩) (pre.length + 1) cap3) = w4 at *
          have hxb : sm.Bytes x.t := by
            obtain ⟨rest, he⟩ := HEX.out
            exact (ck.parse_mem (HS.out.bytes.drop 8) x.ck (by rw [he]; simp)).2.2.2.1
          have hcmp := ck.iend_eq hxb
          have c4 := (cell_of_row _ _ 0 _ _ (0, 0) EC.out).trans rfl
          by_cases hend : x.t = ck.iend
          · rw [decide_eq_true hend] at hcmp
            have HEnd := Lib.hid hend
            clear hend
            have c5 := (cell_of_row _ _ 0 _ _ (0, 0) E1.out).trans rfl
            have c6 := (cell_of_row _ _ 0 _ _ (0, 0) E3.out).trans rfl
            have f6 := frozen_of_row _ _ 0 _ _ E3.out
            have c7 := (cell_of_row _ _ 0 _ _ (0, 0) E4.out).trans rfl
            have f7 := frozen_of_row _ _ 0 _ _ E4.out
            gi_wp2
            have z2 := HSZ2.out
            have z0 := HSZ0.out
            have hcl : (rec .busy none).isCells = false := by rw [← HRec.out]; rfl
            have g1 := grownBy_setCell3 w4 w.heap.size 0 (.slice (some ⟨g3, 0, none⟩) (pre.length + 1) cap3)
            have s1 := heap_setCell_same w4 w.heap.size 0 _ _ (.slice (some ⟨g3, 0, none⟩) (pre.length + 1) cap3) E3.out
            have l1' := EL.out.grown g1 (some_ne (by omega)) (some_ne (by omega))
            have t1 := grown_block g1 E4.out (some_ne (by omega))
            have b1' := E5.out.setCell (p := ⟨w.heap.size, 0, none⟩) (Nat.le_refl _) (.slice (some ⟨g3, 0, none⟩) (pre.length + 1) cap3)
            have at1 := EA.out.grown g1 (row_out_before (w := w) (Nat.le_refl _) (by omega))
            have HX := Lib.hid HEX.out
            clear EA E5 E3 E4 EL EC E1 EP c4 c5 c6 f6 c7 f7
            generalize w4.setCell ⟨w.heap.size, 0, none⟩ (.slice (some ⟨g3, 0, none⟩) (pre.length + 1) cap3) = w5 at *
            have g2 := grownBy_setCell3 w5 (w.heap.size + 1) 0 (.int .i64 0)
            have s2 := grown_block g2 s1 (some_ne (by omega))
            have l2' := l1'.grown g2 (some_ne (by omega)) (some_ne (by omega))
            have t2 := heap_setCell_same w5 (w.heap.size + 1) 0 _ _ (.int .i64 0) t1
            have b2' := b1'.setCell (p := ⟨w.heap.size + 1, 0, none⟩) (Nat.le_succ _) (.int .i64 0)
            have at2 := at1.grown g2 (row_out_before (w := w) (Nat.le_succ _) (by omega))
            generalize w5.setCell ⟨w.heap.size + 1, 0, none⟩ (.int .i64 0) = w6 at *
            have g3' := grownBy_putObj' w6 (w2.heap.size + 1) (rec .done (some .ret))
            exact ⟨l2', .inr ⟨rfl, ⟨_, pre, x, rfl, HEnd.out, H3.out, HX.out, grown_block g3' s2 (some_ne (by omega)), at2.grown g3' (row_out_loop (w := w) (by omega) l2'.1 hcl), grown_block g3' t2 (some_ne (by omega)), b2'.grown g3' b2'.size (fun k e => by obtain rfl := Option.some.inj e; omega)⟩, l2'.put (by omega) _⟩⟩
          · rw [decide_eq_false hend] at hcmp
            have HEnd := Lib.hid hend
            clear hend
            gi_wp2
            have z2 := HSZ2.out
            have z0 := HSZ0.out
            have hcl : (rec .busy none).isCells = false := by rw [← HRec.out]; rfl
            have g1 := grownBy_putObj' w4 (w2.heap.size + 1) (rec .ready none)
            have hsz4 := block_lt E1.out
            have hszw := block_lt EL.out.1
            exact ⟨EL.out, .inl ⟨rfl, ⟨⟨_, grown_block g1 E1.out (some_ne (by omega)), EA.out.grown g1 (row_out_loop (w := w) (by omega) EL.out.1 hcl), grown_block g1 E3.out (some_ne (by omega)), grown_block g1 E4.out (some_ne (by omega)), E5.out.grown g1 E5.out.size (fun k e => by obtain rfl := Option.some.inj e; omega)⟩, EL.out.put (by omega) _, fun y hy => by
              rcases List.mem_append.1 hy with h | h
              · exact H3.out y h
              · obtain rfl : y = x := by simpa using h
                exact HEnd.out⟩, EP.out.grown g1 E5.out.size (by omega) (fun k e => by obtain rfl := Option.some.inj e; omega)⟩⟩
      · rintro e W ⟨⟨v, rfl⟩, h⟩
        have z2 := SZ2
        have z0 := hsz0
        have hrd : ∀ st pe, (rec st pe).isCells = false := fun st pe => by rw [← hrec]; rfl
        have HSZ2 := Lib.hid SZ2
        have HSZ0 := Lib.hid hsz0
        have HRec := Lib.hid hrec
        clear SZ2 hsz0 hrec p0 p1 B2' l0 l1 R0 R1 r2 r3 BW BW1
        refine ⟨⟨v, rfl⟩, ?_⟩
        rcases h with ⟨xs, hxs, ⟨v1, a1, a2, a3, a4, a5⟩, hl, hno⟩ | ⟨xs, ⟨v1, pre', x, rfl, hend, hno, ⟨rest, hall⟩, a3, a2, a4, a5⟩, hl⟩
        · refine .inl ⟨hl, ?_⟩
          have HV : Hid (ck.split bs = none) := Lib.hid (by
            rw [HSP.out, ← hxs]
            exact ck.uptoEnd_none fun c hc => by
              obtain ⟨y, hy, rfl⟩ := List.mem_map.1 hc
              exact hno y hy)
          have g1 := grownBy_putObj' W (w2.heap.size + 1) (rec .exhausted none)
          have A3 := Lib.hid (grown_block g1 a3 (some_ne (by omega)))
          have A4 := Lib.hid (grown_block g1 a4 (some_ne (by omega)))
          have A5 := Lib.hid (a5.grown g1 a5.size (fun k e => by obtain rfl := Option.some.inj e; omega))
          have HLD := Lib.hid (hl.put (by omega) (rec .exhausted none))
          clear g1 a1 a2 a3 a4 a5 hl hno hxs z2 z0
          generalize W.putObj (w2.heap.size + 1) (rec .exhausted none) = W5 at *
          have c6 := (cell_of_row _ _ 0 _ _ (0, 0) A3.out).trans rfl
          have f6 := frozen_of_row _ _ 0 _ _ A3.out
          have c7 := (cell_of_row _ _ 0 _ _ (0, 0) A4.out).trans rfl
          have f7 := frozen_of_row _ _ 0 _ _ A4.out
          go_wp2_with fail
          have z2 := HSZ2.out
          have z0 := HSZ0.out
          have g1 := grownBy_setCell3 W5 w.heap.size 0 (.slice none 0 0)
          have s1 := heap_setCell_same W5 w.heap.size 0 _ _ (.slice none 0 0) A3.out
          have t1 := grown_block g1 A4.out (some_ne (by omega))
          have l1' := HLD.out.grown g1 (some_ne (by omega)) (some_ne (by omega))
          have b1' := A5.out.setCell (p := ⟨w.heap.size, 0, none⟩) (Nat.le_refl _) (.slice none 0 0)
          clear c6 f6 c7 f7
          generalize W5.setCell ⟨w.heap.size, 0, none⟩ (.slice none 0 0) = w5 at *
          have g2 := grownBy_setCell3 w5 (w.heap.size + 1) 0 (.int .i64 9)
          have s2 := grown_block g2 s1 (some_ne (by omega))
          have t2 := heap_setCell_same w5 (w.heap.size + 1) 0 _ _ (.int .i64 9) t1
          have l2' := l1'.grown g2 (some_ne (by omega)) (some_ne (by omega))
          have b2' := b1'.setCell (p := ⟨w.heap.size + 1, 0, none⟩) (Nat.le_succ _) (.int .i64 9)
          generalize w5.setCell ⟨w.heap.size + 1, 0, none⟩ (.int .i64 9) = w6 at *
          refine ⟨by simp, .inl ⟨_, _, rfl, run_takeDeferred l2'.2, ?_⟩⟩
          have g3 := grownBy_putObj' w6 w2.heap.size (.deferred none)
          have s3 := grown_block g3 s2 (some_ne (by omega))
          have t3 := grown_block g3 t2 (some_ne (by omega))
          refine ⟨_, results_cells (p := 2) (q := 3) (ty := 24) (tz := 25) rfl _ _ w.heap.size (w.heap.size + 1) _ _ rfl rfl ((cell_of_row _ _ 0 _ _ (0, 0) s3).trans rfl) ((cell_of_row _ _ 0 _ _ (0, 0) t3).trans rfl) Tryd.underlying24 Tryd.underlying25, ?_⟩
          rw [HV.out]
          exact ⟨rfl, take_deferred_below (by omega) (Nat.le_refl _) b2' _⟩
        · refine .inr ⟨.ret, hl, wpIn_ret ?_⟩
          have HV : Hid (ck.split bs = some ((pre' ++ [x]).map (·.ck))) := Lib.hid (by
            rw [HSP.out, hall, List.map_append, List.append_assoc]
            refine (ck.uptoEnd_end (fun c hc => ?_) hend).trans rfl
            obtain ⟨y, hy, rfl⟩ := List.mem_map.1 hc
            exact hno y hy)
          have g1 := grownBy_putObj' W (w2.heap.size + 1) (rec .exhausted (some .ret))
          have A3 := grown_block g1 a3 (some_ne (by omega))
          have A4 := grown_block g1 a4 (some_ne (by omega))
          have A2 := a2.grown g1 (row_out_loop (w := w) (by omega) hl.1 (hrd _ _))
          have A5 := a5.grown g1 a5.size (fun k e => by obtain rfl := Option.some.inj e; omega)
          have HLD := hl.put (by omega) (rec .exhausted (some .ret))
          generalize W.putObj (w2.heap.size + 1) (rec .exhausted (some .ret)) = w6 at *
          refine ⟨by simp, .inl ⟨_, _, rfl, run_takeDeferred HLD.2, ?_⟩⟩
          have g3 := grownBy_putObj' w6 w2.heap.size (.deferred none)
          have s3 := grown_block g3 A3 (some_ne (by omega))
          have t3 := grown_block g3 A4 (some_ne (by omega))
          have at3 := A2.grown g3 (row_out_loop (w := w) (by omega) HLD.2 rfl)
          refine ⟨_, results_cells (p := 2) (q := 3) (ty := 24) (tz := 25) rfl _ _ w.heap.size (w.heap.size + 1) _ _ rfl rfl ((cell_of_row _ _ 0 _ _ (0, 0) s3).trans rfl) ((cell_of_row _ _ 0 _ _ (0, 0) t3).trans rfl) Tryd.underlying24 Tryd.underlying25, ?_⟩
          rw [HV.out]
          exact ⟨_, _, rfl, at3.mono (by omega), rfl, take_deferred_below (by omega) (Nat.le_refl _) A5 _⟩
  · rw [decide_eq_false hp]
    have HV : Hid (ck.split bs = none) := Lib.hid (by unfold ck.split; rw [if_neg hp])
    clear hp
    go_wp2_with fail
    have z0 := SZ.out
    have g1 := grownBy_setCell3 w0 w.heap.size 0 (.slice none 0 0)
    have s1 := heap_setCell_same w0 w.heap.size 0 _ _ (.slice none 0 0) Q0.out
    have t1 := grown_block g1 Q1.out (some_ne (by omega))
    have b1' := B0.out.setCell (p := ⟨w.heap.size, 0, none⟩) (Nat.le_refl _) (.slice none 0 0)
    clear c0 f0 c1 f1
    generalize w0.setCell ⟨w.heap.size, 0, none⟩ (.slice none 0 0) = w5 at *
    have g2 := grownBy_setCell3 w5 (w.heap.size + 1) 0 (.int .i64 9)
    have s2 := grown_block g2 s1 (some_ne (by omega))
    have t2 := heap_setCell_same w5 (w.heap.size + 1) 0 _ _ (.int .i64 9) t1
    have b2' := b1'.setCell (p := ⟨w.heap.size + 1, 0, none⟩) (Nat.le_succ _) (.int .i64 9)
    generalize w5.setCell ⟨w.heap.size + 1, 0, none⟩ (.int .i64 9) = w6 at *
    refine bodyPostM_ret (results_cells (p := 2) (q := 3) (ty := 24) (tz := 25) rfl _ _ w.heap.size (w.heap.size + 1) _ _ rfl rfl ((cell_of_row _ _ 0 _ _ (0, 0) s2).trans rfl) ((cell_of_row _ _ 0 _ _ (0, 0) t2).trans rfl) Tryd.underlying24 Tryd.underlying25) rfl ?_
    rw [HV.out]
    exact ⟨rfl, b2'⟩
end Go.Proofs.YtfaemhmefijaoaaDoor
