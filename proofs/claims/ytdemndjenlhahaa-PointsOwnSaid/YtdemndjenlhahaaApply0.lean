/- What the walk of Apply stands on. -/
import Derived.Test.YtdemndjenlhahaaImg3
import Derived.Test.YtdemndjenlhahaaPt10
import Derived.Test.YtdemndjenlhahaaOpLaid2
import Derived.Test.YtdemndjenlhahaaRound
import Derived.Test.YtdemndjenlhahaaChunk
namespace Go.Proofs.Ytdemndjenlhahaa
open Go.RowKit Go.Sort Go.Shelf
attribute [local go_sem] Oper.semAt_some

/-- an image, and a number -/
def AppPost (base : Nat) (E W H : Int) (l : List Int) (w : World) (e : Ending) (w' : World) : Prop :=
  ∃ p n cap, e = .returned (.tuple #[.agg #[.int .i64 W, .int .i64 H, .slice p n cap], .int .i64 E]) ∧ w'.ownsRow base 31 1 (.slice p n cap) l.length (l.map (Value.int .u16)) ∧ Below w.heap.size w w'

/-- what Apply answers -/
def ApplyPost (op : ByteArray) (a : List Int) (W H : Int) (m : Nat) (l : List Int) (w : World) : Ending → World → Prop :=
  AppPost w.heap.size (pm.applyErr op a W H m) (if pm.applyErr op a W H m = 0 then W else 0) (if pm.applyErr op a W H m = 0 then H else 0) (if pm.applyErr op a W H m = 0 then pm.applyOut op a W l else []) w
theorem ApplyPost.bad {op : ByteArray} {a : List Int} {W H E : Int} {m : Nat} {l : List Int} {w w' : World} (hE : pm.applyErr op a W H m = E) (h0 : ¬ E = 0) (hb : Below w.heap.size w w') :
    ApplyPost op a W H m l w (.returned (.tuple #[.agg #[.int .i64 0, .int .i64 0, .slice none 0 0], .int .i64 E])) w' := by
  unfold ApplyPost
  rw [hE, if_neg h0, if_neg h0, if_neg h0]
  exact ⟨none, 0, 0, rfl, World.ownsRow_nil _ _ _ _, hb⟩
theorem ApplyPost.good {op : ByteArray} {a : List Int} {W H : Int} {m : Nat} {l : List Int} {w w' : World} {g n cap : Nat} (hE : pm.applyErr op a W H m = 0) (hn : (pm.applyOut op a W l).length = n) (hr : w'.ownsRow w.heap.size 31 1 (.slice (some ⟨g, 0, none⟩) n cap) n ((pm.applyOut op a W l).map (Value.int .u16))) (hb : Below w.heap.size w w') :
    ApplyPost op a W H m l w (.returned (.tuple #[.agg #[.int .i64 W, .int .i64 H, .slice (some ⟨g, 0, none⟩) n cap], .int .i64 0])) w' := by
  unfold ApplyPost
  rw [hE, if_pos rfl, if_pos rfl, if_pos rfl]
  subst hn
  exact ⟨_, _, _, rfl, hr, hb⟩
theorem bodyPostM_ret {F : Fence} {n : Nat} {P : Program} {fn : Func} {R : Ending → World → Prop} {a : Act} {w : World} {v : Value} (hr : (results fn a.tmps).run P w = .ok v w) (hd : a.defers = []) (hR : R (.returned v) w) : bodyPostM F n P fn R .ret a w := by
  obtain ⟨tmps, defers⟩ := a
  simp only at hd hr
  subst hd
  exact ⟨v, hr, hR⟩

theorem grown_of_below {w w' : World} (h : Below w.heap.size w w') : w.grownBy w' none := ⟨h.os, h.tape, h.output, h.size, fun i hi _ => h.block i hi⟩
theorem ownsRow_below {w w' : World} {base : Nat} {e : TypeId} {size : Nat} {v : Value} {n : Nat} {xs : List Value} (h : w.ownsRow base e size v n xs) (hb : Below w.heap.size w w') : w'.ownsRow base e size v n xs :=
  World.ownsRow.kept h (grown_of_below hb) (by cases hv : v.ownBlock <;> simp)
/-- an empty row with room for m -/
def MadeRow (base m : Nat) (v : Value) (w : World) : Prop := ∃ g, v = .slice (some ⟨g, 0, none⟩) 0 m ∧ base ≤ g ∧ w.ownsRow base 31 1 (.slice (some ⟨g, 0, none⟩) 0 m) 0 []
theorem MadeRow.below {base m : Nat} {v : Value} {w w' : World} (h : MadeRow base m v w) (hb : Below w.heap.size w w') : MadeRow base m v w' := by
  obtain ⟨g, h1, h2, h3⟩ := h
  exact ⟨g, h1, h2, ownsRow_below h3 hb⟩
def MadeImg (base : Nat) (W H : Int) (m : Nat) (v : Value) (w : World) : Prop := ∃ g, v = .agg #[.int .i64 W, .int .i64 H, .slice (some ⟨g, 0, none⟩) 0 m] ∧ base ≤ g ∧ w.ownsRow base 31 1 (.slice (some ⟨g, 0, none⟩) 0 m) 0 []
theorem MadeImg.below {base m : Nat} {W H : Int} {v : Value} {w w' : World} (h : MadeImg base W H m v w) (hb : Below w.heap.size w w') : MadeImg base W H m v w' := by
  obtain ⟨g, h1, h2, h3⟩ := h
  exact ⟨g, h1, h2, ownsRow_below h3 hb⟩
/-- a new variable for an image -/
def NewImg (base : Nat) (v : Value) (w : World) : Prop := ∃ b, v = .pointer (some ⟨b, 0, none⟩) ∧ base ≤ b ∧ w.heap[b]? = some (.cells #[.int .i64 0, .int .i64 0, .slice none 0 0] 41)
theorem NewImg.below {base : Nat} {v : Value} {w w' : World} (h : NewImg base v w) (hb : Below w.heap.size w w') : NewImg base v w' := by
  obtain ⟨g, h1, h2, h3⟩ := h
  exact ⟨g, h1, h2, (hb.block _ (block_lt h3)).trans h3⟩
theorem chunk4_any (a : Option Addr) (len cap : Nat) (w : World) :
    Calls Try.prog 26 #[.slice a len cap, .int .i64 4] w fun e w' => e = .returned (.func (.func 62) #[] #[.pointer (some ⟨w.heap.size, 0, none⟩), .pointer (some ⟨w.heap.size + 1, 0, none⟩)]) ∧ (w.alloc (.cells #[.slice a len cap] 39)).alloc (.cells #[.int .i64 4] 3) = w' :=
  chunk_any a len cap 4 (by omega) w
theorem row_not_img {w : World} {base g b n cap : Nat} {xs : List Value} {cs : Array Value} (h : w.ownsRow base 31 1 (.slice (some ⟨g, 0, none⟩) n cap) n xs) (hb : w.heap[b]? = some (.cells cs 41)) : g ≠ b := by
  rintro rfl
  rcases h.2 with ⟨h', _⟩ | ⟨g', cap', cur, h', _, hg, _⟩
  · simp at h'
  · simp only [Value.slice.injEq, Option.some.injEq, Addr.mk.injEq, and_true, true_and] at h'
    obtain ⟨rfl, rfl⟩ := h'
    rw [hb] at hg
    simp at hg
theorem run_make_rowN {P : Program} (t e : TypeId) (i : TypeInfo) (z : Value) (ht : P.underlying t = some (.slice e)) (hi : P.info? e = some i) (hz : i.zero = some z)
    (kl kc : IntKind) (n c : Nat) (hnc : n ≤ c) (hbytes : i.bytes * c ≤ 281474976710656) (h63 : c ≤ 9223372036854775807) (w : World) :
    (Instr.makeSlice t (.int kl (n : Int)) (.int kc (c : Int))).run P w = .ok (.slice (some ⟨w.heap.size, 0, none⟩) n c) (w.alloc (.cells (madeCells z.cells (c * i.size)) e)) := by
  have hb : (i.bytes : Int) * (c : Int) ≤ 281474976710656 := by
    have h : ((i.bytes * c : Nat) : Int) ≤ 281474976710656 := by omega
    rwa [Int.natCast_mul] at h
  have hr := run_make (P := P) w t e i z ht hi hz kl kc n c (by omega) (by omega) hb (by omega)
  simp only [Int.toNat_natCast] at hr
  exact hr
theorem make_u16 (m : Nat) (hm : m ≤ 16777216) (w : World) : (Instr.makeSlice 39 (.int .i64 0) (.int .i64 (m : Int))).run Try.prog w = .ok (.slice (some ⟨w.heap.size, 0, none⟩) 0 m) (w.alloc (.cells (madeCells (Value.int .u16 0).cells (m * 1)) 31)) := by
  obtain ⟨i0, hi, hz0, hz1, hz2⟩ := info_parts infoU16
  have := run_make_rowN (P := Try.prog) 39 31 i0 _ Try.underlying39 hi hz0 .i64 .i64 0 m (Nat.zero_le _) (by rw [hz2]; omega) (by omega) w
  rw [hz1] at this
  exact this

theorem own_heap {A B : World} {row : Option Nat} {b : Nat} {cs : Array Value} {t : TypeId} {fr : Nat × Nat} (hg : A.grownBy B row) (hr : ∀ r, row = some r → ∃ o : Obj, A.heap[r]? = some o ∧ o.isCells = false) (h : A.heap[b]? = some (.cells cs t fr)) : B.heap[b]? = some (.cells cs t fr) :=
  grown_block hg h (by
    intro e
    obtain ⟨o, ho, hc⟩ := hr b e.symm
    rw [h] at ho
    cases ho
    cases hc)
theorem own_row {A B : World} {row : Option Nat} {base : Nat} {e : TypeId} {size : Nat} {v : Value} {n : Nat} {xs : List Value} (hg : A.grownBy B row) (hr : ∀ r, row = some r → ∃ o : Obj, A.heap[r]? = some o ∧ o.isCells = false) (h : A.ownsRow base e size v n xs) : B.ownsRow base e size v n xs := by
  refine World.ownsRow.kept h hg ?_
  rcases h.2 with ⟨rfl, _⟩ | ⟨g, cap, cur, rfl, _, hgg, _⟩
  · exact .inl rfl
  · refine .inr fun e => ?_
    obtain ⟨o, ho, hc⟩ := hr g e.symm
    rw [hgg] at ho
    cases ho
    cases hc
theorem row_not {w : World} {base g b n cap : Nat} {xs : List Value} {cs : Array Value} {t : TypeId} (h : w.ownsRow base 31 1 (.slice (some ⟨g, 0, none⟩) n cap) n xs) (hb : w.heap[b]? = some (.cells cs t (0, 0))) (ht : t ≠ 31) : g ≠ b := by
  rintro rfl
  rcases h.2 with ⟨h', _⟩ | ⟨g', cap', cur, h', _, hg, _⟩
  · simp at h'
  · simp only [Value.slice.injEq, Option.some.injEq, Addr.mk.injEq, and_true, true_and] at h'
    obtain ⟨rfl, rfl⟩ := h'
    rw [hb] at hg
    simp only [Option.some.injEq, Obj.cells.injEq] at hg
    exact ht hg.2.1

/-- a new variable for a colour -/
def NewColA (base : Nat) (v : Value) (w : World) : Prop := ∃ b, v = .pointer (some ⟨b, 0, none⟩) ∧ base ≤ b ∧ w.heap[b]? = some (.cells #[.int .u16 0, .int .u16 0, .int .u16 0, .int .u16 0] 33)
theorem NewColA.below {base : Nat} {v : Value} {w w' : World} (h : NewColA base v w) (hb : Below w.heap.size w w') : NewColA base v w' := by
  obtain ⟨g, h1, h2, h3⟩ := h
  exact ⟨g, h1, h2, (hb.block _ (block_lt h3)).trans h3⟩
/-- what the loop holds between two rounds -/
structure ApplyI (w3 : World) (N6 bo : Nat) (k : Nat) (a l : List Int) (W H : Int) (wn : Nat) (q : Option Addr) (m mcap : Nat) (pre : List (ChIx m 4)) (W1 : World) : Prop where
  i : W1.heap[N6]? = some (.cells #[.int .i64 (pre.length : Nat)] 3)
  b1 : W1.heap[N6 + 1]? = some (.cells #[.slice q m mcap] 39)
  b2 : W1.heap[N6 + 1 + 1]? = some (.cells #[.int .i64 4] 3)
  out : ∃ g cap, W1.heap[bo]? = some (.cells #[.int .i64 W, .int .i64 H, .slice (some ⟨g, 0, none⟩) (4 * pre.length) cap] 41) ∧ W1.ownsRow w3.heap.size 31 1 (.slice (some ⟨g, 0, none⟩) (4 * pre.length) cap) (4 * pre.length) ((pm.outs k a l wn 0 (pre.map (·.1))).map (Value.int .u16))
  below : Below w3.heap.size w3 W1
theorem applyI_own {w3 w8 : World} {N6 bo k : Nat} {a l : List Int} {W H : Int} {wn : Nat} {q : Option Addr} {m mcap : Nat} (h3 : w3.heap.size ≤ w8.heap.size) : OwnFrom w8.heap.size (ApplyI w3 N6 bo k a l W H wn q m mcap) := by
  intro s A B row hs hg hr
  have hr' : ∀ r, row = some r → ∃ o : Obj, A.heap[r]? = some o ∧ o.isCells = false := fun r e => (hr r e).2
  obtain ⟨g, cap, h1, h2⟩ := hs.out
  exact ⟨own_heap hg hr' hs.i, own_heap hg hr' hs.b1, own_heap hg hr' hs.b2, ⟨g, cap, own_heap hg hr' h1, own_row hg hr' h2⟩, hs.below.grown hg hs.below.size (fun k e => Nat.le_trans h3 (hr k e).1)⟩
theorem keepsOthers_below {W W' : World} (h : Below W.heap.size W W') : KeepsOthers W W' := ⟨h.size, fun _ _ hk _ => (h.block _ (block_lt hk)).trans hk⟩
theorem take_deferred_below {w3 W : World} {n D : Nat} (hD : n ≤ D) (hn : n ≤ w3.heap.size) (hb : Below n w3 W) (o' : Obj) : Below n w3 (W.putObj D o') :=
  hb.grown (grownBy_putObj' W D o') (Nat.le_trans hn hb.size) (fun k e => by cases e; exact hD)

theorem applyI_step {w3 W1 u2 w2 : World} {N6 bo k : Nat} {a l : List Int} {W H : Int} {wn : Nat} {q : Option Addr} {m mcap : Nat} {pre : List (ChIx m 4)} (x : ChIx m 4) {o : Obj} {g cap g' cap' : Nat}
    (hI : ApplyI w3 N6 bo k a l W H wn q m mcap pre W1)
    (ho : W1.heap[bo]? = some (.cells #[.int .i64 W, .int .i64 H, .slice (some ⟨g, 0, none⟩) (4 * pre.length) cap] 41))
    (hr : W1.ownsRow w3.heap.size 31 1 (.slice (some ⟨g, 0, none⟩) (4 * pre.length) cap) (4 * pre.length) ((pm.outs k a l wn 0 (pre.map (·.1))).map (Value.int .u16)))
    (hu : Below W1.heap.size W1 u2) (hg : (u2.alloc o).grownBy w2 (some g))
    (hown : w2.ownsRow w3.heap.size 31 1 (.slice (some ⟨g', 0, none⟩) (4 * pre.length + 4) cap') (4 * pre.length + 4) ((pm.outs k a l wn 0 (pre.map (·.1))).map (Value.int .u16) ++ ((pm.res k a (pix l x.1) (((pre.length : Nat) : Int) % (wn : Int)) (((pre.length : Nat) : Int) / (wn : Int)) (wn : Int)).list).map (Value.int .u16)))
    (hbo : bo < N6) (h3 : w3.heap.size ≤ bo) :
    (w2.heap[bo]? = some (.cells #[.int .i64 W, .int .i64 H, .slice (some ⟨g, 0, none⟩) (4 * pre.length) cap] 41) ∧ (w2.setCell ⟨bo, 2, none⟩ (.slice (some ⟨g', 0, none⟩) (4 * pre.length + 4) cap')).heap[N6]? = some (.cells #[.int .i64 (pre.length : Nat)] 3)) ∧
    KeepsOthers W1 ((w2.setCell ⟨bo, 2, none⟩ (.slice (some ⟨g', 0, none⟩) (4 * pre.length + 4) cap')).setCell ⟨N6, 0, none⟩ (.int .i64 (((pre.length : Nat) : Int) + 1))) ∧
    KeepsTwo (N6 + 1) (N6 + 1 + 1) W1 ((w2.setCell ⟨bo, 2, none⟩ (.slice (some ⟨g', 0, none⟩) (4 * pre.length + 4) cap')).setCell ⟨N6, 0, none⟩ (.int .i64 (((pre.length : Nat) : Int) + 1))) ∧
    ApplyI w3 N6 bo k a l W H wn q m mcap (pre ++ [x]) ((w2.setCell ⟨bo, 2, none⟩ (.slice (some ⟨g', 0, none⟩) (4 * pre.length + 4) cap')).setCell ⟨N6, 0, none⟩ (.int .i64 (((pre.length : Nat) : Int) + 1))) := by
  have up : ∀ {b : Nat} {ob : Obj}, W1.heap[b]? = some ob → (u2.alloc o).heap[b]? = some ob := fun {b ob} h => by
    have h1 := (hu.block b (block_lt h)).trans h
    exact (Below.heap_alloc _ _ _ (block_lt h1)).trans h1
  have up2 : ∀ {b : Nat} {ob : Obj}, W1.heap[b]? = some ob → b ≠ g → w2.heap[b]? = some ob := fun h hne => grown_block hg (up h) (by intro e; exact hne (Option.some.inj e))
  have n1 : g ≠ bo := row_not hr ho (by decide)
  have n2 : g ≠ N6 := row_not hr hI.i (by decide)
  have n3 : g ≠ N6 + 1 := row_not hr hI.b1 (by decide)
  have n4 : g ≠ N6 + 1 + 1 := row_not hr hI.b2 (by decide)
  have c1 := up2 ho (Ne.symm n1)
  have c2 := up2 hI.i (Ne.symm n2)
  have c3 := up2 hI.b1 (Ne.symm n3)
  have c4 := up2 hI.b2 (Ne.symm n4)
  have m1 : g' ≠ bo := row_not hown c1 (by decide)
  have m2 : g' ≠ N6 := row_not hown c2 (by decide)
  have k1 := grownBy_setCell3 w2 bo 2 (.slice (some ⟨g', 0, none⟩) (4 * pre.length + 4) cap')
  have k2 := grownBy_setCell3 (w2.setCell ⟨bo, 2, none⟩ (.slice (some ⟨g', 0, none⟩) (4 * pre.length + 4) cap')) N6 0 (.int .i64 (((pre.length : Nat) : Int) + 1))
  have d1 := grown_block k2 (heap_setCell_same w2 bo 2 _ _ (.slice (some ⟨g', 0, none⟩) (4 * pre.length + 4) cap') c1) (by intro e; have := Option.some.inj e; omega)
  have d2 := heap_setCell_same _ N6 0 _ _ (.int .i64 (((pre.length : Nat) : Int) + 1)) (grown_block k1 c2 (by intro e; have := Option.some.inj e; omega))
  have d3 := grown_block k2 (grown_block k1 c3 (by intro e; have := Option.some.inj e; omega)) (by intro e; have := Option.some.inj e; omega)
  have d4 := grown_block k2 (grown_block k1 c4 (by intro e; have := Option.some.inj e; omega)) (by intro e; have := Option.some.inj e; omega)
  have hrow := World.ownsRow.kept (World.ownsRow.kept hown k1 (.inr (by intro e; exact m1 (Option.some.inj e)))) k2 (.inr (by intro e; exact m2 (Option.some.inj e)))
  refine ⟨⟨c1, grown_block k1 c2 (by intro e; have := Option.some.inj e; omega)⟩, ?_, ⟨d3.trans hI.b1.symm, d4.trans hI.b2.symm⟩, ?_⟩
  · refine (((keepsOthers_below hu).trans (KeepsOthers.alloc _ _)).trans (KeepsOthers.of_grownBy hg fun j ob e hj => ?_)).trans ((KeepsOthers.setCell _ _ _).trans (KeepsOthers.setCell _ _ _))
    cases e
    rcases hr.2 with ⟨h', _⟩ | ⟨g0, cap0, cur, h', _, hgg, _⟩
    · simp at h'
    · simp only [Value.slice.injEq, Option.some.injEq, Addr.mk.injEq, and_true, true_and] at h'
      obtain ⟨rfl, rfl⟩ := h'
      have := (up hgg).symm.trans hj
      cases this
      rfl
  · refine ⟨?_, d3, d4, ⟨g', cap', ?_, ?_⟩, ?_⟩
    · rw [List.length_append]
      exact d2
    · rw [List.length_append, show 4 * (pre.length + [x].length) = 4 * pre.length + 4 by simp; omega]
      exact d1
    · rw [List.length_append, show 4 * (pre.length + [x].length) = 4 * pre.length + 4 by simp; omega, List.map_append, List.map_cons, List.map_nil, pm.outs_snoc, List.length_map, Nat.zero_add, List.map_append]
      exact hrow
    · have hb1 := hI.below.trans (hu.mono hI.below.size)
      have hb2 := hb1.alloc hb1.size o
      have hb3 := hb2.grown hg hb2.size (fun j e => by cases e; exact (World.ownsRow.lt hr g rfl).1)
      exact (hb3.setCell (p := ⟨bo, 2, none⟩) h3 _).setCell (p := ⟨N6, 0, none⟩) (by show w3.heap.size ≤ N6; omega) _
theorem row_form {w : World} {base : Nat} {e : TypeId} {size : Nat} {v : Value} {n : Nat} {xs : List Value} (h : w.ownsRow base e size v n xs) (hv : ¬ v = .slice none 0 0) : ∃ g cap, v = .slice (some ⟨g, 0, none⟩) n cap := by
  rcases h.2 with ⟨h', _⟩ | ⟨g, cap, cur, h', _⟩
  · exact absurd h' hv
  · exact ⟨g, cap, h'⟩
theorem news_alloc (w : World) (cs : List Value) (t : TypeId) : ∀ j u, cs[j]? = some u → (w.alloc (.cells cs.toArray t)).cell? ((⟨w.heap.size, 0, none⟩ : Addr).add j) = some u := by
  intro j u h
  have e : (⟨w.heap.size, 0, none⟩ : Addr).add j = ⟨w.heap.size, j, none⟩ := by unfold Addr.add; split <;> simp_all
  rw [e]
  exact cells_alloc w cs.toArray t j u (by simpa using h)
end Go.Proofs.Ytdemndjenlhahaa
