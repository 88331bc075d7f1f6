/- Texts of this claim, joined. -/
import Derived.Test.YthpckmcgbmfmcaaGreatDoorM6
import Derived.Lib.QuoteBits
set_option maxRecDepth 100000
set_option maxHeartbeats 12800000
namespace Go.Proofs.YthpckmcgbmfmcaaGreatDoor
end Go.Proofs.YthpckmcgbmfmcaaGreatDoor
namespace Go.Proofs.YthpckmcgbmfmcaaGreatDoor
open Go.RowKit Go.Sort
theorem Sl.kept {k : IntKind} {w w' : World} {b off n c : Nat} {l : List Int} {row : Option Nat} (h : Sl k w (some ⟨b, off, none⟩) n c l) (hg : w.grownBy w' row) (hne : some b ≠ row) : Sl k w' (some ⟨b, off, none⟩) n c l := by
 refine ⟨h.len, h.fits, h.most, h.bare, h.wf, ?_⟩;rcases h.rd with h0 | ⟨b', off', e, hc⟩
 ·exact .inl h0
 ·simp only [Option.some.injEq, Addr.mk.injEq, and_true] at e
  obtain ⟨rfl, rfl⟩ := e;exact .inr ⟨b, off, rfl, fun i hi => (World.cell?_of_block (hg.block b (block_lt_of_cell (hc i hi)) hne)).trans (hc i hi)⟩
end Go.Proofs.YthpckmcgbmfmcaaGreatDoor
namespace Go.Proofs.YthpckmcgbmfmcaaGreatDoor
open Go.RowKit Go.Sort Go.Shelf
theorem keepsOthers_below {W W' : World} (h : Below W.heap.size W W') : KeepsOthers W W' := ⟨h.size, fun _ _ hk _ => (h.block _ (block_lt hk)).trans hk⟩
theorem own_heap {A B : World} {row : Option Nat} {b : Nat} {cs : Array Value} {t : TypeId} {fr : Nat × Nat} (hg : A.grownBy B row) (hr : ∀ r, row = some r -> ∃ o : Obj, A.heap[r]? = some o /\ o.isCells = false) (h : A.heap[b]? = some (.cells cs t fr)) : B.heap[b]? = some (.cells cs t fr) :=
 grown_block hg h (by
  intro e;obtain ⟨o, ho, hc⟩ := hr b e.symm;rw [h] at ho;cases ho;cases hc)
theorem own_ne {w : World} {base : Nat} {e : TypeId} {size : Nat} {v : Value} {n : Nat} {xs : List Value} (h : w.ownsRow base e size v n xs) {b : Nat} {cs : Array Value} {t : TypeId} {z : Nat × Nat} (hb : w.heap[b]? = some (.cells cs t z)) (ht : t ≠ e) : some b ≠ v.ownBlock := fun e' => by
 rcases h.2 with ⟨rfl, _⟩ | ⟨g', cap', cur, rfl, _, hg, _⟩
 ·cases e'
 ·cases e'
  rw [hb] at hg;simp only [Option.some.injEq, Obj.cells.injEq] at hg;exact ht hg.2.1
theorem run_make_rowN {P : Program} (t e : TypeId) (i : TypeInfo) (z : Value) (ht : P.underlying t = some (.slice e)) (hi : P.info? e = some i) (hz : i.zero = some z)
  (kl kc : IntKind) (n c : Nat) (hnc : n <= c) (hbytes : i.bytes * c <= 281474976710656) (h63 : c <= 9223372036854775807) (w : World) :
  (Instr.makeSlice t (.int kl (n : Int)) (.int kc (c : Int))).run P w = .ok (.slice (some ⟨w.heap.size, 0, none⟩) n c) (w.alloc (.cells (madeCells z.cells (c * i.size)) e)) := by
 have hb : (i.bytes : Int) * (c : Int) <= 281474976710656 := by
  have h : ((i.bytes * c : Nat) : Int) <= 281474976710656 := by omega
  rwa [Int.natCast_mul] at h
 have hr := run_make (P := P) w t e i z ht hi hz kl kc n c (by omega) (by omega) hb (by omega);simp only [Int.toNat_natCast] at hr;exact hr
structure BoxApp (w : World) (base ob : Nat) (ty e : TypeId) (size : Nat) (v' : Value) (n : Nat) (xs : List Value) (vo : Value) (W w2 w3 : World) : Prop where
 old : w2.heap[ob]? = some (.cells #[vo] ty (0, 0))
 box : w3.heap[ob]? = some (.cells #[v'] ty (0, 0))
 row : w3.ownsRow base e size v' n xs
 keep : KeepsOthers W w3
 fix : ∀ b cs t, W.heap[b]? = some (.cells cs t (0, 0)) -> t ≠ e -> b ≠ ob -> w3.heap[b]? = some (.cells cs t (0, 0))
 below : Below w.heap.size w w3
theorem box_app {w W u w2 : World} {base ob : Nat} {ty e : TypeId} {size : Nat} {vo v' : Value} {n n' : Nat} {xs xs' : List Value} (hob : ty ≠ e) (hbs : w.heap.size <= base) (hwo : w.heap.size <= ob)
  (ho : W.heap[ob]? = some (.cells #[vo] ty (0, 0))) (hr : W.ownsRow base e size vo n xs) (hw : Below w.heap.size w W)
  (hu : Below W.heap.size W u) (hg : u.grownBy w2 vo.ownBlock) (hown : w2.ownsRow base e size v' n' xs') : BoxApp w base ob ty e size v' n' xs' vo W w2 (w2.setCell ⟨ob, 0, none⟩ v') := by
 have up : ∀ {b : Nat} {cs : Array Value} {t : TypeId}, W.heap[b]? = some (.cells cs t (0, 0)) -> t ≠ e -> w2.heap[b]? = some (.cells cs t (0, 0)) := fun {b cs t} h1 ht => grown_block hg ((hu.block b (block_lt h1)).trans h1) (own_ne hr h1 ht)
 have c1 := up ho hob;have k1 := grownBy_setCell3 w2 ob 0 v';refine ⟨c1, heap_setCell_same w2 ob 0 _ _ v' c1, World.ownsRow.kept hown k1 (.inr fun e' => own_ne hown c1 hob e'.symm), ?_, fun b cs t hb ht hne => grown_block k1 (up hb ht) (by intro e; exact hne (Option.some.inj e)), ?_⟩
 ·refine ((keepsOthers_below hu).trans (KeepsOthers.of_grownBy hg fun j o e hj => ?_)).trans (KeepsOthers.setCell _ _ _)
  rcases hr.2 with ⟨rfl, _⟩ | ⟨g0, cap0, cur, rfl, _, hgg, _⟩
  ·cases e
  ·cases e
   have := ((hu.block _ (block_lt hgg)).trans hgg).symm.trans hj;cases this;rfl
 ·have hb1 := hw.trans (hu.mono hw.size)
  have hb3 := hb1.grown hg hb1.size (fun j e => by
   have := (World.ownsRow.lt hr j e).1;omega)
  exact hb3.setCell (p := ⟨ob, 0, none⟩) hwo _
structure BoxI (w : World) (base : Nat) (fix : List (Nat × Array Value × TypeId)) (ob : Nat) (ty e : TypeId) (size : Nat) (n : Nat) (xs : List Value) (W : World) : Prop where
 fix : ∀ p ∈ fix, W.heap[p.1]? = some (.cells p.2.1 p.2.2 (0, 0))
 box : ∃ vo, W.heap[ob]? = some (.cells #[vo] ty (0, 0)) /\ W.ownsRow base e size vo n xs
 below : Below w.heap.size w W
structure BoxAt (w : World) (base : Nat) (fix : List (Nat × Array Value × TypeId)) (ob : Nat) (ty e : TypeId) : Prop where
 o1 : w.heap.size <= ob
 o2 : w.heap.size <= base
 f : ∀ p ∈ fix, p.2.2 ≠ e /\ p.1 ≠ ob
 t : ty ≠ e
theorem BoxI.own {w : World} {base : Nat} {fix : List (Nat × Array Value × TypeId)} {ob : Nat} {ty e : TypeId} {size n : Nat} {xs : List Value} {W W' : World} {row : Option Nat} (h : BoxI w base fix ob ty e size n xs W) (hg : W.grownBy W' row) (hr : ∀ r, row = some r -> w.heap.size <= r /\ ∃ o : Obj, W.heap[r]? = some o /\ o.isCells = false) : BoxI w base fix ob ty e size n xs W' := by
 have hr' : ∀ r, row = some r -> ∃ o : Obj, W.heap[r]? = some o /\ o.isCells = false := fun r e => (hr r e).2
 obtain ⟨vo, h1, h2⟩ := h.box;exact ⟨fun p hp => own_heap hg hr' (h.fix p hp), ⟨vo, own_heap hg hr' h1, own_row hg hr' h2⟩, h.below.grown hg h.below.size (fun k e => (hr k e).1)⟩
theorem BoxI.ownFrom {w : World} {base : Nat} {fix : List (Nat × Array Value × TypeId)} {ob : Nat} {ty e : TypeId} {size : Nat} {m : Nat} (hm : w.heap.size <= m) {α : Type} (f : List α -> Nat) (g : List α -> List Value) : OwnFrom m (fun pre W => BoxI w base fix ob ty e size (f pre) (g pre) W) := by
 intro s A B row hs hg hr;exact hs.own hg (fun r e => ⟨Nat.le_trans hm (hr r e).1, (hr r e).2⟩)
theorem BoxI.app {w : World} {base : Nat} {fix : List (Nat × Array Value × TypeId)} {ob : Nat} {ty e : TypeId} {size n n' : Nat} {xs xs' : List Value} {W u w2 : World} {vo v' : Value} (hA : BoxAt w base fix ob ty e) (h : BoxI w base fix ob ty e size n xs W)
  (ho : W.heap[ob]? = some (.cells #[vo] ty (0, 0))) (hr : W.ownsRow base e size vo n xs) (hu : Below W.heap.size W u) (hg : u.grownBy w2 vo.ownBlock) (hown : w2.ownsRow base e size v' n' xs') :
  w2.heap[ob]? = some (.cells #[vo] ty (0, 0)) /\ BoxI w base fix ob ty e size n' xs' (w2.setCell ⟨ob, 0, none⟩ v') /\ KeepsOthers W (w2.setCell ⟨ob, 0, none⟩ v') := by
 have A := box_app hA.t hA.o2 hA.o1 ho hr h.below hu hg hown;exact ⟨A.old, ⟨fun p hp => A.fix _ _ _ (h.fix p hp) (hA.f p hp).1 (hA.f p hp).2, ⟨v', A.box, A.row⟩, A.below⟩, A.keep⟩
end Go.Proofs.YthpckmcgbmfmcaaGreatDoor
namespace Go.Proofs.YthpckmcgbmfmcaaGreatDoor
open Go.RowKit Go.Sort Go.Shelf
attribute [local go_sem] Oper.semAt_some
def cols (l : List Int) (N : Nat) : List C4 := (List.range N).map (pix l)
theorem make_col (m : Nat) (hm : m <= 16777216) (w : World) : (Instr.makeSlice 94 (.int .i64 0) (.int .i64 (m : Int))).run Tryz.prog w = .ok (.slice (some ⟨w.heap.size, 0, none⟩) 0 m) (w.alloc (.cells (madeCells (Value.agg #[.int .u16 0, .int .u16 0, .int .u16 0, .int .u16 0]).cells (m * 4)) 41)) := by
 obtain ⟨i0, hi, hz0, hz1, hz2⟩ := info_parts infoCol;have := run_make_rowN (P := Tryz.prog) 94 41 i0 _ Tryz.underlying94 hi hz0 .i64 .i64 0 m (Nat.zero_le _) (by rw [hz2]; omega) (by omega) w;rw [hz1] at this;exact this
theorem Sl.part {k : IntKind} {w : World} {b off n cap m j : Nat} {l : List Int} (h : Sl k w (some ⟨b, off, none⟩) n cap l) (hm : m + j <= n) : Sl k w (some ⟨b, off + m, none⟩) j j ((l.drop m).take j) := by
 have h1 := h.drop (m := m) (by omega);have h2 := h1.take (m := j) (by omega);refine ⟨h2.len, Nat.le_refl _, ?_, (fun e => by cases e), h2.wf, h2.rd⟩;have := h.fits;have := h.most;omega
theorem pix_part (l : List Int) (k : Nat) : (⟨((l.drop (4 * k)).take 4).getD 0 0, ((l.drop (4 * k)).take 4).getD 1 0, ((l.drop (4 * k)).take 4).getD 2 0, ((l.drop (4 * k)).take 4).getD 3 0⟩ : C4) = pix l k := by
 simp [pix, List.getD_eq_getElem?_getD, List.getElem?_drop]
theorem fill_col (c : C4) : Instr.fill (fun i => some (i * 4, 4)) ((Array.range (1 * 4)).map ((Value.agg #[Value.int IntKind.u16 0, Value.int IntKind.u16 0, Value.int IntKind.u16 0, Value.int IntKind.u16 0]).cells[· % (Value.agg #[Value.int IntKind.u16 0, Value.int IntKind.u16 0, Value.int IntKind.u16 0, Value.int IntKind.u16 0]).cells.size]!)) [(0, c.val)] = some #[.int .u16 c.r, .int .u16 c.g, .int .u16 c.b, .int .u16 c.a] := by kernel_rfl
def NewCol (base : Nat) (c : C4) (v : Value) (w : World) : Prop := ∃ g, v = .slice (some ⟨g, 0, none⟩) 1 1 /\ base <= g /\ w.heap[g]? = some (.cells #[.int .u16 c.r, .int .u16 c.g, .int .u16 c.b, .int .u16 c.a] 41 (0, 0))
theorem NewCol.below {base : Nat} {c : C4} {v : Value} {w w' : World} (h : NewCol base c v w) (hb : Below w.heap.size w w') : NewCol base c v w' := by
 obtain ⟨g, h1, h2, h3⟩ := h;exact ⟨g, h1, h2, (hb.block _ (block_lt h3)).trans h3⟩
theorem grid_any (W H : Int) (p : Option Addr) (n cap : Nat) (l : List Int) (w : World) (h : Sl .u16 w p n cap l) (hg : imgGood W H n) (N : Nat) (hN : n = 4 * N) :
  Calls Tryz.prog 38 #[.agg #[.int .i64 W, .int .i64 H, .slice p n cap]] w (GridPost W H (cols l N) w) := by
 have hsides := sides_mul hg.1 hg.2.1 hg.2.2.1 hg.2.2.2.1;obtain ⟨g1, g2, g3, g4, g5, g6⟩ := hg;have hNW : (N : Int) = W * H := by omega
 have hN6 : N <= 65536 := by omega
 have hN0 : 1 <= N := by omega
 have hg' : imgGood W H n := ⟨g1, g2, g3, g4, g5, g6⟩;have HSD := hd_ (show SidesOk W H from ⟨g1, g2, g3, g4, g5⟩);have HS := hd_ h;have HNN := hd_ hN;have HNW := hd_ hNW;obtain ⟨pb, po, rfl, _⟩ := h.cells (by omega);have CGd := hd_ (fun w => good_any W H (some ⟨pb, po, none⟩) n cap w);rw [goodB_true hg'] at CGd;have q0 := heap_alloc_new w (.cells #[.int .i64 W, .int .i64 H, .slice (some ⟨pb, po, none⟩) n cap] 36 (0, 0));have B0 := hd_ ((Below.refl w.heap.size w).alloc (Nat.le_refl _) (.cells #[.int .i64 W, .int .i64 H, .slice (some ⟨pb, po, none⟩) n cap] 36));have KB := hd_ q0;clear h hN hNW q0 hg' g6;refine (callsIn_wide (n := 6)).1 (callsIn_of_wp_marks Tryz.func38 rfl trivial ?_ rfl);simp only [Tryz.ntmps38, List.size_toArray, List.length_cons, List.length_nil, Nat.reduceAdd, Nat.reduceSub, Array.replicate_succ, Array.replicate_zero, List.push_toArray, List.append_toArray, List.nil_append, List.cons_append];refine wpIn_wide.2 ?_;go_upto_region 1 with (fail)
 obtain ⟨ib, hib⟩ : ∃ ib, w.heap.size = ib := ⟨_, rfl⟩;rw [hib] at B0 KB ⊢;have HIB := hd_ hib;clear hib;generalize w.alloc (.cells #[.int .i64 W, .int .i64 H, .slice (some ⟨pb, po, none⟩) n cap] 36) = w0 at *;have c0 := (cr_ w0 0 KB.out (Value.int .i64 W) rfl);have c1 := (cr_ w0 1 KB.out (Value.int .i64 H) rfl);have c2 := (cr_ w0 2 KB.out (Value.slice (some ⟨pb, po, none⟩) n cap) rfl);go_wp2_with fail
 refine (CGd.out w0).mono ?_;rintro e w1 ⟨rfl, hb1⟩;have d0 := keep_cell hb1 c0;have d1 := keep_cell hb1 c1;have d2 := keep_cell hb1 c2;have HB1 := hd_ (B0.out.trans (hb1.mono (by have := block_lt KB.out; omega)));have KB1 := hd_ ((hb1.block _ (block_lt KB.out)).trans KB.out);clear c0 c1 c2 hb1 CGd;have hWH : IntKind.i64.wrap (W * H) = (N : Int) := by rw [<- HNW.out]; exact IntWalk.i64_in _ (by have := HNW.out; omega)
 have hmk := make_col N (by omega);go_upto_region 4 with (fail)
 obtain ⟨q2, q3⟩ := heap2 w1 (.cells (madeCells #[.int .u16 0, .int .u16 0, .int .u16 0, .int .u16 0] (N * 4)) 41) (.cells #[.slice (some ⟨w1.heap.size, 0, none⟩) 0 N] 94);have B2 := hd_ (((Below.refl w1.heap.size w1).alloc (Nat.le_refl _) (.cells (madeCells #[.int .u16 0, .int .u16 0, .int .u16 0, .int .u16 0] (N * 4)) 41)).alloc (by simp) (.cells #[.slice (some ⟨w1.heap.size, 0, none⟩) 0 N] 94));have hs2 : ((w1.alloc (.cells (madeCells #[.int .u16 0, .int .u16 0, .int .u16 0, .int .u16 0] (N * 4)) 41)).alloc (.cells #[.slice (some ⟨w1.heap.size, 0, none⟩) 0 N] 94)).heap.size = w1.heap.size + 1 + 1 := by simp
 have HS2 := hd_ hs2;have Q3 := hd_ q3;have HO2 : Hid (OwnC w.heap.size ((w1.alloc (.cells (madeCells #[.int .u16 0, .int .u16 0, .int .u16 0, .int .u16 0] (N * 4)) 41)).alloc (.cells #[.slice (some ⟨w1.heap.size, 0, none⟩) 0 N] 94)) (.slice (some ⟨w1.heap.size, 0, none⟩) 0 N) []) := hd_ (by
  have hlo : w.heap.size <= w1.heap.size := by have := HB1.out.size; have := HIB.out; omega
  exact (World.ownsRow_made w1 _ N hlo (by unfold maxLen; omega) (by simp [madeCells])).alloc _)
 clear q2 q3 hs2;generalize (w1.alloc (.cells (madeCells #[.int .u16 0, .int .u16 0, .int .u16 0, .int .u16 0] (N * 4)) 41)).alloc (.cells #[.slice (some ⟨w1.heap.size, 0, none⟩) 0 N] 94) = w2 at *;obtain ⟨gb, hgb⟩ : ∃ gb, w1.heap.size = gb := ⟨_, rfl⟩;rw [hgb] at B2 HS2 Q3 HO2 ⊢;have hlo : w.heap.size <= gb := by have h1 := HB1.out.size; have h2 := HIB.out; have h3 := block_lt KB1.out; omega
 have hib2 : ib < gb := by have := block_lt KB1.out; omega
 have HB2 := hd_ (HB1.out.trans (B2.out.mono (Nat.le_of_lt hib2)));have KB2 := hd_ ((B2.out.block _ (by rw [<- hgb]; exact block_lt KB1.out)).trans KB1.out);have HGB := hd_ hgb;have z2 := HS2.out;have e2 := (cr_ w2 2 KB2.out (Value.slice (some ⟨pb, po, none⟩) n cap) rfl);clear d0 d1 d2 hmk hgb hWH;go_wp2_with fail
 refine (wchunk_any _ _ _ 4 (by omega) _).mono ?_;rintro e w4 ⟨rfl, rfl⟩;go_wp2_with fail
 refine (wpIn_wide (n := 6)).1 ?_;obtain ⟨p0, p1⟩ := heap2 w2 (.cells #[.slice (some ⟨pb, po, none⟩) n cap] 34) (.cells #[.int .i64 4] 3);have B4 := (((Below.refl w2.heap.size w2).alloc (Nat.le_refl _) (.cells #[.slice (some ⟨pb, po, none⟩) n cap] 34)).alloc (by simp) (.cells #[.int .i64 4] 3));have SZ4 : ((w2.alloc (.cells #[.slice (some ⟨pb, po, none⟩) n cap] 34)).alloc (.cells #[.int .i64 4] 3)).heap.size = w2.heap.size + 1 + 1 := by simp
 have OR4 := (HO2.out.alloc (.cells #[.slice (some ⟨pb, po, none⟩) n cap] 34)).alloc (.cells #[.int .i64 4] 3);rw [z2] at p0 p1 SZ4;generalize (w2.alloc (.cells #[.slice (some ⟨pb, po, none⟩) n cap] 34)).alloc (.cells #[.int .i64 4] 3) = w4 at *;have hch : chunks n 4 = N := by unfold chunks; rw [HNN.out]; omega
 have HCH := hd_ hch;clear hch;have hwb : w.heap.size <= ib := Nat.le_of_eq HIB.out;have B4w := hd_ ((HIB.out ▸ HB2.out : Below w.heap.size w w2).trans (B4.mono (by omega)));have X1 := hd_ ((B4.block _ (block_lt Q3.out)).trans Q3.out);have X2 := hd_ ((B4.block _ (block_lt KB2.out)).trans KB2.out);obtain ⟨fix, hfx⟩ : ∃ x : List (Nat × Array Value × TypeId), x = [(ib, #[.int .i64 W, .int .i64 H, .slice (some ⟨pb, po, none⟩) n cap], 36), (gb + 1 + 1, #[.slice (some ⟨pb, po, none⟩) n cap], 34), (gb + 1 + 1 + 1, #[.int .i64 4], 3)] := ⟨_, rfl⟩;have HFX := hd_ hfx;have hRA : BoxAt w w.heap.size fix (gb + 1) 94 41 := by
  refine ⟨by omega, by omega, fun p hp => ?_, by decide⟩;rw [hfx] at hp;simp only [List.mem_cons, List.not_mem_nil, or_false] at hp;rcases hp with rfl | rfl | rfl <;> refine ⟨by dsimp only; decide, ?_⟩ <;> dsimp only <;> omega
 have HRA := hd_ hRA;have hI0 : BoxI w w.heap.size fix (gb + 1) 94 41 4 ([] : List C4).length (colRow []) w4 := by
  refine ⟨fun p hp => ?_, ⟨_, X1.out, OR4⟩, B4w.out⟩;rw [hfx] at hp;simp only [List.mem_cons, List.not_mem_nil, or_false] at hp;rcases hp with rfl | rfl | rfl
  ·exact X2.out
  ·exact p0
  ·exact p1
 have HI0 := hd_ hI0;have c1 := (cell_of_row _ _ 0 _ _ (0, 0) p0).trans rfl;have c2 := (cell_of_row _ _ 0 _ _ (0, 0) p1).trans rfl;clear hRA hI0 hfx p0 p1 X1 X2 OR4 HO2 e2;refine wpIn_rangeFunc_ownF rfl (by omega) (gf := 123) (lb := #[.pointer (some ⟨gb + 1 + 1, 0, none⟩), .pointer (some ⟨gb + 1 + 1 + 1, 0, none⟩)]) rfl trivial (enters_of Tryz.func123 (by kernel_rfl) rfl)
  (wchunk_stops 5 (gb + 1 + 1) (gb + 1 + 1 + 1) _ n cap 4 (by omega) (by omega) HS.out.fits (by have := HNN.out; omega) w4 (by omega) (by omega) pb po (.inr rfl) c1 c2) (fun h k => h.trans k) (KeepsTwo.put (by omega) (by omega)) (Below.refl _ _) (fun _ => rfl)
  (fun pre W => BoxI w w.heap.size fix (gb + 1) 94 41 4 (pre.map fun x => pix l x.1).length (colRow (pre.map fun x => pix l x.1)) W)
  (fun _ _ _ => False)
  (BoxI.ownFrom (by omega) _ _)
  (fun _ _ _ _ _ hs _ _ => hs)
  HI0.out
  (fun x => { tmps := #[.agg #[.int .i64 W, .int .i64 H, .slice (some ⟨pb, po, none⟩) n cap], .pointer (some ⟨ib, 0, none⟩), .pointer none, .int .i64 0, .pointer (some ⟨gb + 1, 0, none⟩), chunkV pb po n 4 x.1, .agg #[.int .i64 W, .int .i64 H, .slice (some ⟨pb, po, none⟩) n cap], .bool true, .bool false, .pointer (some ⟨ib, 0, none⟩), .int .i64 W, .pointer (some ⟨ib, 1, none⟩), .int .i64 H, .int .i64 N, .slice (some ⟨gb, 0, none⟩) 0 N, .pointer (some ⟨ib, 2, none⟩), .slice (some ⟨pb, po, none⟩) n cap, .func (.func 123) #[] #[.pointer (some ⟨gb + 1 + 1, 0, none⟩), .pointer (some ⟨gb + 1 + 1 + 1, 0, none⟩)], chunkV pb po n 4 x.1, undef, undef, undef, undef, undef, undef, undef, undef, undef, undef, undef, undef, undef], defers := [] }) ?assign ?body ?done ?stop
 case assign =>
  intro l x W K hK;clear z2 SZ4;gi_wp2
  exact hK
 case body =>
  rintro lr pre ⟨xi, hxi⟩ W1 hI hlen;dsimp only;have HI := hd_ hI;have hxN : xi < N := by rw [<- HCH.out]; exact hxi
  have hpN : pre.length <= 65536 := by have := HCH.out; omega
  have hn4 := HNN.out;have hcv : chunkV pb po n 4 xi = .slice (some ⟨pb, po + 4 * xi, none⟩) 4 4 := by
   unfold chunkV;rw [show min 4 (n - xi * 4) = 4 by omega, Nat.mul_comm xi 4]
  obtain ⟨vo, hbo, hrow⟩ := hI.box;have HBO := hd_ hbo;have HROW := hd_ hrow;have HS1 := hd_ (HS.out.below (hI.below));have kb := (cell_of_row _ _ 0 _ _ (0, 0) hbo).trans (show _ = some vo from rfl);have HPK := hd_ (HS.out.u16s.pix xi);rw [hcv];clear hcv hI hbo hrow;gi_wp2
  refine round_region_any (by kernel_rfl) (by kernel_rfl) (by rintro ⟨_, _, h⟩; exact h) ?_;refine wpAny_laid_tails (D := fun i => ([19, 20, 21, 22] : List Nat).getD i 0)
   (R := fun i v w' => match i with
    | 0 => v = vo
    | 1 => v = .slice (some ⟨pb, po + 4 * xi, none⟩) 4 4
    | 2 => v = (pix l xi).val
    | 3 => NewCol W1.heap.size (pix l xi) v w'
    | _ => True)
   (S := fun a' w' => (a'.tmps[4]? = some (.pointer (some ⟨gb + 1, 0, none⟩)) /\ a'.tmps[5]? = some (.slice (some ⟨pb, po + 4 * xi, none⟩) 4 4)) /\ Below W1.heap.size W1 w')
   4 (by decide) (by kernel_rfl) (by kernel_rfl) (by kernel_rfl) (by kernel_rfl) (by kernel_rfl) (by kernel_rfl) ?_ ?_ ?_ ?_
  ·intro i v u u' h hb
   match i, h with
   | 0, h => exact h
   | 1, h => exact h
   | 2, h => exact h
   | 3, h => exact NewCol.below h hb
   | i + 4, _ => trivial
  ·intro a' u hb _ hold
   exact ⟨⟨hold 4 (by decide), hold 5 (by decide)⟩, hb⟩
  ·refine ⟨?_, od_move 5 _ rfl (fun a u h => h.1.2) (fun _ => rfl), ?_, ?_, trivial⟩
   ·intro a' u hS hd
    clear hd;have e := hS.1.1;have x0 := keep_cell hS.2 kb;go_simp
    exact ⟨_, rfl, rfl, Below.refl _ _⟩
   ·intro a' u hS hd
    obtain ⟨_, e0, rfl⟩ := hd 1 (by kernel_rfl);have f0 : a'.tmps[20]? = some _ := e0;clear e0;clear hd;go_simp
    refine (colour_any pb (po + 4 * xi) 4 4 _ u ((HS1.out.below hS.2).part (by omega)) (by omega)).mono ?_;rintro e u' ⟨rfl, hbu⟩;exact ⟨_, rfl, congrArg C4.val (pix_part l xi), hbu⟩
   ·intro a' u hS hd
    obtain ⟨_, e0, rfl⟩ := hd 2 (by kernel_rfl);have f0 : a'.tmps[21]? = some _ := e0;clear e0;clear hd;obtain ⟨i0, hi, hz0, hz1, hz2⟩ := info_parts infoCol;have hsz := hS.2.size;refine wp_slice 94 41 1 _ rfl [(0, (pix l xi).val)] (by simp [Act.eval, f0]) #[.int .u16 (pix l xi).r, .int .u16 (pix l xi).g, .int .u16 (pix l xi).b, .int .u16 (pix l xi).a] i0 _ Tryz.underlying94 hi hz0 (by rw [hz1]; decide) (by rw [hz1]; decide) (by rw [hz1]; exact fill_col _) ⟨_, rfl, ⟨_, rfl, hsz, heap_alloc_new _ _⟩, (Below.refl _ _).alloc (Nat.le_refl _) _⟩
  ·intro a' u h
   obtain ⟨v19, e19, h19⟩ := h.new 0 (by decide) (by decide +kernel);replace h19 : v19 = vo := h19;rw [h19] at e19;clear h19;obtain ⟨_, e22, bc, rfl, hbc, hcc⟩ := h.new 3 (by decide) (by decide +kernel);replace e19 : a'.tmps[19]? = some vo := e19;replace e22 : a'.tmps[22]? = some (.slice (some ⟨bc, 0, none⟩) 1 1) := e22;have e4 : a'.tmps[4]? = some (.pointer (some ⟨gb + 1, 0, none⟩)) := h.old 4 (by decide);have hsz : a'.tmps.size = 32 := h.size;have hdf : a'.defers = [] := h.defers;have hbu := h.below;clear h;obtain ⟨tmps, defers⟩ := a';simp only at hsz hdf e19 e22 e4;subst hdf;obtain ⟨ll⟩ := tmps
   match ll, hsz with
   | z0 :: z1 :: z2' :: z3 :: z4 :: z5 :: z6 :: z7 :: z8 :: z9 :: z10 :: z11 :: z12 :: z13 :: z14 :: z15 :: z16 :: z17 :: z18 :: z19 :: z20 :: z21 :: z22 :: z23 :: z24 :: z25 :: z26 :: z27 :: z28 :: z29 :: z30 :: z31 :: [], _ =>
    obtain rfl : z4 = .pointer (some ⟨gb + 1, 0, none⟩) := (by simpa using e4);obtain rfl : vo = z19 := (by simpa using e19.symm);obtain rfl : z22 = .slice (some ⟨bc, 0, none⟩) 1 1 := (by simpa using e22);clear e4 e19 e22;have ho : OwnC w.heap.size u vo (pre.map fun x => pix l x.1) := ownsRow_below HROW.out hbu;have HO := hd_ ho;have hszw : w.heap.size <= u.heap.size := Nat.le_trans HI.out.below.size hbu.size;have HBU := hd_ hbu;clear ho hbu;refine wpList_of_append rfl (.tmp 19) (.tmp 22) 94 94 rfl (run_append_col _ _ w.heap.size vo (pre.map fun x => pix l x.1) (pix l xi) HO.out (by rw [List.length_map]; omega) hszw bc hcc) ?_;rintro v9 w9 ⟨ho9, hg9, hv9⟩;obtain ⟨b9, c9, e9, _⟩ := own_form ho9 (by simp);rw [show (List.map (fun x => pix l x.1) pre ++ [pix l xi]).length = pre.length + 1 by simp] at e9;subst e9;have HIS := hd_ (HI.out.app HRA.out HBO.out HROW.out HBU.out hg9 ho9);have ko := HIS.out.1;have kk := (cell_of_row _ _ 0 _ _ (0, 0) ko).trans (show _ = some vo from rfl);have kf := frozen_of_row _ _ 0 _ _ ko;clear ho9 hg9 hv9 ko;go_wp2_with fail
    have HB9 := HIS.out.2.1;have hf1 : (gb + 1 + 1, (#[.slice (some ⟨pb, po, none⟩) n cap] : Array Value), 34) ∈ fix := (by rw [HFX.out]; simp);have hf2 : (gb + 1 + 1 + 1, (#[.int .i64 4] : Array Value), 3) ∈ fix := (by rw [HFX.out]; simp);refine ⟨HIS.out.2.2, ⟨(HB9.fix _ hf1).trans (HI.out.fix _ hf1).symm, (HB9.fix _ hf2).trans (HI.out.fix _ hf2).symm⟩, ?_⟩;dsimp only;rw [List.map_append];exact HB9
 case done =>
  rintro D ys W1 hD ⟨hS1, hS2⟩ hI hK;have hyl : ys.length = N := by rw [hS1, HCH.out]
  have hDw : w.heap.size <= D := by omega
  have hmap : (ys.map fun x => pix l x.1) = cols l N := by
   unfold cols;rw [<- hyl, <- show ys.map (·.1) = List.range ys.length from hS2, List.map_map];rfl
  rw [hmap] at hI;obtain ⟨vo, hbo, hrow⟩ := hI.box;have hcl : (cols l N).length = N := by simp [cols]
  obtain ⟨b9, c9, e9, _⟩ := own_form hrow (by omega);rw [hcl] at e9;subst e9;have HBO := hd_ hbo;have HROW := hd_ hrow;have HK := hd_ hK;have HB := hd_ hI.below;have hf0 : (ib, (#[.int .i64 W, .int .i64 H, .slice (some ⟨pb, po, none⟩) n cap] : Array Value), 36) ∈ fix := by rw [HFX.out]; simp
  have hi := hI.fix _ hf0;have k0 := (cr_ _ 0 hi (Value.int .i64 W) rfl);have k1 := (cr_ _ 1 hi (Value.int .i64 H) rfl);have k2 := (cr_ _ 0 hbo (Value.slice (some ⟨b9, 0, none⟩) N c9) rfl);have CG := hd_ (gridOf_any W H HSD.out b9 0 c9 (cols l N) W1 (by obtain ⟨a, c, e, _, _, hr, _⟩ := OwnC.rd (t := cols l N) hrow; injection e with e1 e2 e3; subst e1; exact hr) (by rw [hcl]; exact HNW.out));rw [hcl] at CG;clear hI hbo hrow hK hS1 hS2 hyl hmap hi z2 SZ4 c1 c2;go_wp2_with fail
  refine CG.out.mono ?_;rintro e w5 ⟨g5, cb5, cc5, rfl, hga, hb5⟩;have HGA := hd_ hga;have HB5 := hd_ hb5;clear hga hb5 k0 k1 k2;go_wp2_with fail
  have hK5 := (HB5.out.block _ (block_lt HK.out)).trans HK.out;refine ⟨by simp, .inl ⟨_, _, rfl, run_takeDeferred hK5, ?_⟩⟩;have hg5 := grownBy_putObj' w5 D (.deferred none);have hr5 : ∀ r, some D = some r -> ∃ o : Obj, w5.heap[r]? = some o /\ o.isCells = false := fun r e => by cases e; exact ⟨_, hK5, rfl⟩
  have hlo5 := HB.out.size;exact ⟨_, results_tmp2 rfl _ _ _, g5, cb5, cc5, rfl, ⟨Nat.le_trans hlo5 HGA.out.lies, own_heap hg5 hr5 HGA.out.head, World.ownsRow.mono (own_row hg5 hr5 HGA.out.cells) hlo5⟩, take_deferred_below hDw (Nat.le_refl _) (HB.out.trans (HB5.out.mono hlo5)) _⟩
 case stop =>
  rintro D c pre W1 _ _ h _;exact h.elim
end Go.Proofs.YthpckmcgbmfmcaaGreatDoor
namespace Go.Proofs.YthpckmcgbmfmcaaGreatDoor
open Go.RowKit Go.Sort Go.Maps
theorem ne_of_types {w : World} {i j : Nat} {a b : Array Value} {t u : TypeId} {z y : Nat × Nat} (h : w.heap[i]? = some (.cells a t z)) (k : w.heap[j]? = some (.cells b u y)) (ht : t ≠ u) : i ≠ j := by
 intro e;subst e;rw [h] at k;injection k with k
 injection k with _ k _
 exact ht k
structure lz.Env (base : Nat) (w : World) (k : lz.K) (up : Bool) (g wb db nb kb : Nat) (L : List Bool) (v : Value) (width next : Nat) : Prop where
 wr : bt.Wr base w g up L v
 wbox : w.heap[wb]? = some (.cells #[.pointer (some ⟨g, 0, none⟩)] 109 (0, 0))
 dbox : w.heap[db]? = some (.cells #[.int .i64 (width : Nat)] 3 (0, 0))
 nbox : w.heap[nb]? = some (.cells #[.int .i64 (next : Nat)] 3 (0, 0))
 kbox : w.heap[kb]? = some (.cells #[.int .i64 (k.clear : Nat), .int .i64 (k.width : Nat), .bool up, .int .i64 (k.early : Nat)] 71 (0, 0))
 apart : db ≠ nb
 dlies : base <= db
 nlies : base <= nb
structure lz.Fr (base g db nb : Nat) (w w' : World) : Prop where
 below : Below base w w'
 others : ∀ j o, w.heap[j]? = some o -> j ≠ g -> j ≠ db -> j ≠ nb -> (∀ c fz, o ≠ .cells c 5 fz) -> w'.heap[j]? = some o
theorem lz.Fr.trans {base g db nb : Nat} {a b c : World} (h : lz.Fr base g db nb a b) (k : lz.Fr base g db nb b c) : lz.Fr base g db nb a c :=
 ⟨h.below.trans k.below, fun j o h0 h1 h2 h3 h4 => k.others j o (h.others j o h0 h1 h2 h3 h4) h1 h2 h3 h4⟩
theorem lz.fr_of {base g db nb : Nat} {a b : World} (h : bt.Fr base g a b) : lz.Fr base g db nb a b :=
 ⟨h.below, fun j o h0 h1 _ _ h4 => h.others j o h0 (by intro e; exact h1 (Option.some.inj e)) h4⟩
theorem lz.fr_set {base g db nb b : Nat} (w : World) (hb : base <= b) (hn : b = db \/ b = nb) (u : Value) : lz.Fr base g db nb w (w.setCell ⟨b, 0, none⟩ u) := by
 refine ⟨(Below.refl _ _).setCell hb u, fun j o h0 _ h2 h3 _ => ?_⟩;rw [Below.heap_setCell _ _ _ _ (by rcases hn with e | e <;> rw [e] <;> assumption)];exact h0
theorem lz.Env.step {base : Nat} {w w' : World} {k : lz.K} {up : Bool} {g wb db nb kb : Nat} {L L' : List Bool} {v v' : Value} {width next : Nat} (h : lz.Env base w k up g wb db nb kb L v width next)
  (hw : bt.Wr base w' g up L' v') (hf : bt.Fr base g w w') : lz.Env base w' k up g wb db nb kb L' v' width next := by
 have ne : ∀ {i : Nat} {a : Array Value} {t : TypeId} {z : Nat × Nat}, w.heap[i]? = some (.cells a t z) -> t ≠ 180 -> t ≠ 5 -> w'.heap[i]? = some (.cells a t z) := by
  intro i a t z h1 h2 h3;refine hf.others i _ h1 (by intro e; exact ne_of_types h1 h.wr.head h2 (Option.some.inj e)) ?_;intro c fz e;injection e with _ e _
  exact h3 e
 exact ⟨hw, ne h.wbox (by decide) (by decide), ne h.dbox (by decide) (by decide), ne h.nbox (by decide) (by decide), ne h.kbox (by decide) (by decide), h.apart, h.dlies, h.nlies⟩
theorem lz.wr_set {base : Nat} {w : World} {up : Bool} {g b : Nat} {L : List Bool} {v : Value} (h : bt.Wr base w g up L v) {a : Array Value} (hb : w.heap[b]? = some (.cells a 3 (0, 0))) (u : Value) : bt.Wr base (w.setCell ⟨b, 0, none⟩ u) g up L v := by
 refine ⟨h.lies, ?_, ownsRow_setCell_other h.row (a := ⟨b, 0, none⟩) ?_ u⟩
 ·rw [Below.heap_setCell _ _ _ _ (ne_of_types h.head hb (by decide))]
  exact h.head
 ·rcases row_apart h.row hb (by decide) with e | e
  ·rw [e]; simp
  ·exact e
theorem lz.Env.setNext {base : Nat} {w : World} {k : lz.K} {up : Bool} {g wb db nb kb : Nat} {L : List Bool} {v : Value} {width next : Nat} (h : lz.Env base w k up g wb db nb kb L v width next) (m : Nat) :
  lz.Env base (w.setCell ⟨nb, 0, none⟩ (.int .i64 (m : Nat))) k up g wb db nb kb L v width m := by
 refine ⟨lz.wr_set h.wr h.nbox _, ?_, ?_, heap_setCell_same w nb 0 _ _ _ h.nbox, ?_, h.apart, h.dlies, h.nlies⟩
 ·rw [Below.heap_setCell _ _ _ _ (ne_of_types h.wbox h.nbox (by decide))]; exact h.wbox
 ·rw [Below.heap_setCell _ _ _ _ h.apart]; exact h.dbox
 ·rw [Below.heap_setCell _ _ _ _ (ne_of_types h.kbox h.nbox (by decide))]; exact h.kbox
theorem lz.Env.setWidth {base : Nat} {w : World} {k : lz.K} {up : Bool} {g wb db nb kb : Nat} {L : List Bool} {v : Value} {width next : Nat} (h : lz.Env base w k up g wb db nb kb L v width next) (m : Nat) :
  lz.Env base (w.setCell ⟨db, 0, none⟩ (.int .i64 (m : Nat))) k up g wb db nb kb L v m next := by
 refine ⟨lz.wr_set h.wr h.dbox _, ?_, heap_setCell_same w db 0 _ _ _ h.dbox, ?_, ?_, h.apart, h.dlies, h.nlies⟩
 ·rw [Below.heap_setCell _ _ _ _ (ne_of_types h.wbox h.dbox (by decide))]; exact h.wbox
 ·rw [Below.heap_setCell _ _ _ _ (Ne.symm h.apart)]; exact h.nbox
 ·rw [Below.heap_setCell _ _ _ _ (ne_of_types h.kbox h.dbox (by decide))]; exact h.kbox
theorem lz.Env.below {base : Nat} {w w' : World} {k : lz.K} {up : Bool} {g wb db nb kb : Nat} {L : List Bool} {v : Value} {width next : Nat} (h : lz.Env base w k up g wb db nb kb L v width next) (hb : Below w.heap.size w w') (hs : base <= w.heap.size) :
  lz.Env base w' k up g wb db nb kb L v width next :=
 h.step (h.wr.below hb) ⟨hb.mono hs, fun _ _ hk _ _ => (hb.block _ (block_lt hk)).trans hk⟩
theorem lz.fr_below {base g db nb : Nat} {w w' : World} (hb : Below w.heap.size w w') (hs : base <= w.heap.size) : lz.Fr base g db nb w w' := ⟨hb.mono hs, fun _ _ hk _ _ _ _ => (hb.block _ (block_lt hk)).trans hk⟩
def lz.PutPost (base : Nat) (k : lz.K) (up : Bool) (g wb db nb kb : Nat) (L : List Bool) (width next : Nat) (w : World) (e : Ending) (w' : World) : Prop :=
 e = .returned (.tuple #[]) /\ ∃ v', lz.Env base w' k up g wb db nb kb L v' width next /\ lz.Fr base g db nb w w'
theorem packput_old {base : Nat} {w : World} {k : lz.K} {up : Bool} {g wb db nb kb : Nat} {L : List Bool} {v : Value} {width next : Nat} (h : lz.Env base w k up g wb db nb kb L v width next) (hb : base <= w.heap.size)
  (c : Nat) (hc : c < 4294967296) (hw : width <= 12) (hL : L.length + 32 <= 1099511627776) :
  Calls Tryz.prog 75 #[.int .i64 c, .bool false, .pointer (some ⟨wb, 0, none⟩), .pointer (some ⟨db, 0, none⟩), .pointer (some ⟨nb, 0, none⟩), .pointer (some ⟨kb, 0, none⟩)] w (lz.PutPost base k up g wb db nb kb (L ++ bt.bitsOf up c width) width next w) := by
 have c0 := (cr_ w 0 h.wbox (Value.pointer (some ⟨g, 0, none⟩)) rfl);have c1 := (cr_ w 0 h.dbox (Value.int .i64 (width : Nat)) rfl);have CP := hd_ (put_any h.wr hb c width hc (by omega) hL);have HE := hd_ h;clear h;go_enter Tryz.func75, Tryz.ntmps75
 go_wp2_with fail
 refine CP.out.mono ?_;rintro e w2 ⟨rfl, v2, hw2, hf2⟩;have HE2 := hd_ (HE.out.step hw2 hf2);have HF2 := hd_ hf2;clear hw2 hf2 CP c0 c1;go_wp2_with fail
 refine bodyPost_end (results_none rfl _ _ _) rfl ?_;exact ⟨rfl, v2, HE2.out, lz.fr_of HF2.out⟩
theorem packput_new {base : Nat} {w : World} {k : lz.K} {up : Bool} {g wb db nb kb : Nat} {L : List Bool} {v : Value} {width next : Nat} (h : lz.Env base w k up g wb db nb kb L v width next) (hb : base <= w.heap.size)
  (c : Nat) (hc : c < 4294967296) (hw : width <= 12) (hn : next <= 4096) (hke : k.early <= 1) (hL : L.length + 32 <= 1099511627776) :
  Calls Tryz.prog 75 #[.int .i64 c, .bool true, .pointer (some ⟨wb, 0, none⟩), .pointer (some ⟨db, 0, none⟩), .pointer (some ⟨nb, 0, none⟩), .pointer (some ⟨kb, 0, none⟩)] w (lz.PutPost base k up g wb db nb kb (L ++ bt.bitsOf up c width) (lz.bump k (next + 1) width) (next + 1) w) := by
 have c0 := (cr_ w 0 h.wbox (Value.pointer (some ⟨g, 0, none⟩)) rfl);have c1 := (cr_ w 0 h.dbox (Value.int .i64 (width : Nat)) rfl);have CP := hd_ (put_any h.wr hb c width hc (by omega) hL);have HE := hd_ h;clear h;go_enter Tryz.func75, Tryz.ntmps75
 go_wp2_with fail
 refine CP.out.mono ?_;rintro e w2 ⟨rfl, v2, hw2, hf2⟩;have HE2 := hd_ (HE.out.step hw2 hf2);have HF2 := hd_ hf2;clear hw2 hf2 CP c0 c1;have c2 := (cr_ w2 0 HE2.out.nbox (Value.int .i64 (next : Nat)) rfl);have f2 := frozen_of_row w2 _ 0 _ _ HE2.out.nbox;go_wp2_with fail
 obtain ⟨N, hN⟩ : ∃ N, next + 1 = N := ⟨_, rfl⟩;have en : ((next : Int) + 1) = (N : Int) := by omega
 rw [en, hN];have HE3 := hd_ (HE2.out.setNext N);have HF3 := hd_ ((lz.fr_of (db := db) (nb := nb) HF2.out).trans (lz.fr_set w2 HE2.out.nlies (.inr rfl) (.int .i64 (N : Int))));have HNN := hd_ hN;clear c2 f2 en;generalize w2.setCell ⟨nb, 0, none⟩ (.int .i64 (N : Int)) = w3 at *;have c3 := (cr_ w3 0 HE3.out.nbox (Value.int .i64 (N : Int)) rfl);have c4 := (cr_ w3 0 HE3.out.dbox (Value.int .i64 (width : Nat)) rfl);have c5 := (cr_ w3 3 HE3.out.kbox (Value.int .i64 (k.early : Nat)) rfl);clear hN;have hpw : 2 ^ width <= 2 ^ 12 := Nat.pow_le_pow_right (by decide) hw;have hpw1 : 1 <= 2 ^ width := Nat.one_le_two_pow;obtain ⟨p2, hp2⟩ : ∃ p2, 2 ^ width = p2 := ⟨_, rfl⟩;have p1 : IntKind.i64.wrap (2 ^ width) = (p2 : Int) := by
  have e1 : ((2 : Int) ^ width) = (p2 : Int) := by rw [<- hp2]; simp
  rw [e1];exact i64i (by omega)
 have hN4 : N <= 4097 := by have := HNN.out; omega
 obtain ⟨z, hz⟩ : ∃ z, p2 - k.early = z := ⟨_, rfl⟩;have p3 : IntKind.i64.wrap ((p2 : Int) - (k.early : Int)) = (z : Int) := i64o (by omega) (by omega);have HB : Hid (lz.bump k N width = if N = z /\ width < 12 then width + 1 else width) := hd_ (by
  unfold lz.bump;rw [hp2];have e : (N + k.early = p2) ↔ (N = z) := by omega
  simp only [e])
 clear hpw hpw1 hp2 hz;by_cases hnz : N = z
 ·have gz : ((N : Int) == (z : Int)) = true := by simp [hnz]
  by_cases h12 : width < 12
  ·have g12 : decide ((width : Int) < 12) = true := decide_eq_true (by omega)
   have hb' : lz.bump k N width = width + 1 := (by rw [HB.out, if_pos ⟨hnz, h12⟩]);have HBB := hd_ hb';clear hnz hb' HB;go_quiet (fail)
   have f4 := frozen_of_row w3 _ 0 _ _ HE3.out.dbox;go_wp2_with fail
   refine bodyPost_end (results_none rfl _ _ _) rfl ?_;have hs3 : base <= w3.heap.size := Nat.le_trans hb HF3.out.below.size;have ew : ((width : Int) + 1) = ((width + 1 : Nat) : Int) := (by omega);rw [HNN.out, HBB.out, ew];have hq := below_drewN (Below.refl w3.heap.size w3) nq;exact ⟨rfl, v2, (HE3.out.below hq hs3).setWidth (width + 1), (HF3.out.trans (lz.fr_below hq hs3)).trans (lz.fr_set _ HE3.out.dlies (.inl rfl) _)⟩
  ·have g12 : decide ((width : Int) < 12) = false := decide_eq_false (by omega)
   have hb' : lz.bump k N width = width := (by rw [HB.out, if_neg (by omega)]);have HBB := hd_ hb';clear hnz hb' HB h12;go_quiet (fail)
   go_wp2_with fail
   refine bodyPost_end (results_none rfl _ _ _) rfl ?_;have hs3 : base <= w3.heap.size := Nat.le_trans hb HF3.out.below.size;rw [HNN.out, HBB.out];have hq := below_drewN (Below.refl w3.heap.size w3) nq;exact ⟨rfl, v2, HE3.out.below hq hs3, HF3.out.trans (lz.fr_below hq hs3)⟩
 ·have gz : ((N : Int) == (z : Int)) = false := by simp; omega
  have hb' : lz.bump k N width = width := by rw [HB.out, if_neg (by omega)]
  have HBB := hd_ hb';clear hnz hb' HB;go_quiet (fail)
  go_wp2_with fail
  refine bodyPost_end (results_none rfl _ _ _) rfl ?_;have hs3 : base <= w3.heap.size := Nat.le_trans hb HF3.out.below.size;rw [HNN.out, HBB.out];have hq := below_drewN (Below.refl w3.heap.size w3) nq;exact ⟨rfl, v2, HE3.out.below hq hs3, HF3.out.trans (lz.fr_below hq hs3)⟩
end Go.Proofs.YthpckmcgbmfmcaaGreatDoor
