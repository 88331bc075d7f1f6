/- Texts of this claim, joined. -/
import Derived.Test.YthpckmcgbmfmcaaGreatDoorM15
set_option maxRecDepth 100000
set_option maxHeartbeats 12800000
namespace Go.Proofs.YthpckmcgbmfmcaaGreatDoor
open Go.RowKit Go.Sort
attribute [local go_sem] Oper.semAt_some
def DecPost (w : World) (e : Ending) (w' : World) : Prop :=
 ∃ pb pc, e = .returned (.tuple #[.agg #[.int .i64 1, .int .i64 1, .slice (some ⟨pb, 0, none⟩) 4 pc], .int .i64 0]) /\ w'.ownsRow w.heap.size 39 1 (.slice (some ⟨pb, 0, none⟩) 4 pc) 4 (List.replicate 4 (.int .u16 65535)) /\ Below w.heap.size w w'
def lit.NewImg (base : Nat) (v : Value) (w : World) : Prop := ∃ ib, v = .pointer (some ⟨ib, 0, none⟩) /\ base <= ib /\ w.heap[ib]? = some (.cells #[.int .i64 0, .int .i64 0, .slice none 0 0] 36 (0, 0))
theorem lit.NewImg.below {base : Nat} {v : Value} {w w' : World} (h : lit.NewImg base v w) (hb : Below w.heap.size w w') : lit.NewImg base v w' := by
 obtain ⟨g, h1, h2, h3⟩ := h;exact ⟨g, h1, h2, (hb.block _ (block_lt h3)).trans h3⟩
def lit.OneI (v : Value) (w : World) : Prop := ∃ lb lc, v = .slice (some ⟨lb, 0, none⟩) 1 lc /\ w.cell? ⟨lb, 0, none⟩ = some (.int .i64 255) /\ 1 <= lc
theorem lit.OneI.below {v : Value} {w w' : World} (h : lit.OneI v w) (hb : Below w.heap.size w w') : lit.OneI v w' := by
 obtain ⟨lb, lc, h1, h2, h3⟩ := h;exact ⟨lb, lc, h1, keep_cell hb h2, h3⟩
def lit.PairI (v : Value) (w : World) : Prop := ∃ u, v = .tuple #[u, .bool true] /\ lit.OneI u w
theorem lit.PairI.below {v : Value} {w w' : World} (h : lit.PairI v w) (hb : Below w.heap.size w w') : lit.PairI v w' := by
 obtain ⟨u, h1, h2⟩ := h;exact ⟨u, h1, h2.below hb⟩
structure lit.PixI (base g b cap lb ib rb : Nat) (w : World) (k : Nat) (wr : World) : Prop where
 box : ∃ vo, wr.heap[ib]? = some (.cells #[.int .i64 1, .int .i64 1, vo] 36 (0, 0)) /\ wr.ownsRow base 39 1 vo k (List.replicate k (.int .u16 65535))
 read : lit.At wr g b 12 cap lit.pgm 10 5 1 1 255
 one : wr.cell? ⟨lb, 0, none⟩ = some (.int .i64 255)
 out : wr.heap[rb]? = some (.cells #[.int .i64 0, .int .i64 0, .slice none 0 0] 36 (0, 0))
 low : Below rb w wr
 size : base <= wr.heap.size
theorem lit.PixI.below {base g b cap lb ib rb : Nat} {w : World} {k : Nat} {wr u : World} (hr : rb <= base) (h : lit.PixI base g b cap lb ib rb w k wr) (hb : Below wr.heap.size wr u) : lit.PixI base g b cap lb ib rb w k u := by
 obtain ⟨vo, h1, h2⟩ := h.box;exact ⟨⟨vo, (hb.block _ (block_lt h1)).trans h1, ownsRow_below h2 hb⟩, h.read.below hb, keep_cell hb h.one, (hb.block _ (block_lt h.out)).trans h.out, h.low.trans (hb.mono (Nat.le_trans hr h.size)), Nat.le_trans h.size hb.size⟩
theorem lit.PixI.app {base g b cap lb ib rb : Nat} {w : World} {k : Nat} {wr u w2 : World} {vo v' : Value} (hg : g < base) (hb : b < base) (hl : lb < base) (hr : rb < base) (hi : base <= ib)
  (h : lit.PixI base g b cap lb ib rb w k wr) (h1 : wr.heap[ib]? = some (.cells #[.int .i64 1, .int .i64 1, vo] 36 (0, 0))) (h2 : wr.ownsRow base 39 1 vo k (List.replicate k (.int .u16 65535)))
  (hu : Below wr.heap.size wr u) (hgr : u.grownBy w2 vo.ownBlock) (hown : w2.ownsRow base 39 1 v' (k + 1) (List.replicate k (.int .u16 65535) ++ [.int .u16 65535])) :
  w2.heap[ib]? = some (.cells #[.int .i64 1, .int .i64 1, vo] 36 (0, 0)) /\ lit.PixI base g b cap lb ib rb w (k + 1) (w2.setCell ⟨ib, 2, none⟩ v') := by
 have c1 : w2.heap[ib]? = some (.cells #[.int .i64 1, .int .i64 1, vo] 36 (0, 0)) := grown_block hgr ((hu.block ib (block_lt h1)).trans h1) (own_ne h2 h1 (by decide));have k1 := grownBy_setCell3 w2 ib 2 v';have hlt := World.ownsRow.lt h2;have hU := lit.PixI.below (Nat.le_of_lt hr) h hu;have ne : ∀ j, j < base -> some j ≠ vo.ownBlock := fun j hj e => by have := (hlt j e.symm).1; omega
 have ne2 : ∀ j, j < base -> some j ≠ some ib := fun j hj e => by have := Option.some.inj e; omega
 refine ⟨c1, ⟨v', heap_setCell_same w2 ib 2 _ _ v' c1, ?_⟩, (hU.read.grown hgr (ne g hg) (ne b hb)).grown k1 (ne2 g hg) (ne2 b hb), ?_, grown_block k1 (grown_block hgr hU.out (ne rb hr)) (ne2 rb hr), ?_, Nat.le_trans hU.size (Nat.le_trans hgr.size k1.size)⟩
 ·rw [List.replicate_succ']
  exact World.ownsRow.kept hown k1 (.inr fun e' => own_ne hown c1 (by decide) e'.symm)
 ·have e1 := (World.cell?_of_block (hgr.block lb (block_lt_of_cell hU.one) (ne lb hl))).trans hU.one
  exact (World.cell?_of_block (k1.block lb (block_lt_of_cell e1) (ne2 lb hl))).trans e1
 ·refine (hU.low.grown hgr (Nat.le_trans (Nat.le_of_lt hr) hU.size) fun j e => ?_).grown k1 (Nat.le_trans (Nat.le_of_lt hr) (Nat.le_trans hU.size hgr.size)) fun j e => ?_
  ·have := (hlt j e).1
   omega
  ·cases e
   omega
theorem lit.decode_any (b cap : Nat) (w : World) (h : Sl .u8 w (some ⟨b, 0, none⟩) 12 cap lit.pgm) :
  Calls Tryz.prog 18 #[.slice (some ⟨b, 0, none⟩) 12 cap, .int .i64 1] w (DecPost w) := by
 have HS := hd_ h;have hfit := h.fits;have hbl : b < w.heap.size := by
  obtain ⟨_, _, ee, hcell⟩ := h.cells (by omega);cases ee;exact block_lt_of_cell (hcell 0 (by omega))
 clear h;go_enter Tryz.func18, Tryz.ntmps18
 go_upto_region 4 with (fail)
 obtain ⟨q0, q1⟩ := heap2 w (.cells #[.int .i64 0, .int .i64 0, .slice none 0 0] 36) (.cells #[.slice (some ⟨b, 0, none⟩) 12 cap, .int .i64 0, .int .i64 0, .int .i64 0, .int .i64 0, .int .i64 0] 101);have b1 : Below w.heap.size w ((w.alloc (.cells #[.int .i64 0, .int .i64 0, .slice none 0 0] 36)).alloc (.cells #[.slice (some ⟨b, 0, none⟩) 12 cap, .int .i64 0, .int .i64 0, .int .i64 0, .int .i64 0, .int .i64 0] 101)) := ((Below.refl w.heap.size w).alloc (Nat.le_refl _) _).alloc (by simp) _;have s1 : ((w.alloc (.cells #[.int .i64 0, .int .i64 0, .slice none 0 0] 36)).alloc (.cells #[.slice (some ⟨b, 0, none⟩) 12 cap, .int .i64 0, .int .i64 0, .int .i64 0, .int .i64 0, .int .i64 0] 101)).heap.size = w.heap.size + 1 + 1 := by simp
 generalize (w.alloc (.cells #[.int .i64 0, .int .i64 0, .slice none 0 0] 36)).alloc (.cells #[.slice (some ⟨b, 0, none⟩) 12 cap, .int .i64 0, .int .i64 0, .int .i64 0, .int .i64 0, .int .i64 0] 101) = w1 at *;obtain ⟨rb, hrb⟩ : ∃ x, w.heap.size = x := ⟨_, rfl⟩;have HRB := hd_ hrb;rw [hrb] at q0 q1 b1 s1 hbl ⊢;obtain ⟨g, hg⟩ : ∃ x, rb + 1 = x := ⟨_, rfl⟩;have HG := hd_ hg;rw [hg] at q1 ⊢;have hat : lit.At w1 g b 12 cap lit.pgm 0 0 0 0 0 := ⟨q1, HS.out.below (b1.mono (Nat.le_of_eq hrb)), by omega⟩;have CH := hd_ (head_pgm g b cap w1 hat);have B1 := hd_ b1;have Q0 := hd_ q0;have S1 := hd_ s1;clear q0 q1 b1 s1 hrb hg hat HS;go_wp2_with fail
 refine CH.out.mono ?_;rintro e w2 ⟨rfl, h2, g2⟩;have hrg : rb ≠ g := by have := HG.out; omega
 have q2 := grown_block g2 Q0.out (by intro e; exact hrg (Option.some.inj e));have b2 : Below rb w w2 := B1.out.grown g2 (by have := S1.out; omega) (fun k e => by cases e; have := HG.out; omega);have s2 : rb + 1 + 1 <= w2.heap.size := by have := g2.size; have := S1.out; omega
 have H2 := hd_ h2;have Q2 := hd_ q2;have B2 := hd_ b2;have S2 := hd_ s2;have a0 := (cr_ w2 0 h2.head (Value.slice (some ⟨b, 0, none⟩) 12 cap) rfl);have a2 := (cr_ w2 2 h2.head (Value.int .i64 5) rfl);have a3 := (cr_ w2 3 h2.head (Value.int .i64 1) rfl);have a4 := (cr_ w2 4 h2.head (Value.int .i64 1) rfl);clear h2 g2 q2 b2 s2 CH B1 Q0 S1;go_upto_region 6 with (fail)
 go_quiet (exact Calls.quiet_of_same ((great_one _).mono fun _ _ h => ⟨h.1, h.2.symm⟩))
 have b3 := below_drewN (Below.refl w2.heap.size w2) nq;have H3 := hd_ (H2.out.below b3);have B3 := hd_ (B2.out.trans (b3.mono (by have := S2.out; omega)));have Q3 := hd_ ((b3.block _ (block_lt Q2.out)).trans Q2.out);have S3 := hd_ (Nat.le_trans S2.out b3.size);have c0 := keep_cell b3 a0;have c2 := keep_cell b3 a2;have c3 := keep_cell b3 a3;have c4 := keep_cell b3 a4;generalize w2.drewN nq = w3 at *;clear b3 a0 a2 a3 a4 H2 B2 Q2 S2;have hr : ((5 : Int).tmod 3 == 0) = false := by decide
 go_upto_region 11 with (fail)
 refine wp_region_laidAny (D := fun i => ([45, 46, 47, 48, 49, 50, 51, 52, 53, 54, 55, 56, 57, 44, 58, 59, 8, 9] : List Nat).getD i 0)
  (R := fun rj v w' => match rj with
   | 0 => v = .pointer (some ⟨g, 0, none⟩)
   | 1 => v = .int .i64 1
   | 2 => v = .pointer (some ⟨g, 0, none⟩)
   | 3 => v = .pointer (some ⟨g, 0, none⟩)
   | 4 => v = .pointer (some ⟨g, 3, none⟩)
   | 5 => v = .int .i64 1
   | 6 => v = .int .i64 1
   | 7 => v = .pointer (some ⟨g, 0, none⟩)
   | 8 => v = .pointer (some ⟨g, 0, none⟩)
   | 9 => v = .pointer (some ⟨g, 4, none⟩)
   | 10 => v = .int .i64 1
   | 11 => v = .int .i64 1
   | 12 => lit.PairI v w'
   | 13 => lit.PairI v w'
   | 14 => lit.OneI v w'
   | 15 => v = .bool true
   | 16 => lit.OneI v w'
   | 17 => v = .bool true
   | _ => True)
  (S := fun a' w' => (a'.tmps[6]? = some (.pointer (some ⟨g, 0, none⟩)) /\ a'.tmps[7]? = some (.int .i64 1)) /\ Below w3.heap.size w3 w')
  (by kernel_rfl) (by decide +kernel) (by kernel_rfl) ?_ ?_ ?_ ?_
 ·intro i v u u' h hb
  match i, h with
  | 0, h => exact h
  | 1, h => exact h
  | 2, h => exact h
  | 3, h => exact h
  | 4, h => exact h
  | 5, h => exact h
  | 6, h => exact h
  | 7, h => exact h
  | 8, h => exact h
  | 9, h => exact h
  | 10, h => exact h
  | 11, h => exact h
  | 12, h => exact lit.PairI.below h hb
  | 13, h => exact lit.PairI.below h hb
  | 14, h => exact lit.OneI.below h hb
  | 15, h => exact h
  | 16, h => exact lit.OneI.below h hb
  | 17, h => exact h
  | i + 18, _ => trivial
 ·intro a' u hb _ hold
  exact ⟨⟨hold 6 (by decide), hold 7 (by decide)⟩, hb⟩
 ·refine ⟨?_, ?_, ?_, ?_, ?_, ?_, ?_, ?_, ?_, ?_, ?_, ?_, ?_, ?_, ?_, ?_, ?_, ?_, trivial⟩
  ·intro a' u hS hd
   clear hd;have g0 := hS.1.1;go_simp
   exact ⟨_, rfl, rfl, Below.refl _ _⟩
  ·intro a' u hS hd
   clear hd;have g0 := hS.1.2;go_simp
   exact ⟨_, rfl, rfl, Below.refl _ _⟩
  ·intro a' u hS hd
   clear hd;have g0 := hS.1.1;go_simp
   exact ⟨_, rfl, rfl, Below.refl _ _⟩
  ·intro a' u hS hd
   obtain ⟨_, e0, rfl⟩ := hd 2 (by kernel_rfl);have f0 : a'.tmps[47]? = some _ := e0;clear e0;clear hd;have x0 := keep_cell hS.2 c0;go_simp
   exact ⟨_, rfl, rfl, Below.refl _ _⟩
  ·intro a' u hS hd
   obtain ⟨_, e0, rfl⟩ := hd 3 (by kernel_rfl);have f0 : a'.tmps[48]? = some _ := e0;clear e0;clear hd;go_simp
   exact ⟨_, rfl, rfl, Below.refl _ _⟩
  ·intro a' u hS hd
   obtain ⟨_, e0, rfl⟩ := hd 4 (by kernel_rfl);have f0 : a'.tmps[49]? = some _ := e0;clear e0;clear hd;have x0 := keep_cell hS.2 c3;go_simp
   exact ⟨_, rfl, rfl, Below.refl _ _⟩
  ·intro a' u hS hd
   obtain ⟨_, e0, rfl⟩ := hd 1 (by kernel_rfl);have f0 : a'.tmps[46]? = some _ := e0;clear e0;obtain ⟨_, e1, rfl⟩ := hd 5 (by kernel_rfl);have f1 : a'.tmps[50]? = some _ := e1;clear e1;clear hd;go_simp
   exact ⟨_, rfl, rfl, Below.refl _ _⟩
  ·intro a' u hS hd
   clear hd;have g0 := hS.1.1;go_simp
   exact ⟨_, rfl, rfl, Below.refl _ _⟩
  ·intro a' u hS hd
   obtain ⟨_, e0, rfl⟩ := hd 7 (by kernel_rfl);have f0 : a'.tmps[52]? = some _ := e0;clear e0;clear hd;have x0 := keep_cell hS.2 c0;go_simp
   exact ⟨_, rfl, rfl, Below.refl _ _⟩
  ·intro a' u hS hd
   obtain ⟨_, e0, rfl⟩ := hd 8 (by kernel_rfl);have f0 : a'.tmps[53]? = some _ := e0;clear e0;clear hd;go_simp
   exact ⟨_, rfl, rfl, Below.refl _ _⟩
  ·intro a' u hS hd
   obtain ⟨_, e0, rfl⟩ := hd 9 (by kernel_rfl);have f0 : a'.tmps[54]? = some _ := e0;clear e0;clear hd;have x0 := keep_cell hS.2 c4;go_simp
   exact ⟨_, rfl, rfl, Below.refl _ _⟩
  ·intro a' u hS hd
   obtain ⟨_, e0, rfl⟩ := hd 6 (by kernel_rfl);have f0 : a'.tmps[51]? = some _ := e0;clear e0;obtain ⟨_, e1, rfl⟩ := hd 10 (by kernel_rfl);have f1 : a'.tmps[55]? = some _ := e1;clear e1;clear hd;go_simp
   exact ⟨_, rfl, rfl, Below.refl _ _⟩
  ·intro a' u hS hd
   obtain ⟨_, e0, rfl⟩ := hd 0 (by kernel_rfl);have f0 : a'.tmps[45]? = some _ := e0;clear e0;obtain ⟨_, e1, rfl⟩ := hd 11 (by kernel_rfl);have f1 : a'.tmps[56]? = some _ := e1;clear e1;clear hd;go_simp
   refine (rsamples_pgm g b cap u (H3.out.below hS.2)).mono ?_;rintro e u' ⟨lb, lc, rfl, hc, hl, _, hb⟩;exact ⟨_, rfl, ⟨_, rfl, lb, lc, rfl, hc, hl⟩, hb⟩
  ·intro a' u hS hd
   obtain ⟨_, e0, hp⟩ := hd 12 (by kernel_rfl);have f0 : a'.tmps[57]? = some _ := e0;clear e0 hd;go_simp
   exact ⟨_, rfl, hp, Below.refl _ _⟩
  ·intro a' u hS hd
   obtain ⟨_, e0, p, rfl, hp⟩ := hd 13 (by kernel_rfl);have f0 : a'.tmps[44]? = some _ := e0;clear e0 hd;go_simp
   exact ⟨_, rfl, hp, Below.refl _ _⟩
  ·intro a' u hS hd
   obtain ⟨_, e0, p, rfl, hp⟩ := hd 13 (by kernel_rfl);have f0 : a'.tmps[44]? = some _ := e0;clear e0 hd;go_simp
   exact ⟨_, rfl, rfl, Below.refl _ _⟩
  ·intro a' u hS hd
   obtain ⟨_, e0, hp⟩ := hd 14 (by kernel_rfl);have f0 : a'.tmps[58]? = some _ := e0;clear e0 hd;go_simp
   exact ⟨_, rfl, hp, Below.refl _ _⟩
  ·intro a' u hS hd
   obtain ⟨_, e0, rfl⟩ := hd 15 (by kernel_rfl);have f0 : a'.tmps[59]? = some _ := e0;clear e0;clear hd;go_simp
   exact ⟨_, rfl, rfl, Below.refl _ _⟩
 ·intro a' w4 h
  obtain ⟨_, e8, lb, lc, rfl, hlc, hle⟩ := h.new 16 (by decide) (by decide +kernel);replace e8 : a'.tmps[8]? = some (.slice (some ⟨lb, 0, none⟩) 1 lc) := e8;obtain ⟨_, e9, rfl⟩ := h.new 17 (by decide) (by decide +kernel);replace e9 : a'.tmps[9]? = some (.bool true) := e9;have htm := tmps_set h.size [45, 46, 47, 48, 49, 50, 51, 52, 53, 54, 55, 56, 57, 44, 58, 59, 8, 9] (fun d hd => h.old d (fun i hi e => hd (by rw [<- e]; exact mem_getD hi)));have hdf : a'.defers = [] := h.defers;have hbu := h.below;clear h;obtain ⟨fx, hf⟩ : ∃ f : Nat -> Value, (fun i => a'.tmps.getD i undef) = f := ⟨_, rfl⟩;replace e8 : (fun i => a'.tmps.getD i undef) 8 = _ := slot_of e8;replace e9 : (fun i => a'.tmps.getD i undef) 9 = _ := slot_of e9;have hff : ∀ i, a'.tmps.getD i undef = fx i := fun i => congrFun hf i
  simp only [hff] at e8 e9;simp only [List.foldl_cons, List.foldl_nil, hff] at htm;obtain ⟨tmps, defers⟩ := a';dsimp only at hdf htm;subst hdf;rw [htm, e8, e9];clear htm hf hff e8 e9;simp only [List.setIfInBounds_toArray, List.set_cons_succ, List.set_cons_zero];have H4 := hd_ (H3.out.below hbu);have B4 := hd_ (B3.out.trans (hbu.mono (by have := S3.out; omega)));have Q4 := hd_ ((hbu.block _ (block_lt Q3.out)).trans Q3.out);have S4 := hd_ (Nat.le_trans S3.out hbu.size);have d0 := keep_cell hbu c0;have d2 := keep_cell hbu c2;have d3 := keep_cell hbu c3;have d4 := keep_cell hbu c4;clear hbu c0 c2 c3 c4 H3 B3 Q3 S3;have c0 := d0;have c3 := d3;have c4 := d4;clear d0 d3 d4;go_upto_region 14 with (fail)
  refine wp_region_any (by kernel_rfl) ?_;refine wpAny_laid_tails (D := fun i => ([63, 64, 65, 66, 67, 68, 69, 70, 71, 10] : List Nat).getD i 0)
   (R := fun rj v w' => match rj with
    | 0 => v = .pointer (some ⟨g, 0, none⟩)
    | 1 => v = .pointer (some ⟨g, 0, none⟩)
    | 2 => v = .pointer (some ⟨g, 3, none⟩)
    | 3 => v = .int .i64 1
    | 4 => v = .pointer (some ⟨g, 0, none⟩)
    | 5 => v = .pointer (some ⟨g, 0, none⟩)
    | 6 => v = .pointer (some ⟨g, 4, none⟩)
    | 7 => v = .int .i64 1
    | 8 => v = .agg #[.int .i64 1, .int .i64 1, .slice none 0 0]
    | 9 => lit.NewImg w4.heap.size v w'
    | _ => True)
   (S := fun a' w' => a'.tmps[6]? = some (.pointer (some ⟨g, 0, none⟩)) /\ Below w4.heap.size w4 w')
   10 (by decide) (by kernel_rfl) (by decide +kernel) (by decide +kernel) (by decide +kernel) (by decide +kernel) (by kernel_rfl) ?_ ?_ ?_ ?_
  ·intro i v u u' h hb
   match i, h with
   | 0, h => exact h
   | 1, h => exact h
   | 2, h => exact h
   | 3, h => exact h
   | 4, h => exact h
   | 5, h => exact h
   | 6, h => exact h
   | 7, h => exact h
   | 8, h => exact h
   | 9, h => exact lit.NewImg.below h hb
   | i + 10, _ => trivial
  ·intro a' u hb _ hold
   exact ⟨hold 6 (by decide), hb⟩
  ·refine ⟨?_, ?_, ?_, ?_, ?_, ?_, ?_, ?_, ?_, ?_, trivial⟩
   ·intro a' u hS hd
    clear hd;have g0 := hS.1;go_simp
    exact ⟨_, rfl, rfl, Below.refl _ _⟩
   ·intro a' u hS hd
    obtain ⟨_, e0, rfl⟩ := hd 0 (by kernel_rfl);have f0 : a'.tmps[63]? = some _ := e0;clear e0;clear hd;have x0 := keep_cell hS.2 c0;go_simp
    exact ⟨_, rfl, rfl, Below.refl _ _⟩
   ·intro a' u hS hd
    obtain ⟨_, e0, rfl⟩ := hd 1 (by kernel_rfl);have f0 : a'.tmps[64]? = some _ := e0;clear e0;clear hd;go_simp
    exact ⟨_, rfl, rfl, Below.refl _ _⟩
   ·intro a' u hS hd
    obtain ⟨_, e0, rfl⟩ := hd 2 (by kernel_rfl);have f0 : a'.tmps[65]? = some _ := e0;clear e0;clear hd;have x0 := keep_cell hS.2 c3;go_simp
    exact ⟨_, rfl, rfl, Below.refl _ _⟩
   ·intro a' u hS hd
    clear hd;have g0 := hS.1;go_simp
    exact ⟨_, rfl, rfl, Below.refl _ _⟩
   ·intro a' u hS hd
    obtain ⟨_, e0, rfl⟩ := hd 4 (by kernel_rfl);have f0 : a'.tmps[67]? = some _ := e0;clear e0;clear hd;have x0 := keep_cell hS.2 c0;go_simp
    exact ⟨_, rfl, rfl, Below.refl _ _⟩
   ·intro a' u hS hd
    obtain ⟨_, e0, rfl⟩ := hd 5 (by kernel_rfl);have f0 : a'.tmps[68]? = some _ := e0;clear e0;clear hd;go_simp
    exact ⟨_, rfl, rfl, Below.refl _ _⟩
   ·intro a' u hS hd
    obtain ⟨_, e0, rfl⟩ := hd 6 (by kernel_rfl);have f0 : a'.tmps[69]? = some _ := e0;clear e0;clear hd;have x0 := keep_cell hS.2 c4;go_simp
    exact ⟨_, rfl, rfl, Below.refl _ _⟩
   ·intro a' u hS hd
    obtain ⟨_, e0, rfl⟩ := hd 3 (by kernel_rfl);have f0 : a'.tmps[66]? = some _ := e0;clear e0;obtain ⟨_, e1, rfl⟩ := hd 7 (by kernel_rfl);have f1 : a'.tmps[70]? = some _ := e1;clear e1;clear hd;go_simp
    exact ⟨_, rfl, rfl, Below.refl _ _⟩
   ·intro a' u hS hd
    clear hd;go_simp
    exact ⟨_, rfl, ⟨_, rfl, hS.2.size, heap_alloc_new _ _⟩, (Below.refl _ _).alloc (Nat.le_refl _) _⟩
  ·intro a' w5 h
   obtain ⟨_, e71, rfl⟩ := h.new 8 (by decide) (by decide +kernel);replace e71 : a'.tmps[71]? = some (.agg #[.int .i64 1, .int .i64 1, .slice none 0 0]) := e71;obtain ⟨_, e10, ib, rfl, hib, him⟩ := h.new 9 (by decide) (by decide +kernel);replace e10 : a'.tmps[10]? = some (.pointer (some ⟨ib, 0, none⟩)) := e10;have htm := tmps_set h.size [63, 64, 65, 66, 67, 68, 69, 70, 71, 10] (fun d hd => h.old d (fun i hi e => hd (by rw [<- e]; exact mem_getD hi)));have hdf : a'.defers = [] := h.defers;have hbu := h.below;clear h;obtain ⟨fy, hf⟩ : ∃ f : Nat -> Value, (fun i => a'.tmps.getD i undef) = f := ⟨_, rfl⟩;replace e71 : (fun i => a'.tmps.getD i undef) 71 = _ := slot_of e71;replace e10 : (fun i => a'.tmps.getD i undef) 10 = _ := slot_of e10;have hff : ∀ i, a'.tmps.getD i undef = fy i := fun i => congrFun hf i
   simp only [hff] at e71 e10;simp only [List.foldl_cons, List.foldl_nil, hff] at htm;obtain ⟨tmps, defers⟩ := a';dsimp only at hdf htm;subst hdf;rw [htm, e71, e10];clear htm hf hff e71 e10;simp only [List.setIfInBounds_toArray, List.set_cons_succ, List.set_cons_zero];have H5 := hd_ (H4.out.below hbu);have B5 := hd_ (B4.out.trans (hbu.mono (by have := S4.out; omega)));have Q5 := hd_ ((hbu.block _ (block_lt Q4.out)).trans Q4.out);have S5 := hd_ (Nat.le_trans S4.out hbu.size);have hlc5 := keep_cell hbu hlc;have hls : lb < w4.heap.size := block_lt_of_cell hlc;have HIM := hd_ him;clear hbu c0 c3 c4 d2 H4 B4 Q4 hlc him;refine wpList_store_row rfl 36 _ _ rfl ib _ rfl rfl 36 _ HIM.out (imgSize3 _ _ _) (imgSz _ _ _ _ _ _) (imgOne _ _ _ _ _) ?_;have hii : w5.heap[ib]? = some (.cells #[.int .i64 0, .int .i64 0, .slice none 0 0] 36 (0, 0)) := HIM.out;have h6 := setRow_heap w5 ib _ #[.int .i64 1, .int .i64 1, .slice none 0 0] _ _ hii;have g6 := grownBy_setRow w5 ib #[.int .i64 1, .int .i64 1, .slice none 0 0];have hg5 : g < w4.heap.size := (by have := S4.out; have := HG.out; omega);have hb5 : b < w4.heap.size := (by have := S4.out; omega);have hr5 : rb < w4.heap.size := (by have := S4.out; omega);have ne2 : ∀ j, j < w4.heap.size -> some j ≠ some ib := fun j hj e => by have := Option.some.inj e; omega
   have hP : lit.PixI w4.heap.size g b cap lb ib rb w 0 (w5.setRow ib #[.int .i64 1, .int .i64 1, .slice none 0 0]) := ⟨⟨_, h6, World.ownsRow_nil _ _ _ _⟩, H5.out.grown g6 (ne2 g hg5) (ne2 b hb5), (World.cell?_of_block (g6.block lb (block_lt_of_cell hlc5) (ne2 lb hls))).trans hlc5, grown_block g6 Q5.out (ne2 rb hr5),
    B5.out.grown g6 (by have := S5.out; omega) (fun k e => by cases e; omega), Nat.le_trans hib (Nat.le_trans (Nat.le_of_lt (block_lt hii)) g6.size)⟩
   have HP := hd_ hP;generalize w5.setRow ib #[.int .i64 1, .int .i64 1, .slice none 0 0] = w6 at *;have a0 := (cr_ w6 0 hP.read.head (Value.slice (some ⟨b, 0, none⟩) 12 cap) rfl);have a3 := (cr_ w6 3 hP.read.head (Value.int .i64 1) rfl);have a4 := (cr_ w6 4 hP.read.head (Value.int .i64 1) rfl);clear hii h6 g6 hP HIM hlc5 H5 B5 Q5 S5 ne2;go_upto_region 15 with (fail)
   go_quiet (fail)
   have b7 := below_drewN (Below.refl w6.heap.size w6) nq;have HP7 := hd_ (lit.PixI.below (Nat.le_of_lt hr5) HP.out b7);generalize w6.drewN nq = w7 at *;clear b7 a0 a3 a4 HP;obtain ⟨i0, hi, hz0, hz1, hz2⟩ := info_parts infoU16;go_wp2_with fail
   refine wp_loop_rounds 2 ?_;rw [rounds_succ];go_wp2_with fail
   refine wp_loop_rounds 4 ?_;rw [rounds_succ];have a0 := (cr_ w7 0 HP7.out.read.head (Value.slice (some ⟨b, 0, none⟩) 12 cap) rfl);have a2 := (cr_ w7 2 HP7.out.read.head (Value.int .i64 5) rfl);have a5 := (cr_ w7 5 HP7.out.read.head (Value.int .i64 255) rfl);have ao := HP7.out.one;have hlc0 : ¬ lc = 0 := (by omega);go_wp2_with fail
   refine (up_any 255 255 w7).mono ?_;rintro e wu ⟨rfl, rfl⟩;rw [show tm.upV 255 255 = 65535 from rfl];clear a0 a2 a5 ao hlc0;go_upto_region 25 with (fail)
   obtain ⟨vo0, hx0, hy0⟩ := HP7.out.box;have HX0 := hd_ hx0;have HY0 := hd_ hy0;have kk := (cell_of_row w7 _ 2 _ _ (0, 0) hx0).trans (show _ = some vo0 from rfl);have HO0 := hd_ (hy0.alloc (.cells #[.int .u16 65535] 39));have hsz := HP7.out.size;clear hx0 hy0;go_wp2_with (at_builtin; go_must (refine wpList_append_own _ rfl _ _ 34 rfl w4.heap.size 39 i0 (.int .u16 0) 1 2 Tryz.underlying34 hi hz0 hz1 hz2 rfl (by decide) vo0 0 _ rfl HO0.out ⟨w7.heap.size, 0, none⟩ 1 1 [.int .u16 65535] rfl rfl (cell_one_new _ _ _) (ints_oneCell .u16 [65535]) (by unfold maxLen; omega) (by omega) (by simp; omega) ?_; intro v' x0 hown hg hnil; obtain ⟨vg0, vc0, rfl⟩ := row_form hown (fun e => absurd (hnil.1 e).2 (by decide)); obtain ⟨hc, hpx⟩ := lit.PixI.app hg5 hb5 hls hr5 hib HP7.out HX0.out HY0.out ((Below.refl w7.heap.size w7).alloc (Nat.le_refl _) (.cells #[.int .u16 65535] 39)) hg hown; have HP8 := hd_ hpx; have kc := (cell_of_row x0 _ 2 _ _ (0, 0) hc).trans (show _ = some vo0 from rfl); have kf := frozen_of_row x0 _ 2 _ _ hc; clear hown hg hnil hc hpx))
   clear kk kc kf;generalize x0.setCell ⟨ib, 2, none⟩ (.slice (some ⟨vg0, 0, none⟩) (0 + 1) vc0) = w8 at *;clear HX0 HY0 HO0 HP7;rw [rounds_succ];have a0 := (cr_ w8 0 HP8.out.read.head (Value.slice (some ⟨b, 0, none⟩) 12 cap) rfl);have a2 := (cr_ w8 2 HP8.out.read.head (Value.int .i64 5) rfl);have a5 := (cr_ w8 5 HP8.out.read.head (Value.int .i64 255) rfl);have ao := HP8.out.one;have hlc0 : ¬ lc = 0 := (by omega);go_wp2_with fail
   refine (up_any 255 255 w8).mono ?_;rintro e wu ⟨rfl, rfl⟩;rw [show tm.upV 255 255 = 65535 from rfl];clear a0 a2 a5 ao hlc0;go_upto_region 25 with (fail)
   obtain ⟨vo1, hx1, hy1⟩ := HP8.out.box;have HX1 := hd_ hx1;have HY1 := hd_ hy1;have kk := (cell_of_row w8 _ 2 _ _ (0, 0) hx1).trans (show _ = some vo1 from rfl);have HO1 := hd_ (hy1.alloc (.cells #[.int .u16 65535] 39));have hsz := HP8.out.size;clear hx1 hy1;go_wp2_with (at_builtin; go_must (refine wpList_append_own _ rfl _ _ 34 rfl w4.heap.size 39 i0 (.int .u16 0) 1 2 Tryz.underlying34 hi hz0 hz1 hz2 rfl (by decide) vo1 1 _ rfl HO1.out ⟨w8.heap.size, 0, none⟩ 1 1 [.int .u16 65535] rfl rfl (cell_one_new _ _ _) (ints_oneCell .u16 [65535]) (by unfold maxLen; omega) (by omega) (by simp; omega) ?_; intro v' x1 hown hg hnil; obtain ⟨vg1, vc1, rfl⟩ := row_form hown (fun e => absurd (hnil.1 e).2 (by decide)); obtain ⟨hc, hpx⟩ := lit.PixI.app hg5 hb5 hls hr5 hib HP8.out HX1.out HY1.out ((Below.refl w8.heap.size w8).alloc (Nat.le_refl _) (.cells #[.int .u16 65535] 39)) hg hown; have HP9 := hd_ hpx; have kc := (cell_of_row x1 _ 2 _ _ (0, 0) hc).trans (show _ = some vo1 from rfl); have kf := frozen_of_row x1 _ 2 _ _ hc; clear hown hg hnil hc hpx))
   clear kk kc kf;generalize x1.setCell ⟨ib, 2, none⟩ (.slice (some ⟨vg1, 0, none⟩) (1 + 1) vc1) = w9 at *;clear HX1 HY1 HO1 HP8;rw [rounds_succ];have a0 := (cr_ w9 0 HP9.out.read.head (Value.slice (some ⟨b, 0, none⟩) 12 cap) rfl);have a2 := (cr_ w9 2 HP9.out.read.head (Value.int .i64 5) rfl);have a5 := (cr_ w9 5 HP9.out.read.head (Value.int .i64 255) rfl);have ao := HP9.out.one;have hlc0 : ¬ lc = 0 := (by omega);go_wp2_with fail
   refine (up_any 255 255 w9).mono ?_;rintro e wu ⟨rfl, rfl⟩;rw [show tm.upV 255 255 = 65535 from rfl];clear a0 a2 a5 ao hlc0;go_upto_region 25 with (fail)
   obtain ⟨vo2, hx2, hy2⟩ := HP9.out.box;have HX2 := hd_ hx2;have HY2 := hd_ hy2;have kk := (cell_of_row w9 _ 2 _ _ (0, 0) hx2).trans (show _ = some vo2 from rfl);have HO2 := hd_ (hy2.alloc (.cells #[.int .u16 65535] 39));have hsz := HP9.out.size;clear hx2 hy2;go_wp2_with (at_builtin; go_must (refine wpList_append_own _ rfl _ _ 34 rfl w4.heap.size 39 i0 (.int .u16 0) 1 2 Tryz.underlying34 hi hz0 hz1 hz2 rfl (by decide) vo2 2 _ rfl HO2.out ⟨w9.heap.size, 0, none⟩ 1 1 [.int .u16 65535] rfl rfl (cell_one_new _ _ _) (ints_oneCell .u16 [65535]) (by unfold maxLen; omega) (by omega) (by simp; omega) ?_; intro v' x2 hown hg hnil; obtain ⟨vg2, vc2, rfl⟩ := row_form hown (fun e => absurd (hnil.1 e).2 (by decide)); obtain ⟨hc, hpx⟩ := lit.PixI.app hg5 hb5 hls hr5 hib HP9.out HX2.out HY2.out ((Below.refl w9.heap.size w9).alloc (Nat.le_refl _) (.cells #[.int .u16 65535] 39)) hg hown; have HP10 := hd_ hpx; have kc := (cell_of_row x2 _ 2 _ _ (0, 0) hc).trans (show _ = some vo2 from rfl); have kf := frozen_of_row x2 _ 2 _ _ hc; clear hown hg hnil hc hpx))
   clear kk kc kf;generalize x2.setCell ⟨ib, 2, none⟩ (.slice (some ⟨vg2, 0, none⟩) (2 + 1) vc2) = w10 at *;clear HX2 HY2 HO2 HP9;rw [rounds_succ];go_upto_region 27 with (fail)
   obtain ⟨vo3, hx3, hy3⟩ := HP10.out.box;have HX3 := hd_ hx3;have HY3 := hd_ hy3;have kk := (cell_of_row w10 _ 2 _ _ (0, 0) hx3).trans (show _ = some vo3 from rfl);have HO3 := hd_ (hy3.alloc (.cells #[.int .u16 65535] 39));have hsz := HP10.out.size;clear hx3 hy3;go_wp2_with (at_builtin; go_must (refine wpList_append_own _ rfl _ _ 34 rfl w4.heap.size 39 i0 (.int .u16 0) 1 2 Tryz.underlying34 hi hz0 hz1 hz2 rfl (by decide) vo3 3 _ rfl HO3.out ⟨w10.heap.size, 0, none⟩ 1 1 [.int .u16 65535] rfl rfl (cell_one_new _ _ _) (ints_oneCell .u16 [65535]) (by unfold maxLen; omega) (by omega) (by simp; omega) ?_; intro v' x3 hown hg hnil; obtain ⟨vg3, vc3, rfl⟩ := row_form hown (fun e => absurd (hnil.1 e).2 (by decide)); obtain ⟨hc, hpx⟩ := lit.PixI.app hg5 hb5 hls hr5 hib HP10.out HX3.out HY3.out ((Below.refl w10.heap.size w10).alloc (Nat.le_refl _) (.cells #[.int .u16 65535] 39)) hg hown; have HP11 := hd_ hpx; have kc := (cell_of_row x3 _ 2 _ _ (0, 0) hc).trans (show _ = some vo3 from rfl); have kf := frozen_of_row x3 _ 2 _ _ hc; clear hown hg hnil hc hpx))
   clear kk kc kf;generalize x3.setCell ⟨ib, 2, none⟩ (.slice (some ⟨vg3, 0, none⟩) (3 + 1) vc3) = w11 at *;clear HX3 HY3 HO3 HP10;rw [rounds_succ];obtain ⟨vo4, hx4, hy4⟩ := HP11.out.box;rcases hy4.2 with ⟨_, h⟩ | ⟨pg, pc, cur, rfl, hpg, hh, hle, _, _, htk⟩
   ·cases h
   have HX4 := hd_ hx4;have HY4 := hd_ hy4;have HZ4 := hd_ HP11.out.out;clear hx4 hy4 hh hle htk hpg;go_wp2_with (first
    | (with_reducible refine wpList_load_row rfl 36 _ rfl ib rfl 36 _ (0, 0) _ HX4.out Tryz.underlying36 rfl (imgSize3 _ _ _) ?_)
    | (with_reducible refine wpList_store_row rfl 36 _ _ rfl rb _ rfl rfl 36 _ HZ4.out (imgSize3 _ _ _) (imgSz _ _ _ _ _ _) (imgOne _ _ _ _ _) ?_))
   have ge := grownBy_setRow w11 rb #[.int .i64 1, .int .i64 1, .slice (some ⟨pg, 0, none⟩) (0 + 1 + 1 + 1 + 1) pc];have hpg := (World.ownsRow.lt HY4.out pg rfl).1;have hpost : DecPost w (.returned (.tuple #[.agg #[.int .i64 1, .int .i64 1, .slice (some ⟨pg, 0, none⟩) (0 + 1 + 1 + 1 + 1) pc], .int .i64 0])) (w11.setRow rb #[.int .i64 1, .int .i64 1, .slice (some ⟨pg, 0, none⟩) (0 + 1 + 1 + 1 + 1) pc]) := by
    refine ⟨pg, pc, rfl, ?_, ?_⟩
    ·exact World.ownsRow.mono (World.ownsRow.kept HY4.out ge (.inr (by intro e; have : pg = rb := Option.some.inj e; omega))) (by have := HRB.out; omega)
    ·rw [HRB.out]
     exact HP11.out.low.grown ge (by have := HP11.out.size; omega) (fun k e => by cases e; exact Nat.le_refl _)
   exact bodyPost_ret (results_cell_tmp (p := 4) (q := 5) (ty := 36) rfl _ _ rb 36 _ (0, 0) _ _ rfl rfl (setRow_heap _ _ _ _ _ _ HZ4.out) Tryz.underlying36 rfl imgSize) rfl hpost
end Go.Proofs.YthpckmcgbmfmcaaGreatDoor
