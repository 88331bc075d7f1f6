/- Texts of this claim, joined. -/
import Derived.Test.YthpckmcgbmfmcaaGreatDoorM40
set_option maxRecDepth 100000
set_option maxHeartbeats 12800000
namespace Go.Proofs.YthpckmcgbmfmcaaGreatDoor
open Go.RowKit Go.Sort
def stRow (rb ro n cap P : Nat) (ao : Option Addr) (ol oc most : Nat) : Array Value := #[.slice (some ⟨rb, ro, none⟩) n cap, .bool false, .int .i64 (P : Nat), .slice ao ol oc, .int .i64 (most : Nat), .int .i64 0]
def stZero : Array Value := #[.slice none 0 0, .bool false, .int .i64 0, .slice none 0 0, .int .i64 0, .int .i64 0]
theorem stSize (rb ro n cap P : Nat) (ao : Option Addr) (ol oc most : Nat) : (Tryz.prog.info? 55).map (·.size) = some (stRow rb ro n cap P ao ol oc most).size := by
 show (Tryz.prog.info? 55).map (·.size) = some 6
 kernel_rfl
theorem stOne (rb ro n cap P : Nat) (ao : Option Addr) (ol oc most : Nat) : (stRow rb ro n cap P ao ol oc most).all (·.oneCell') = true := by simp [stRow, Value.oneCell']
theorem stSz (rb ro n cap P : Nat) (ao : Option Addr) (ol oc most rb' ro' n' cap' P' : Nat) (ao' : Option Addr) (ol' oc' most' : Nat) : (stRow rb ro n cap P ao ol oc most).size = (stRow rb' ro' n' cap' P' ao' ol' oc' most').size := rfl
theorem stSz0 (rb ro n cap P : Nat) (ao : Option Addr) (ol oc most : Nat) : stZero.size = (stRow rb ro n cap P ao ol oc most).size := rfl
section
variable {w : World} {g rb ro n cap P ol oc most : Nat} {ao : Option Addr}
theorem st_cells (h : w.heap[g]? = some (.cells (stRow rb ro n cap P ao ol oc most) 55 (0, 0))) :
  (w.cell? ⟨g, 0, none⟩ = some (.slice (some ⟨rb, ro, none⟩) n cap) /\ w.cell? ⟨g, 1, none⟩ = some (.bool false) /\ w.cell? ⟨g, 2, none⟩ = some (.int .i64 (P : Nat)) /\ w.cell? ⟨g, 3, none⟩ = some (.slice ao ol oc) /\ w.cell? ⟨g, 4, none⟩ = some (.int .i64 (most : Nat)) /\ w.cell? ⟨g, 5, none⟩ = some (.int .i64 0)) /\
  (w.frozen? ⟨g, 0, none⟩ = false /\ w.frozen? ⟨g, 1, none⟩ = false /\ w.frozen? ⟨g, 2, none⟩ = false /\ w.frozen? ⟨g, 3, none⟩ = false) :=
 ⟨⟨(cell_of_row w _ 0 _ _ (0, 0) h).trans rfl, (cell_of_row w _ 1 _ _ (0, 0) h).trans rfl, (cell_of_row w _ 2 _ _ (0, 0) h).trans rfl, (cell_of_row w _ 3 _ _ (0, 0) h).trans rfl, (cell_of_row w _ 4 _ _ (0, 0) h).trans rfl, (cell_of_row w _ 5 _ _ (0, 0) h).trans rfl⟩,
 frozen_of_row w _ 0 _ _ h, frozen_of_row w _ 1 _ _ h, frozen_of_row w _ 2 _ _ h, frozen_of_row w _ 3 _ _ h⟩
def setRd (w : World) (g rb ro n cap P : Nat) : World := ((w.setCell ⟨g, 0, none⟩ (.slice (some ⟨rb, ro, none⟩) n cap)).setCell ⟨g, 1, none⟩ (.bool false)).setCell ⟨g, 2, none⟩ (.int .i64 (P : Nat))
theorem st_setRd (h : w.heap[g]? = some (.cells (stRow rb ro n cap P ao ol oc most) 55 (0, 0))) (P' : Nat) :
  (setRd w g rb ro n cap P').heap[g]? = some (.cells (stRow rb ro n cap P' ao ol oc most) 55 (0, 0)) /\ w.grownBy (setRd w g rb ro n cap P') (some g) := by
 refine ⟨?_, ((grownBy_setCell3 w g 0 _).trans (grownBy_setCell3 _ g 1 _)).trans (grownBy_setCell3 _ g 2 _)⟩;have r1 := heap_setCell_same w g 0 _ _ (.slice (some ⟨rb, ro, none⟩) n cap) h;have r2 := heap_setCell_same _ g 1 _ _ (.bool false) r1;have r3 := heap_setCell_same _ g 2 _ _ (.int .i64 (P' : Nat)) r2;exact r3
theorem below_setRd {base : Nat} {w0 : World} (h : Below base w0 w) (hg : base <= g) : Below base w0 (setRd w g rb ro n cap P) :=
 ((h.setCell (p := ⟨g, 0, none⟩) hg _).setCell (p := ⟨g, 1, none⟩) hg _).setCell (p := ⟨g, 2, none⟩) hg _
end
theorem stake_any (bb bo n cap P : Nat) (L : List Bool) (ao : Option Addr) (ol oc most : Nat) (w : World) (h : Sl .u8 w (some ⟨bb, bo, none⟩) n cap (bt.bytes false L)) (m : Nat) (hm : m <= 32) (hP : P + m <= 8 * n) (hn : n <= 137438953472) :
  Calls Tryz.prog 24 #[.agg (stRow bb bo n cap P ao ol oc most), .int .i64 (m : Nat)] w fun e w' => e = .returned (.tuple #[.agg (stRow bb bo n cap (P + m) ao ol oc most), .int .i64 (bt.valTo false L P m : Nat)]) /\ Below w.heap.size w w' := by
 have CT := hd_ (fun w' (hb : Below w.heap.size w w') => refTake_any bb bo n cap P L w' (h.below hb) m hm hP hn);have hv32 : bt.valTo false L P m < 4294967296 := Nat.lt_of_lt_of_le (bt.valTo_lt false L P m) (Nat.pow_le_pow_right (by decide) hm);obtain ⟨v, hv⟩ : ∃ z, bt.valTo false L P m = z := ⟨_, rfl⟩;rw [hv] at CT hv32 ⊢;have e1 : IntKind.i64.wrap (v : Int) = (v : Int) := i64i (by omega);obtain ⟨P2, hP2⟩ : ∃ z, P + m = z := ⟨_, rfl⟩;rw [hP2] at CT ⊢;have B0 := ((Below.refl w.heap.size w).alloc (Nat.le_refl _) (.cells (stRow bb bo n cap P ao ol oc most) 55)).alloc (by simp) (.cells #[.slice none 0 0, .bool false, .int .i64 0, .slice none 0 0, .int .i64 0, .int .i64 0] 55);obtain ⟨q0, q1⟩ := heap2 w (.cells (stRow bb bo n cap P ao ol oc most) 55) (.cells #[.slice none 0 0, .bool false, .int .i64 0, .slice none 0 0, .int .i64 0, .int .i64 0] 55);have HB0 := hd_ B0;have HQ0 := hd_ q0;have HQ1 : Hid ((((w.alloc (.cells (stRow bb bo n cap P ao ol oc most) 55)).alloc (.cells #[.slice none 0 0, .bool false, .int .i64 0, .slice none 0 0, .int .i64 0, .int .i64 0] 55))).heap[w.heap.size + 1]? = some (.cells stZero 55 (0, 0))) := hd_ q1;clear h hm hP hn hv hP2 B0 q0 q1 hv32;go_enter Tryz.func24, Tryz.ntmps24
 go_upto_region 1 with (fail)
 generalize (w.alloc (Obj.cells (stRow bb bo n cap P ao ol oc most) 55)).alloc (Obj.cells #[.slice none 0 0, .bool false, .int .i64 0, .slice none 0 0, .int .i64 0, .int .i64 0] 55) = w1 at *;obtain ⟨g, hg⟩ : ∃ z, w.heap.size = z := ⟨_, rfl⟩;obtain ⟨g', hg'⟩ : ∃ z, g + 1 = z := ⟨_, rfl⟩;rw [hg] at HQ0 HQ1 ⊢;rw [hg'] at HQ1 ⊢;have HGG : Hid (w.heap.size <= g /\ w.heap.size <= g' /\ g ≠ g') := hd_ (by omega);clear hg hg';obtain ⟨⟨c0, c1, c2, _, _, _⟩, _⟩ := st_cells HQ0.out;go_upto_region 1 with (fail)
 have T := hd_ (CT.out w1 HB0.out);go_wp2_with fail
 refine T.out.mono ?_;rintro e w2 ⟨rfl, hb2⟩;have HB2 := hd_ (HB0.out.trans (hb2.mono HB0.out.size));have HA2 := hd_ ((hb2.block _ (block_lt HQ0.out)).trans HQ0.out);have HZ2 := hd_ ((hb2.block _ (block_lt HQ1.out)).trans HQ1.out);clear hb2 T CT HQ0 HQ1 HB0 c0 c1 c2;have hba : Below w2.heap.size w2 (w2.alloc (.cells #[.slice (some ⟨bb, bo, none⟩) n cap, .bool false, .int .i64 (P2 : Nat)] 53)) := (Below.refl _ _).alloc (Nat.le_refl _) _;have hna := heap_alloc_new w2 (.cells #[.slice (some ⟨bb, bo, none⟩) n cap, .bool false, .int .i64 (P2 : Nat)] 53 (0, 0));obtain ⟨w3, hw3⟩ : ∃ z, w2.alloc (.cells #[.slice (some ⟨bb, bo, none⟩) n cap, .bool false, .int .i64 (P2 : Nat)] 53) = z := ⟨_, rfl⟩;obtain ⟨rn, hrn⟩ : ∃ z, w2.heap.size = z := ⟨_, rfl⟩;rw [hw3] at hba hna;rw [hrn] at hna;have HNA : Hid (w3.heap[rn]? = some (.cells (rRow (some ⟨bb, bo, none⟩) n cap false P2) 53 (0, 0))) := hd_ hna;have HA3 := hd_ ((hba.block _ (block_lt HA2.out)).trans HA2.out);have HZ3 := hd_ ((hba.block _ (block_lt HZ2.out)).trans HZ2.out);have HB3 := hd_ (HB2.out.trans (hba.mono HB2.out.size));clear hba hna HA2 HZ2 HB2;go_upto_region 5 with (fail)
 clear hw3 hrn;obtain ⟨_, f0, f1, f2, _⟩ := st_cells HA3.out;have d0 := (cr_ w3 0 HNA.out (Value.slice (some ⟨bb, bo, none⟩) n cap) rfl);have d1 := (cr_ w3 1 HNA.out (Value.bool false) rfl);have d2 := (cr_ w3 2 HNA.out (Value.int .i64 P2) rfl);obtain ⟨r4, g4⟩ := st_setRd HA3.out P2;have HA4 := hd_ r4;have HZ4 := hd_ (grown_block g4 HZ3.out (fun e => HGG.out.2.2 (Option.some.inj e).symm));have HB4 : Hid (Below w.heap.size w (setRd w3 g bb bo n cap P2)) := hd_ (below_setRd HB3.out HGG.out.1);clear r4 g4;go_upto_region 6 with (fail)
 clear f0 f1 f2 d0 d1 d2 HNA HA3 HZ3 HB3;unfold setRd at HA4 HZ4 HB4;generalize ((w3.setCell ⟨g, 0, none⟩ (.slice (some ⟨bb, bo, none⟩) n cap)).setCell ⟨g, 1, none⟩ (.bool false)).setCell ⟨g, 2, none⟩ (.int .i64 (P2 : Nat)) = w4 at *;go_wp2_with (first
  | (with_reducible refine wpList_load_row rfl 55 _ rfl g rfl 55 (stRow bb bo n cap P2 ao ol oc most) (0, 0) _ HA4.out Tryz.underlying55 rfl (stSize _ _ _ _ _ _ _ _ _) ?_)
  | (with_reducible refine wpList_store_row rfl 55 _ _ rfl g' _ rfl rfl 55 _ HZ4.out (stSize bb bo n cap P2 ao ol oc most) (stSz0 bb bo n cap P2 ao ol oc most) (stOne _ _ _ _ _ _ _ _ _) ?_))
 refine bodyPost_ret (results_cell_tmp (p := 4) (q := 5) (ty := 55) rfl _ _ g' 55 _ (0, 0) _ _ rfl rfl (setRow_heap _ _ _ _ _ _ HZ4.out) Tryz.underlying55 rfl (stSize bb bo n cap P2 ao ol oc most)) rfl ?_;exact ⟨rfl, below_setRow HB4.out HGG.out.2.1 _⟩
theorem snext_any (bb bo n cap P : Nat) (L : List Bool) (ls : List Nat) (of : Nat -> Value) (s : Nat) (ao : Option Addr) (ol oc most : Nat) (w : World) (h : Sl .u8 w (some ⟨bb, bo, none⟩) n cap (bt.bytes false L)) (hn : n = (L.length + 7) / 8) (hn2 : n <= 137438953472) (hok : pf.Ok ls) (hf : RTab w ls of) (hs : s < ls.length) (hls : ls.length <= 4096) (h1 : 1 <= ls.getD s 0)
  (hP : P + ls.getD s 0 <= L.length) (hb : ∀ i, i < ls.getD s 0 -> L.getD (P + i) false = (pf.code ls s).testBit (ls.getD s 0 - 1 - i)) :
  Calls Tryz.prog 71 #[.agg (stRow bb bo n cap P ao ol oc most), .agg (gRow (rt.F (rt.fM ls 16) of true) 37)] w fun e w' => e = .returned (.tuple #[.agg (stRow bb bo n cap (P + ls.getD s 0) ao ol oc most), .int .i64 (s : Nat)]) /\ Below w.heap.size w w' := by
 have CT := hd_ (fun w' (hb' : Below w.heap.size w w') => rnext3_any bb bo n cap P L ls of s w' (h.below hb') hn hn2 hok (hf.below hb') hs hls h1 hP hb);obtain ⟨P2, hP2⟩ : ∃ z, P + ls.getD s 0 = z := ⟨_, rfl⟩;rw [hP2] at CT ⊢;obtain ⟨q0, q1, q2, B0⟩ := heap3b w (.cells (stRow bb bo n cap P ao ol oc most) 55) (.cells (gRow (rt.F (rt.fM ls 16) of true) 37) 66) (.cells #[.slice none 0 0, .bool false, .int .i64 0, .slice none 0 0, .int .i64 0, .int .i64 0] 55);have HB0 := hd_ B0;have HQ0 := hd_ q0;have HQ1 := hd_ q1;have HQ2 : Hid ((((w.alloc (.cells (stRow bb bo n cap P ao ol oc most) 55)).alloc (.cells (gRow (rt.F (rt.fM ls 16) of true) 37) 66)).alloc (.cells #[.slice none 0 0, .bool false, .int .i64 0, .slice none 0 0, .int .i64 0, .int .i64 0] 55)).heap[w.heap.size + 1 + 1]? = some (.cells stZero 55 (0, 0))) := hd_ q2;have HSZ := hd_ (rt.size37 (rt.fM ls 16) of true);obtain ⟨T37, hT⟩ : ∃ z, gRow (rt.F (rt.fM ls 16) of true) 37 = z := ⟨_, rfl⟩;rw [hT] at HSZ CT HQ0 HQ1 HQ2 HB0 ⊢;clear h hn hn2 hok hf hs hls h1 hP hb hP2 B0 q0 q1 q2 hT;go_enter Tryz.func71, Tryz.ntmps71
 go_upto_region 1 with (fail)
 generalize ((w.alloc (Obj.cells (stRow bb bo n cap P ao ol oc most) 55)).alloc (Obj.cells T37 66)).alloc (Obj.cells #[.slice none 0 0, .bool false, .int .i64 0, .slice none 0 0, .int .i64 0, .int .i64 0] 55) = w1 at *;obtain ⟨g, hg⟩ : ∃ z, w.heap.size = z := ⟨_, rfl⟩;obtain ⟨gt, hgt⟩ : ∃ z, g + 1 = z := ⟨_, rfl⟩;obtain ⟨g', hg'⟩ : ∃ z, gt + 1 = z := ⟨_, rfl⟩;rw [hg] at HQ0 HQ1 HQ2 ⊢;rw [hgt] at HQ1 HQ2 ⊢;rw [hg'] at HQ2 ⊢;have HGG : Hid (w.heap.size <= g /\ w.heap.size <= g' /\ g ≠ g') := hd_ (by omega);clear hg hgt hg';obtain ⟨⟨c0, c1, c2, _, _, _⟩, _⟩ := st_cells HQ0.out;have T := hd_ (CT.out w1 HB0.out);go_wp2_with (with_reducible refine wpList_load_row rfl 66 _ rfl gt rfl 66 T37 (0, 0) _ HQ1.out Tryz.underlying66 rfl HSZ.out ?_)
 refine T.out.mono ?_;rintro e w2 ⟨rfl, hb2⟩;have HB2 := hd_ (HB0.out.trans (hb2.mono HB0.out.size));have HA2 := hd_ ((hb2.block _ (block_lt HQ0.out)).trans HQ0.out);have HZ2 := hd_ ((hb2.block _ (block_lt HQ2.out)).trans HQ2.out);clear hb2 T CT HQ0 HQ1 HQ2 HB0 c0 c1 c2;have hba : Below w2.heap.size w2 (w2.alloc (.cells #[.slice (some ⟨bb, bo, none⟩) n cap, .bool false, .int .i64 (P2 : Nat)] 53)) := (Below.refl _ _).alloc (Nat.le_refl _) _;have hna := heap_alloc_new w2 (.cells #[.slice (some ⟨bb, bo, none⟩) n cap, .bool false, .int .i64 (P2 : Nat)] 53 (0, 0));obtain ⟨w3, hw3⟩ : ∃ z, w2.alloc (.cells #[.slice (some ⟨bb, bo, none⟩) n cap, .bool false, .int .i64 (P2 : Nat)] 53) = z := ⟨_, rfl⟩;obtain ⟨rn, hrn⟩ : ∃ z, w2.heap.size = z := ⟨_, rfl⟩;rw [hw3] at hba hna;rw [hrn] at hna;have HNA : Hid (w3.heap[rn]? = some (.cells (rRow (some ⟨bb, bo, none⟩) n cap false P2) 53 (0, 0))) := hd_ hna;have HA3 := hd_ ((hba.block _ (block_lt HA2.out)).trans HA2.out);have HZ3 := hd_ ((hba.block _ (block_lt HZ2.out)).trans HZ2.out);have HB3 := hd_ (HB2.out.trans (hba.mono HB2.out.size));clear hba hna HA2 HZ2 HB2;go_upto_region 2 with (fail)
 clear hw3 hrn;obtain ⟨_, f0, f1, f2, _⟩ := st_cells HA3.out;have d0 := (cr_ w3 0 HNA.out (Value.slice (some ⟨bb, bo, none⟩) n cap) rfl);have d1 := (cr_ w3 1 HNA.out (Value.bool false) rfl);have d2 := (cr_ w3 2 HNA.out (Value.int .i64 P2) rfl);obtain ⟨r4, g4⟩ := st_setRd HA3.out P2;have HA4 := hd_ r4;have HZ4 := hd_ (grown_block g4 HZ3.out (fun e => HGG.out.2.2 (Option.some.inj e).symm));have HB4 : Hid (Below w.heap.size w (setRd w3 g bb bo n cap P2)) := hd_ (below_setRd HB3.out HGG.out.1);clear r4 g4;go_upto_region 3 with (fail)
 clear f0 f1 f2 d0 d1 d2 HNA HA3 HZ3 HB3;unfold setRd at HA4 HZ4 HB4;generalize ((w3.setCell ⟨g, 0, none⟩ (.slice (some ⟨bb, bo, none⟩) n cap)).setCell ⟨g, 1, none⟩ (.bool false)).setCell ⟨g, 2, none⟩ (.int .i64 (P2 : Nat)) = w4 at *;go_wp2_with (first
  | (with_reducible refine wpList_load_row rfl 55 _ rfl g rfl 55 (stRow bb bo n cap P2 ao ol oc most) (0, 0) _ HA4.out Tryz.underlying55 rfl (stSize _ _ _ _ _ _ _ _ _) ?_)
  | (with_reducible refine wpList_store_row rfl 55 _ _ rfl g' _ rfl rfl 55 _ HZ4.out (stSize bb bo n cap P2 ao ol oc most) (stSz0 bb bo n cap P2 ao ol oc most) (stOne _ _ _ _ _ _ _ _ _) ?_))
 refine bodyPost_ret (results_cell_tmp (p := 4) (q := 5) (ty := 55) rfl _ _ g' 55 _ (0, 0) _ _ rfl rfl (setRow_heap _ _ _ _ _ _ HZ4.out) Tryz.underlying55 rfl (stSize bb bo n cap P2 ao ol oc most)) rfl ?_;exact ⟨rfl, below_setRow HB4.out HGG.out.2.1 _⟩
namespace df
def bm (size i : Nat) : Nat := if 2 * size <= i then i / size - 1 else 0
def bs (size frm : Nat) : Nat -> Nat
 | 0 => frm
 | i + 1 => bs size frm i + 2 ^ bm size i
theorem bs4 : ∀ k, k < 30 -> bs 4 3 k = grB k 4 3 := by decide +kernel
theorem bs2 : ∀ k, k < 30 -> bs 2 1 k = grB k 2 1 := by decide +kernel
theorem bs_le (size frm : Nat) (h : frm <= 16) : ∀ i, (∀ j, j < i -> bm size j <= 16) -> bs size frm i <= 16 + 65536 * i
 | 0, _ => h
 | i + 1, hj => by
  have h1 := bs_le size frm h i (fun j h => hj j (by omega));have h2 : 2 ^ bm size i <= 2 ^ 16 := Nat.pow_le_pow_right (by decide) (hj i (by omega));rw [bs];omega
end df
theorem base_any (k size frm : Nat) (w : World) (hs : 0 < size) (hs2 : size <= 16) (hf : frm <= 16) (hk : k <= 64) (hk2 : 2 * size <= k) (hm : k / size <= 17) :
  Calls Tryz.prog 120 #[.int .i64 k, .int .i64 size, .int .i64 frm] w fun e w' => e = .returned (.tuple #[.int .i64 (df.bs size frm k : Nat), .int .i64 (k / size - 1 : Nat)]) /\ w = w' := by
 have e1 : IntKind.i64.wrap (2 * (size : Int)) = ((2 * size : Nat) : Int) := i64o (by omega) (by omega);have ht1 : Int.tdiv (k : Int) (size : Int) = ((k / size : Nat) : Int) := by rw [Int.tdiv_eq_ediv_of_nonneg (by omega)]; rfl
 have hq2 : 2 <= k / size := (Nat.le_div_iff_mul_le hs).2 (by omega);have hbm : ∀ i, i < k -> df.bm size i <= 16 := by
  intro i hi;unfold df.bm;split
  ·have : i / size <= k / size := Nat.div_le_div_right (by omega)
   omega
  ·exact Nat.zero_le _
 have HBM := hd_ hbm;obtain ⟨q, hq⟩ : ∃ q, k / size = q := ⟨_, rfl⟩;rw [hq] at ht1 hq2 hm ⊢;have e3 : IntKind.i64.wrap (q : Int) = (q : Int) := i64i (by omega);have e4 : IntKind.i64.wrap ((q : Int) - 1) = ((q - 1 : Nat) : Int) := i64o (by omega) (by omega);obtain ⟨q1, hq1⟩ : ∃ q1, q - 1 = q1 := ⟨_, rfl⟩;rw [hq1] at e4 ⊢;obtain ⟨z, hz⟩ : ∃ z, 2 * size = z := ⟨_, rfl⟩;have HZ := hd_ hz;rw [hz] at e1 hk2;have hkz : ¬ (k : Int) < (z : Int) := by omega
 have hkz2 : ¬ k < z := by omega
 have hsz : ¬ (size : Int) = 0 := by omega
 have hsz2 : ¬ size = 0 := by omega
 clear hq hq1 hz hbm;go_enter Tryz.func120, Tryz.ntmps120
 go_wp2_with fail
 go_loopg [9, 10] k (fun gk s9 s10 wr => ∃ i : Nat, i <= k /\ gk = k - i /\ s9 = .int .i64 (df.bs size frm i : Nat) /\ s10 = .int .i64 (i : Nat) /\ wr = w)
 case atStart => exact ⟨0, Nat.zero_le _, rfl, rfl, by go_num, rfl⟩
 case round =>
  obtain ⟨i, hi, hgk, rfl, rfl, rfl⟩ := hrel;have Hg := hd_ hgk;clear hgk;by_cases hlt : i < k
  ·have hle := df.bs_le size frm hf i (fun j hj => HBM.out j (by omega))
   have HB : Hid (df.bs size frm (i + 1) = df.bs size frm i + 2 ^ df.bm size i) := hd_ rfl;have hb16 := HBM.out i hlt;have HD : Hid (df.bm size i = if 2 * size <= i then i / size - 1 else 0) := hd_ rfl;rw [HZ.out] at HD;obtain ⟨b, hb⟩ : ∃ b, df.bs size frm i = b := ⟨_, rfl⟩;rw [hb] at hle HB ⊢;obtain ⟨m, hm'⟩ : ∃ m, df.bm size i = m := ⟨_, rfl⟩;rw [hm'] at HB HD hb16;have hp : 2 ^ m <= 2 ^ 16 := Nat.pow_le_pow_right (by decide) hb16;have e5 : (2 : Int) ^ m = ((2 ^ m : Nat) : Int) := (by simp);obtain ⟨p, hp'⟩ : ∃ p, 2 ^ m = p := ⟨_, rfl⟩;rw [hp'] at hp e5 HB;have e6 : IntKind.i64.wrap (p : Int) = (p : Int) := i64i (by omega);have e7 : IntKind.i64.wrap ((b : Int) + (p : Int)) = ((b + p : Nat) : Int) := i64o (by omega) (by omega);have e8 : IntKind.u64.wrap (m : Int) = (m : Int) := (by rw [IntKind.wrap_u64]; omega);have hmin : min m 64 = m := Nat.min_eq_left (by omega);obtain ⟨u, hu⟩ : ∃ u, b + p = u := ⟨_, rfl⟩;rw [hu] at e7 HB;have hik : (i : Int) < (k : Int) := (by omega);by_cases hiz : z <= i
   ·have hizi : (z : Int) <= (i : Int) := by omega
    have hmi := HD.out;rw [if_pos hiz] at hmi;have hq3 : 2 <= i / size := (Nat.le_div_iff_mul_le hs).2 (by rw [HZ.out]; exact hiz);have ht2 : Int.tdiv (i : Int) (size : Int) = ((i / size : Nat) : Int) := (by rw [Int.tdiv_eq_ediv_of_nonneg (by omega)]; rfl);obtain ⟨r, hr⟩ : ∃ r, i / size = r := ⟨_, rfl⟩;rw [hr] at hmi hq3 ht2;have e9 : IntKind.i64.wrap (r : Int) = (r : Int) := i64i (by omega);have e10 : IntKind.i64.wrap ((r : Int) - 1) = (m : Int) := i64o (by omega) (by omega);clear hb hm' hp' hu hr hmi hle;go_wp2_with fail
    go_roundg (k - (i + 1))
    case measure => have := Hg.out; omega
    case rel => exact ⟨i + 1, by omega, rfl, by rw [HB.out], by go_num, rfl⟩
   ·have hizi : ¬ (z : Int) <= (i : Int) := by omega
    have hm0 := HD.out;rw [if_neg hiz] at hm0;subst hm0;rw [Nat.pow_zero] at hp';subst hp';have e7b : IntKind.i64.wrap ((b : Int) + 1) = (u : Int) := i64o (by omega) (by omega);clear hb hu hle e5 hm';go_wp2_with fail
    go_roundg (k - (i + 1))
    case measure => have := Hg.out; omega
    case rel => exact ⟨i + 1, by omega, rfl, by rw [HB.out], by go_num, rfl⟩
  ·obtain rfl : i = k := by omega
   go_wp2_with fail
   go_ret2
   exact ⟨rfl, rfl⟩
theorem sbase_any (k size frm : Nat) (w : World) (hsf : (size = 4 /\ frm = 3) \/ (size = 2 /\ frm = 1)) (hk : k < 30) :
  Calls Tryz.prog 120 #[.int .i64 (k : Nat), .int .i64 (size : Nat), .int .i64 (frm : Nat)] w fun e w' => e = .returned (.tuple #[.int .i64 (df.grB k size frm : Nat), .int .i64 (df.grM k size : Nat)]) /\ w = w' := by
 by_cases hz : k < 2 * size
 ·have hB : df.grB k size frm = frm + k := by unfold df.grB; rw [if_pos hz]
  have hM : df.grM k size = 0 := by unfold df.grM; rw [if_pos hz]
  rw [hB, hM];have e1 : IntKind.i64.wrap (2 * (size : Int)) = ((2 * size : Nat) : Int) := i64o (by omega) (by omega);have e2 : IntKind.i64.wrap ((frm : Int) + (k : Int)) = ((frm + k : Nat) : Int) := i64o (by omega) (by omega);obtain ⟨z, hz2⟩ : ∃ z, 2 * size = z := ⟨_, rfl⟩;obtain ⟨y, hy2⟩ : ∃ z, frm + k = z := ⟨_, rfl⟩;rw [hz2] at e1 hz;rw [hy2] at e2 ⊢;have hzi : (k : Int) < (z : Int) := by omega
  clear hz2 hy2 hsf hB hM;go_enter Tryz.func120, Tryz.ntmps120
  go_wp2_with fail
  go_ret2
  exact ⟨rfl, rfl⟩
 ·refine (base_any k size frm w (by omega) (by omega) (by omega) (by omega) (by omega) (by rcases hsf with ⟨rfl, _⟩ | ⟨rfl, _⟩ <;> omega)).mono ?_
  rintro e w' ⟨rfl, rfl⟩;refine ⟨?_, rfl⟩;have hM : df.grM k size = k / size - 1 := by unfold df.grM; rw [if_neg hz]
  have hB : df.bs size frm k = df.grB k size frm := by
   rcases hsf with ⟨rfl, rfl⟩ | ⟨rfl, rfl⟩
   ·exact df.bs4 k hk
   ·exact df.bs2 k hk
  rw [hM, hB]
structure Of (b1 : Nat) (w w' : World) : Prop where
 below : Below b1 w w'
 others : ∀ (j : Nat) (o : Obj), w.heap[j]? = some o -> (∀ c fz, o ≠ Obj.cells c 5 fz) -> w'.heap[j]? = some o
theorem Of.trans {b1 : Nat} {a b c : World} (h : Of b1 a b) (k : Of b1 b c) : Of b1 a c := ⟨h.below.trans k.below, fun j o h0 h3 => k.others j o (h.others j o h0 h3) h3⟩
theorem Of.of_below {b1 : Nat} {w w' : World} (hb : Below w.heap.size w w') (hs : b1 <= w.heap.size) : Of b1 w w' :=
 ⟨hb.mono hs, fun _ _ hk _ => (hb.block _ (block_lt hk)).trans hk⟩
theorem Of.cells {b1 : Nat} {w w' : World} (h : Of b1 w w') {j : Nat} {c : Array Value} {t : TypeId} (hj : w.heap[j]? = some (.cells c t (0, 0))) (ht : t ≠ 5) : w'.heap[j]? = some (.cells c t (0, 0)) :=
 h.others j _ hj (fun c' fz e => by injection e with _ e _; exact ht e)
theorem Of.own {b1 x : Nat} {w0 w w' : World} (h : Of b1 w0 w) (hg : w.grownBy w' (some x)) (hx : w0.heap.size <= x) (hw : b1 <= w0.heap.size) : Of b1 w0 w' :=
 ⟨h.below.grown hg (Nat.le_trans hw h.below.size) (fun k e => by obtain rfl := Option.some.inj e; omega), fun j o hj h3 => (hg.block j (block_lt (h.others j o hj h3)) (fun e => by have := Option.some.inj e; have := block_lt hj; omega)).trans (h.others j o hj h3)⟩
theorem Sl.keepB {k : IntKind} {w w' : World} {b off n cap n0 : Nat} {l : List Int} (h : Sl k w (some ⟨b, off, none⟩) n cap l) (hb : Below n0 w w') (hn : b < n0) : Sl k w' (some ⟨b, off, none⟩) n cap l := by
 refine ⟨h.len, h.fits, h.most, h.bare, h.wf, ?_⟩;rcases h.rd with h0 | ⟨b', off', e, hc⟩
 ·exact .inl h0
 ·simp only [Option.some.injEq, Addr.mk.injEq, and_true] at e
  obtain ⟨rfl, rfl⟩ := e;exact .inr ⟨b, off, rfl, fun i hi => (hb.cell (p := ⟨b, off + i, none⟩) hn).trans (hc i hi)⟩
structure RTo (base : Nat) (w : World) (ls : List Nat) (of : Nat -> Value) : Prop where
 row : ∀ k, 1 <= k -> k <= 16 -> OwnN base w (of k) (pf.idx ls k)
theorem RTo.tab {base : Nat} {w : World} {ls : List Nat} {of : Nat -> Value} (h : RTo base w ls of) (hl : ls.length <= 4096) : RTab w ls of := ⟨fun k h1 h2 => by
 have ho := h.row k h1 h2;unfold OwnN at ho;rw [pf.idx_length] at ho;rcases ho.2 with ⟨h', h0⟩ | ⟨g, cap, cur, h', _⟩
 ·have hz : pf.idx ls k = [] := List.eq_nil_of_length_eq_zero (by rw [pf.idx_length]; exact h0)
  rw [hz, h0];exact ⟨none, 0, h', Sl.nil⟩
 ·refine ⟨_, _, h', ?_⟩
  rw [h'] at ho;refine Fresh.sl ho (nats_wf _ (fun x hx => ?_));unfold pf.idx at hx;have := List.mem_range.1 (List.mem_filter.1 hx).1;omega⟩
theorem RTo.below {base : Nat} {w w' : World} {ls : List Nat} {of : Nat -> Value} (h : RTo base w ls of) (hb : Below w.heap.size w w') : RTo base w' ls of := ⟨fun k h1 h2 => (h.row k h1 h2).below hb⟩
theorem RTo.of {b1 base : Nat} {w w' : World} {ls : List Nat} {of : Nat -> Value} (h : RTo base w ls of) (hf : Of b1 w w') : RTo base w' ls of := ⟨fun k h1 h2 => by
 have ht := h.row k h1 h2;unfold OwnN World.ownsRow at ht ⊢;refine ⟨ht.1, ?_⟩;rcases ht.2 with h1 | ⟨g', cap, cur, e, a1, a2, a3⟩
 ·exact .inl h1
 ·exact .inr ⟨g', cap, cur, e, a1, hf.cells a2 (by decide), a3⟩⟩
structure Mx (b1 x : Nat) (w0 w : World) (rb ro n cap P : Nat) (ao : Option Addr) (oc most : Nat) (out : List Int) : Prop where
 head : w.heap[x]? = some (.cells (stRow rb ro n cap P ao out.length oc most) 55 (0, 0))
 row : w.ownsRow b1 5 1 (.slice ao out.length oc) out.length (out.map (Value.int .u8))
 of : Of b1 w0 w
 hx : w0.heap.size <= x
 hw : b1 <= w0.heap.size
section
variable {b1 x rb ro n cap P oc most : Nat} {w0 w w' : World} {ao : Option Addr} {out : List Int}
theorem Mx.hw2 (h : Mx b1 x w0 w rb ro n cap P ao oc most out) : b1 <= w.heap.size := Nat.le_trans h.hw h.of.below.size
theorem Mx.below (h : Mx b1 x w0 w rb ro n cap P ao oc most out) (hb : Below w.heap.size w w') : Mx b1 x w0 w' rb ro n cap P ao oc most out :=
 ⟨(hb.block _ (block_lt h.head)).trans h.head, ownsRow_below h.row hb, h.of.trans (.of_below hb h.hw2), h.hx, h.hw⟩
theorem Mx.read (h : Mx b1 x w0 w rb ro n cap P ao oc most out) (P' : Nat) : Mx b1 x w0 (w.setRow x (stRow rb ro n cap P' ao out.length oc most)) rb ro n cap P' ao oc most out :=
 ⟨setRow_heap _ _ _ _ _ _ h.head, row_setRow h.row h.head (by decide) _, h.of.own (grownBy_setRow w x _) h.hx h.hw, h.hx, h.hw⟩
theorem Mx.step {P' oc' : Nat} {ao' : Option Addr} {out' : List Int} (h : Mx b1 x w0 w rb ro n cap P ao oc most out) (hf : Of b1 w w') (hr : w'.ownsRow b1 5 1 (.slice ao' out'.length oc') out'.length (out'.map (Value.int .u8))) :
  w'.heap[x]? = some (.cells (stRow rb ro n cap P ao out.length oc most) 55 (0, 0)) /\ Mx b1 x w0 (w'.setRow x (stRow rb ro n cap P' ao' out'.length oc' most)) rb ro n cap P' ao' oc' most out' := by
 have hh := hf.cells h.head (by decide);exact ⟨hh, setRow_heap _ _ _ _ _ _ hh, row_setRow hr hh (by decide) _, (h.of.trans hf).own (grownBy_setRow w' x _) h.hx h.hw, h.hx, h.hw⟩
theorem Mx.push {a' : Option Addr} {c' : Nat} {e : List Int} (h : Mx b1 x w0 w rb ro n cap P ao oc most out) (ha : AppOut b1 (out.length + e.length) (out ++ e) w (Value.slice ao out.length oc).ownBlock (.slice a' (out.length + e.length) c') w') :
  w'.heap[x]? = some (.cells (stRow rb ro n cap P ao out.length oc most) 55 (0, 0)) /\ Of b1 w w' /\ Mx b1 x w0 (w'.setCell ⟨x, 3, none⟩ (.slice a' (out.length + e.length) c')) rb ro n cap P a' c' most (out ++ e) := by
 obtain ⟨hrow, hg⟩ := ha;have hown : ∀ k, (Value.slice ao out.length oc).ownBlock = some k -> b1 <= k /\ ∃ cc, w.heap[k]? = some (.cells cc 5 (0, 0)) := by
  intro k hk;rcases h.row.2 with ⟨e, _⟩ | ⟨g', cap, cur, e, h1, h2, _⟩
  ·rw [e] at hk; cases hk
  ·rw [e] at hk
   cases hk;exact ⟨h1, cur, h2⟩
 have hf : Of b1 w w' := ⟨(Below.refl _ _).grown hg h.hw2 (fun k hk => (hown k hk).1), fun j o hj h3 => (hg.block j (block_lt hj) (fun e => by
  obtain ⟨_, cc, hc⟩ := hown j e.symm;rw [hj] at hc;exact h3 cc _ (Option.some.inj hc))).trans hj⟩
 have hx' := hf.cells h.head (by decide);refine ⟨hx', hf, ?_, ?_, (h.of.trans hf).own (grownBy_setCell3 w' x 3 _) h.hx h.hw, h.hx, h.hw⟩
 ·rw [heap_setCell_same _ _ _ _ _ _ hx', List.length_append]
  rfl
 ·rw [List.length_append]
  refine ownsRow_setCell_other hrow (a := ⟨x, 3, none⟩) ?_ _;rcases row_apart hrow hx' (by decide) with e | e
  ·rw [e]; simp
  ·exact e
end
end Go.Proofs.YthpckmcgbmfmcaaGreatDoor
