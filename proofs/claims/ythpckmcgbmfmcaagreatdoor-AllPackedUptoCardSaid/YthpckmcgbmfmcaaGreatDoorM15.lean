/- Texts of this claim, joined. -/
import Derived.Test.YthpckmcgbmfmcaaGreatDoorM14
set_option maxRecDepth 100000
set_option maxHeartbeats 12800000
namespace Go.Proofs.YthpckmcgbmfmcaaGreatDoor
open Go.RowKit Go.Sort
theorem lit.At.set {w : World} {g b n cap p kd ww hh tp : Nat} {l : List Int} (h : lit.At w g b n cap l p kd ww hh tp) (i : Nat) (v : Value) {p' kd' ww' hh' tp' : Nat}
  (he : (#[.slice (some ⟨b, 0, none⟩) n cap, .int .i64 p, .int .i64 kd, .int .i64 ww, .int .i64 hh, .int .i64 tp] : Array Value).setIfInBounds i v = #[.slice (some ⟨b, 0, none⟩) n cap, .int .i64 p', .int .i64 kd', .int .i64 ww', .int .i64 hh', .int .i64 tp']) :
  lit.At (w.setCell ⟨g, i, none⟩ v) g b n cap l p' kd' ww' hh' tp' :=
 ⟨by rw [<- he]; exact heap_setCell_same w g i _ _ _ h.head, h.data.kept (grownBy_setCell3 w g i _) (by intro e; exact h.apart (Option.some.inj e)), h.apart⟩
def BehPost (g b n cap : Nat) (l : List Int) (p m kd ww hh tp : Nat) (v : Nat) (w : World) (e : Ending) (w' : World) : Prop :=
 e = .returned (.tuple #[.int .i64 v, .bool true]) /\ lit.At w' g b n cap l (p + 1 + m) kd ww hh tp /\ w.grownBy w' (some g)
theorem behind_any (g b n cap : Nat) (l : List Int) (p m kd ww hh tp : Nat) (z lo hi : Nat) (w : World) (h : lit.At w g b n cap l p kd ww hh tp) (hn : n <= 1000) (hm : 1 <= m /\ m <= 9) (hp : p + 1 + m < n) (h1 : l.getD p 0 = 32)
  (hd : ∀ k, k < m -> 48 <= l.getD (p + 1 + k) 0 /\ l.getD (p + 1 + k) 0 <= 57) (he : l.getD (p + 1 + m) 0 = 32) (hv : Lib.atoi (strOfNums ((l.drop (p + 1)).take m)).data.toList = some (z : Int)) (hlo : lo <= z /\ z <= hi) :
  Calls Tryz.prog 93 #[.pointer (some ⟨g, 0, none⟩), .int .i64 lo, .int .i64 hi] w (BehPost g b n cap l p m kd ww hh tp z w) := by
 have CG := hd_ (gap_any g b n cap l p kd ww hh tp w h hn (by omega) h1 (by have := (hd 0 (by omega)).1; rw [Nat.add_zero] at this; omega));have CN : Hid (∀ w', lit.At w' g b n cap l (p + 1) kd ww hh tp -> Calls Tryz.prog 130 #[.pointer (some ⟨g, 0, none⟩), .int .i64 lo, .int .i64 hi] w' (NumPost g b n cap l (p + 1) m kd ww hh tp z w')) := hd_ (fun w' h' => number_any g b n cap l (p + 1) m kd ww hh tp z lo hi w' h' hn hm hp hd he hv hlo);clear h hn hm hp h1 hd he hv hlo;go_enter Tryz.func93, Tryz.ntmps93
 go_wp2_with fail
 refine CG.out.mono ?_;rintro e w1 ⟨rfl, ha, hg⟩;have HG := hd_ hg;have HN := hd_ (CN.out w1 ha);clear ha hg CG CN;go_wp2_with fail
 refine HN.out.mono ?_;rintro e w2 ⟨rfl, ha, hg2⟩;have HA := hd_ ha;have HG2 := hd_ (HG.out.trans hg2);clear ha hg2 HG HN;go_wp2_with fail
 go_ret2
 exact ⟨rfl, HA.out, HG2.out⟩
def lit.pgm : List Int := [80, 53, 32, 49, 32, 49, 32, 50, 53, 53, 32, 255]
def HeadPost (g b cap : Nat) (w : World) (e : Ending) (w' : World) : Prop :=
 e = .returned (.bool true) /\ lit.At w' g b 12 cap lit.pgm 10 5 1 1 255 /\ w.grownBy w' (some g)
theorem head_pgm (g b cap : Nat) (w : World) (h : lit.At w g b 12 cap lit.pgm 0 0 0 0 0) :
  Calls Tryz.prog 45 #[.pointer (some ⟨g, 0, none⟩)] w (HeadPost g b cap w) := by
 have HH := hd_ h;have a0 := (cr_ w 0 h.head (Value.slice (some ⟨b, 0, none⟩) 12 cap) rfl);obtain ⟨_, _, ee, hcell⟩ := h.data.cells (by omega);cases ee;have k0 := (hcell 0 (by omega)).trans (show _ = some (Value.int .u8 80) from rfl);have k1 := (hcell 1 (by omega)).trans (show _ = some (Value.int .u8 53) from rfl);simp only [Nat.zero_add] at k0 k1;have hfit := h.data.fits;have hc0 : ¬ cap = 0 := by omega
 have hc1 : ¬ cap = 1 := by omega
 clear h hcell hfit;go_enter Tryz.func45, Tryz.ntmps45
 go_upto_region 3 with (fail)
 have h3 : lit.At (((w.setCell ⟨g, 2, none⟩ (.int .i64 5)).setCell ⟨g, 1, none⟩ (.int .i64 2)).setCell ⟨g, 5, none⟩ (.int .i64 1)) g b 12 cap lit.pgm 2 5 0 0 1 := ((HH.out.set 2 (.int .i64 (5 : Nat)) (p' := 0) (kd' := 5) (ww' := 0) (hh' := 0) (tp' := 0) rfl).set 1 (.int .i64 (2 : Nat)) (p' := 2) (kd' := 5) (ww' := 0) (hh' := 0) (tp' := 0) rfl).set 5 (.int .i64 (1 : Nat)) (p' := 2) (kd' := 5) (ww' := 0) (hh' := 0) (tp' := 1) rfl;have g3 : w.grownBy (((w.setCell ⟨g, 2, none⟩ (.int .i64 5)).setCell ⟨g, 1, none⟩ (.int .i64 2)).setCell ⟨g, 5, none⟩ (.int .i64 1)) (some g) := ((grownBy_setCell3 w g 2 (.int .i64 (5 : Nat))).trans (grownBy_setCell3 _ g 1 (.int .i64 (2 : Nat)))).trans (grownBy_setCell3 _ g 5 (.int .i64 (1 : Nat)));have f2 := frozen_of_row w _ 2 _ _ HH.out.head;have f1 := frozen_of_row w _ 1 _ _ HH.out.head;have f5 := frozen_of_row w _ 5 _ _ HH.out.head;have a2 := (cr_ w 2 HH.out.head (Value.int .i64 (0 : Nat)) rfl);have a1 := (cr_ w 1 HH.out.head (Value.int .i64 (0 : Nat)) rfl);have a5 := (cr_ w 5 HH.out.head (Value.int .i64 (0 : Nat)) rfl);have H3 := hd_ h3;have G3 := hd_ g3;clear h3 g3 HH;go_upto_region 4 with (fail)
 clear f1 f2 f5 a0 a1 a2 a5 k0 k1 hc0 hc1;generalize ((w.setCell ⟨g, 2, none⟩ (.int .i64 5)).setCell ⟨g, 1, none⟩ (.int .i64 2)).setCell ⟨g, 5, none⟩ (.int .i64 1) = w3 at *;have C4 := hd_ (behind_any g b 12 cap lit.pgm 2 1 5 0 0 1 1 1 999999999 w3 H3.out (by omega) (by omega) (by omega) rfl (by decide) rfl (by decide +kernel) (by omega));go_wp2_with fail
 refine C4.out.mono ?_;rintro e w4 ⟨rfl, h4, g4⟩;have f3 := frozen_of_row w4 _ 3 _ _ h4.head;have a0 := (cr_ w4 0 h4.head (Value.slice (some ⟨b, 0, none⟩) 12 cap) rfl);have a3 := (cr_ w4 3 h4.head (Value.int .i64 (0 : Nat)) rfl);have h4' : lit.At (w4.setCell ⟨g, 3, none⟩ (.int .i64 1)) g b 12 cap lit.pgm 4 5 1 0 1 := h4.set 3 (.int .i64 (1 : Nat)) rfl;have H4 := hd_ h4';have G4 := hd_ ((G3.out.trans g4).trans (grownBy_setCell3 w4 g 3 (.int .i64 1)));clear h4 h4' g4 H3 G3 C4;go_upto_region 7 with (fail)
 clear f3 a0 a3;generalize w4.setCell ⟨g, 3, none⟩ (.int .i64 1) = w5 at *;have C5 := hd_ (behind_any g b 12 cap lit.pgm 4 1 5 1 0 1 1 1 999999999 w5 H4.out (by omega) (by omega) (by omega) rfl (by decide) rfl (by decide +kernel) (by omega));go_wp2_with fail
 refine C5.out.mono ?_;rintro e w6 ⟨rfl, h4, g4⟩;have f3 := frozen_of_row w6 _ 4 _ _ h4.head;have a0 := (cr_ w6 0 h4.head (Value.slice (some ⟨b, 0, none⟩) 12 cap) rfl);have a3 := (cr_ w6 4 h4.head (Value.int .i64 (0 : Nat)) rfl);have a2 := (cr_ w6 2 h4.head (Value.int .i64 5) rfl);have h4' : lit.At (w6.setCell ⟨g, 4, none⟩ (.int .i64 1)) g b 12 cap lit.pgm 6 5 1 1 1 := h4.set 4 (.int .i64 (1 : Nat)) rfl;have H5 := hd_ h4';have G5 := hd_ ((G4.out.trans g4).trans (grownBy_setCell3 w6 g 4 (.int .i64 1)));have hr : ((5 : Int).tmod 3 == 1) = false := by decide
 clear h4 h4' g4 H4 G4 C5;go_upto_region 10 with (fail)
 clear f3 a0 a3;have a2 := (cr_ _ 2 H5.out.head (Value.int .i64 5) rfl);have a0 := (cr_ _ 0 H5.out.head (Value.slice (some ⟨b, 0, none⟩) 12 cap) rfl);generalize w6.setCell ⟨g, 4, none⟩ (.int .i64 1) = w7 at *;have C7 := hd_ (behind_any g b 12 cap lit.pgm 6 3 5 1 1 1 255 1 65535 w7 H5.out (by omega) (by omega) (by omega) rfl (by decide) rfl (by decide +kernel) (by omega));go_wp2_with fail
 refine C7.out.mono ?_;rintro e w8 ⟨rfl, h4, g4⟩;clear a0 a2;have f3 := frozen_of_row w8 _ 5 _ _ h4.head;have a0 := (cr_ w8 0 h4.head (Value.slice (some ⟨b, 0, none⟩) 12 cap) rfl);have a3 := (cr_ w8 5 h4.head (Value.int .i64 (1 : Nat)) rfl);have h4' : lit.At (w8.setCell ⟨g, 5, none⟩ (.int .i64 255)) g b 12 cap lit.pgm 10 5 1 1 255 := h4.set 5 (.int .i64 (255 : Nat)) rfl;have H6 := hd_ h4';have G6 := hd_ ((G5.out.trans g4).trans (grownBy_setCell3 w8 g 5 (.int .i64 255)));clear h4 h4' g4 H5 G5 C7;go_wp2_with fail
 go_ret
 exact ⟨rfl, H6.out, G6.out⟩
theorem great_one (w : World) : Calls Tryz.prog 46 #[.int .i64 1, .int .i64 1, .int .i64 1] w fun e w' => e = .returned (.bool false) /\ w = w' := by
 go_enter Tryz.func46, Tryz.ntmps46
 go_wp2_with fail
 go_ret
 exact ⟨rfl, rfl⟩
end Go.Proofs.YthpckmcgbmfmcaaGreatDoor
namespace Go.Proofs.YthpckmcgbmfmcaaGreatDoor
open Go.RowKit Go.Sort Go.Shelf
theorem infoInt : (Tryz.prog.info? 3).map (fun i => (i.zero, i.size, i.bytes)) = some (some (.int .i64 0), 1, 8) := by kernel_rfl
end Go.Proofs.YthpckmcgbmfmcaaGreatDoor
namespace Go.Proofs.YthpckmcgbmfmcaaGreatDoor
open Go.RowKit Go.Sort
theorem make_one (w : World) : (Instr.makeSlice 59 (.int .i64 0) (.int .i64 1)).run Tryz.prog w = .ok (.slice (some ⟨w.heap.size, 0, none⟩) 0 1) (w.alloc (.cells #[.int .i64 0] 3)) := by
 obtain ⟨i0, hi, hz0, hz1, hz2⟩ := info_parts infoInt;have := run_make_rowN (P := Tryz.prog) 59 3 i0 _ Tryz.underlying59 hi hz0 .i64 .i64 0 1 (by omega) (by rw [hz2]; omega) (by omega) w;rw [hz1, Nat.mul_one, show madeCells (Value.int .i64 0).cells 1 = #[.int .i64 0] from by kernel_rfl] at this;exact this
theorem lit.At.grown {w w' : World} {g b n cap p kd ww hh tp : Nat} {l : List Int} {row : Option Nat} (h : lit.At w g b n cap l p kd ww hh tp) (hg : w.grownBy w' row) (h1 : some g ≠ row) (h2 : some b ≠ row) : lit.At w' g b n cap l p kd ww hh tp :=
 ⟨grown_block hg h.head h1, h.data.kept hg h2, h.apart⟩
def RsamPost (g b cap : Nat) (w : World) (e : Ending) (w' : World) : Prop :=
 ∃ lb lc, e = .returned (.tuple #[.slice (some ⟨lb, 0, none⟩) 1 lc, .bool true]) /\ w'.cell? ⟨lb, 0, none⟩ = some (.int .i64 255) /\ 1 <= lc /\ lit.At w' g b 12 cap lit.pgm 10 5 1 1 255 /\ Below w.heap.size w w'
theorem rsamples_pgm (g b cap : Nat) (w : World) (h : lit.At w g b 12 cap lit.pgm 10 5 1 1 255) :
  Calls Tryz.prog 47 #[.pointer (some ⟨g, 0, none⟩), .int .i64 1] w (RsamPost g b cap w) := by
 have HH := hd_ h;have hgl : g < w.heap.size := block_lt h.head;have hbl : b < w.heap.size := by
  obtain ⟨_, _, ee, hcell⟩ := h.data.cells (by omega);cases ee;exact block_lt_of_cell (hcell 0 (by omega))
 have hfit := h.data.fits;clear h;obtain ⟨_, _, ee, hcell⟩ := HH.out.data.cells (by omega);cases ee;have k10 := (hcell 10 (by omega)).trans (show _ = some (Value.int .u8 32) from rfl);have k11 := (hcell 11 (by omega)).trans (show _ = some (Value.int .u8 255) from rfl);simp only [Nat.zero_add] at k10 k11;have K11 := hd_ k11;have K10 := hd_ k10;have MK := make_one w;clear hcell k10 k11;go_enter Tryz.func47, Tryz.ntmps47
 go_upto_region 2 with (fail)
 obtain ⟨w1, hw1⟩ : ∃ x, w.alloc (.cells #[.int .i64 0] 3) = x := ⟨_, rfl⟩;have b1 : Below w.heap.size w w1 := by rw [<- hw1]; exact (Below.refl _ _).alloc (Nat.le_refl _) _
 have o1 : w1.ownsRow w.heap.size 3 1 (.slice (some ⟨w.heap.size, 0, none⟩) 0 1) 0 [] := by rw [<- hw1]; exact World.ownsRow_made w #[.int .i64 0] 1 (Nat.le_refl _) (by decide) rfl
 rw [hw1];have H1 := hd_ (HH.out.below b1);have B1 := hd_ b1;have O1 := hd_ o1;have a0 := (cr_ w1 0 H1.out.head (Value.slice (some ⟨b, 0, none⟩) 12 cap) rfl);have a1 := (cr_ w1 1 H1.out.head (Value.int .i64 10) rfl);have a2 := (cr_ w1 2 H1.out.head (Value.int .i64 5) rfl);have a5 := (cr_ w1 5 H1.out.head (Value.int .i64 255) rfl);have k10 := keep_cell b1 K10.out;have k11 := keep_cell b1 K11.out;have hc10 : ¬ cap = 10 := by omega
 have hc11 : ¬ cap = 11 := by omega
 clear MK hw1 b1 o1 HH K10 K11;go_upto_region 12 with (fail)
 go_quiet (exact Calls.quiet_of_same ((space_yes _).mono fun _ _ h => ⟨h.1, h.2.symm⟩))
 have b2 := below_drewN (Below.refl w1.heap.size w1) nq;have H2 := hd_ (H1.out.below b2);have B2 := hd_ (B1.out.trans (b2.mono B1.out.size));have O2 := hd_ (ownsRow_below O1.out b2);have c0 := keep_cell b2 a0;have c1 := keep_cell b2 a1;have c2 := keep_cell b2 a2;have c5 := keep_cell b2 a5;have k11' := keep_cell b2 k11;generalize w1.drewN nq = w2 at *;clear b2 a0 a1 a2 a5 k10 k11 H1 B1 O1;go_upto_region 14 with (fail)
 go_quiet (fail)
 have b3 := below_drewN (Below.refl w2.heap.size w2) nq;have H3 := hd_ (H2.out.below b3);have B3 := hd_ (B2.out.trans (b3.mono B2.out.size));have O3 := hd_ (ownsRow_below O2.out b3);have a0 := keep_cell b3 c0;have a1 := keep_cell b3 c1;have a2 := keep_cell b3 c2;have a5 := keep_cell b3 c5;have k11 := keep_cell b3 k11';generalize w2.drewN nq = w3 at *;clear b3 c0 c1 c2 c5 k11' H2 B2 O2;obtain ⟨i0, hi, hz0, hz1, hz2⟩ := info_parts infoInt;go_wp2_with fail
 have hc11' : ¬ cap - 11 = 0 := by omega
 refine wp_loop_rounds 2 ?_;rw [rounds_succ];go_upto_region 39 with (fail)
 have HO := hd_ (O3.out.alloc (.cells #[.int .i64 255] 3));have B4 := hd_ (B3.out.alloc B3.out.size (.cells #[.int .i64 255] 3));have H4 := hd_ (H3.out.below ((Below.refl w3.heap.size w3).alloc (Nat.le_refl _) (.cells #[.int .i64 255] 3)));have hsz := B3.out.size;go_wp2_with (at_builtin; go_must (refine wpList_append_own _ rfl _ _ 59 rfl w.heap.size 3 i0 (.int .i64 0) 1 8 Tryz.underlying59 hi hz0 hz1 hz2 rfl (by decide) _ 0 _ rfl HO.out ⟨w3.heap.size, 0, none⟩ 1 1 [.int .i64 255] rfl rfl (cell_one_new _ _ _) (ints_oneCell .i64 [255]) (by unfold maxLen; omega) (by omega) (by simp; omega) ?_; intro v' w5 hown hg hnil; have Hown' := hd_ hown; have Hgr := hd_ hg; clear hown hg hnil))
 rw [rounds_succ];go_wp2_with fail
 rcases Hown'.out.2 with ⟨_, h⟩ | ⟨lb, lc, cur, rfl, hlb, hh, hle, _, _, htk⟩
 ·cases h
 have hc : w5.cell? ⟨lb, 0, none⟩ = some (.int .i64 255) := by
  rw [cell_of_row w5 lb 0 _ _ (0, 0) hh];have h1 : (cur.toList.take ((0 + 1) * 1))[0]? = some (.int .i64 255) := by rw [htk]; rfl
  rw [List.getElem?_take, if_pos (by decide)] at h1
  simpa using h1
 have hgr : (w3.alloc (.cells #[.int .i64 255] 3)).grownBy w5 (some w.heap.size) := Hgr.out;have hpost : RsamPost g b cap w (.returned (.tuple #[.slice (some ⟨lb, 0, none⟩) (0 + 1) lc, .bool true])) w5 := by
  refine ⟨lb, lc, rfl, hc, hle, H4.out.grown hgr (by simp; omega) (by simp; omega), B4.out.grown hgr B4.out.size fun k e => ?_⟩;cases e;exact Nat.le_refl _
 exact bodyPost_ret (results_tmp2 (t := 4) (u := 5) rfl _ _ _) rfl hpost
end Go.Proofs.YthpckmcgbmfmcaaGreatDoor
namespace Go.Proofs.YthpckmcgbmfmcaaGreatDoor
end Go.Proofs.YthpckmcgbmfmcaaGreatDoor
namespace Go.Proofs.YthpckmcgbmfmcaaGreatDoor
open Go.RowKit Go.Sort
theorem add_new {a b c : World} {row : Option Nat} {r : Nat} (h : a.grownBy b row) (k : b.grownBy c (some r)) (hr : a.heap.size <= r) : a.grownBy c row :=
 ⟨k.os.trans h.os, k.tape.trans h.tape, k.output.trans h.output, Nat.le_trans h.size k.size, fun i hi hne => (k.block i (Nat.lt_of_lt_of_le hi h.size) (by intro e; have := Option.some.inj e; omega)).trans (h.block i hi hne)⟩
def AddPost (base : Nat) (W H : Int) (v : Value) (n : Nat) (xs : List Value) (c : C4) (w : World) (e : Ending) (w' : World) : Prop :=
 ∃ g cap, e = .returned (.agg #[.int .i64 W, .int .i64 H, .slice (some ⟨g, 0, none⟩) (n + 4) cap]) /\ w'.ownsRow base 39 1 (.slice (some ⟨g, 0, none⟩) (n + 4) cap) (n + 4) (xs ++ c.list.map (Value.int .u16)) /\ w.grownBy w' v.ownBlock
theorem refadd_any (base : Nat) (W H : Int) (p : Option Addr) (n cap : Nat) (xs : List Value) (c : C4) (w : World) (hr : w.ownsRow base 39 1 (.slice p n cap) n xs) (hb : base <= w.heap.size) (hn : n + 4 <= 262144) :
  Calls Tryz.prog 37 #[.agg #[.int .i64 W, .int .i64 H, .slice p n cap], .agg #[.int .u16 c.r, .int .u16 c.g, .int .u16 c.b, .int .u16 c.a]] w (AddPost base W H (.slice p n cap) n xs c w) := by
 obtain ⟨i0, hi, hz0, hz1, hz2⟩ := info_parts infoU16;obtain ⟨⟨q0, q1, q2⟩, q3⟩ := heap3' w (.cells #[.int .i64 W, .int .i64 H, .slice p n cap] 36) (.cells #[.int .u16 c.r, .int .u16 c.g, .int .u16 c.b, .int .u16 c.a] 41) (.cells #[.int .i64 0, .int .i64 0, .slice none 0 0] 36);have G0 := hd_ (grown_join (grown_join (World.grownBy_alloc w (.cells #[.int .i64 W, .int .i64 H, .slice p n cap] 36) (Value.slice p n cap).ownBlock) (World.grownBy_alloc _ (.cells #[.int .u16 c.r, .int .u16 c.g, .int .u16 c.b, .int .u16 c.a] 41) _)) (World.grownBy_alloc _ (.cells #[.int .i64 0, .int .i64 0, .slice none 0 0] 36) _));have R0 := hd_ (((hr.alloc (.cells #[.int .i64 W, .int .i64 H, .slice p n cap] 36)).alloc (.cells #[.int .u16 c.r, .int .u16 c.g, .int .u16 c.b, .int .u16 c.a] 41)).alloc (.cells #[.int .i64 0, .int .i64 0, .slice none 0 0] 36));go_enter Tryz.func37, Tryz.ntmps37
 go_upto_region 1 with (fail)
 generalize ((w.alloc (.cells #[.int .i64 W, .int .i64 H, .slice p n cap] 36)).alloc (.cells #[.int .u16 c.r, .int .u16 c.g, .int .u16 c.b, .int .u16 c.a] 41)).alloc (.cells #[.int .i64 0, .int .i64 0, .slice none 0 0] 36) = w0 at *;have HLT : Hid (∀ b, w.heap.size <= b -> some b ≠ (Value.slice p n cap).ownBlock) := hd_ (fun b hb e => by have := (World.ownsRow.lt hr b e.symm).2; omega);have HR := hd_ hr;have co := (cell_of_row w0 _ 2 _ _ (0, 0) q0).trans rfl;have k0 := (cell_of_row w0 _ 0 _ _ (0, 0) q1).trans rfl;have k1 := (cell_of_row w0 _ 1 _ _ (0, 0) q1).trans rfl;have k2 := (cell_of_row w0 _ 2 _ _ (0, 0) q1).trans rfl;have k3 := (cell_of_row w0 _ 3 _ _ (0, 0) q1).trans rfl;have P0 := hd_ ((Below.heap_alloc w0 (.cells #[.int .u16 c.r, .int .u16 c.g, .int .u16 c.b, .int .u16 c.a] 39) _ (block_lt q0)).trans q0);have P2 := hd_ ((Below.heap_alloc w0 (.cells #[.int .u16 c.r, .int .u16 c.g, .int .u16 c.b, .int .u16 c.a] 39) _ (block_lt q2)).trans q2);have HRU := hd_ (R0.out.alloc (.cells #[.int .u16 c.r, .int .u16 c.g, .int .u16 c.b, .int .u16 c.a] 39));have G1 := hd_ (grown_join G0.out (World.grownBy_alloc w0 (.cells #[.int .u16 c.r, .int .u16 c.g, .int .u16 c.b, .int .u16 c.a] 39) _));have HNW := hd_ (news_alloc w0 [.int .u16 c.r, .int .u16 c.g, .int .u16 c.b, .int .u16 c.a] 39);have SZU : base <= (w0.alloc (.cells #[.int .u16 c.r, .int .u16 c.g, .int .u16 c.b, .int .u16 c.a] 39)).heap.size := by simp; omega
 clear q0 q1 q2 q3 hr;go_wp2_with (first
  | (at_builtin; go_must (refine wpList_append_own _ rfl _ _ 34 rfl base 39 i0 (.int .u16 0) 1 2 Tryz.underlying34 hi hz0 hz1 hz2 rfl (by decide) (.slice p n cap) n _ rfl HRU.out ⟨w0.heap.size, 0, none⟩ 4 4 [.int .u16 c.r, .int .u16 c.g, .int .u16 c.b, .int .u16 c.a] rfl rfl HNW.out (by simp [Value.oneCell']) (by unfold maxLen; omega) (by omega) SZU ?_; intro v' w2 hown hg hnil; obtain ⟨g', cap', rfl⟩ := row_form hown (fun e => absurd (hnil.1 e).2 (by decide)); have HOWN := hd_ hown; have HGR := hd_ hg; have D0 := hd_ (grown_block hg P0.out (HLT.out _ (Nat.le_refl _))); have D2 := hd_ (grown_block (grownBy_setCell3 w2 w.heap.size 2 (.slice (some ⟨g', 0, none⟩) (n + 4) cap')) (grown_block hg P2.out (HLT.out _ (by omega))) (by intro e; have := Option.some.inj e; omega)); have co2 := (cell_of_row _ _ 2 _ _ (0, 0) D0.out).trans rfl; have fo2 := frozen_of_row _ _ 2 _ _ D0.out; clear hown hg hnil))
  | (with_reducible refine wpList_load_row rfl 36 _ rfl w.heap.size rfl 36 #[.int .i64 W, .int .i64 H, .slice (some ⟨g', 0, none⟩) (n + 4) cap'] (0, 0) _ (heap_setCell_same _ _ _ _ _ _ D0.out) Tryz.underlying36 rfl (imgSize3 _ _ _) ?_)
  | (with_reducible refine wpList_store_row rfl 36 _ _ rfl (w.heap.size + 1 + 1) _ rfl rfl 36 _ D2.out (imgSize3 _ _ _) (imgSz _ _ _ _ _ _) (imgOne _ _ _ _ _) ?_))
 refine bodyPost_ret (results_cell_row (p := 4) (ty := 36) rfl _ _ (w.heap.size + 1 + 1) 36 _ (0, 0) _ rfl (setRow_heap _ _ _ _ _ _ D2.out) Tryz.underlying36 rfl imgSize) rfl ?_;have m1 : g' ≠ w.heap.size := fun e => own_ne HOWN.out D0.out (by decide) (by rw [e]; rfl)
 have k4 := grownBy_setCell3 w2 w.heap.size 2 (.slice (some ⟨g', 0, none⟩) (n + 4) cap');have o4 := World.ownsRow.kept HOWN.out k4 (.inr (by intro e; exact m1 (Option.some.inj e)));have m2 : g' ≠ w.heap.size + 1 + 1 := fun e => own_ne o4 D2.out (by decide) (by rw [e]; rfl)
 exact ⟨g', cap', rfl, World.ownsRow.kept o4 (grownBy_setRow _ _ _) (.inr (by intro e; exact m2 (Option.some.inj e))), add_new (add_new (grown_join G1.out HGR.out) k4 (Nat.le_refl _)) (grownBy_setRow _ _ _) (by omega)⟩
end Go.Proofs.YthpckmcgbmfmcaaGreatDoor
